import Derived.Test.YtmbboianghbjkaaDoorProg
import Derived.Test.YtmbboianghbjkaaDoorBaseA
import Derived.Maps.AppendAt
import Derived.Deep.DeepMust
-- part Sets1
namespace Go.Proofs.YtmbboianghbjkaaDoor
open Go.RowKit
set_option linter.unusedVariables false
set_option linter.unusedSimpArgs false
attribute [local go_sem] bl_refl bl_alloc bl_a2 bl_a3 bl_a4 bl_a5 bl_set bl_drew bl_drewN le_add_r lt_add_r addr_add


theorem band1_any (lo hi u : Int) (b o B : Nat) (w0 w : World) (hb : Below B w0 w) (hB : B ≤ w.heap.size) (hc : ∀ w', Below B w0 w' → w'.cell? ⟨b, o, none⟩ = some (.int .i32 u)) :
    Calls Tryd.prog 141 #[.agg #[.int .i32 lo, .int .i32 hi], .pointer (some ⟨b, o, none⟩)] w fun e w' => e = .returned (.bool (decide (lo ≤ u) && decide (u ≤ hi))) ∧ Below w.heap.size w w' := by
  go_enter Tryd.func141, Tryd.ntmps141
  go_wp2
  · rename_i h
    go_ret
    exact ⟨ret_bool (by simp [h]), (Below.refl _ _).alloc (Nat.le_refl _) _⟩
  · rename_i h
    go_ret
    exact ⟨ret_bool (by simp; omega), (Below.refl _ _).alloc (Nat.le_refl _) _⟩

def bandLo (k : Nat) : Int := if k = 0 then 0 else if k = 1 then 57344 else 1114240
def bandHi (k : Nat) : Int := if k = 0 then 55295 else if k = 1 then 1114111 else 1114367
def inBand (k : Nat) (u : Int) : Bool := decide (bandLo k ≤ u) && decide (u ≤ bandHi k)
def bandOf (u : Int) : Int := if inBand 0 u then 0 else if inBand 1 u then 1 else if inBand 2 u then 2 else -1

theorem bandOf_at (k : Nat) (u : Int) (hk : k < 3) (hn : ∀ j, j < k → inBand j u = false) (hp : inBand k u = true) : (k : Int) = bandOf u := by
  rcases (by omega : k = 0 ∨ k = 1 ∨ k = 2) with rfl | rfl | rfl
  · simp [bandOf, hp]
  · simp [bandOf, hp, hn 0]
  · simp [bandOf, hp, hn 0, hn 1]
theorem bandOf_none (u : Int) (hn : ∀ j, j < 3 → inBand j u = false) : (-1 : Int) = bandOf u := by
  simp [bandOf, hn 0, hn 1, hn 2]

theorem indexFunc_any (u : Int) (b o B : Nat) (w0 w : World) (hb : Below B w0 w) (hB : B ≤ w.heap.size) (hc : ∀ w', Below B w0 w' → w'.cell? ⟨b, o, none⟩ = some (.int .i32 u))
   (hg0 : ∀ k, k < 3 → ∀ w', Below B w0 w' → w'.cell? ⟨2, k * 2, none⟩ = some (.int .i32 (bandLo k)))
   (hg1 : ∀ k, k < 3 → ∀ w', Below B w0 w' → w'.cell? ⟨2, k * 2 + 1, none⟩ = some (.int .i32 (bandHi k))) :
    Calls Tryd.prog 140 #[.slice (some ⟨2, 0, none⟩) 3 3, .func (.func 141) #[] #[.pointer (some ⟨b, o, none⟩)]] w fun e w' => e = .returned (.int .i64 (bandOf u)) ∧ Below w.heap.size w w' := by
  go_enter Tryd.func140, Tryd.ntmps140
  go_wp2
  go_loopw [5, 8] (fun _ v8 wr => ∃ k : Nat, k ≤ 3 ∧ v8 = .int .i64 k ∧ (∀ j, j < k → inBand j u = false) ∧ Below w.heap.size w wr) (fun _ v8 _ => 3 - (intOf v8).toNat)
  case atStart => exact ⟨0, by omega, rfl, by omega, Below.refl _ _⟩
  case round =>
    obtain ⟨k, hk, rfl, hn, hb1⟩ := hrel
    by_cases hlt : k < 3
    · have h0 := hg0 k hlt
      have h1 := hg1 k hlt
      clear hg0 hg1
      have hb2 : Below B w0 wr := hb.trans (hb1.mono hB)
      have hB2 : B ≤ wr.heap.size := Nat.le_trans hB hb1.size
      go_wp2_with fail
      refine (band1_any _ _ u b o B w0 wr hb2 hB2 hc).mono ?_
      rintro e w1 ⟨rfl, hb3⟩
      have hb4 := hb1.trans (hb3.mono hb1.size)
      clear h0 h1 hc
      have hin : inBand k u = (decide (bandLo k ≤ u) && decide (u ≤ bandHi k)) := rfl
      by_cases hp : inBand k u = true
      · rw [← hin, hp]
        clear hin
        go_wp2
        go_ret
        refine ⟨ret_int ?_, hb4⟩
        rw [bandOf_at k u hlt hn hp]
      · have hp' : inBand k u = false := by simpa using hp
        rw [← hin, hp']
        clear hin hp
        go_wp2
        go_roundw
        case rel => exact ⟨k + 1, by omega, by go_num, fun j hj => by
          by_cases e : j = k
          · rw [e]; exact hp'
          · exact hn j (by omega), hb4⟩
        case measure => simp [intOf]; omega
    · obtain rfl : k = 3 := by omega
      clear hg0 hg1
      go_wp2
      go_ret
      refine ⟨ret_int ?_, hb1⟩
      rw [bandOf_none u hn]

theorem band_any (u : Int) (B : Nat) (w0 w : World) (hb : Below B w0 w) (hB : B ≤ w.heap.size)
   (hg0 : ∀ k, k < 3 → ∀ w', Below B w0 w' → w'.cell? ⟨2, k * 2, none⟩ = some (.int .i32 (bandLo k)))
   (hg1 : ∀ k, k < 3 → ∀ w', Below B w0 w' → w'.cell? ⟨2, k * 2 + 1, none⟩ = some (.int .i32 (bandHi k))) :
    Calls Tryd.prog 124 #[.int .i32 u] w fun e w' => e = .returned (.int .i64 (bandOf u)) ∧ Below w.heap.size w w' := by
  go_enter Tryd.func124, Tryd.ntmps124
  have h0 := Lib.hid hg0
  have h1 := Lib.hid hg1
  clear hg0 hg1
  go_wp2_with fail
  have hW : Below B w0 (w.alloc (.cells #[.int .i32 u] 21)) := hb.alloc hB _
  refine (indexFunc_any u w.heap.size 0 (w.heap.size + 1) (w.alloc (.cells #[.int .i32 u] 21)) _ (Below.refl _ _) (by simp) (fun w' h => ?_) (fun k hk w' h => h0.out k hk w' (hW.trans (h.mono (by omega)))) (fun k hk w' h => h1.out k hk w' (hW.trans (h.mono (by omega))))).mono ?_
  · rw [h.cell (p := ⟨w.heap.size, 0, none⟩) (by simp)]
    simp
  · rintro e w1 ⟨rfl, hb1⟩
    have hb2 : Below w.heap.size w w1 := ((Below.refl _ _).alloc (Nat.le_refl _) _).trans (hb1.mono (by simp))
    go_wp2
    go_ret
    exact ⟨rfl, hb2⟩

/-- sets.Check at place k: its range, and the end of the one ahead. -/
def chkV (k : Nat) (x0 x1 p1 : Int) : Bool :=
  !(decide (bandOf x0 < 0)) && decide (bandOf x0 = bandOf x1) && decide (x0 ≤ x1) && (decide (k = 0) || (!(decide (x0 ≤ p1)) && !(decide (x0 = wrap32 (p1 + 1)))))
def chkAt (xs : List (Int × Int)) (k : Nat) : Bool := chkV k (xs.getD k (0, 0)).1 (xs.getD k (0, 0)).2 (xs.getD (k - 1) (0, 0)).2
def chkAll (xs : List (Int × Int)) : Bool := (List.range xs.length).all (chkAt xs)
theorem chk_bad {xs : List (Int × Int)} {k : Nat} (h : k < xs.length) (hc : chkAt xs k = false) : chkAll xs = false := by
  rw [chkAll, List.all_eq_false]
  exact ⟨k, by simpa using h, by simp [hc]⟩
theorem chk_good {xs : List (Int × Int)} (h : ∀ j, j < xs.length → chkAt xs j = true) : chkAll xs = true := by
  rw [chkAll, List.all_eq_true]
  exact fun j hj => h j (by simpa using hj)
theorem errNo_t : errNo true = 0 := rfl
theorem errNo_f : errNo false = 1 := rfl

set_option maxHeartbeats 800000 in
theorem setsCheck_any (B : Nat) (xs : List (Int × Int)) (sv : Value) (w0 w : World) (hb : Below B w0 w) (hB : B ≤ w.heap.size) (hs : Sl (RngAt B w0) 2 sv xs)
   (hg : BandsAt B w0) :
    Calls Tryd.prog 93 #[sv] w fun e w' => e = .returned (.int .i64 (errNo (chkAll xs))) ∧ Below w.heap.size w w' := by
  go_enter Tryd.func93, Tryd.ntmps93
  have h0 := Lib.hid hg.lo
  have h1 := Lib.hid hg.hi
  obtain ⟨A, c, rfl, hc1, hc2, hA⟩ := hs
  have HA := Lib.hid hA
  have hl : xs.length ≤ 9223372036854775807 := by omega
  clear hg hA hc1 hc2
  go_wp2
  go_loopw [3, 4, 5, 8] (fun _ _ _ v8 wr => ∃ k : Nat, k ≤ xs.length ∧ v8 = .int .i64 k ∧ (∀ j, j < k → chkAt xs j = true) ∧ Below w.heap.size w wr) (fun _ _ _ v8 _ => xs.length - (intOf v8).toNat)
  case atStart => exact ⟨0, by omega, rfl, by omega, Below.refl _ _⟩
  case round =>
    obtain ⟨k, hk, rfl, hn, hb1⟩ := hrel
    by_cases hlt : k < xs.length
    · obtain ⟨b, o, rfl, hR⟩ := HA.out (by omega)
      have HR := Lib.hid hR
      have c0 := (hR k hlt).lo
      have c1 := (hR k hlt).hi
      clear hR
      have g0 : xs[k] = xs.getD k (0, 0) := by simp [hlt]
      rw [g0] at c0 c1
      clear g0
      have hb2 : Below B w0 wr := hb.trans (hb1.mono hB)
      have hB2 : B ≤ wr.heap.size := Nat.le_trans hB hb1.size
      have hc2 : 0 < k → ∀ w', Below B w0 w' → w'.cell? ⟨b, o + (k - 1) * 2 + 1, none⟩ = some (.int .i32 (xs.getD (k - 1) (0, 0)).2) := by
        intro _
        have hk1 : k - 1 < xs.length := by omega
        have h := (HR.out (k - 1) hk1).hi
        rwa [show xs[k - 1] = xs.getD (k - 1) (0, 0) by simp [hk1]] at h
      have HC : Hid (chkAt xs k = chkV k (xs.getD k (0, 0)).1 (xs.getD k (0, 0)).2 (xs.getD (k - 1) (0, 0)).2) := rfl
      generalize hx0 : (xs.getD k (0, 0)).1 = x0 at *
      generalize hx1 : (xs.getD k (0, 0)).2 = x1 at *
      generalize hp1 : (xs.getD (k - 1) (0, 0)).2 = p1 at *
      clear hx0 hx1 hp1
      go_wp2_with fail
      refine (band_any x0 B w0 _ (hb2.alloc hB2 _) (by simp; omega) h0.out h1.out).mono ?_
      rintro e w1 ⟨rfl, hb3⟩
      have d0 := box_cell wr #[.int .i32 x0, .int .i32 x1] 96 0 _ rfl
      have d1 := box_cell wr #[.int .i32 x0, .int .i32 x1] 96 1 _ rfl
      clear c0 c1
      have hz := hb3.size
      simp only [World.size_alloc] at hz hb3
      have hb4 : Below wr.heap.size wr w1 := ((Below.refl _ _).alloc (Nat.le_refl _) _).trans (hb3.mono (by simp))
      have hb5 : Below w.heap.size w w1 := hb1.trans (hb4.mono hb1.size)
      have hb6 : Below B w0 w1 := hb.trans (hb5.mono hB)
      generalize hv0 : bandOf x0 = v0 at *
      have HV0 := Lib.hid hv0
      clear hv0
      by_cases t1 : v0 < 0
      · have hbad : chkAt xs k = false := by rw [HC.out, chkV, HV0.out]; simp [t1]
        clear HC hc2
        go_wp2
        go_ret
        exact ⟨ret_int (by rw [chk_bad hlt hbad]; rfl), hb5⟩
      · go_wp2_with fail
        refine (band_any x1 B w0 w1 hb6 (by omega) h0.out h1.out).mono ?_
        rintro e w2 ⟨rfl, hb7⟩
        have hb8 : Below w.heap.size w w2 := hb5.trans (hb7.mono hb5.size)
        have hb9 : Below B w0 w2 := hb.trans (hb8.mono hB)
        have hb10 := hb3.trans (hb7.mono hz)
        generalize hv1 : bandOf x1 = v1 at *
        have HV1 := Lib.hid hv1
        clear hv1
        by_cases t2 : v0 = v1
        · subst t2
          by_cases t3 : x0 ≤ x1
          · by_cases t4 : k = 0
            · have hgood : chkAt xs k = true := by rw [HC.out, chkV, HV0.out, HV1.out]; simp [t1, t3, t4]
              clear HC hc2
              subst t4
              go_wp2
              go_quiet (fail)
              go_wp2
              go_roundw
              case rel => exact ⟨1, by omega, rfl, fun j hj => by obtain rfl : j = 0 := by omega
                                                                  exact hgood, below_drewN hb8 _⟩
              case measure => simp [intOf]; omega
            · have c2 := hc2 (by omega)
              have hpos : 0 < k := by omega
              clear hc2
              go_wp2
              have hk1 : ((k : Int) - 1) = ((k - 1 : Nat) : Int) := by omega
              by_cases t5 : x0 ≤ p1
              · have hbad : chkAt xs k = false := by rw [HC.out, chkV]; simp [t5]; omega
                clear HC
                go_quiet (fail)
                go_wp2
                go_ret
                exact ⟨ret_int (by rw [chk_bad hlt hbad]; rfl), below_drewN hb8 _⟩
              · by_cases t6 : x0 = wrap32 (p1 + 1)
                · have hbad : chkAt xs k = false := by rw [HC.out, chkV]; simp [t6]; omega
                  clear HC
                  have t6b : (x0 == wrap32 (p1 + 1)) = true := by simpa using t6
                  clear t6
                  go_quiet (fail)
                  go_wp2
                  go_ret
                  exact ⟨ret_int (by rw [chk_bad hlt hbad]; rfl), below_drewN hb8 _⟩
                · have hgood : chkAt xs k = true := by rw [HC.out, chkV, HV0.out, HV1.out]; simp [t1, t3, t5, t6]
                  clear HC
                  have t6b : (x0 == wrap32 (p1 + 1)) = false := by simpa using t6
                  clear t6
                  go_quiet (fail)
                  go_wp2
                  go_roundw
                  case rel => exact ⟨k + 1, by omega, by go_num, fun j hj => by
                    by_cases e : j = k
                    · rw [e]; exact hgood
                    · exact hn j (by omega), below_drewN hb8 _⟩
                  case measure => simp [intOf]; omega
          · have hbad : chkAt xs k = false := by rw [HC.out, chkV]; simp [t3]
            clear HC hc2
            go_wp2
            go_ret
            exact ⟨ret_int (by rw [chk_bad hlt hbad]; rfl), hb8⟩
        · have hbad : chkAt xs k = false := by rw [HC.out, chkV, HV0.out, HV1.out]; simp [t2]
          clear HC hc2
          have t2b : (v0 != v1) = true := by simpa using t2
          clear t2
          go_wp2
          go_ret
          exact ⟨ret_int (by rw [chk_bad hlt hbad]; rfl), hb8⟩
    · obtain rfl : k = xs.length := by omega
      go_wp2
      go_ret
      exact ⟨ret_int (by rw [chk_good hn]; rfl), hb1⟩
end Go.Proofs.YtmbboianghbjkaaDoor

-- part Tree1
namespace Go.Proofs.YtmbboianghbjkaaDoor
open Go.RowKit
set_option linter.unusedVariables false
set_option linter.unusedSimpArgs false
attribute [local go_sem] bl_refl bl_alloc bl_a2 bl_a3 bl_a4 bl_a5 bl_set bl_drew bl_drewN le_add_r lt_add_r addr_add

def numOk (n : Node) : Bool :=
  if n.op = 1 ∨ n.op = 6 then decide (n.kids.length = 0)
  else if n.op = 2 then !decide (n.kids.length = 1)
  else if n.op = 3 then decide (1 < n.kids.length)
  else if n.op = 5 then decide (n.kids.length = 1)
  else if n.op = 4 then decide (n.kids.length = 1) && decide (0 ≤ n.min) && decide (n.min ≤ 200) && decide (n.max ≤ 200) && (decide (n.max = -1) || decide (n.min ≤ n.max))
  else false

set_option maxHeartbeats 1000000 in
theorem numbers_any (op mn mx gr lk : Int) (lz : Bool) (set : List (Int × Int)) (kids : List Int) (sv : Value) (A : Option Addr) (c : Nat) (w : World) (hl : kids.length ≤ 9223372036854775807) :
    Calls Tryd.prog 126 #[.agg #[.int .i64 op, sv, .slice A kids.length c, .int .i64 mn, .int .i64 mx, .bool lz, .int .i64 gr, .int .i64 lk]] w fun e w' => e = .returned (.bool (numOk ⟨op, set, kids, mn, mx, lz, gr, lk⟩)) ∧ Below w.heap.size w w' := by
  go_enter Tryd.func126, Tryd.ntmps126
  go_wp2
  all_goals
    go_ret
    refine ⟨ret_bool ?_, (Below.refl _ _).alloc (Nat.le_refl _) _⟩
    unfold numOk
    dsimp only
    clear hl
    generalize kids.length = L at *
    rw [Bool.eq_iff_iff]
    simp only [beq_iff_eq, beq_eq_false_iff_ne, ne_eq] at *
    simp [*]
    try omega
end Go.Proofs.YtmbboianghbjkaaDoor

-- part Tree2
namespace Go.Proofs.YtmbboianghbjkaaDoor
open Go.RowKit
set_option linter.unusedVariables false
set_option linter.unusedSimpArgs false
attribute [local go_sem] bl_refl bl_alloc bl_a2 bl_a3 bl_a4 bl_a5 bl_set bl_drew bl_drewN le_add_r lt_add_r addr_add

def fldOk (n : Node) (raw : Bool) : Bool :=
  (if n.op = 1 then chkAll n.set && !(raw && decide (0 < n.set.length) && decide (255 < (n.set.getD (n.set.length - 1) (0, 0)).2)) else decide (n.set.length = 0)) &&
  (decide (n.op = 4) || (decide (n.min = 0) && decide (n.max = 0) && !n.lzy)) &&
  (decide (n.op = 5) || decide (n.group = 0)) &&
  (if n.op = 6 then decide (1 ≤ n.look) && decide (n.look ≤ 6) else decide (n.look = 0))

set_option maxHeartbeats 2000000 in
theorem fields_1 (B : Nat) (w0 : World) (mn mx gr lk : Int) (lz raw : Bool) (set : List (Int × Int)) (kids : List Int) (sv kv : Value) (w : World) (hb : Below B w0 w) (hB : B ≤ w.heap.size)
    (hs : Sl (RngAt B w0) 2 sv set) (hg : BandsAt B w0) (hk : ∃ A n c, kv = .slice A n c) :
    Calls Tryd.prog 127 #[.agg #[.int .i64 1, sv, kv, .int .i64 mn, .int .i64 mx, .bool lz, .int .i64 gr, .int .i64 lk], .bool raw] w fun e w' => e = .returned (.bool (fldOk ⟨1, set, kids, mn, mx, lz, gr, lk⟩ raw)) ∧ Below w.heap.size w w' := by
  obtain ⟨A2, n2, c2, rfl⟩ := hk
  have hs' := Lib.hid hs
  obtain ⟨A, c, rfl, h1, h2, h3⟩ := hs
  have H3 := Lib.hid h3
  clear h3
  go_enter Tryd.func127, Tryd.ntmps127
  go_wp2_with fail
  refine (setsCheck_any B set _ w0 _ ((hb.alloc hB _).alloc (by simp; omega) _) (by simp; omega) hs'.out hg).mono ?_
  rintro e w1 ⟨rfl, hb1⟩
  obtain ⟨bc, bf⟩ := bcell hb1
  simp only [World.size_alloc] at hb1 bc bf
  have hb2 : Below w.heap.size w w1 := (((Below.refl _ _).alloc (Nat.le_refl _) _).alloc (by simp) _).trans (hb1.mono (by omega))
  have hb3 : Below B w0 w1 := hb.trans (hb2.mono hB)
  by_cases hc : chkAll set = true
  · rw [hc]
    rcases Nat.eq_zero_or_pos set.length with hz | hp
    · have hz' : set = [] := List.length_eq_zero_iff.mp hz
      subst hz'
      cases raw
      · go_wp2
        all_goals
          go_ret
          refine ⟨ret_bool ?_, by simp (config := { maxDischargeDepth := 12 }) [bl_refl, bl_alloc, bl_drew, bl_drewN, bl_set, hb2]⟩
          unfold fldOk
          dsimp only
          rw [Bool.eq_iff_iff]
          simp [*]
          try omega
      · go_wp2
        all_goals
          go_ret
          refine ⟨ret_bool ?_, by simp (config := { maxDischargeDepth := 12 }) [bl_refl, bl_alloc, bl_drew, bl_drewN, bl_set, hb2]⟩
          unfold fldOk
          dsimp only
          rw [Bool.eq_iff_iff]
          simp [*]
          try omega
    · obtain ⟨b, o, rfl, hR⟩ := H3.out hp
      have hl := (hR (set.length - 1) (by omega)).hi
      have HF : Hid (fldOk ⟨1, set, kids, mn, mx, lz, gr, lk⟩ raw = ((chkAll set && !(raw && decide (0 < set.length) && decide (255 < (set.getD (set.length - 1) (0, 0)).2))) && (decide (mn = 0) && decide (mx = 0) && !lz) && decide (gr = 0) && decide (lk = 0))) := by simp [Hid, fldOk]
      rw [getD_at set (set.length - 1) (0, 0) (by omega)] at hl
      generalize (set.getD (set.length - 1) (0, 0)).2 = y at *
      clear hR H3 hs'
      have hp' : (0 : Int) < (set.length : Int) := by omega
      cases raw
      · go_wp2
        all_goals
          go_ret
          refine ⟨ret_bool ?_, by simp (config := { maxDischargeDepth := 12 }) [bl_refl, bl_alloc, bl_drew, bl_drewN, bl_set, hb2]⟩
          rw [HF.out]
          rw [Bool.eq_iff_iff]
          simp [*]
          try omega
      · by_cases hy : 255 < y
        · go_wp2
          all_goals
            go_ret
            refine ⟨ret_bool ?_, by simp (config := { maxDischargeDepth := 12 }) [bl_refl, bl_alloc, bl_drew, bl_drewN, bl_set, hb2]⟩
            rw [HF.out]
            rw [Bool.eq_iff_iff]
            simp [*]
            try omega
        · go_wp2
          all_goals
            go_ret
            refine ⟨ret_bool ?_, by simp (config := { maxDischargeDepth := 12 }) [bl_refl, bl_alloc, bl_drew, bl_drewN, bl_set, hb2]⟩
            rw [HF.out]
            rw [Bool.eq_iff_iff]
            simp [*]
            try omega
  · have hc' : chkAll set = false := by simpa using hc
    rw [hc']
    go_wp2
    all_goals
      go_ret
      refine ⟨ret_bool ?_, by simp (config := { maxDischargeDepth := 12 }) [bl_refl, bl_alloc, bl_drew, bl_drewN, bl_set, hb2]⟩
      unfold fldOk
      dsimp only
      rw [Bool.eq_iff_iff]
      simp [*]
      try omega
end Go.Proofs.YtmbboianghbjkaaDoor

-- part Tree3
namespace Go.Proofs.YtmbboianghbjkaaDoor
open Go.RowKit
set_option linter.unusedVariables false
set_option linter.unusedSimpArgs false
attribute [local go_sem] bl_refl bl_alloc bl_a2 bl_a3 bl_a4 bl_a5 bl_set bl_drew bl_drewN le_add_r lt_add_r addr_add

set_option maxHeartbeats 2000000 in
theorem fields_any (B : Nat) (w0 : World) (op mn mx gr lk : Int) (lz raw : Bool) (set : List (Int × Int)) (kids : List Int) (sv kv : Value) (w : World) (hb : Below B w0 w) (hB : B ≤ w.heap.size)
    (hs : Sl (RngAt B w0) 2 sv set) (hg : BandsAt B w0) (hk : ∃ A n c, kv = .slice A n c) :
    Calls Tryd.prog 127 #[.agg #[.int .i64 op, sv, kv, .int .i64 mn, .int .i64 mx, .bool lz, .int .i64 gr, .int .i64 lk], .bool raw] w fun e w' => e = .returned (.bool (fldOk ⟨op, set, kids, mn, mx, lz, gr, lk⟩ raw)) ∧ Below w.heap.size w w' := by
  obtain ⟨A2, n2, c2, rfl⟩ := hk
  have hs' := Lib.hid hs
  obtain ⟨A, c, rfl, h1, h2, h3⟩ := hs
  have H3 := Lib.hid h3
  clear h3
  by_cases o4 : op = 4
  · subst o4
    go_enter Tryd.func127, Tryd.ntmps127
    go_wp2
    go_region
    go_wp2
    all_goals
      go_ret
      refine ⟨ret_bool ?_, by simp (config := { maxDischargeDepth := 12 }) [bl_refl, bl_alloc, bl_drew, bl_drewN]⟩
      unfold fldOk
      dsimp only
      rw [Bool.eq_iff_iff]
      simp [*]
      try omega
  · by_cases o5 : op = 5
    · subst o5
      go_enter Tryd.func127, Tryd.ntmps127
      go_wp2
      all_goals
        go_ret
        refine ⟨ret_bool ?_, by simp (config := { maxDischargeDepth := 12 }) [bl_refl, bl_alloc, bl_drew, bl_drewN]⟩
        unfold fldOk
        dsimp only
        rw [Bool.eq_iff_iff]
        simp [*]
        try omega
    · by_cases o6 : op = 6
      · subst o6
        go_enter Tryd.func127, Tryd.ntmps127
        go_wp2
        all_goals
          go_ret
          refine ⟨ret_bool ?_, by simp (config := { maxDischargeDepth := 12 }) [bl_refl, bl_alloc, bl_drew, bl_drewN]⟩
          unfold fldOk
          dsimp only
          rw [Bool.eq_iff_iff]
          simp [*]
          try omega
      · by_cases o1 : op = 1
        · subst o1
          exact fields_1 B w0 mn mx gr lk lz raw set kids _ _ w hb hB hs'.out hg ⟨_, _, _, rfl⟩
        · have n4 : (op == 4) = false := by simpa using o4
          have n5 : (op == 5) = false := by simpa using o5
          have n6 : (op == 6) = false := by simpa using o6
          have n1 : (op == 1) = false := by simpa using o1
          go_enter Tryd.func127, Tryd.ntmps127
          go_wp2
          all_goals
            go_ret
            refine ⟨ret_bool ?_, by simp (config := { maxDischargeDepth := 12 }) [bl_refl, bl_alloc, bl_drew, bl_drewN]⟩
            unfold fldOk
            dsimp only
            rw [Bool.eq_iff_iff]
            simp [*]
            try omega
end Go.Proofs.YtmbboianghbjkaaDoor

-- part Grown
namespace Go.Proofs.YtmbboianghbjkaaDoor
open Go.RowKit
set_option linter.unusedVariables false
set_option linter.unusedSimpArgs false
attribute [local go_sem] bl_refl bl_alloc bl_a2 bl_a3 bl_a4 bl_a5 bl_set bl_drew bl_drewN le_add_r lt_add_r addr_add Ex.old max2_i min2_i max_2 min_2

/-- One node more: the nodes that nobody has taken, and how deep each is. -/
def growStep (raw : Bool) (n : Node) (i : Nat) (st : List Int × List Int) : Option (List Int × List Int) :=
  if numOk n && fldOk n raw && decide (n.kids.length ≤ st.1.length) && decide (n.kids = st.1.drop (st.1.length - n.kids.length)) then
    let d0 := n.kids.foldl (fun m q => mxI m (st.2.getD q.toNat 0)) 0
    let d := if n.op = 4 then d0 + 1 else d0
    if d ≤ 63 then some (st.1.take (st.1.length - n.kids.length) ++ [(i : Int)], st.2 ++ [d]) else none
  else none
def growTo (raw : Bool) (nodes : List Node) : Nat → Option (List Int × List Int)
  | 0 => some ([], [])
  | k + 1 => (growTo raw nodes k).bind (growStep raw (nodes.getD k default) k)
theorem mxI_le {a b c : Int} (h : a ≤ c) (h' : b ≤ c) : mxI a b ≤ c := by unfold mxI; split <;> assumption
theorem le_mxI {a b c : Int} (h : c ≤ a) : c ≤ mxI a b := by unfold mxI; split <;> omega
theorem foldl_mx (f : Int → Int) : ∀ (l : List Int) (a : Int), (∀ q ∈ l, f q ≤ 63) → 0 ≤ a → a ≤ 63 → 0 ≤ l.foldl (fun m q => mxI m (f q)) a ∧ l.foldl (fun m q => mxI m (f q)) a ≤ 63
  | [], _, _, h0, h1 => ⟨h0, h1⟩
  | q :: l, a, hf, h0, h1 => foldl_mx f l _ (fun x hx => hf x (by simp [hx])) (le_mxI h0) (mxI_le h1 (hf q (by simp)))
/-- What holds of every state. -/
theorem growTo_inv (raw : Bool) (nodes : List Node) : ∀ (k : Nat) (fr dp : List Int), growTo raw nodes k = some (fr, dp) → dp.length = k ∧ fr.length ≤ k ∧ (∀ q ∈ fr, 0 ≤ q ∧ q < k) ∧ ∀ d ∈ dp, 0 ≤ d ∧ d ≤ 63
  | 0, fr, dp, h => by simp [growTo] at h; obtain ⟨rfl, rfl⟩ := h; simp
  | k + 1, fr, dp, h => by
    rw [growTo, Option.bind_eq_some_iff] at h
    obtain ⟨⟨fr0, dp0⟩, h0, h1⟩ := h
    obtain ⟨i1, i0, i2, i3⟩ := growTo_inv raw nodes k fr0 dp0 h0
    unfold growStep at h1
    dsimp only at h1
    have h63 : ∀ q ∈ (nodes.getD k default).kids, dp0.getD q.toNat 0 ≤ 63 := fun q _ => by
      rw [List.getD_eq_getElem?_getD]
      cases hh : dp0[q.toNat]? with
      | none => simp
      | some v => simpa using (i3 v (List.mem_of_getElem? hh)).2
    have hm := (foldl_mx (fun q => dp0.getD q.toNat 0) (nodes.getD k default).kids 0 h63 (by omega) (by omega)).1
    generalize List.foldl (fun m q => mxI m (dp0.getD q.toNat 0)) 0 (nodes.getD k default).kids = d0 at h1 hm
    have hm2 : 0 ≤ (if (nodes.getD k default).op = 4 then d0 + 1 else d0) := by split <;> omega
    generalize (if (nodes.getD k default).op = 4 then d0 + 1 else d0) = d at h1 hm2
    by_cases c1 : (numOk (nodes.getD k default) && fldOk (nodes.getD k default) raw && decide ((nodes.getD k default).kids.length ≤ fr0.length) && decide ((nodes.getD k default).kids = fr0.drop (fr0.length - (nodes.getD k default).kids.length))) = true
    · rw [if_pos c1] at h1
      by_cases c2 : d ≤ 63
      · rw [if_pos c2] at h1
        simp only [Option.some.injEq, Prod.mk.injEq] at h1
        obtain ⟨rfl, rfl⟩ := h1
        refine ⟨by simp [i1], by simp; omega, ?_, ?_⟩
        · intro q hq
          rcases List.mem_append.1 hq with hq | hq
          · have := i2 q (List.mem_of_mem_take hq); omega
          · simp at hq; omega
        · intro e hdd
          rcases List.mem_append.1 hdd with hq | hq
          · exact i3 e hq
          · simp at hq
            subst hq
            exact ⟨hm2, c2⟩
      · rw [if_neg c2] at h1; simp at h1
    · rw [if_neg c1] at h1; simp at h1
theorem growTo_none (raw : Bool) (nodes : List Node) (k : Nat) (h : growTo raw nodes k = none) : ∀ j, k ≤ j → growTo raw nodes j = none := by
  intro j hj
  induction j with
  | zero => obtain rfl : k = 0 := by omega
            exact h
  | succ j ih =>
    by_cases e : k = j + 1
    · rw [← e]; exact h
    · rw [growTo, ih (by omega)]; rfl
def kmax (dp kids : List Int) (j : Nat) : Int := (kids.take j).foldl (fun (m q : Int) => mxI m (dp.getD q.toNat 0)) 0
theorem kmax_succ {dp kids : List Int} {j : Nat} (h : j < kids.length) : kmax dp kids (j + 1) = mxI (kmax dp kids j) (dp.getD (kids[j]).toNat 0) := by
  unfold kmax
  rw [List.take_succ_eq_append_getElem h, List.foldl_append]
  rfl
theorem kmax_all (dp kids : List Int) : kmax dp kids kids.length = kids.foldl (fun (m q : Int) => mxI m (dp.getD q.toNat 0)) 0 := by rw [kmax, List.take_length]
theorem growStep_ok {raw : Bool} {n : Node} {k : Nat} {fr dp : List Int} {d : Int} (h1 : numOk n = true) (h2 : fldOk n raw = true) (h3 : n.kids.length ≤ fr.length) (h4 : n.kids = fr.drop (fr.length - n.kids.length))
    (hd : (if n.op = 4 then kmax dp n.kids n.kids.length + 1 else kmax dp n.kids n.kids.length) = d) (h : d ≤ 63) : growStep raw n k (fr, dp) = some (fr.take (fr.length - n.kids.length) ++ [(k : Int)], dp ++ [d]) := by
  unfold growStep
  rw [if_pos (by rw [h1, h2, decide_eq_true h3, decide_eq_true h4]; rfl)]
  dsimp only
  rw [← kmax_all, hd, if_pos h]
theorem growStep_deep {raw : Bool} {n : Node} {k : Nat} {fr dp : List Int} {d : Int}
    (hd : (if n.op = 4 then kmax dp n.kids n.kids.length + 1 else kmax dp n.kids n.kids.length) = d) (h : ¬ d ≤ 63) : growStep raw n k (fr, dp) = none := by
  unfold growStep
  dsimp only
  rw [← kmax_all, hd, if_neg h]
  split <;> rfl
theorem kmax_inv {dp : List Int} (h : ∀ d ∈ dp, 0 ≤ d ∧ d ≤ 63) (kids : List Int) : 0 ≤ kmax dp kids kids.length ∧ kmax dp kids kids.length ≤ 63 := by
  unfold kmax
  refine foldl_mx (fun q => dp.getD q.toNat 0) _ 0 (fun q _ => ?_) (by omega) (by omega)
  rw [List.getD_eq_getElem?_getD]
  cases hh : dp[q.toNat]? with
  | none => simp
  | some v => simpa using (h v (List.mem_of_getElem? hh)).2
theorem getD_mid {dp r : List Int} {m : Int} {k : Nat} (h : dp.length = k) : (dp ++ [m] ++ r).getD k 0 = m := by subst h; simp [List.getD_eq_getElem?_getD]
theorem getD_low {dp r : List Int} {m : Int} {k : Nat} (h : k < dp.length) : (dp ++ [m] ++ r).getD k 0 = dp.getD k 0 := by simp [List.getD_eq_getElem?_getD, List.getElem?_append, h]
theorem set_mid {dp r : List Int} {m y : Int} {k : Nat} (h : dp.length = k) : (dp ++ [m] ++ r).set k y = dp ++ [y] ++ r := by subst h; simp
def grownOk (t : Tree) : Bool :=
  match growTo t.raw t.nodes t.nodes.length with
  | some st => decide (st.1.length = 1)
  | none => false

theorem info_tInt : (Tryd.prog.info? 3).map (fun i => (i.zero, i.size, i.bytes)) = some (some (.int .i64 0), 1, 8) := by kernel_rfl

set_option maxRecDepth 100000 in
set_option maxHeartbeats 2000000 in
theorem grown_any (B : Nat) (w0 w : World) (nv sv : Value) (t : Tree) (hb : Below B w0 w) (hB : B ≤ w.heap.size) (ht : TreeV B w0 nv sv t) (hg : BandsAt B w0) (hN : t.nodes.length ≤ 2000) :
    Calls Tryd.prog 95 #[.agg #[nv, sv, .bool t.raw]] w fun e w' => e = .returned (.bool (grownOk t)) ∧ Below w.heap.size w w' := by
  obtain ⟨i0, hi, hz0, hz1, hz2⟩ := info_parts info_tInt
  obtain ⟨A, c, rfl, h1, h2, h3⟩ := ht.nodes
  obtain ⟨nodes, names, raw⟩ := t
  dsimp only at *
  have HN := Lib.hid h3
  have HT := Lib.hid ht
  have HG := Lib.hid hg
  clear h3 ht hg h1 h2
  have d0 := box_cell w #[.slice A nodes.length c, sv, .bool raw] 35 0 _ rfl
  have d1 := box_cell w #[.slice A nodes.length c, sv, .bool raw] 35 1 _ rfl
  have d2 := box_cell w #[.slice A nodes.length c, sv, .bool raw] 35 2 _ rfl
  go_enter Tryd.func95, Tryd.ntmps95
  go_wp2_with (first | (at_make; refine wpList_make_full _ rfl _ _ 74 rfl (w.heap.size + 1) 3 i0 (.int .i64 0) 1 Tryd.underlying74 hi hz0 hz1 _ _ _ _ nodes.length rfl rfl rfl rfl (by rw [hz2]; omega) (by unfold maxLen; omega) (by simp) ?_; intro w1 hd hg1; have hb1 := grown_none hg1; simp only [World.size_alloc] at hb1))
  clear hg1
  generalize hW0 : w.alloc (.cells #[.slice A nodes.length c, sv, .bool raw] 35) = W0 at *
  go_loopw [3, 5, 6, 7, 9, 17] (fun v3 _ _ _ _ v17 wr => ∃ (k : Nat) (fr dp : List Int), k ≤ nodes.length ∧ v17 = .int .i64 k ∧ growTo raw nodes k = some (fr, dp) ∧
     wr.ownsRow (w.heap.size + 1) 3 1 v3 fr.length (fr.map (Value.int .i64)) ∧
     wr.ownsRow (w.heap.size + 1) 3 1 (.slice (some ⟨w.heap.size + 1, 0, none⟩) nodes.length nodes.length) nodes.length ((dp ++ List.replicate (nodes.length - k) 0).map (Value.int .i64)) ∧
     v3.ownBlock ≠ some (w.heap.size + 1) ∧ Below (w.heap.size + 1) W0 wr) (fun _ _ _ _ _ v17 _ => nodes.length - (intOf v17).toNat)
  case atStart =>
    refine ⟨0, [], [], by omega, rfl, rfl, World.ownsRow_nil _ _ _ _, ?_, by simp [Value.ownBlock], hb1⟩
    have e0 : W0.heap.size = w.heap.size + 1 := by rw [← hW0]; simp
    rw [e0] at hd
    have e1 : (madeCells (Value.int .i64 0).cells (nodes.length * 1)).toList = (([] : List Int) ++ List.replicate (nodes.length - 0) 0).map (Value.int .i64) := by
      rw [show (Value.int .i64 0).cells = #[Value.int .i64 0] from rfl, toList_madeCells_one]; simp
    rwa [e1] at hd
  case round =>
    obtain ⟨k, fr, dp, hk, rfl, hgr, hfr, hdp, hne, hbr⟩ := hrel
    have hsz : w.heap.size + 1 < wr.heap.size := by
      have h := hdp.lt (w.heap.size + 1) rfl
      omega
    have hbw : Below w.heap.size w W0 := by rw [← hW0]; exact (Below.refl _ _).alloc (Nat.le_refl _) _
    have hb2 : Below B w0 wr := hb.trans ((hbw.trans (hbr.mono (by omega))).mono hB)
    by_cases hlt : k < nodes.length
    · obtain ⟨b, o, rfl, hNd⟩ := HN.out (by omega)
      have hnk := hNd k hlt
      rw [getD_at nodes k default hlt] at hnk
      have HGS : Hid (growTo raw nodes (k + 1) = growStep raw (nodes.getD k default) k (fr, dp)) := by show growTo raw nodes (k + 1) = _; rw [growTo, hgr]; rfl
      have HINV := Lib.hid (growTo_inv raw nodes k fr dp hgr)
      clear hNd hgr
      generalize nodes.getD k default = n at *
      obtain ⟨op, set, kids, mn, mx, lz, gr, lk⟩ := n
      obtain ⟨g0, ⟨kv, g1, hset⟩, ⟨vk, g2, hkids⟩, g3, g4, g5, g6, g7⟩ := hnk
      dsimp only at *
      have HK := Lib.hid hkids
      obtain ⟨Ak, ck, rfl, hk1, hk2, hk3⟩ := hkids
      have HSET := Lib.hid hset
      obtain ⟨As, cs, rfl, _, _, hs3⟩ := hset
      have HFR := Lib.hid hfr
      have HDP := Lib.hid hdp
      clear hs3 hk3 hfr hdp
      have hfv : ∃ Af cf, u3 = .slice Af fr.length cf := by
        obtain ⟨_, h⟩ := HFR.out
        rcases h with ⟨h, h'⟩ | ⟨g, cap, cur, h, _⟩
        · exact ⟨none, 0, by rw [h, h']⟩
        · exact ⟨_, cap, h⟩
      obtain ⟨Af, cf, rfl⟩ := hfv
      go_wp2_with fail
      have hz3 : w.heap.size + 1 < wr.heap.size + 1 := by omega
      have hs4 : w.heap.size < wr.heap.size + 1 := by omega
      have hs5 : w.heap.size < wr.heap.size := by omega
      have hbX : ∀ x : Ex (wr.heap.size + 1) (wr.alloc (.cells #[.int .i64 op, .slice As set.length cs, .slice Ak kids.length ck, .int .i64 mn, .int .i64 mx, .bool lz, .int .i64 gr, .int .i64 lk] 80)), Below B w0 x.val := fun x => (hb2.alloc (by omega) _).trans (x.prop.mono (by omega))
      have CN := Lib.hid (fun wx : World => numbers_any op mn mx gr lk lz set kids (.slice As set.length cs) Ak ck wx (by omega))
      have CF := Lib.hid (fun x : Ex (wr.heap.size + 1) (wr.alloc (.cells #[.int .i64 op, .slice As set.length cs, .slice Ak kids.length ck, .int .i64 mn, .int .i64 mx, .bool lz, .int .i64 gr, .int .i64 lk] 80)) => fields_any B w0 op mn mx gr lk lz raw set kids (.slice As set.length cs) (.slice Ak kids.length ck) x.val (hbX x) (Nat.le_trans (by omega) x.le) HSET.out HG.out ⟨_, _, _, rfl⟩)
      have HX := Lib.hid hbX
      clear hbX
      have hbad : growStep raw ⟨op, set, kids, mn, mx, lz, gr, lk⟩ k (fr, dp) = none → grownOk ⟨nodes, names, raw⟩ = false := fun h => by
        unfold grownOk
        dsimp only
        rw [growTo_none raw nodes (k + 1) (HGS.out.trans h) nodes.length (by omega)]
      have HBAD := Lib.hid hbad
      have hend : ∀ x : Ex (wr.heap.size + 1) (wr.alloc (.cells #[.int .i64 op, .slice As set.length cs, .slice Ak kids.length ck, .int .i64 mn, .int .i64 mx, .bool lz, .int .i64 gr, .int .i64 lk] 80)), Below w.heap.size w x.val := fun x => (hbw.trans (hbr.mono (by omega))).trans (((Below.refl wr.heap.size wr).alloc (Nat.le_refl _) _).trans (x.prop.mono (by omega)) |>.mono (by omega))
      have HEND := Lib.hid hend
      clear hend hbad
      by_cases q1 : numOk ⟨op, set, kids, mn, mx, lz, gr, lk⟩ = true
      · rw [q1] at CN
        by_cases q2 : fldOk ⟨op, set, kids, mn, mx, lz, gr, lk⟩ raw = true
        · rw [q2] at CF
          by_cases q3 : kids.length ≤ fr.length
          · obtain ⟨hfc1, hfc2, _⟩ := own_cap HFR.out
            have q3b : decide (fr.length < kids.length) = false := by simp; omega
            have hwr : wrap64 ((fr.length : Int) - (kids.length : Int)) = ((fr.length - kids.length : Nat) : Int) := by unfold wrap64; omega
            have CE := Lib.hid (fun x : Ex (wr.heap.size + 1) (wr.alloc (.cells #[.int .i64 op, .slice As set.length cs, .slice Ak kids.length ck, .int .i64 mn, .int .i64 mx, .bool lz, .int .i64 gr, .int .i64 lk] 80)) => eqInts_any x.val (.slice Ak kids.length ck) (.slice (if cf = fr.length - kids.length then Af else Option.map (fun x => x.add (fr.length - kids.length)) Af) (fr.length - (fr.length - kids.length)) (cf - (fr.length - kids.length))) kids (fr.drop (fr.length - kids.length)) (HK.out.rdI (HX.out x)) (own_rd_tail (own_below (HFR.out.alloc _) (by simpa using x.prop)) (by omega)))
            obtain ⟨Av, hAv⟩ : ∃ Av, (if cf = fr.length - kids.length then Af else Option.map (fun x => x.add (fr.length - kids.length)) Af) = Av := ⟨_, rfl⟩
            rw [hAv] at CE
            by_cases q4 : kids = fr.drop (fr.length - kids.length)
            · rw [decide_eq_true q4] at CE
              have HQ4 := Lib.hid q4
              clear q4
              refine wp_region_ex (wr.heap.size + 1) (by simp) (by kernel_rfl) (by kernel_rfl) ?_
              repeat (go_big_quiet_step (first | with_reducible rfl | (go_at_call 126; exact quiet_call _ (CN.out _)) | (go_at_call 127; exact quiet_call _ (CF.out _)) | (go_at_call 128; exact quiet_draw _ (CE.out _))))
              refine wpQuiet_nil ?_
              rintro _ ⟨x, rfl⟩
              have hx1 : Below wr.heap.size wr x.val := ((Below.refl _ _).alloc (Nat.le_refl _) _).trans (x.prop.mono (by omega))
              have hx2 : wr.heap.size + 1 ≤ x.val.heap.size := by have := x.prop.size; simpa using this
              have hx3 : Below (w.heap.size + 1) W0 x.val := hbr.trans (hx1.mono (by omega))
              have FX := Lib.hid (own_below HFR.out hx1)
              have DX := Lib.hid (own_below HDP.out hx1)
              have BX := Lib.hid (HX.out x)
              have EX := Lib.hid (HEND.out x)
              have nb := fun i (v : Value) h => (x.prop.cell (p := ⟨wr.heap.size, i, none⟩) (by simp)).trans (show _ = some v from h)
              have nb0 := nb 0 (.int .i64 op) (by simp)
              have nb2 := nb 2 (.slice Ak kids.length ck) (by simp)
              clear nb HEND HX CN CF CE
              generalize x.val = W2 at *
              go_wp2_with fail
              obtain ⟨hdl, hfl, hfrb, hdb⟩ := HINV.out
              have hND : dp ++ List.replicate (nodes.length - k) 0 = dp ++ [0] ++ List.replicate (nodes.length - k - 1) 0 := by
                rw [List.append_assoc, show nodes.length - k = (nodes.length - k - 1) + 1 by omega]; simp [List.replicate_succ]
              have DX2 := DX.out
              rw [hND] at DX2
              have DX3 := Lib.hid DX2
              clear DX2 hND DX
              obtain ⟨wo, rfl⟩ : ∃ wo : World, wo = wr := ⟨_, rfl⟩
              go_loopw [9, 56] (fun _ v56 wi => ∃ j : Nat, j ≤ kids.length ∧ v56 = .int .i64 j ∧
                 wi.ownsRow (w.heap.size + 1) 3 1 (.slice (some ⟨w.heap.size + 1, 0, none⟩) nodes.length nodes.length) nodes.length ((dp ++ [kmax dp kids j] ++ List.replicate (nodes.length - k - 1) 0).map (Value.int .i64)) ∧
                 W2.grownBy wi (some (w.heap.size + 1))) (fun _ v56 _ => kids.length - (intOf v56).toNat)
              case atStart => exact ⟨0, by omega, rfl, DX3.out, World.grownBy.refl _ _⟩
              case round =>
                obtain ⟨j, hj, rfl, hdw, hgw⟩ := hrel
                have HDW := Lib.hid hdw
                have hbi := below_grown BX.out hgw (by omega) (by omega)
                have hbi2 := below_grown hx3 hgw (by omega) (by omega)
                have fz := hdw.frozenAt k
                have ci := own_int_cell hdw k hlt
                rw [getD_mid hdl] at ci
                by_cases hjl : j < kids.length
                · obtain ⟨A', c', e', _, _, h3'⟩ := HK.out
                  obtain ⟨bk, ok, e2, hRk⟩ := h3' (by omega)
                  rw [e2] at e'
                  injection e' with e3 e4 e5
                  subst e3
                  clear e4 e5
                  have cq := (hRk j hjl).at_
                  have hqa : ∀ q ∈ kids, q ∈ fr := fun q hq => List.mem_of_mem_drop (i := fr.length - kids.length) (by rw [← HQ4.out]; exact hq)
                  have hqm := hqa _ (List.getElem_mem hjl)
                  obtain ⟨p1, p2⟩ := hfrb _ hqm
                  obtain ⟨qn, hqn⟩ := Int.eq_ofNat_of_zero_le p1
                  have KS := Lib.hid (kmax_succ (dp := dp) hjl)
                  rw [hqn] at cq KS
                  have hqk : qn < k := by omega
                  have cd := own_int_cell hdw qn (by omega)
                  rw [getD_low (by omega)] at cd
                  rw [Int.toNat_natCast] at KS
                  rw [Nat.mul_one] at cq
                  generalize dp.getD qn 0 = dq at *
                  generalize hkm : kmax dp kids j = m at *
                  clear hkm hRk h3' hqm hqa hdw hfrb hdb hqn e2
                  go_wp2
                  go_region
                  go_wp2
                  go_roundw
                  case rel =>
                    have hset := own_int_set HDW.out k (mxI m dq)
                    rw [set_mid hdl] at hset
                    exact ⟨j + 1, by omega, by go_num, by rw [KS.out]; exact hset.1, grown_trans hgw (grown_drew hset.2)⟩
                  case measure => simp [intOf]; omega
                · obtain rfl : j = kids.length := by omega
                  have hkn := kmax_inv hdb kids
                  generalize hkm : kmax dp kids kids.length = m at *
                  have HKM := Lib.hid hkm
                  clear hkm
                  have nc0 : wr.cell? ⟨wo.heap.size, 0, none⟩ = some (.int .i64 op) := hgw.cell nb0 (by simp; omega)
                  clear hfrb hdb hdw
                  go_upto_if 75 with (fail)
                  go_cut [] (fun wc => wc.ownsRow (w.heap.size + 1) 3 1 (.slice (some ⟨w.heap.size + 1, 0, none⟩) nodes.length nodes.length) nodes.length ((dp ++ [if op = 4 then m + 1 else m] ++ List.replicate (nodes.length - k - 1) 0).map (Value.int .i64)) ∧ W2.grownBy wc (some (w.heap.size + 1)))
                  case first =>
                    by_cases o4 : op = 4
                    · have hset := own_int_set HDW.out k (m + 1)
                      rw [set_mid hdl] at hset
                      have HSET2 := Lib.hid hset
                      subst o4
                      clear hset
                      go_wp2
                      go_meet
                      case rel => exact ⟨by first | exact HSET2.out.1 | (rw [if_pos rfl]; exact HSET2.out.1), grown_trans hgw HSET2.out.2⟩
                    · have o4' : (op == 4) = false := by simpa using o4
                      go_wp2
                      go_meet
                      case rel => exact ⟨by first | exact HDW.out | (rw [if_neg o4]; exact HDW.out), hgw⟩
                  case rest =>
                    obtain ⟨hdc, hgc⟩ := hcut
                    generalize hdd : (if op = 4 then m + 1 else m) = d at *
                    have HDD := Lib.hid hdd
                    clear hdd
                    have ci2 := own_int_cell hdc k hlt
                    rw [getD_mid hdl] at ci2
                    by_cases hd63 : d ≤ 63
                    · have hfc := own_take (FX.out.kept hgc (Or.inr hne)) (m := fr.length - kids.length) (by omega)
                      rw [← List.map_take] at hfc
                      have HFC := Lib.hid hfc
                      have hkk : (fr.take (fr.length - kids.length)).length = fr.length - kids.length := by rw [List.length_take]; omega
                      have HGSt : Hid (growTo raw nodes (k + 1) = some (fr.take (fr.length - kids.length) ++ [(k : Int)], dp ++ [d])) := by
                        refine HGS.out.trans ?_
                        exact growStep_ok q1 q2 q3 HQ4.out (by rw [HKM.out]; exact HDD.out) hd63
                      clear hfc
                      go_wp2_with (first | (at_builtin; go_must (refine wpList_append_own_at _ rfl _ _ 74 rfl (w.heap.size + 1) 3 i0 (.int .i64 0) 1 8 Tryd.underlying74 hi hz0 hz1 hz2 rfl (by decide) _ (fr.length - kids.length) ((fr.take (fr.length - kids.length)).map (Value.int .i64)) rfl (HFC.out.alloc _) ⟨wc.heap.size, 0, none⟩ 1 1 [.int .i64 (k : Int)] rfl rfl (cell_one_new _ _ _) (by simp [Value.oneCell']) (by unfold maxLen; omega) (by omega) (by have := hgc.size; simp; omega) ?_); intro v' w4 hown' hgrow' _ hat))
                      go_roundw
                      case rel =>
                        have hobk : (Value.slice Af (fr.length - kids.length) cf).ownBlock = (Value.slice Af fr.length cf).ownBlock := by cases Af <;> rfl
                        have e1 : (fr.take (fr.length - kids.length) ++ [(k : Int)]).length = fr.length - kids.length + 1 := by simp [hkk]
                        have hs2 := hgc.size
                        refine ⟨k + 1, _, _, by omega, by go_num, HGSt.out, ?_, ?_, ?_, ?_⟩
                        · rw [e1, List.map_append]; exact hown'
                        · have := (hdc.alloc (.cells #[.int .i64 (k : Int)] 3)).kept hgrow' (Or.inr (fun e => hne (hobk.symm.trans e.symm)))
                          rwa [Nat.sub_sub] at this
                        · rcases hat with h | h
                          · exact fun e => hne (hobk.symm.trans (h.symm.trans e))
                          · rw [h]; simp; omega
                        · refine ((below_grown hx3 hgc (by omega) (by omega)).alloc (by omega) _).grown hgrow' (by simp; omega) (fun q hq => (HFC.out.lt q hq).1)
                      case measure => simp [intOf]; omega
                    · have hb0 : growStep raw ⟨op, set, kids, mn, mx, lz, gr, lk⟩ k (fr, dp) = none := growStep_deep (by rw [HKM.out]; exact HDD.out) hd63
                      have HB0 := Lib.hid hb0
                      clear hb0
                      go_wp2
                      go_ret
                      exact ⟨ret_bool (HBAD.out HB0.out).symm, below_grown EX.out hgc (by omega) (by omega)⟩
            · rw [decide_eq_false q4] at CE
              have hb0 : growStep raw ⟨op, set, kids, mn, mx, lz, gr, lk⟩ k (fr, dp) = none := by rw [growStep, if_neg]; simp [q4]
              have HB0 := Lib.hid hb0
              clear hb0 q4
              refine wp_region_ex (wr.heap.size + 1) (by simp) (by kernel_rfl) (by kernel_rfl) ?_
              repeat (go_big_quiet_step (first | with_reducible rfl | (go_at_call 126; exact quiet_call _ (CN.out _)) | (go_at_call 127; exact quiet_call _ (CF.out _)) | (go_at_call 128; exact quiet_draw _ (CE.out _))))
              refine wpQuiet_nil ?_
              rintro _ ⟨x, rfl⟩
              go_wp2
              go_ret
              exact ⟨ret_bool (HBAD.out HB0.out).symm, HEND.out x⟩
          · have hb0 : growStep raw ⟨op, set, kids, mn, mx, lz, gr, lk⟩ k (fr, dp) = none := by rw [growStep, if_neg]; simp [q3]
            have q3' : (fr.length : Int) < (kids.length : Int) := by omega
            have HB0 := Lib.hid hb0
            clear hb0
            refine wp_region_ex (wr.heap.size + 1) (by simp) (by kernel_rfl) (by kernel_rfl) ?_
            repeat (go_big_quiet_step (first | with_reducible rfl | (go_at_call 126; exact quiet_call _ (CN.out _)) | (go_at_call 127; exact quiet_call _ (CF.out _))))
            refine wpQuiet_nil ?_
            rintro _ ⟨x, rfl⟩
            go_wp2
            go_ret
            exact ⟨ret_bool (HBAD.out HB0.out).symm, HEND.out x⟩
        · have hb0 : growStep raw ⟨op, set, kids, mn, mx, lz, gr, lk⟩ k (fr, dp) = none := by rw [growStep, if_neg]; simp [q2]
          have HB0 := Lib.hid hb0
          have q2' : fldOk ⟨op, set, kids, mn, mx, lz, gr, lk⟩ raw = false := by simpa using q2
          rw [q2'] at CF
          clear q2 hb0
          refine wp_region_ex (wr.heap.size + 1) (by simp) (by kernel_rfl) (by kernel_rfl) ?_
          repeat (go_big_quiet_step (first | with_reducible rfl | (go_at_call 126; exact quiet_call _ (CN.out _)) | (go_at_call 127; exact quiet_call _ (CF.out _))))
          refine wpQuiet_nil ?_
          rintro _ ⟨x, rfl⟩
          go_wp2
          go_ret
          exact ⟨ret_bool (HBAD.out HB0.out).symm, HEND.out x⟩
      · have hb0 : growStep raw ⟨op, set, kids, mn, mx, lz, gr, lk⟩ k (fr, dp) = none := by rw [growStep, if_neg]; simp [q1]
        have HB0 := Lib.hid hb0
        have q1' : numOk ⟨op, set, kids, mn, mx, lz, gr, lk⟩ = false := by simpa using q1
        rw [q1'] at CN
        clear q1 hb0
        refine wp_region_ex (wr.heap.size + 1) (by simp) (by kernel_rfl) (by kernel_rfl) ?_
        repeat (go_big_quiet_step (first | with_reducible rfl | (go_at_call 126; exact quiet_call _ (CN.out _))))
        refine wpQuiet_nil ?_
        rintro _ ⟨x, rfl⟩
        go_wp2
        go_ret
        exact ⟨ret_bool (HBAD.out HB0.out).symm, HEND.out x⟩
    · obtain rfl : k = nodes.length := by omega
      obtain ⟨Af, cf, rfl⟩ := own_form hfr
      have hge : grownOk ⟨nodes, names, raw⟩ = decide (fr.length = 1) := by unfold grownOk; dsimp only; rw [hgr]
      have HGE := Lib.hid hge
      have HF := Lib.hid hfr
      clear hge hgr hfr hdp
      go_wp2
      go_ret
      refine ⟨ret_bool ?_, hbw.trans (hbr.mono (by omega))⟩
      rw [HGE.out, Bool.eq_iff_iff]
      simp
      try omega
end Go.Proofs.YtmbboianghbjkaaDoor

-- part PlainTree
namespace Go.Proofs.YtmbboianghbjkaaDoor
open Go.RowKit

/-- Each part stands ahead of its node. -/
def KidsLt (nodes : List Node) : Prop := ∀ i, i < nodes.length → ∀ q ∈ (nodes.getD i default).kids, 0 ≤ q ∧ q < i
def preF (nodes : List Node) : Nat → Nat → List Node
  | 0, _ => []
  | f + 1, i => (nodes.getD i default) :: (nodes.getD i default).kids.flatMap (fun q => preF nodes f q.toNat)
/-- The nodes of a part, the whole ahead of its parts. -/
def pre (nodes : List Node) (i : Nat) : List Node := preF nodes (i + 1) i
theorem flatMap_congr' {α β : Type} {l : List α} {f g : α → List β} (h : ∀ x ∈ l, f x = g x) : l.flatMap f = l.flatMap g := by
  induction l with
  | nil => rfl
  | cons x l ih => rw [List.flatMap_cons, List.flatMap_cons, h x (by simp), ih fun y hy => h y (by simp [hy])]
theorem preF_pre {nodes : List Node} (h : KidsLt nodes) : ∀ (i f : Nat), i < nodes.length → i < f → preF nodes f i = pre nodes i := by
  intro i
  induction i using Nat.strongRecOn with
  | _ i ih =>
    intro f hi hf
    obtain ⟨f, rfl⟩ : ∃ m, f = m + 1 := ⟨f - 1, by omega⟩
    show _ = preF nodes (i + 1) i
    rw [preF, preF]
    congr 1
    refine flatMap_congr' fun q hq => ?_
    obtain ⟨h0, h1⟩ := h i hi q hq
    rw [ih q.toNat (by omega) f (by omega) (by omega), ih q.toNat (by omega) i (by omega) (by omega)]
theorem pre_eq {nodes : List Node} (h : KidsLt nodes) (i : Nat) (hi : i < nodes.length) : pre nodes i = (nodes.getD i default) :: (nodes.getD i default).kids.flatMap (fun q => pre nodes q.toNat) := by
  show preF nodes (i + 1) i = _
  rw [preF]
  congr 1
  refine flatMap_congr' fun q hq => ?_
  obtain ⟨h0, h1⟩ := h i hi q hq
  exact preF_pre h _ _ (by omega) (by omega)
def opn : List Node → Int → Option Int
  | [], w => some w
  | n :: r, w => if n.op = 5 then (if n.group = w + 1 then opn r (w + 1) else none) else opn r w
def openedOk (t : Tree) : Bool := decide (opn (pre t.nodes (t.nodes.length - 1)) 0 = some (t.names.length : Int))

theorem growTo_pre {raw : Bool} {nodes : List Node} : ∀ (k : Nat) (st : List Int × List Int), growTo raw nodes k = some st → ∀ j, j ≤ k → ∃ st', growTo raw nodes j = some st' := by
  intro k
  induction k with
  | zero => intro st h j hj; obtain rfl : j = 0 := by omega
            exact ⟨st, h⟩
  | succ k ih =>
    intro st h j hj
    by_cases e : j = k + 1
    · subst e; exact ⟨st, h⟩
    · rw [growTo, Option.bind_eq_some_iff] at h
      obtain ⟨st0, h0, _⟩ := h
      exact ih st0 h0 j (by omega)
/-- What a step that succeeds says. -/
theorem growStep_some {raw : Bool} {n : Node} {k : Nat} {fr dp fr' dp' : List Int} (h : growStep raw n k (fr, dp) = some (fr', dp')) :
    numOk n = true ∧ fldOk n raw = true ∧ n.kids.length ≤ fr.length ∧ n.kids = fr.drop (fr.length - n.kids.length) ∧ fr' = fr.take (fr.length - n.kids.length) ++ [(k : Int)] ∧
      dp' = dp ++ [if n.op = 4 then kmax dp n.kids n.kids.length + 1 else kmax dp n.kids n.kids.length] ∧ (if n.op = 4 then kmax dp n.kids n.kids.length + 1 else kmax dp n.kids n.kids.length) ≤ 63 := by
  unfold growStep at h
  dsimp only at h
  rw [← kmax_all] at h
  generalize (if n.op = 4 then kmax dp n.kids n.kids.length + 1 else kmax dp n.kids n.kids.length) = d at *
  by_cases c1 : (numOk n && fldOk n raw && decide (n.kids.length ≤ fr.length) && decide (n.kids = fr.drop (fr.length - n.kids.length))) = true
  · rw [if_pos c1] at h
    by_cases c2 : d ≤ 63
    · rw [if_pos c2] at h
      simp only [Option.some.injEq, Prod.mk.injEq] at h
      simp only [Bool.and_eq_true, decide_eq_true_eq] at c1
      exact ⟨c1.1.1.1, c1.1.1.2, c1.1.2, c1.2, h.1.symm, h.2.symm, c2⟩
    · rw [if_neg c2] at h; simp at h
  · rw [if_neg c1] at h; simp at h
theorem grown_kids {raw : Bool} {nodes : List Node} {st : List Int × List Int} (h : growTo raw nodes nodes.length = some st) : KidsLt nodes := by
  intro i hi q hq
  obtain ⟨⟨fr', dp'⟩, h1⟩ := growTo_pre _ _ h (i + 1) (by omega)
  rw [growTo, Option.bind_eq_some_iff] at h1
  obtain ⟨⟨fr, dp⟩, h0, h1⟩ := h1
  obtain ⟨_, _, _, h4, _⟩ := growStep_some h1
  obtain ⟨_, _, h6, _⟩ := growTo_inv raw nodes i fr dp h0
  rw [h4] at hq
  exact h6 q (List.mem_of_mem_drop hq)
def preSum (nodes : List Node) (l : List Int) : Nat := (l.map fun q => (pre nodes q.toNat).length).sum
theorem preSum_append (nodes : List Node) (a b : List Int) : preSum nodes (a ++ b) = preSum nodes a + preSum nodes b := by simp [preSum]
theorem pre_len {nodes : List Node} (h : KidsLt nodes) (i : Nat) (hi : i < nodes.length) : (pre nodes i).length = 1 + preSum nodes (nodes.getD i default).kids := by
  rw [pre_eq h i hi, List.length_cons, List.length_flatMap, preSum]
  omega
theorem growTo_sum {raw : Bool} {nodes : List Node} (h : KidsLt nodes) : ∀ (k : Nat) (fr dp : List Int), k ≤ nodes.length → growTo raw nodes k = some (fr, dp) → preSum nodes fr = k := by
  intro k
  induction k with
  | zero => intro fr dp _ h0; simp [growTo] at h0; obtain ⟨rfl, rfl⟩ := h0; rfl
  | succ k ih =>
    intro fr dp hk h1
    rw [growTo, Option.bind_eq_some_iff] at h1
    obtain ⟨⟨fr0, dp0⟩, h0, h1⟩ := h1
    obtain ⟨_, _, _, h4, h5, _⟩ := growStep_some h1
    have hs := ih fr0 dp0 (by omega) h0
    rw [h5, preSum_append]
    have e1 : preSum nodes [(k : Int)] = 1 + preSum nodes (nodes.getD k default).kids := by
      simp only [preSum, List.map_cons, List.map_nil, List.sum_cons, List.sum_nil, Int.toNat_natCast, Nat.add_zero]
      exact pre_len h k (by omega)
    rw [e1]
    have e2 := preSum_append nodes (fr0.take (fr0.length - (nodes.getD k default).kids.length)) (fr0.drop (fr0.length - (nodes.getD k default).kids.length))
    rw [List.take_append_drop, ← h4, hs] at e2
    omega
/-- A grown tree has each node once. -/
theorem grown_size {raw : Bool} {nodes : List Node} {fr dp : List Int} (h : growTo raw nodes nodes.length = some (fr, dp)) (h1 : fr.length = 1) : (pre nodes (nodes.length - 1)).length = nodes.length := by
  have hk := grown_kids h
  have hs := growTo_sum hk nodes.length fr dp (Nat.le_refl _) h
  rcases Nat.eq_zero_or_pos nodes.length with h0 | hp
  · rw [h0] at h
    simp [growTo] at h
    rw [h.1] at h1
    simp at h1
  · have h2 := h
    rw [show nodes.length = (nodes.length - 1) + 1 by omega, growTo, Option.bind_eq_some_iff] at h2
    obtain ⟨⟨fr0, dp0⟩, h0, h3⟩ := h2
    obtain ⟨_, _, _, _, h5, _⟩ := growStep_some h3
    rw [h5, List.length_append, List.length_take] at h1
    rw [h5, preSum_append] at hs
    have : fr0.take (fr0.length - ((nodes.getD (nodes.length - 1) default).kids.length)) = [] := List.eq_nil_of_length_eq_zero (by rw [List.length_take]; simp only [List.length_cons, List.length_nil] at h1; omega)
    rw [this] at hs
    simpa [preSum] using hs
end Go.Proofs.YtmbboianghbjkaaDoor

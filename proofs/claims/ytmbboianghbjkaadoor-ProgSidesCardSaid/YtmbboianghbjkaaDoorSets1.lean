import Derived.Test.YtmbboianghbjkaaDoorProg
import Derived.Test.YtmbboianghbjkaaDoorData
namespace Go.Proofs.YtmbboianghbjkaaDoor
open Go.RowKit
set_option linter.unusedVariables false
set_option linter.unusedSimpArgs false
attribute [local go_sem] bl_refl bl_alloc bl_a2 bl_a3 bl_a4 bl_a5 bl_set bl_drew bl_drewN le_add_r lt_add_r addr_add


theorem band1_any (lo hi u : Int) (b o B : Nat) (w0 w : World) (hb : Below B w0 w) (hB : B ≤ w.heap.size) (hc : ∀ w', Below B w0 w' → w'.cell? ⟨b, o, none⟩ = some (.int .i32 u)) :
    Calls Tryd.prog 141 #[.agg #[.int .i32 lo, .int .i32 hi], .pointer (some ⟨b, o, none⟩)] w fun e w' => e = .returned (.bool (decide (lo ≤ u) && decide (u ≤ hi))) ∧ Below w.heap.size w w' := by
  go_enter Tryd.func141, Tryd.ntmps141
  go_wp2
  · rename_i h
    go_ret
    exact ⟨ret_bool (by simp [h]), (Below.refl _ _).alloc (Nat.le_refl _) _⟩
  · rename_i h
    go_ret
    exact ⟨ret_bool (by simp; omega), (Below.refl _ _).alloc (Nat.le_refl _) _⟩

def bandLo (k : Nat) : Int := if k = 0 then 0 else if k = 1 then 57344 else 1114240
def bandHi (k : Nat) : Int := if k = 0 then 55295 else if k = 1 then 1114111 else 1114367
def inBand (k : Nat) (u : Int) : Bool := decide (bandLo k ≤ u) && decide (u ≤ bandHi k)
def bandOf (u : Int) : Int := if inBand 0 u then 0 else if inBand 1 u then 1 else if inBand 2 u then 2 else -1

theorem bandOf_at (k : Nat) (u : Int) (hk : k < 3) (hn : ∀ j, j < k → inBand j u = false) (hp : inBand k u = true) : (k : Int) = bandOf u := by
  rcases (by omega : k = 0 ∨ k = 1 ∨ k = 2) with rfl | rfl | rfl
  · simp [bandOf, hp]
  · simp [bandOf, hp, hn 0]
  · simp [bandOf, hp, hn 0, hn 1]
theorem bandOf_none (u : Int) (hn : ∀ j, j < 3 → inBand j u = false) : (-1 : Int) = bandOf u := by
  simp [bandOf, hn 0, hn 1, hn 2]

theorem indexFunc_any (u : Int) (b o B : Nat) (w0 w : World) (hb : Below B w0 w) (hB : B ≤ w.heap.size) (hc : ∀ w', Below B w0 w' → w'.cell? ⟨b, o, none⟩ = some (.int .i32 u))
   (hg0 : ∀ k, k < 3 → ∀ w', Below B w0 w' → w'.cell? ⟨2, k * 2, none⟩ = some (.int .i32 (bandLo k)))
   (hg1 : ∀ k, k < 3 → ∀ w', Below B w0 w' → w'.cell? ⟨2, k * 2 + 1, none⟩ = some (.int .i32 (bandHi k))) :
    Calls Tryd.prog 140 #[.slice (some ⟨2, 0, none⟩) 3 3, .func (.func 141) #[] #[.pointer (some ⟨b, o, none⟩)]] w fun e w' => e = .returned (.int .i64 (bandOf u)) ∧ Below w.heap.size w w' := by
  go_enter Tryd.func140, Tryd.ntmps140
  go_wp2
  go_loopw [5, 8] (fun _ v8 wr => ∃ k : Nat, k ≤ 3 ∧ v8 = .int .i64 k ∧ (∀ j, j < k → inBand j u = false) ∧ Below w.heap.size w wr) (fun _ v8 _ => 3 - (intOf v8).toNat)
  case atStart => exact ⟨0, by omega, rfl, by omega, Below.refl _ _⟩
  case round =>
    obtain ⟨k, hk, rfl, hn, hb1⟩ := hrel
    by_cases hlt : k < 3
    · have h0 := hg0 k hlt
      have h1 := hg1 k hlt
      clear hg0 hg1
      have hb2 : Below B w0 wr := hb.trans (hb1.mono hB)
      have hB2 : B ≤ wr.heap.size := Nat.le_trans hB hb1.size
      go_wp2_with fail
      refine (band1_any _ _ u b o B w0 wr hb2 hB2 hc).mono ?_
      rintro e w1 ⟨rfl, hb3⟩
      have hb4 := hb1.trans (hb3.mono hb1.size)
      clear h0 h1 hc
      have hin : inBand k u = (decide (bandLo k ≤ u) && decide (u ≤ bandHi k)) := rfl
      by_cases hp : inBand k u = true
      · rw [← hin, hp]
        clear hin
        go_wp2
        go_ret
        refine ⟨ret_int ?_, hb4⟩
        rw [bandOf_at k u hlt hn hp]
      · have hp' : inBand k u = false := by simpa using hp
        rw [← hin, hp']
        clear hin hp
        go_wp2
        go_roundw
        case rel => exact ⟨k + 1, by omega, by go_num, fun j hj => by
          by_cases e : j = k
          · rw [e]; exact hp'
          · exact hn j (by omega), hb4⟩
        case measure => simp [intOf]; omega
    · obtain rfl : k = 3 := by omega
      clear hg0 hg1
      go_wp2
      go_ret
      refine ⟨ret_int ?_, hb1⟩
      rw [bandOf_none u hn]

theorem band_any (u : Int) (B : Nat) (w0 w : World) (hb : Below B w0 w) (hB : B ≤ w.heap.size)
   (hg0 : ∀ k, k < 3 → ∀ w', Below B w0 w' → w'.cell? ⟨2, k * 2, none⟩ = some (.int .i32 (bandLo k)))
   (hg1 : ∀ k, k < 3 → ∀ w', Below B w0 w' → w'.cell? ⟨2, k * 2 + 1, none⟩ = some (.int .i32 (bandHi k))) :
    Calls Tryd.prog 124 #[.int .i32 u] w fun e w' => e = .returned (.int .i64 (bandOf u)) ∧ Below w.heap.size w w' := by
  go_enter Tryd.func124, Tryd.ntmps124
  have h0 := Lib.hid hg0
  have h1 := Lib.hid hg1
  clear hg0 hg1
  go_wp2_with fail
  have hW : Below B w0 (w.alloc (.cells #[.int .i32 u] 21)) := hb.alloc hB _
  refine (indexFunc_any u w.heap.size 0 (w.heap.size + 1) (w.alloc (.cells #[.int .i32 u] 21)) _ (Below.refl _ _) (by simp) (fun w' h => ?_) (fun k hk w' h => h0.out k hk w' (hW.trans (h.mono (by omega)))) (fun k hk w' h => h1.out k hk w' (hW.trans (h.mono (by omega))))).mono ?_
  · rw [h.cell (p := ⟨w.heap.size, 0, none⟩) (by simp)]
    simp
  · rintro e w1 ⟨rfl, hb1⟩
    have hb2 : Below w.heap.size w w1 := ((Below.refl _ _).alloc (Nat.le_refl _) _).trans (hb1.mono (by simp))
    go_wp2
    go_ret
    exact ⟨rfl, hb2⟩

/-- sets.Check at place k: its range, and the end of the one ahead. -/
def chkV (k : Nat) (x0 x1 p1 : Int) : Bool :=
  !(decide (bandOf x0 < 0)) && decide (bandOf x0 = bandOf x1) && decide (x0 ≤ x1) && (decide (k = 0) || (!(decide (x0 ≤ p1)) && !(decide (x0 = wrap32 (p1 + 1)))))
def chkAt (xs : List (Int × Int)) (k : Nat) : Bool := chkV k (xs.getD k (0, 0)).1 (xs.getD k (0, 0)).2 (xs.getD (k - 1) (0, 0)).2
def chkAll (xs : List (Int × Int)) : Bool := (List.range xs.length).all (chkAt xs)
theorem chk_bad {xs : List (Int × Int)} {k : Nat} (h : k < xs.length) (hc : chkAt xs k = false) : chkAll xs = false := by
  rw [chkAll, List.all_eq_false]
  exact ⟨k, by simpa using h, by simp [hc]⟩
theorem chk_good {xs : List (Int × Int)} (h : ∀ j, j < xs.length → chkAt xs j = true) : chkAll xs = true := by
  rw [chkAll, List.all_eq_true]
  exact fun j hj => h j (by simpa using hj)
theorem errNo_t : errNo true = 0 := rfl
theorem errNo_f : errNo false = 1 := rfl

set_option maxHeartbeats 800000 in
theorem setsCheck_any (B : Nat) (xs : List (Int × Int)) (sv : Value) (w0 w : World) (hb : Below B w0 w) (hB : B ≤ w.heap.size) (hs : Sl (RngAt B w0) 2 sv xs)
   (hg : BandsAt B w0) :
    Calls Tryd.prog 93 #[sv] w fun e w' => e = .returned (.int .i64 (errNo (chkAll xs))) ∧ Below w.heap.size w w' := by
  go_enter Tryd.func93, Tryd.ntmps93
  have h0 := Lib.hid hg.lo
  have h1 := Lib.hid hg.hi
  obtain ⟨A, c, rfl, hc1, hc2, hA⟩ := hs
  have HA := Lib.hid hA
  have hl : xs.length ≤ 9223372036854775807 := by omega
  clear hg hA hc1 hc2
  go_wp2
  go_loopw [3, 4, 5, 8] (fun _ _ _ v8 wr => ∃ k : Nat, k ≤ xs.length ∧ v8 = .int .i64 k ∧ (∀ j, j < k → chkAt xs j = true) ∧ Below w.heap.size w wr) (fun _ _ _ v8 _ => xs.length - (intOf v8).toNat)
  case atStart => exact ⟨0, by omega, rfl, by omega, Below.refl _ _⟩
  case round =>
    obtain ⟨k, hk, rfl, hn, hb1⟩ := hrel
    by_cases hlt : k < xs.length
    · obtain ⟨b, o, rfl, hR⟩ := HA.out (by omega)
      have HR := Lib.hid hR
      have c0 := (hR k hlt).lo
      have c1 := (hR k hlt).hi
      clear hR
      have g0 : xs[k] = xs.getD k (0, 0) := by simp [hlt]
      rw [g0] at c0 c1
      clear g0
      have hb2 : Below B w0 wr := hb.trans (hb1.mono hB)
      have hB2 : B ≤ wr.heap.size := Nat.le_trans hB hb1.size
      have hc2 : 0 < k → ∀ w', Below B w0 w' → w'.cell? ⟨b, o + (k - 1) * 2 + 1, none⟩ = some (.int .i32 (xs.getD (k - 1) (0, 0)).2) := by
        intro _
        have hk1 : k - 1 < xs.length := by omega
        have h := (HR.out (k - 1) hk1).hi
        rwa [show xs[k - 1] = xs.getD (k - 1) (0, 0) by simp [hk1]] at h
      have HC : Hid (chkAt xs k = chkV k (xs.getD k (0, 0)).1 (xs.getD k (0, 0)).2 (xs.getD (k - 1) (0, 0)).2) := rfl
      generalize hx0 : (xs.getD k (0, 0)).1 = x0 at *
      generalize hx1 : (xs.getD k (0, 0)).2 = x1 at *
      generalize hp1 : (xs.getD (k - 1) (0, 0)).2 = p1 at *
      clear hx0 hx1 hp1
      go_wp2_with fail
      refine (band_any x0 B w0 _ (hb2.alloc hB2 _) (by simp; omega) h0.out h1.out).mono ?_
      rintro e w1 ⟨rfl, hb3⟩
      have d0 := box_cell wr #[.int .i32 x0, .int .i32 x1] 96 0 _ rfl
      have d1 := box_cell wr #[.int .i32 x0, .int .i32 x1] 96 1 _ rfl
      clear c0 c1
      have hz := hb3.size
      simp only [World.size_alloc] at hz hb3
      have hb4 : Below wr.heap.size wr w1 := ((Below.refl _ _).alloc (Nat.le_refl _) _).trans (hb3.mono (by simp))
      have hb5 : Below w.heap.size w w1 := hb1.trans (hb4.mono hb1.size)
      have hb6 : Below B w0 w1 := hb.trans (hb5.mono hB)
      generalize hv0 : bandOf x0 = v0 at *
      have HV0 := Lib.hid hv0
      clear hv0
      by_cases t1 : v0 < 0
      · have hbad : chkAt xs k = false := by rw [HC.out, chkV, HV0.out]; simp [t1]
        clear HC hc2
        go_wp2
        go_ret
        exact ⟨ret_int (by rw [chk_bad hlt hbad]; rfl), hb5⟩
      · go_wp2_with fail
        refine (band_any x1 B w0 w1 hb6 (by omega) h0.out h1.out).mono ?_
        rintro e w2 ⟨rfl, hb7⟩
        have hb8 : Below w.heap.size w w2 := hb5.trans (hb7.mono hb5.size)
        have hb9 : Below B w0 w2 := hb.trans (hb8.mono hB)
        have hb10 := hb3.trans (hb7.mono hz)
        generalize hv1 : bandOf x1 = v1 at *
        have HV1 := Lib.hid hv1
        clear hv1
        by_cases t2 : v0 = v1
        · subst t2
          by_cases t3 : x0 ≤ x1
          · by_cases t4 : k = 0
            · have hgood : chkAt xs k = true := by rw [HC.out, chkV, HV0.out, HV1.out]; simp [t1, t3, t4]
              clear HC hc2
              subst t4
              go_wp2
              go_quiet (fail)
              go_wp2
              go_roundw
              case rel => exact ⟨1, by omega, rfl, fun j hj => by obtain rfl : j = 0 := by omega
                                                                  exact hgood, below_drewN hb8 _⟩
              case measure => simp [intOf]; omega
            · have c2 := hc2 (by omega)
              have hpos : 0 < k := by omega
              clear hc2
              go_wp2
              have hk1 : ((k : Int) - 1) = ((k - 1 : Nat) : Int) := by omega
              by_cases t5 : x0 ≤ p1
              · have hbad : chkAt xs k = false := by rw [HC.out, chkV]; simp [t5]; omega
                clear HC
                go_quiet (fail)
                go_wp2
                go_ret
                exact ⟨ret_int (by rw [chk_bad hlt hbad]; rfl), below_drewN hb8 _⟩
              · by_cases t6 : x0 = wrap32 (p1 + 1)
                · have hbad : chkAt xs k = false := by rw [HC.out, chkV]; simp [t6]; omega
                  clear HC
                  have t6b : (x0 == wrap32 (p1 + 1)) = true := by simpa using t6
                  clear t6
                  go_quiet (fail)
                  go_wp2
                  go_ret
                  exact ⟨ret_int (by rw [chk_bad hlt hbad]; rfl), below_drewN hb8 _⟩
                · have hgood : chkAt xs k = true := by rw [HC.out, chkV, HV0.out, HV1.out]; simp [t1, t3, t5, t6]
                  clear HC
                  have t6b : (x0 == wrap32 (p1 + 1)) = false := by simpa using t6
                  clear t6
                  go_quiet (fail)
                  go_wp2
                  go_roundw
                  case rel => exact ⟨k + 1, by omega, by go_num, fun j hj => by
                    by_cases e : j = k
                    · rw [e]; exact hgood
                    · exact hn j (by omega), below_drewN hb8 _⟩
                  case measure => simp [intOf]; omega
          · have hbad : chkAt xs k = false := by rw [HC.out, chkV]; simp [t3]
            clear HC hc2
            go_wp2
            go_ret
            exact ⟨ret_int (by rw [chk_bad hlt hbad]; rfl), hb8⟩
        · have hbad : chkAt xs k = false := by rw [HC.out, chkV, HV0.out, HV1.out]; simp [t2]
          clear HC hc2
          have t2b : (v0 != v1) = true := by simpa using t2
          clear t2
          go_wp2
          go_ret
          exact ⟨ret_int (by rw [chk_bad hlt hbad]; rfl), hb8⟩
    · obtain rfl : k = xs.length := by omega
      go_wp2
      go_ret
      exact ⟨ret_int (by rw [chk_good hn]; rfl), hb1⟩
end Go.Proofs.YtmbboianghbjkaaDoor

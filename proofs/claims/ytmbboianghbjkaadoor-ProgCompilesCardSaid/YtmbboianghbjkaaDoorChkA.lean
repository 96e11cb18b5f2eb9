import Derived.Test.YtmbboianghbjkaaDoorBaseD
import Derived.Test.YtmbboianghbjkaaDoorBaseB
import Derived.Lib.ConvBytes
namespace Go.Proofs.YtmbboianghbjkaaDoor
open Go.RowKit Go.Shelf
set_option linter.unusedVariables false
set_option linter.unusedSimpArgs false
attribute [local go_sem] bl_refl bl_alloc bl_a2 bl_a3 bl_a4 bl_a5 bl_set bl_drew bl_drewN le_add_r lt_add_r Go.Proofs.YtmbboianghbjkaaDoor.addr_add

theorem Sl.rdS {B : Nat} {w0 w : World} {v : Value} {xs : List ByteArray} (h : Sl (StrAt B w0) 1 v xs) (hb : Below B w0 w) : RdS w v xs := by
  obtain ⟨A, c, rfl, h1, h2, h3⟩ := h
  refine ⟨A, c, rfl, h2, fun hp => ?_⟩
  obtain ⟨b, o, e, hR⟩ := h3 hp
  exact ⟨b, o, e, fun k hk => by have := (hR k hk).at_ w hb; rwa [Nat.mul_one] at this⟩
def nmOk (s : ByteArray) : Bool := decide (s.size ≤ 32) && (List.range s.size).all (fun j => letOk (s.get! j).toNat (decide (j = 0)))
theorem below_bytes (w : World) (e : TypeId) (s : ByteArray) : Below w.heap.size w (Lib.bytesWorld w e s) := by
  have h1 := Lib.bytesWorld_size w e s
  exact ⟨rfl, rfl, rfl, by omega, fun k hk => Lib.bytesWorld_at_old w e s k hk⟩
set_option maxHeartbeats 2000000 in
theorem name_any (w : World) (s : ByteArray) (hs : s.size ≤ 140737488351232) :
    Calls Tryd.prog 88 #[.string s] w fun e w' => e = .returned (.bool (nmOk s)) ∧ Below w.heap.size w w' := by
  have kc := Lib.run_convert_string_bytes (P := Tryd.prog) w 9 172 5 s Tryd.underlying9 Tryd.underlying172 Tryd.underlying5
  have hcell := fun j hj => Lib.bytesWorld_cell w 5 s j hj
  have HC := Lib.hid hcell
  have HB := Lib.hid (below_bytes w 5 s)
  clear hcell
  go_enter Tryd.func88, Tryd.ntmps88
  go_wp2
  obtain ⟨W, hW⟩ : ∃ W, W = Lib.bytesWorld w 5 s := ⟨_, rfl⟩
  rw [← hW] at HC HB ⊢
  clear hW kc
  go_loopw [3, 4, 5, 9] (fun _ _ _ v9 wr => ∃ k : Nat, k ≤ s.size ∧ v9 = .int .i64 k ∧ (∀ j, j < k → letOk (s.get! j).toNat (decide (j = 0)) = true) ∧ wr = W) (fun _ _ _ v9 _ => s.size - (intOf v9).toNat)
  case atStart => exact ⟨0, by omega, rfl, by omega, rfl⟩
  case round =>
    obtain ⟨k, hk, rfl, hn, rfl⟩ := hrel
    have HN := Lib.hid hn
    clear hn
    by_cases hlt : k < s.size
    · have c1 := HC.out k hlt
      have eg : s.data.toList.getD k 0 = s.get! k := by
        rw [get_at s k hlt]
        have : k < s.data.toList.length := by simpa using hlt
        rw [List.getD_eq_getElem?_getD, List.getElem?_eq_getElem this]
        rfl
      rw [eg] at c1
      clear eg
      have hl : (s.get! k).toNat < 256 := (s.get! k).toNat_lt
      generalize hx : (s.get! k).toNat = x at *
      have HX := Lib.hid hx
      clear hx
      rcases (show (x ≤ 47) ∨ (48 ≤ x ∧ x ≤ 57) ∨ (58 ≤ x ∧ x ≤ 64) ∨ (65 ≤ x ∧ x ≤ 90) ∨ (91 ≤ x ∧ x ≤ 94) ∨ (x = 95) ∨ (x = 96) ∨ (97 ≤ x ∧ x ≤ 122) ∨ (123 ≤ x) by omega) with hr | hr | hr | hr | hr | hr | hr | hr | hr
      · have y95 : ((x : Int) == 95) = false := by simp; omega
        go_wp2
        all_goals first | (exfalso; omega) | skip
        all_goals
          go_ret
          refine ⟨ret_bool ?_, HB.out⟩
          unfold nmOk
          rw [Bool.and_eq_false_iff.2 (.inr (List.all_eq_false.2 ⟨k, by simpa using hlt, by rw [HX.out]; unfold letOk; simp; try omega⟩))]
      · obtain ⟨hr1, hr2⟩ := hr
        have y95 : ((x : Int) == 95) = false := by simp; omega
        have d90 : decide ((x : Int) ≤ 90) = true := by simp; omega
        have d122 : decide ((x : Int) ≤ 122) = true := by simp; omega
        by_cases k0 : k = 0
        · have k0b : ((k : Int) == 0) = true := by simp [k0]
          have K0 := Lib.hid k0
          clear k0
          go_wp2
          all_goals first | (exfalso; omega) | skip
          all_goals
            go_ret
            refine ⟨ret_bool ?_, HB.out⟩
            unfold nmOk
            rw [Bool.and_eq_false_iff.2 (.inr (List.all_eq_false.2 ⟨k, by simpa using hlt, by have k0 := K0.out; rw [HX.out]; unfold letOk; simp; try omega⟩))]
        · have k0b : ((k : Int) == 0) = false := by simp [k0]
          go_wp2
          go_roundw
          case rel => exact ⟨k + 1, by omega, by go_num, fun j hj => by
            by_cases e : j = k
            · rw [e, HX.out]; unfold letOk; simp; omega
            · exact HN.out j (by omega), by first | rfl | trivial⟩
          case measure => simp [intOf]; omega
      · obtain ⟨hr1, hr2⟩ := hr
        have y95 : ((x : Int) == 95) = false := by simp; omega
        have d90 : decide ((x : Int) ≤ 90) = true := by simp; omega
        have d122 : decide ((x : Int) ≤ 122) = true := by simp; omega
        go_wp2
        all_goals first | (exfalso; omega) | skip
        all_goals
          go_ret
          refine ⟨ret_bool ?_, HB.out⟩
          unfold nmOk
          rw [Bool.and_eq_false_iff.2 (.inr (List.all_eq_false.2 ⟨k, by simpa using hlt, by rw [HX.out]; unfold letOk; simp; try omega⟩))]
      · obtain ⟨hr1, hr2⟩ := hr
        have y95 : ((x : Int) == 95) = false := by simp; omega
        have d90 : decide ((x : Int) ≤ 90) = true := by simp; omega
        have d122 : decide ((x : Int) ≤ 122) = true := by simp; omega
        go_wp2
        go_roundw
        case rel => exact ⟨k + 1, by omega, by go_num, fun j hj => by
          by_cases e : j = k
          · rw [e, HX.out]; unfold letOk; simp; omega
          · exact HN.out j (by omega), by first | rfl | trivial⟩
        case measure => simp [intOf]; omega
      · obtain ⟨hr1, hr2⟩ := hr
        have y95 : ((x : Int) == 95) = false := by simp; omega
        have d90 : decide ((x : Int) ≤ 90) = false := by simp; omega
        have d122 : decide ((x : Int) ≤ 122) = true := by simp; omega
        go_wp2
        all_goals first | (exfalso; omega) | skip
        all_goals
          go_ret
          refine ⟨ret_bool ?_, HB.out⟩
          unfold nmOk
          rw [Bool.and_eq_false_iff.2 (.inr (List.all_eq_false.2 ⟨k, by simpa using hlt, by rw [HX.out]; unfold letOk; simp; try omega⟩))]
      · subst hr
        go_wp2
        go_roundw
        case rel => exact ⟨k + 1, by omega, by go_num, fun j hj => by
          by_cases e : j = k
          · rw [e, HX.out]; rfl
          · exact HN.out j (by omega), by first | rfl | trivial⟩
        case measure => simp [intOf]; omega
      · subst hr
        go_wp2
        all_goals first | (exfalso; omega) | skip
        all_goals
          go_ret
          refine ⟨ret_bool ?_, HB.out⟩
          unfold nmOk
          rw [Bool.and_eq_false_iff.2 (.inr (List.all_eq_false.2 ⟨k, by simpa using hlt, by rw [HX.out]; unfold letOk; simp; try omega⟩))]
      · obtain ⟨hr1, hr2⟩ := hr
        have y95 : ((x : Int) == 95) = false := by simp; omega
        have d90 : decide ((x : Int) ≤ 90) = false := by simp; omega
        have d122 : decide ((x : Int) ≤ 122) = true := by simp; omega
        go_wp2
        go_roundw
        case rel => exact ⟨k + 1, by omega, by go_num, fun j hj => by
          by_cases e : j = k
          · rw [e, HX.out]; unfold letOk; simp; omega
          · exact HN.out j (by omega), by first | rfl | trivial⟩
        case measure => simp [intOf]; omega
      · have y95 : ((x : Int) == 95) = false := by simp; omega
        have d90 : decide ((x : Int) ≤ 90) = false := by simp; omega
        have d122 : decide ((x : Int) ≤ 122) = false := by simp; omega
        go_wp2
        all_goals first | (exfalso; omega) | skip
        all_goals
          go_ret
          refine ⟨ret_bool ?_, HB.out⟩
          unfold nmOk
          rw [Bool.and_eq_false_iff.2 (.inr (List.all_eq_false.2 ⟨k, by simpa using hlt, by rw [HX.out]; unfold letOk; simp; try omega⟩))]
    · obtain rfl : k = s.size := by omega
      go_wp2
      go_ret
      refine ⟨ret_bool ?_, HB.out⟩
      unfold nmOk
      rw [List.all_eq_true.2 (fun j hj => HN.out j (by simpa using hj)), Bool.eq_iff_iff]
      simp
      try omega
theorem nameOk_nm (pre : List ByteArray) (s : ByteArray) : nameOk pre s = (nmOk s && !(!(decide (s.size = 0)) && contS pre s)) := by
  unfold nameOk nmOk
  rw [Bool.eq_iff_iff]
  simp only [Bool.and_eq_true]
  constructor
  · rintro ⟨⟨a, b⟩, c⟩; exact ⟨⟨a, c⟩, b⟩
  · rintro ⟨⟨a, c⟩, b⟩; exact ⟨⟨a, b⟩, c⟩
set_option maxHeartbeats 2000000 in
theorem allNamed_any (B : Nat) (w0 w : World) (A : Option Addr) (c : Nat) (xs : List ByteArray) (hb : Below B w0 w) (hB : B ≤ w.heap.size) (h : Sl (StrAt B w0) 1 (.slice A xs.length c) xs) (hz : ∀ x ∈ xs, x.size ≤ 140737488351232) :
    Calls Tryd.prog 61 #[.slice A xs.length c] w fun e w' => e = .returned (.bool (fitOk xs)) ∧ Below w.heap.size w w' := by
  have HC := Lib.hid h
  have HZ := Lib.hid hz
  have hlen : xs.length ≤ 9223372036854775807 := by obtain ⟨_, _, _, _, q, _⟩ := h; exact q
  have hc : xs.length ≤ c := by obtain ⟨_, _, e, q, _⟩ := h; injection e with _ _ e; rw [e]; exact q
  clear h hz
  go_enter Tryd.func61, Tryd.ntmps61
  go_wp2
  go_loopw [3, 4, 7] (fun _ _ v7 wr => ∃ k : Nat, k ≤ xs.length ∧ v7 = .int .i64 k ∧ (∀ j, j < k → nameOk (xs.take j) (xs.getD j default) = true) ∧ Below w.heap.size w wr) (fun _ _ v7 _ => xs.length - (intOf v7).toNat)
  case atStart => exact ⟨0, by omega, rfl, by omega, Below.refl _ _⟩
  case round =>
    obtain ⟨k, hk, rfl, hn, hbr⟩ := hrel
    have HN := Lib.hid hn
    clear hn
    by_cases hlt : k < xs.length
    · have hrd := Sl.rdS HC.out (hb.trans (hbr.mono hB))
      have HRD := Lib.hid hrd
      obtain ⟨A', c', e, _, hcell0⟩ := hrd
      cases e
      obtain ⟨b, o, rfl, hcell⟩ := hcell0 (by omega)
      have c1 := hcell k hlt
      have hkz := HZ.out _ (List.getElem_mem hlt)
      have HD := Lib.hid (getD_at xs k default hlt)
      clear hcell hcell0
      generalize hx : xs[k] = x at *
      have HX := Lib.hid hx
      clear hx
      have hnk : nameOk (xs.take k) x = false → fitOk xs = false := by
        intro h
        unfold fitOk
        rw [Bool.and_eq_false_iff, List.all_eq_false]
        exact .inr ⟨k, by simpa using hlt, by rw [← HD.out, h]; decide⟩
      have HK := Lib.hid hnk
      have NM := Lib.hid (nameOk_nm (xs.take k) x)
      clear hnk
      go_wp2_with fail
      refine (name_any _ x hkz).mono ?_
      rintro e w1 ⟨rfl, hb1⟩
      have hb2 := hbr.trans (hb1.mono hbr.size)
      by_cases hok : nmOk x = true
      · rw [hok]
        have HOK := Lib.hid hok
        clear hok
        by_cases he : x.toList = []
        · have hz0 : x.size = 0 := by
            rw [ByteArray.toList_eq] at he
            have := congrArg List.length he
            simpa using this
          have HZ0 := Lib.hid hz0
          have hie : x.toList.isEmpty = true := by rw [he]; rfl
          clear he hz0
          go_wp2
          go_roundw
          case rel => exact ⟨k + 1, by omega, by go_num, fun j hj => by
            by_cases e : j = k
            · rw [e, ← HD.out, NM.out, HOK.out]; simp [HZ0.out]
            · exact HN.out j (by omega), hb2⟩
          case measure => simp [intOf]; omega
        · have hie : x.toList.isEmpty = false := by simpa using he
          have hz0 : x.size ≠ 0 := by
            intro h
            rw [ByteArray.toList_eq] at he
            exact he (List.eq_nil_of_length_eq_zero (by simpa using h))
          have HZ0 := Lib.hid hz0
          clear he hz0
          go_wp2_with fail
          refine (containsS_any _ _ (xs.take k) x ⟨some ⟨b, o, none⟩, c, by rw [List.length_take, Nat.min_eq_left hk], by rw [List.length_take, Nat.min_eq_left hk]; omega, fun hp => ⟨b, o, rfl, fun j hj => ?_⟩⟩).mono ?_
          · obtain ⟨A2, c2, e2, _, hcell3⟩ := Sl.rdS HC.out (hb.trans (hb2.mono hB))
            cases e2
            obtain ⟨b2, o2, e2, hcell2⟩ := hcell3 (by omega)
            cases e2
            have hjl : j < xs.length := by rw [List.length_take] at hj; omega
            have := hcell2 j hjl
            simpa using this
          · rintro e w2 ⟨rfl, nd, rfl⟩
            by_cases hcn : contS (xs.take k) x = true
            · rw [hcn]
              go_wp2
              go_ret
              exact ⟨ret_bool (HK.out (by rw [NM.out, HOK.out]; simp [HZ0.out, hcn])).symm, below_drewN hb2 _⟩
            · rw [show contS (xs.take k) x = false by simpa using hcn]
              have HCN := Lib.hid hcn
              clear hcn
              go_wp2
              go_roundw
              case rel => exact ⟨k + 1, by omega, by go_num, fun j hj => by
                by_cases e : j = k
                · rw [e, ← HD.out, NM.out, HOK.out, show contS (xs.take k) x = false by simpa using HCN.out]; simp
                · exact HN.out j (by omega), below_drewN hb2 _⟩
              case measure => simp [intOf]; omega
      · rw [show nmOk x = false by simpa using hok]
        have HOK := Lib.hid hok
        clear hok
        go_wp2
        go_ret
        exact ⟨ret_bool (HK.out (by rw [NM.out, show nmOk x = false by simpa using HOK.out]; rfl)).symm, hb2⟩
    · obtain rfl : k = xs.length := by omega
      go_wp2
      go_ret
      refine ⟨ret_bool ?_, hbr⟩
      unfold fitOk
      rw [List.all_eq_true.2 (fun j hj => HN.out j (by simpa using hj)), Bool.eq_iff_iff]
      simp
      try omega

/-- The closure of fits. h: its own bits; it lies in cell ph, the count in pc. -/
def plcV (h bit x n : Int) : Bool := if bits .and .i64 h bit = 0 then decide (x = 0) else decide (0 ≤ x) && decide (x < n)
set_option maxHeartbeats 1000000 in
theorem place_any (w : World) (h bit x n : Int) (ph pc : Addr) (h1 : w.cell? ph = some (.int .i64 h)) (h2 : w.cell? pc = some (.int .i64 n)) :
    Calls Tryd.prog 91 #[.int .i64 x, .int .i64 bit, .pointer (some ph), .pointer (some pc)] w fun e w' => e = .returned (.bool (plcV h bit x n)) ∧ ∃ m, w' = w.drewN m := by
  by_cases hb : bits .and .i64 h bit = 0
  · have hb' : (bits .and .i64 h bit == 0) = true := by simp [hb]
    have HB := Lib.hid hb
    clear hb
    go_enter Tryd.func91, Tryd.ntmps91
    go_wp2
    go_ret
    refine ⟨ret_bool ?_, 0, rfl⟩
    unfold plcV
    rw [if_pos HB.out]
    rfl
  · have hb' : (bits .and .i64 h bit == 0) = false := by simp [hb]
    have HB := Lib.hid hb
    clear hb
    by_cases hx : 0 ≤ x
    · go_enter Tryd.func91, Tryd.ntmps91
      go_wp2
      go_ret
      refine ⟨ret_bool ?_, 0, rfl⟩
      unfold plcV
      rw [if_neg HB.out]
      simp [hx]
    · have hx' : decide (0 ≤ x) = false := by simpa using hx
      go_enter Tryd.func91, Tryd.ntmps91
      go_wp2
      go_ret
      refine ⟨ret_bool ?_, 0, rfl⟩
      unfold plcV
      rw [if_neg HB.out]
      simp [hx]
      omega

def hasV (op : Int) : Int := if op = 1 then 9 else if op = 2 then 3 else if op = 3 ∨ op = 4 ∨ op = 5 ∨ op = 6 then 5 else if op = 9 then 1 else if op = 7 ∨ op = 8 then 0 else -1
def numR (op n groups : Int) (raw : Bool) : Bool :=
  if op = 3 then decide (2 ≤ n) && decide (n ≤ wrap64 (wrap64 (2 * groups) + 1)) else if op = 4 then decide (1 ≤ n) && (decide (n ≤ 6) || (raw && decide (n ≤ 8))) else decide (0 ≤ n) && decide (n ≤ 63)
def setOk (l : List (Int × Int)) (raw : Bool) : Bool := chkAll l && (!raw || decide (l.length = 0) || decide ((l.getD (l.length - 1) (0, 0)).2 ≤ 255))
def fitsV (op : Int) (l : List (Int × Int)) (x y n count groups : Int) (raw : Bool) : Bool :=
  decide (0 ≤ hasV op) && plcV (hasV op) 1 x count && plcV (hasV op) 2 y count && (if bits .and .i64 (hasV op) 4 = 0 then decide (n = 0) else numR op n groups raw) && (if bits .and .i64 (hasV op) 8 = 0 then decide (l.length = 0) else setOk l raw)
set_option maxHeartbeats 2000000 in
theorem has_any (op : Int) (w : World) : Calls Tryd.prog 90 #[.int .i64 op] w fun e w' => e = .returned (.int .i64 (hasV op)) ∧ ∃ m, w' = w.drewN m := by
  have fin : ∀ v : Int, v = hasV op → (Ending.returned (.int .i64 v) = .returned (.int .i64 (hasV op)) ∧ ∃ m, w = w.drewN m) := fun v h => ⟨by rw [h], 0, rfl⟩
  have FIN := Lib.hid fin
  clear fin
  by_cases hall : op ≠ 1 ∧ op ≠ 2 ∧ op ≠ 3 ∧ op ≠ 4 ∧ op ≠ 5 ∧ op ≠ 6 ∧ op ≠ 7 ∧ op ≠ 8 ∧ op ≠ 9
  case pos =>
    obtain ⟨n1, n2, n3, n4, n5, n6, n7, n8, n9⟩ := hall
    have q1 : (op == 1) = false := by simp [n1]
    have q2 : (op == 2) = false := by simp [n2]
    have q3 : (op == 3) = false := by simp [n3]
    have q4 : (op == 4) = false := by simp [n4]
    have q5 : (op == 5) = false := by simp [n5]
    have q6 : (op == 6) = false := by simp [n6]
    have q7 : (op == 7) = false := by simp [n7]
    have q8 : (op == 8) = false := by simp [n8]
    have q9 : (op == 9) = false := by simp [n9]
    have hv : (-1 : Int) = hasV op := by unfold hasV; simp [n1, n2, n3, n4, n5, n6, n7, n8, n9]
    have HV := Lib.hid hv
    clear n1 n2 n3 n4 n5 n6 n7 n8 n9 hv
    go_enter Tryd.func90, Tryd.ntmps90
    go_wp2
    go_ret
    exact FIN.out _ HV.out
  rcases (show op = 1 ∨ op = 2 ∨ op = 3 ∨ op = 4 ∨ op = 5 ∨ op = 6 ∨ op = 7 ∨ op = 8 ∨ op = 9 by omega) with rfl | rfl | rfl | rfl | rfl | rfl | rfl | rfl | rfl
  all_goals
    clear hall
    go_enter Tryd.func90, Tryd.ntmps90
    go_wp2
    go_ret
    exact FIN.out _ rfl
set_option maxHeartbeats 2000000 in
theorem pnumber_any (sv : Value) (op x y n groups : Int) (raw : Bool) (w : World) :
    Calls Tryd.prog 92 #[.agg #[.int .i64 op, sv, .int .i64 x, .int .i64 y, .int .i64 n], .int .i64 groups, .bool raw] w fun e w' => e = .returned (.bool (numR op n groups raw)) ∧ Below w.heap.size w w' := by
  by_cases e3 : op = 3
  · subst e3
    go_enter Tryd.func92, Tryd.ntmps92
    go_wp2
    all_goals
      go_ret
      refine ⟨ret_bool ?_, (by repeat' (first | exact Below.refl _ _ | (refine below_drewN ?_ _) | (refine Below.alloc ?_ ?_ _) | (refine below_set ?_ ?_) | (simp; done) | (simp; omega)))⟩
      unfold numR
      rw [if_pos rfl, Bool.eq_iff_iff]
      simp
      try omega
  by_cases e4 : op = 4
  · subst e4
    cases raw
    all_goals
      go_enter Tryd.func92, Tryd.ntmps92
      go_wp2
      all_goals
        go_ret
        refine ⟨ret_bool ?_, (by repeat' (first | exact Below.refl _ _ | (refine below_drewN ?_ _) | (refine Below.alloc ?_ ?_ _) | (refine below_set ?_ ?_) | (simp; done) | (simp; omega)))⟩
        unfold numR
        rw [if_neg (by decide), if_pos rfl, Bool.eq_iff_iff]
        simp
        try omega
  · have q3 : (op == 3) = false := by simp [e3]
    have q4 : (op == 4) = false := by simp [e4]
    have HE : Hid (numR op n groups raw = (decide (0 ≤ n) && decide (n ≤ 63))) := Lib.hid (by unfold numR; rw [if_neg e3, if_neg e4])
    clear e3 e4
    go_enter Tryd.func92, Tryd.ntmps92
    go_wp2
    all_goals
      go_ret
      refine ⟨ret_bool ?_, (by repeat' (first | exact Below.refl _ _ | (refine below_drewN ?_ _) | (refine Below.alloc ?_ ?_ _) | (refine below_set ?_ ?_) | (simp; done) | (simp; omega)))⟩
      rw [HE.out, Bool.eq_iff_iff]
      simp
      try omega
end Go.Proofs.YtmbboianghbjkaaDoor

import Derived.Test.YtmbboianghbjkaaDoorProg
import Derived.Test.YtmbboianghbjkaaDoorData
namespace Go.Proofs.YtmbboianghbjkaaDoor
open Go.RowKit
set_option linter.unusedVariables false
set_option linter.unusedSimpArgs false
attribute [local go_sem] addr_add

/-- A slice of ints as it reads in one world. -/
def RdI (w : World) (v : Value) (xs : List Int) : Prop :=
  ∃ A c, v = .slice A xs.length c ∧ xs.length ≤ 9223372036854775807 ∧ (0 < xs.length → ∃ b o, A = some ⟨b, o, none⟩ ∧ ∀ k, k < xs.length → w.cell? ⟨b, o + k, none⟩ = some (.int .i64 (xs.getD k 0)))
theorem Sl.rdI {B : Nat} {w0 w : World} {v : Value} {xs : List Int} (h : Sl (IntAt B w0) 1 v xs) (hb : Below B w0 w) : RdI w v xs := by
  obtain ⟨A, c, rfl, h1, h2, h3⟩ := h
  refine ⟨A, c, rfl, by omega, fun hp => ?_⟩
  obtain ⟨b, o, e, hR⟩ := h3 hp
  exact ⟨b, o, e, fun k hk => by have := (hR k hk).at_ w hb; rw [Nat.mul_one] at this; rw [this, getD_at xs k 0 hk]⟩

theorem eqTake {xs ys : List Int} {k : Nat} (hl : xs.length = ys.length) (hn : ∀ j, j < k → xs.getD j 0 = ys.getD j 0) (hk : k = xs.length) : xs = ys := by
  subst hk
  apply List.ext_getElem hl
  intro i h1 h2
  have := hn i h1
  rwa [← getD_at xs i 0 h1, ← getD_at ys i 0 h2] at this

set_option maxHeartbeats 1000000 in
theorem eqInts_any (w : World) (v1 v2 : Value) (xs ys : List Int) (h1 : RdI w v1 xs) (h2 : RdI w v2 ys) :
    Calls Tryd.prog 128 #[v1, v2] w fun e w' => e = .returned (.bool (decide (xs = ys))) ∧ ∃ n, w' = w.drewN n := by
  obtain ⟨A1, c1, rfl, l1, r1⟩ := h1
  obtain ⟨A2, c2, rfl, l2, r2⟩ := h2
  have R1 := Lib.hid r1
  have R2 := Lib.hid r2
  clear r1 r2
  by_cases hl : xs.length = ys.length
  · have HL := Lib.hid hl
    have q1 : ((xs.length : Int) != (ys.length : Int)) = false := by simp [hl]
    clear hl
    go_enter Tryd.func128, Tryd.ntmps128
    go_wp2
    go_loopw [5, 13] (fun _ v13 wr => ∃ k : Nat, k ≤ xs.length ∧ v13 = .int .i64 k ∧ (∀ j, j < k → xs.getD j 0 = ys.getD j 0) ∧ ∃ n, wr = w.drewN n) (fun _ v13 _ => xs.length - (intOf v13).toNat)
    case atStart => exact ⟨0, by omega, rfl, by omega, 0, rfl⟩
    case round =>
      obtain ⟨k, hk, rfl, hn, nd, rfl⟩ := hrel
      have HN := Lib.hid hn
      clear hn
      by_cases hlt : k < xs.length
      · obtain ⟨b, o, rfl, hR⟩ := R1.out (by omega)
        obtain ⟨b2, o2, rfl, hR2⟩ := R2.out (by have := HL.out; omega)
        have c1 := hR k hlt
        have hlt2 : k < ys.length := by have := HL.out; omega
        have c2 := hR2 k hlt2
        clear hR hR2
        generalize hx : xs.getD k 0 = x at *
        generalize hy : ys.getD k 0 = y at *
        have HX := Lib.hid hx
        have HY := Lib.hid hy
        clear hx hy
        go_wp2
        go_quiet (fail)
        by_cases hxy : x = y
        · have q : (x != y) = false := by simp [hxy]
          have HXY := Lib.hid hxy
          clear hxy
          go_wp2
          go_roundw
          case rel => exact ⟨k + 1, by omega, by go_num, fun j hj => by
            by_cases e : j = k
            · rw [e, HX.out, HY.out, HXY.out]
            · exact HN.out j (by omega), _, rfl⟩
          case measure => simp [intOf]; omega
        · have q : (x != y) = true := by simp [hxy]
          have HXY := Lib.hid hxy
          clear hxy
          go_wp2
          go_ret
          refine ⟨ret_bool ?_, _, World.drewN_drewN ..⟩
          symm
          rw [decide_eq_false_iff_not]
          intro e
          subst e
          exact HXY.out (HX.out.symm.trans HY.out)
      · obtain rfl : k = xs.length := by omega
        go_wp2
        go_ret
        exact ⟨ret_bool (by simp [eqTake HL.out HN.out rfl]), _, rfl⟩
  · have q1 : ((xs.length : Int) != (ys.length : Int)) = true := by simp; omega
    have HL := Lib.hid hl
    clear hl
    go_enter Tryd.func128, Tryd.ntmps128
    go_wp2
    go_ret
    refine ⟨ret_bool ?_, 0, rfl⟩
    symm
    rw [decide_eq_false_iff_not]
    exact fun e => HL.out (by rw [e])
end Go.Proofs.YtmbboianghbjkaaDoor

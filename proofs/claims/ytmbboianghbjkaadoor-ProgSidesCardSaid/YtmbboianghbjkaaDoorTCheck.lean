import Derived.Test.YtmbboianghbjkaaDoorOpened
import Derived.Test.YtmbboianghbjkaaDoorFit
namespace Go.Proofs.YtmbboianghbjkaaDoor
open Go.RowKit
set_option linter.unusedVariables false
set_option linter.unusedSimpArgs false
attribute [local go_sem] bl_refl bl_alloc bl_a2 bl_a3 bl_a4 bl_a5 bl_set bl_drew bl_drewN le_add_r lt_add_r addr_add

def treeOk (t : Tree) : Bool := decide (0 < t.nodes.length) && decide (t.nodes.length ≤ 2000) && fitOk t.names && grownOk t && openedOk t

set_option maxHeartbeats 1000000 in
theorem treeCheck_any (B : Nat) (w0 w : World) (nv sv : Value) (t : Tree) (hb : Below B w0 w) (hB : B ≤ w.heap.size) (ht : TreeV B w0 nv sv t) (hg : BandsAt B w0) :
    Calls Tryd.prog 63 #[.agg #[nv, sv, .bool t.raw]] w fun e w' => e = .returned (.int .i64 (errNo (treeOk t))) ∧ Below w.heap.size w w' := by
  have HT := Lib.hid ht
  obtain ⟨A, c, rfl, h1, h2, h3⟩ := ht.nodes
  obtain ⟨As, cs, rfl, hs1, hs2, hs3⟩ := ht.names
  obtain ⟨nodes, names, raw⟩ := t
  dsimp only at *
  clear h3 hs3 ht
  go_enter Tryd.func63, Tryd.ntmps63
  by_cases n0 : nodes.length = 0
  · have n0' : ((nodes.length : Int) == 0) = true := by simp [n0]
    go_wp2
    go_ret
    refine ⟨?_, (Below.refl _ _).alloc (Nat.le_refl _) _⟩
    unfold treeOk
    simp [n0, errNo]
  have n0' : ((nodes.length : Int) == 0) = false := by simp [n0]
  by_cases n1 : nodes.length ≤ 2000
  · have HN0 := Lib.hid n0
    clear n0
    go_wp2_with fail
    obtain ⟨W0, hW0⟩ : ∃ W0, W0 = w.alloc (.cells #[.slice A nodes.length c, .slice As names.length cs, .bool raw] 35) := ⟨_, rfl⟩
    have d0 := box_cell w #[.slice A nodes.length c, .slice As names.length cs, .bool raw] 35 0 _ rfl
    have d1 := box_cell w #[.slice A nodes.length c, .slice As names.length cs, .bool raw] 35 1 _ rfl
    have d2 := box_cell w #[.slice A nodes.length c, .slice As names.length cs, .bool raw] 35 2 _ rfl
    have hs0 : W0.heap.size = w.heap.size + 1 := by rw [hW0]; simp
    have hb0 : Below w.heap.size w W0 := by rw [hW0]; exact (Below.refl _ _).alloc (Nat.le_refl _) _
    have hbB : Below B w0 W0 := by rw [hW0]; exact hb.alloc hB _
    rw [← hW0] at d0 d1 d2 ⊢
    clear hW0
    refine (fitting_any B w0 W0 _ names hbB (by omega) HT.out.names).mono ?_
    rintro e w1 ⟨rfl, hb1⟩
    have hs1' := hb1.size
    by_cases q1 : fitOk names = true
    · rw [q1]
      have HQ1 := Lib.hid q1
      have c0 := d0 w1 (hb1.mono (by omega))
      have c1 := d1 w1 (hb1.mono (by omega))
      have c2 := d2 w1 (hb1.mono (by omega))
      clear q1
      go_wp2_with fail
      refine (grown_any B w0 w1 _ _ ⟨nodes, names, raw⟩ (hbB.trans (hb1.mono (by omega))) (by omega) HT.out hg n1).mono ?_
      rintro e w2 ⟨rfl, hb2⟩
      clear c0 c1 c2
      have hb12 : Below W0.heap.size W0 w2 := hb1.trans (hb2.mono (by omega))
      have hs2 := hb2.size
      by_cases q2 : grownOk ⟨nodes, names, raw⟩ = true
      · rw [q2]
        have HQ2 := Lib.hid q2
        have c0 := d0 w2 (hb12.mono (by omega))
        have c1 := d1 w2 (hb12.mono (by omega))
        have c2 := d2 w2 (hb12.mono (by omega))
        have hgr : ∃ fr dp, growTo raw nodes nodes.length = some (fr, dp) ∧ fr.length = 1 := by
          unfold grownOk at q2
          dsimp only at q2
          split at q2
          · rename_i st hst
            exact ⟨st.1, st.2, hst, by simpa using q2⟩
          · cases q2
        have HGR := Lib.hid hgr
        have HNM : names.length ≤ 40 := by
          have := HQ1.out
          unfold fitOk at this
          rw [Bool.and_eq_true] at this
          simpa using this.1
        clear q2 hgr
        go_wp2_with fail
        obtain ⟨fr, dp, hg1, hg2⟩ := HGR.out
        refine (opened_any B w0 w2 _ _ ⟨nodes, names, raw⟩ fr dp (hbB.trans (hb12.mono (by omega))) (by omega) HT.out n1 (by have := HN0.out; dsimp only; omega) hg1 hg2 HNM).mono ?_
        rintro e w3 ⟨rfl, hb3⟩
        clear c0 c1 c2 hg1 hg2
        have hbe : Below w.heap.size w w3 := hb0.trans ((hb12.trans (hb3.mono (by omega))).mono (by omega))
        by_cases q3 : openedOk ⟨nodes, names, raw⟩ = true
        · rw [q3]
          have HQ3 := Lib.hid q3
          clear q3
          go_wp2
          go_ret
          refine ⟨?_, hbe⟩
          unfold treeOk
          have := HN0.out
          simp [HQ1.out, HQ2.out, HQ3.out, n1, errNo, Nat.pos_of_ne_zero this]
        · rw [show openedOk ⟨nodes, names, raw⟩ = false by simpa using q3]
          have HQ3 := Lib.hid q3
          clear q3
          go_wp2
          go_ret
          refine ⟨?_, hbe⟩
          unfold treeOk
          simp [show openedOk ⟨nodes, names, raw⟩ = false by simpa using HQ3.out, errNo]
      · rw [show grownOk ⟨nodes, names, raw⟩ = false by simpa using q2]
        have HQ2 := Lib.hid q2
        clear q2
        go_wp2
        go_ret
        refine ⟨?_, hb0.trans (hb12.mono (by omega))⟩
        unfold treeOk
        simp [show grownOk ⟨nodes, names, raw⟩ = false by simpa using HQ2.out, errNo]
    · rw [show fitOk names = false by simpa using q1]
      have HQ1 := Lib.hid q1
      clear q1
      go_wp2
      go_ret
      refine ⟨?_, hb0.trans (hb1.mono (by omega))⟩
      unfold treeOk
      simp [show fitOk names = false by simpa using HQ1.out, errNo]
  · go_wp2
    go_ret
    refine ⟨?_, (Below.refl _ _).alloc (Nat.le_refl _) _⟩
    unfold treeOk
    simp [n1, errNo]
end Go.Proofs.YtmbboianghbjkaaDoor

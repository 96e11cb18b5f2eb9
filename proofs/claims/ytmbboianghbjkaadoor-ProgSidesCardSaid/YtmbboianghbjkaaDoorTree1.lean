import Derived.Test.YtmbboianghbjkaaDoorProg
import Derived.Test.YtmbboianghbjkaaDoorData
import Derived.Test.YtmbboianghbjkaaDoorSets1
namespace Go.Proofs.YtmbboianghbjkaaDoor
open Go.RowKit
set_option linter.unusedVariables false
set_option linter.unusedSimpArgs false
attribute [local go_sem] bl_refl bl_alloc bl_a2 bl_a3 bl_a4 bl_a5 bl_set bl_drew bl_drewN le_add_r lt_add_r addr_add

def numOk (n : Node) : Bool :=
  if n.op = 1 ∨ n.op = 6 then decide (n.kids.length = 0)
  else if n.op = 2 then !decide (n.kids.length = 1)
  else if n.op = 3 then decide (1 < n.kids.length)
  else if n.op = 5 then decide (n.kids.length = 1)
  else if n.op = 4 then decide (n.kids.length = 1) && decide (0 ≤ n.min) && decide (n.min ≤ 200) && decide (n.max ≤ 200) && (decide (n.max = -1) || decide (n.min ≤ n.max))
  else false

set_option maxHeartbeats 1000000 in
theorem numbers_any (op mn mx gr lk : Int) (lz : Bool) (set : List (Int × Int)) (kids : List Int) (sv : Value) (A : Option Addr) (c : Nat) (w : World) (hl : kids.length ≤ 9223372036854775807) :
    Calls Tryd.prog 126 #[.agg #[.int .i64 op, sv, .slice A kids.length c, .int .i64 mn, .int .i64 mx, .bool lz, .int .i64 gr, .int .i64 lk]] w fun e w' => e = .returned (.bool (numOk ⟨op, set, kids, mn, mx, lz, gr, lk⟩)) ∧ Below w.heap.size w w' := by
  go_enter Tryd.func126, Tryd.ntmps126
  go_wp2
  all_goals
    go_ret
    refine ⟨ret_bool ?_, (Below.refl _ _).alloc (Nat.le_refl _) _⟩
    unfold numOk
    dsimp only
    clear hl
    generalize kids.length = L at *
    rw [Bool.eq_iff_iff]
    simp only [beq_iff_eq, beq_eq_false_iff_ne, ne_eq] at *
    simp [*]
    try omega
end Go.Proofs.YtmbboianghbjkaaDoor

import Derived.Test.YtmbboianghbjkaaDoorMarks
import Derived.Test.YtmbboianghbjkaaDoorPlainTree
namespace Go.Proofs.YtmbboianghbjkaaDoor
open Go.RowKit Go.Shelf

theorem boxed_other {X Y : World} {row : Option Nat} {B : Nat} {t : TypeId} {v : Value} (hv : Boxed X B t v) (hg : X.grownBy Y row) (hrow : ∀ r, row = some r → ∃ o : Obj, X.heap[r]? = some o ∧ o.isCells = false) : Boxed Y B t v :=
  hv.kept hg (fun e' => by
    obtain ⟨o, ho, hc⟩ := hrow B e'.symm
    rw [show X.heap[B]? = _ from hv] at ho; cases ho; cases hc)
theorem row_other {X Y : World} {row : Option Nat} {base k : Nat} {e : TypeId} {size : Nat} {v : Value} {xs : List Value} (hr : X.ownsRow base e size v k xs) (hg : X.grownBy Y row) (hrow : ∀ r, row = some r → ∃ o : Obj, X.heap[r]? = some o ∧ o.isCells = false) : Y.ownsRow base e size v k xs := by
  refine hr.kept hg ?_
  rcases hr.2 with ⟨rfl, _⟩ | ⟨g, cap, cur, rfl, _, hgb, _⟩
  · exact .inl rfl
  · refine .inr fun e' => ?_
    obtain ⟨o, ho, hc⟩ := hrow g (by simpa [Value.ownBlock] using e'.symm)
    rw [hgb] at ho; cases ho; cases hc
theorem MarksAt.others {ds : List Nat} {W W' : World} (h : MarksAt ds W) (k : KeepsOthers W W') : MarksAt ds W' := fun D hD => k.same D _ (h D hD) rfl
theorem MarksAt.lt {ds : List Nat} {W : World} (h : MarksAt ds W) : ∀ D ∈ ds, D < W.heap.size := fun D h' => (Array.getElem?_eq_some_iff.1 (h D h')).1
theorem MarksAt.grown {ds : List Nat} {W W' : World} {row : Option Nat} (h : MarksAt ds W) (hg : W.grownBy W' row) (hrow : ∀ r, row = some r → r ∉ ds) : MarksAt ds W' :=
  fun D hD => (hg.block D (h.lt D hD) (fun e => hrow D e.symm hD)).trans (h D hD)
theorem pre_pos (nodes : List Node) (i : Nat) : 1 ≤ (pre nodes i).length := by unfold pre; rw [preF, List.length_cons]; omega
theorem flat_len {α : Type} (nodes : List Node) (f : α → Nat) (l : List α) : l.length ≤ (l.flatMap (fun q => pre nodes (f q))).length := by
  induction l with
  | nil => simp
  | cons x l ih => rw [List.flatMap_cons, List.length_append, List.length_cons]; have := pre_pos nodes (f x); omega
theorem back_list (kids : List Int) : (upto id kids.length).map (fun k => Value.int .i64 (kids[kids.length - 1 - k]?.getD 0)) = kids.reverse.map (Value.int .i64) := by
  apply List.ext_getElem
  · simp [upto]
  · intro i h1 h2
    simp only [List.length_map, List.length_reverse] at h2
    simp [upto, List.getElem?_eq_getElem (show kids.length - 1 - i < kids.length by omega)]
theorem nat_list (kids : List Int) (h : ∀ q ∈ kids, 0 ≤ q) : kids.map (Value.int .i64) = (kids.map Int.toNat).map (fun q : Nat => Value.int .i64 q) := by
  rw [List.map_map]
  refine List.map_congr_left fun q hq => ?_
  simp only [Function.comp]
  rw [Int.toNat_of_nonneg (h q hq)]
theorem opn_step (nd : Node) (r : List Node) (want want' : Int) (hw : want' = if nd.op = 5 then want + 1 else want) (hg : nd.op = 5 → nd.group = want + 1) : opn (nd :: r) want = opn r want' := by
  rw [opn]
  by_cases h : nd.op = 5
  · rw [if_pos h] at hw
    rw [if_pos h, if_pos (hg h), hw]
  · rw [if_neg h] at hw
    rw [if_neg h, hw]
end Go.Proofs.YtmbboianghbjkaaDoor

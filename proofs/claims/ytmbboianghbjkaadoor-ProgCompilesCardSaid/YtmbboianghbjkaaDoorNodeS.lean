import Derived.Test.YtmbboianghbjkaaDoorNodeR
import Derived.RangeFuncCalls
namespace Go.Proofs.YtmbboianghbjkaaDoor
open Go.RowKit Go.Shelf
set_option linter.unusedVariables false
set_option linter.unusedSimpArgs false

/-- One mark, collected. -/
theorem post_mark_one {P : Program} {fn : Func} {R : Ending → World → Prop} {a : Act} {w : World} {v : Value} {n : Nat} {t : Tmp} (hres : fn.results = #[.tmp t]) (hv : a.tmps.getD t undef = v) (D : Nat) (hd : a.defers = [mark D]) (hm : w.heap[D]? = some (.deferred (some [])))
    (hR : R (.returned v) (w.putObj D (.deferred none))) : bodyPostM Fence.wide n P fn R .ret a w := by
  show LeavesInM Fence.wide n P fn a.tmps R a.defers .returning w
  rw [hd]
  refine ⟨by simp, .inl ⟨D, _, rfl, run_takeDeferred hm, ?_⟩⟩
  exact ⟨v, by rw [results_tmp hres, hv], hR⟩
theorem putObj_grown (w : World) (D : Nat) (o : Obj) : w.grownBy (w.putObj D o) (some D) :=
  ⟨rfl, rfl, rfl, by simp, fun k _ hk => World.putObj_heap_other (fun e => hk (by rw [e]))⟩
theorem MkKept.others {base mk : Nat} {W W' : World} (h : MkKept base mk W W') (hm : ∃ tv v r, W.heap[mk]? = some (.cells #[tv, v] 91 r)) : KeepsOthers W W' :=
  ⟨h.below.size, fun k o hk ho => h.other k o hk (fun e => by
    obtain ⟨_, _, _, hm⟩ := hm
    subst e
    rw [hk] at hm
    injection hm with hm
    rw [hm] at ho
    cases ho) (fun _ _ e => by rw [e] at ho; cases ho)⟩
/-- Cells stay; what is none may turn. -/
theorem cells_stay {W W' : World} {row : Option Nat} (hg : W.grownBy W' row) (hrow : ∀ r, row = some r → ∃ o, W.heap[r]? = some o ∧ o.isCells = false) {k : Nat} {cs : Array Value} {t : TypeId} {r : Nat × Nat} (h : W.heap[k]? = some (.cells cs t r)) : W'.heap[k]? = some (.cells cs t r) := by
  refine (hg.block k (Array.getElem?_eq_some_iff.1 h).1 (fun e => ?_)).trans h
  obtain ⟨o, ho, hc⟩ := hrow k e.symm
  rw [h] at ho
  injection ho with ho
  rw [← ho] at hc
  cases hc
/-- What holds within node, between its parts. -/
structure NSt (base mk B b o c : Nat) (nodes : List Node) (v : Value) (L M : List IV) (xs : List Inst) (w0 w : World) (nx level : Int) (nc : Array Value) (W : World) : Prop where
  arg : MArg base mk B b o c nodes v (L ++ M) w0 W
  rd : IsRd base W M xs
  kept : MkKept base mk w W
  frm : Frm mk w.heap.size nx level nc W
theorem NSt.grown {base mk B b o c : Nat} {nodes : List Node} {v : Value} {L M : List IV} {xs : List Inst} {w0 w : World} {nx level : Int} {nc : Array Value} {W W' : World} {row : Option Nat} (h : NSt base mk B b o c nodes v L M xs w0 w nx level nc W) (hb : base ≤ w.heap.size) (hg : W.grownBy W' row)
    (hrow : ∀ r, row = some r → w.heap.size ≤ r ∧ ∃ o, W.heap[r]? = some o ∧ o.isCells = false) : NSt base mk B b o c nodes v L M xs w0 w nx level nc W' := by
  have hr : ∀ r, row = some r → ∃ o, W.heap[r]? = some o ∧ o.isCells = false := fun r e => (hrow r e).2
  have hbl : ∀ {Bq : Nat} {wq : World}, Bq ≤ w.heap.size → Below Bq wq W → Below Bq wq W' := fun hq hb' => hb'.grown hg (by have := h.kept.below.size; omega) (fun r e => by have := (hrow r e).1; omega)
  have hle := h.arg.le
  refine ⟨⟨⟨cells_stay hg hr h.arg.at_.obj, row_other h.arg.at_.row hg hr, h.arg.at_.le⟩, hbl (by omega) h.arg.below, h.arg.le, h.arg.node, h.arg.count, h.arg.sets⟩, ?_, ⟨hbl hb h.kept.below, fun k ob h1 h2 h3 => ?_⟩, ?_⟩
  · refine h.rd.map fun v xs s => ?_
    obtain ⟨A, c', rfl, h1, h2⟩ := s
    refine ⟨A, c', rfl, h1, fun hp => ?_⟩
    obtain ⟨b', cs', fr, e, h3, h4, h5⟩ := h2 hp
    exact ⟨b', cs', fr, e, h3, cells_stay hg hr h4, h5⟩
  · have hk := h.kept.other k ob h1 h2 h3
    refine (hg.block k (Array.getElem?_eq_some_iff.1 hk).1 (fun e => ?_)).trans hk
    have := (hrow k e.symm).1
    have := (Array.getElem?_eq_some_iff.1 h1).1
    omega
  · exact ⟨cells_stay hg hr h.frm.f0, cells_stay hg hr h.frm.f1, cells_stay hg hr h.frm.f2, cells_stay hg hr h.frm.f3, h.frm.lt⟩
/-- A part has been laid. -/
theorem NSt.on {base mk B b o c : Nat} {nodes : List Node} {v v' : Value} {L M N : List IV} {xs ys : List Inst} {w0 w : World} {nx level : Int} {nc : Array Value} {W W' : World} (h : NSt base mk B b o c nodes v L M xs w0 w nx level nc W) (hk : MkKept base mk W W')
    (hm : MkAt base mk (.slice (some ⟨b, o, none⟩) nodes.length c) v' (L ++ M ++ N) W') (hi : IsRd base W' N ys) : NSt base mk B b o c nodes v' L (M ++ N) (xs ++ ys) w0 w nx level nc W' :=
  ⟨by rw [← List.append_assoc]; exact h.arg.on hk hm, (h.rd.kept hk h.arg.at_.is).app hi, h.kept.trans hk, h.frm.kept hk⟩
/-- next is set. -/
theorem NSt.setNext {base mk B b o c : Nat} {nodes : List Node} {v : Value} {L M : List IV} {xs : List Inst} {w0 w : World} {nx level : Int} {nc : Array Value} {W : World} (h : NSt base mk B b o c nodes v L M xs w0 w nx level nc W) (hb : base ≤ w.heap.size) (x : Int) :
    NSt base mk B b o c nodes v L M xs w0 w x level nc (W.setCell ⟨w.heap.size + 1, 0, none⟩ (.int .i64 x)) := by
  have hle := h.arg.le
  have hlt := h.frm.lt
  refine ⟨⟨h.arg.at_.set h.frm.f1 (by decide) (by omega), h.arg.below.setCell (by simp; omega) _, h.arg.le, h.arg.node, h.arg.count, h.arg.sets⟩, h.rd.set h.frm.f1 (by decide), h.kept.store (by omega) (by omega), h.frm.setNext⟩
theorem NSt.under {base mk B b o c : Nat} {nodes : List Node} {v : Value} {L M : List IV} {xs : List Inst} {w0 w : World} {nx level : Int} {nc : Array Value} {W W' : World} (h : NSt base mk B b o c nodes v L M xs w0 w nx level nc W) (hb : base ≤ w.heap.size) (k : Below W.heap.size W W') : NSt base mk B b o c nodes v L M xs w0 w nx level nc W' :=
  ⟨h.arg.under k, h.rd.under k, h.kept.trans (MkKept.of_below (by have := h.kept.below.size; omega) k), h.frm.under k⟩

/-! plain: parts from the last on -/
theorem catF_snoc (kid : Nat → Int → Int → Nat → List Inst × Int) (level : Int) (k : Nat) : ∀ (l : List Nat) (next : Int) (m : Nat),
    catF kid level (l ++ [k]) next m = ((catF kid level l next m).1 ++ (kid k (catF kid level l next m).2 level (m + (catF kid level l next m).1.length)).1, (kid k (catF kid level l next m).2 level (m + (catF kid level l next m).1.length)).2)
  | [], next, m => by simp [catF]
  | x :: l, next, m => by
    simp only [List.cons_append, catF]
    rw [catF_snoc kid level k l]
    simp [List.append_assoc, Nat.add_assoc]
theorem catF_len (kid : Nat → Int → Int → Nat → List Inst × Int) (level : Int) (E : Nat) : ∀ (l : List Nat) (next : Int) (m : Nat), (∀ k ∈ l, ∀ nx lv m, (kid k nx lv m).1.length ≤ E) → (catF kid level l next m).1.length ≤ l.length * E
  | [], next, m, _ => by simp [catF]
  | x :: l, next, m, h => by
    simp only [catF, List.length_append, List.length_cons]
    have h1 := h x (by simp) next level m
    have h2 := catF_len kid level E l (kid x next level m).2 (m + (kid x next level m).1.length) (fun k hk => h k (by simp [hk]))
    rw [Nat.add_mul, Nat.one_mul]
    omega
/-- The part that the round number k from the end on meets. -/
def kapB (ks : List Nat) (k : Nat) : Nat := ks[ks.length - 1 - k]?.getD 0
theorem kapB_mem (ks : List Nat) (k : Nat) (h : 0 < ks.length) : kapB ks k ∈ ks := by
  unfold kapB
  rw [List.getElem?_eq_getElem (show ks.length - 1 - k < ks.length by omega)]
  exact List.getElem_mem _
theorem kapB_all (ks : List Nat) : (upto id ks.length).map (kapB ks) = ks.reverse := by
  apply List.ext_getElem
  · simp [upto]
  · intro i h1 h2
    simp only [List.length_reverse] at h2
    simp [upto, kapB, List.getElem?_eq_getElem (show ks.length - 1 - i < ks.length by omega)]
theorem kapB_int (ks : List Nat) (k : Nat) : ((ks.map (fun q : Nat => (q : Int)))[(ks.map (fun q : Nat => (q : Int))).length - 1 - k]?.getD 0) = ((kapB ks k : Nat) : Int) := by
  unfold kapB
  rw [List.length_map, List.getElem?_map]
  cases ks[ks.length - 1 - k]? <;> rfl
end Go.Proofs.YtmbboianghbjkaaDoor

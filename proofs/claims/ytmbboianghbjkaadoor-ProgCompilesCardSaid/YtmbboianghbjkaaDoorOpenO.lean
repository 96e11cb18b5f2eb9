import Derived.Test.YtmbboianghbjkaaDoorCardKit
import Derived.Test.YtmbboianghbjkaaDoorRefC
import Derived.ChangeArms
import Derived.DataReads
import Derived.Deep.Slices
import Derived.SizedLaws
import Derived.Lib.SmallJoins
namespace Go.Proofs.YtmbboianghbjkaaDoor
open Go.RowKit Go.ChangeShapes Go.WideShapes Go.Deep
set_option linter.unusedVariables false
set_option maxRecDepth 100000

/-! what came in, opened into this repo's own readings -/
theorem cell_spotO {w : World} {a : Addr} {v : Value} (h : w.cell? a = some v) : a.spot = none := by
  unfold World.cell? at h
  split at h
  · by_cases hs : a.spot.isSome = true
    · simp [hs] at h
    · cases e : a.spot with
      | none => rfl
      | some x => simp [e] at hs
  · cases h
def LiesO (w : World) (b o : Nat) (cs : List Value) : Prop := ∀ i u, cs[i]? = some u → ∀ w', Below w.heap.size w w' → w'.cell? ⟨b, o + i, none⟩ = some u
section
variable {H : Type} {enc : TypeId × Value → H} {P : Program} {w : World} {base : Nat} {spare : Nat → Bool} {held : Bool}
theorem mem_weightsAllO {P : Program} {e : TypeId} {d : DataW H} {ds : List (DataW H)} (h : d ∈ ds) {n : Nat} (hn : n ∈ d.weights P e) : n ∈ DataW.weightsAll P e ds := by
  induction ds with
  | nil => cases h
  | cons x r ih =>
    rw [DataW.weightsAll, List.mem_append]
    rcases List.mem_cons.1 h with rfl | h
    · exact .inl hn
    · exact .inr (ih h)
/-- Whatever reads as data of type t: wherever its cells lie, At holds. -/
def OpnO (enc : TypeId × Value → H) (P : Program) (w : World) (base : Nat) (spare : Nat → Bool) (held : Bool) (t : TypeId) {α : Type} (At : Nat → Nat → α → Prop) (ok : α → Prop) : Prop :=
  ∀ fuel cs x, DataW.trod enc P w base spare held fuel t cs = some x → (∀ n ∈ x.1.weights P t, n ≤ reachBytes) → ∃ a, ok a ∧ ∀ b o, LiesO w b o cs → At b o a
theorem opnO_slice {t e : TypeId} {α : Type} {At : Nat → Nat → α → Prop} {ok : α → Prop} (ht : P.underlying t = some (.slice e)) (he : OpnO enc P w base spare held e At ok) {fuel : Nat} {cs : List Value} {x : DataW H × List MemPlace}
    (h : DataW.trod enc P w base spare held fuel t cs = some x) (hwt : ∀ n ∈ x.1.weights P t, n ≤ reachBytes) (h0 : 0 < P.cellsOf e) :
    ∃ v l, cs = [v] ∧ Sl At (P.cellsOf e) v l ∧ l.length * P.bytesOf e ≤ reachBytes ∧ ∀ x ∈ l, ok x := by
  rcases open_slice ht h with ⟨rfl, _⟩ | ⟨a, len, cap, m, n, D, Pl, rfl, hb, hl, hm, hmm, rfl, hx⟩
  · exact ⟨_, [], rfl, ⟨none, 0, rfl, Nat.le_refl _, by simp, fun h => absurd h (by simp)⟩, by simp, fun x hx => by cases hx⟩
  · have hlm : len ≤ m := by rw [hmm]; split <;> omega
    simp only [DataW.weights, ht, List.mem_cons, List.mem_append] at hwt
    have hbig := hwt _ (.inl rfl)
    simp only [List.length_map, List.length_range] at hbig
    have hel : ∀ i, i < len → ∀ z ∈ (D i).weights P e, z ≤ reachBytes := fun i hi z hz => hwt z (.inr (.inl (mem_weightsAllO (List.mem_map.2 ⟨i, List.mem_range.2 hi, rfl⟩) hz)))
    have hspot : 0 < len → a.spot = none := fun hp => by
      obtain ⟨c, h3, _⟩ := hx 0 (by omega)
      obtain ⟨_, hlen, hcell⟩ := World.cells?_some h3
      have h5 := hcell 0 h0
      obtain ⟨u, hu⟩ : ∃ u, c[0]? = some u := ⟨c[0]'(by omega), List.getElem?_eq_getElem (by omega)⟩
      rw [Go.Deep.add_add, hu] at h5
      simp only [Nat.zero_mul, Nat.add_zero] at h5
      have h6 := cell_spotO h5
      unfold Addr.add at h6
      simpa using h6
    have each : ∀ i, i < len → ∃ y : α, ok y ∧ At a.block (a.off + i * P.cellsOf e) y := fun i hi => by
      obtain ⟨c, h1, h2⟩ := hx i (by omega)
      obtain ⟨y, h3, h4⟩ := he _ _ _ h2 (hel i hi)
      obtain ⟨_, hlen, hcell⟩ := World.cells?_some h1
      have hsp := hspot (by omega)
      refine ⟨y, h3, h4 _ _ fun j u hu w' hw => ?_⟩
      have hj : j < c.length := (List.getElem?_eq_some_iff.1 hu).1
      have h5 := hcell j (by omega)
      rw [Go.Deep.add_add, hu] at h5
      obtain ⟨ab, ao, asp⟩ := a
      simp only at hsp
      subst hsp
      rw [Go.Proofs.YtmbboianghbjkaaDoor.addr_add] at h5
      have := cell_ext h5 w' hw
      rwa [← Nat.add_assoc] at this
    have hl2 : ∀ n, n ≤ len → ∃ l : List α, l.length = n ∧ ∀ j (hj : j < l.length), ok l[j] ∧ At a.block (a.off + j * P.cellsOf e) l[j] := by
      intro n
      induction n with
      | zero => exact fun _ => ⟨[], rfl, fun j h => absurd h (by simp)⟩
      | succ n ih =>
        intro hn
        obtain ⟨l, h1, h2⟩ := ih (by omega)
        obtain ⟨y, h4, h5⟩ := each n (by omega)
        refine ⟨l ++ [y], by simp [h1], fun j hj => ?_⟩
        by_cases hjl : j < l.length
        · rw [List.getElem_append_left hjl]
          exact h2 j hjl
        · have : j = l.length := by simp at hj; omega
          subst this
          rw [List.getElem_append_right (Nat.le_refl _)]
          simp only [Nat.sub_self, List.getElem_cons_zero]
          rw [h1]
          exact ⟨h4, h5⟩
    obtain ⟨l, h1, h2⟩ := hl2 len (Nat.le_refl _)
    refine ⟨_, l, rfl, ?_, ?_, fun x hx => ?_⟩
    · refine ⟨some a, cap, by rw [h1], by omega, by unfold maxLen at hm; omega, fun hp => ?_⟩
      have hsp := hspot (by omega)
      obtain ⟨ab, ao, asp⟩ := a
      simp only at hsp
      subst hsp
      exact ⟨ab, ao, rfl, fun k hk => (h2 k hk).2⟩
    · rw [h1]; exact Nat.le_trans (Nat.mul_le_mul_right _ (by omega)) hbig
    · obtain ⟨j, hj, rfl⟩ := List.mem_iff_getElem.1 hx
      exact (h2 j hj).1
end
section
variable {H : Type} {enc : TypeId × Value → H} {w : World} {base : Nat} {spare : Nat → Bool} {held : Bool}
theorem coInt : Tryd.prog.cellsOf 3 = 1 := by kernel_rfl
theorem coBool : Tryd.prog.cellsOf 4 = 1 := by kernel_rfl
theorem coI32 : Tryd.prog.cellsOf 21 = 1 := by kernel_rfl
theorem coInts : Tryd.prog.cellsOf 74 = 1 := by kernel_rfl
theorem coRanges : Tryd.prog.cellsOf 45 = 1 := by kernel_rfl
theorem coRange : Tryd.prog.cellsOf 96 = 2 := by kernel_rfl
theorem coString : Tryd.prog.cellsOf 9 = 1 := by kernel_rfl
theorem coNode : Tryd.prog.cellsOf 80 = 8 := by kernel_rfl
theorem boRange : Tryd.prog.bytesOf 96 = 8 := by kernel_rfl
theorem boInt : Tryd.prog.bytesOf 3 = 8 := by kernel_rfl
theorem boString : Tryd.prog.bytesOf 9 = 16 := by kernel_rfl
theorem boNode : Tryd.prog.bytesOf 80 = 96 := by kernel_rfl
theorem i32ok_of {n : Int} (h : (Lit.int .i32 n).wf = true) : i32ok n := by
  simp [Lit.wf, IntKind.min, IntKind.max, IntKind.bits, IntKind.signed] at h
  unfold i32ok
  omega
theorem opnO_int : OpnO enc Tryd.prog w base spare held 3 (IntAt w.heap.size w) (fun _ => True) := fun fuel cs x h hwt => by
  obtain ⟨n, rfl, _, hn⟩ := DataW.trod_int Tryd.underlying3 h
  exact ⟨n, trivial, fun b o hl => ⟨fun w' hw => hl 0 _ rfl w' hw⟩⟩
theorem opnO_str : OpnO enc Tryd.prog w base spare held 9 (StrAt w.heap.size w) (fun s => s.size ≤ reachBytes) := fun fuel cs x h hwt => by
  obtain ⟨n, rfl, e, hn⟩ := DataW.trod_string Tryd.underlying9 h
  subst e
  refine ⟨n, ?_, fun b o hl => ⟨fun w' hw => hl 0 _ rfl w' hw⟩⟩
  have := hwt n.data.toList.length (by simp [DataW.weights])
  rwa [Array.length_toList] at this
theorem opnO_range : OpnO enc Tryd.prog w base spare held 96 (RngAt w.heap.size w) (fun r => i32ok r.1 ∧ i32ok r.2) := fun fuel cs x h hwt => by
  obtain ⟨xs, n, _, rfl, hl, hlen, hf⟩ := DataW.trod_struct Tryd.underlying96 h
  rw [coRange] at hl
  match cs, hl, xs, hlen with
  | [c0, c1], _, [y0, y1], _ =>
    have f0 := hf 0 _ rfl
    have f1 := hf 1 _ rfl
    simp [coI32] at f0 f1
    obtain ⟨n0, e0, _, w0⟩ := DataW.trod_int Tryd.underlying21 f0
    obtain ⟨n1, e1, _, w1⟩ := DataW.trod_int Tryd.underlying21 f1
    simp only [List.cons.injEq, and_true] at e0 e1
    subst e0 e1
    exact ⟨(n0, n1), ⟨i32ok_of w0, i32ok_of w1⟩, fun b o hl => ⟨fun w' hw => hl 0 _ rfl w' hw, fun w' hw => hl 1 _ rfl w' hw⟩⟩
def nodeOkO (n : Node) : Prop := (n.set.length * 8 ≤ reachBytes ∧ rngsOk' n.set) ∧ n.kids.length * 8 ≤ reachBytes
theorem opnO_node : OpnO enc Tryd.prog w base spare held 80 (NodeAt w.heap.size w) nodeOkO := fun fuel cs x h hwt => by
  obtain ⟨xs, n, _, rfl, hl, hlen, hf⟩ := DataW.trod_struct Tryd.underlying80 h
  rw [coNode] at hl
  match cs, hl, xs, hlen with
  | [c0, c1, c2, c3, c4, c5, c6, c7], _, [y0, y1, y2, y3, y4, y5, y6, y7], _ =>
    have f0 := hf 0 _ rfl
    have f1 := hf 1 _ rfl
    have f2 := hf 2 _ rfl
    have f3 := hf 3 _ rfl
    have f4 := hf 4 _ rfl
    have f5 := hf 5 _ rfl
    have f6 := hf 6 _ rfl
    have f7 := hf 7 _ rfl
    simp [coInt, coBool, coInts, coRanges] at f0 f1 f2 f3 f4 f5 f6 f7
    obtain ⟨n0, e0, _, _⟩ := DataW.trod_int Tryd.underlying3 f0
    obtain ⟨v1, l1, e1, s1, b1, o1⟩ := opnO_slice Tryd.underlying45 opnO_range f1 (fun n hn => hwt n (by simp [DataW.weights, Tryd.underlying80, DataW.weightsEach, hn])) (by rw [coRange]; omega)
    obtain ⟨v2, l2, e2, s2, b2, o2⟩ := opnO_slice Tryd.underlying74 opnO_int f2 (fun n hn => hwt n (by simp [DataW.weights, Tryd.underlying80, DataW.weightsEach, hn])) (by rw [coInt]; omega)
    obtain ⟨n3, e3, _, _⟩ := DataW.trod_int Tryd.underlying3 f3
    obtain ⟨n4, e4, _, _⟩ := DataW.trod_int Tryd.underlying3 f4
    obtain ⟨n5, e5, _⟩ := DataW.trod_bool Tryd.underlying4 f5
    obtain ⟨n6, e6, _, _⟩ := DataW.trod_int Tryd.underlying3 f6
    obtain ⟨n7, e7, _, _⟩ := DataW.trod_int Tryd.underlying3 f7
    simp only [List.cons.injEq, and_true] at e0 e1 e2 e3 e4 e5 e6 e7
    subst e0 e1 e2 e3 e4 e5 e6 e7
    rw [boRange] at b1
    rw [boInt] at b2
    rw [coRange] at s1
    rw [coInt] at s2
    exact ⟨⟨n0, l1, l2, n3, n4, n5, n6, n7⟩, ⟨⟨b1, o1⟩, b2⟩, fun b o hl => ⟨fun w' hw => hl 0 _ rfl w' hw, ⟨_, fun w' hw => hl 1 _ rfl w' hw, s1⟩, ⟨_, fun w' hw => hl 2 _ rfl w' hw, s2⟩, fun w' hw => hl 3 _ rfl w' hw, fun w' hw => hl 4 _ rfl w' hw, fun w' hw => hl 5 _ rfl w' hw, fun w' hw => hl 6 _ rfl w' hw, fun w' hw => hl 7 _ rfl w' hw⟩⟩
/-- A tree that came in. -/
theorem open_treeO {r : Reach} {b0 : Nat} {v : Value} {d : DataW H} {p : List MemPlace} (hv : Value.okWide Tryd.prog w r b0 35 v) (h : DataW.Trod enc Tryd.prog w base spare held 35 v d p) (hwt : ∀ n ∈ d.weights Tryd.prog 35, n ≤ reachBytes) :
    ∃ (nv sv : Value) (t : Tree), v = .agg #[nv, sv, .bool t.raw] ∧ TreeV w.heap.size w nv sv t ∧ t.nodes.length * 96 ≤ reachBytes ∧ (∀ n ∈ t.nodes, nodeOkO n) ∧ t.names.length * 16 ≤ reachBytes ∧ ∀ x ∈ t.names, x.size ≤ reachBytes := by
  obtain ⟨v0, v1, v2, y0, y1, y2, n, rfl, rfl, _, h0, h1, h2⟩ := Joins.open_agg3 Tryd.underlying35 (by kernel_rfl) (by kernel_rfl) hv h
  obtain ⟨w0, l0, e0, s0, b0, o0⟩ := opnO_slice (enc := enc) Tryd.underlying32 opnO_node h0 (fun n hn => hwt n (by simp [DataW.weights, Tryd.underlying35, DataW.weightsEach, hn])) (by rw [coNode]; omega)
  obtain ⟨w1, l1, e1, s1, b1, o1⟩ := opnO_slice (enc := enc) Tryd.underlying33 opnO_str h1 (fun n hn => hwt n (by simp [DataW.weights, Tryd.underlying35, DataW.weightsEach, hn])) (by rw [coString]; omega)
  obtain ⟨raw, e2, _⟩ := DataW.trod_bool Tryd.underlying4 h2
  simp only [List.cons.injEq, and_true] at e0 e1 e2
  subst e0 e1 e2
  rw [boNode] at b0
  rw [boString] at b1
  rw [coNode] at s0
  rw [coString] at s1
  exact ⟨_, _, ⟨l0, l1, raw⟩, rfl, ⟨s0, s1⟩, b0, o0, b1, o1⟩
end
end Go.Proofs.YtmbboianghbjkaaDoor

import Derived.Test.YtmbboianghbjkaaDoorBack
namespace Go.Proofs.YtmbboianghbjkaaDoor
open Go.RowKit Go.Shelf

def mark (D : Nat) : Deferred := { target := .collected D, args := #[] }
def MarksAt (ds : List Nat) (w : World) : Prop := ∀ D, D ∈ ds → w.heap[D]? = some (.deferred (some []))
theorem leaves_marks {P : Program} {fn : Func} {tmps : Array Value} {R : Ending → World → Prop} {n B : Nat} {v : Value} : ∀ (ds : List Nat) (w : World), MarksAt ds w → ds.Nodup → (∀ D ∈ ds, B ≤ D) →
    (∀ W', (results fn tmps).run P W' = .ok v W') → (∀ W', Below B w W' → R (.returned v) W') → LeavesInM Fence.wide n P fn tmps R (ds.map mark) .returning w
  | [], w, _, _, _, hr, hR => ⟨v, hr w, hR w (Below.refl _ _)⟩
  | D :: ds, w, hm, hn, hB, hr, hR => by
    have hD := hm D (by simp)
    have hlt : D < w.heap.size := (Array.getElem?_eq_some_iff.1 hD).1
    refine ⟨by simp, .inl ⟨D, _, rfl, run_takeDeferred hD, ?_⟩⟩
    refine leaves_marks ds _ (fun E hE => ?_) (List.nodup_cons.1 hn).2 (fun E hE => hB E (by simp [hE])) hr (fun W' h => hR W' (?_))
    · have hne : E ≠ D := fun e => (List.nodup_cons.1 hn).1 (e ▸ hE)
      rw [World.putObj_heap_other hne]
      exact hm E (by simp [hE])
    · have h1 : Below B w (w.putObj D (.deferred none)) := ⟨rfl, rfl, rfl, by simp, fun k hk => World.putObj_heap_other (by have := hB D (by simp); omega)⟩
      exact h1.trans h
theorem post_marks {P : Program} {fn : Func} {R : Ending → World → Prop} {a : Act} {w : World} {v : Value} {n : Nat} (ds : List Nat) (B : Nat) (hd : a.defers = ds.map mark) (hm : MarksAt ds w) (hn : ds.Nodup) (hB : ∀ D ∈ ds, B ≤ D)
    (hr : ∀ W', (results fn a.tmps).run P W' = .ok v W') (hR : ∀ W', Below B w W' → R (.returned v) W') : bodyPostM Fence.wide n P fn R .ret a w := by
  show LeavesInM Fence.wide n P fn a.tmps R a.defers .returning w
  rw [hd]
  exact leaves_marks ds w hm hn hB hr hR
theorem post_marks1 {P : Program} {fn : Func} {R : Ending → World → Prop} {a : Act} {w : World} {v : Value} {n : Nat} {t : Tmp} (hres : fn.results = #[.tmp t]) (hv : a.tmps.getD t undef = v) (ds : List Nat) (B : Nat) (hd : a.defers = ds.map mark) (hm : MarksAt ds w) (hn : ds.Nodup) (hB : ∀ D ∈ ds, B ≤ D)
    (hR : ∀ W', Below B w W' → R (.returned v) W') : bodyPostM Fence.wide n P fn R .ret a w :=
  post_marks ds B hd hm hn hB (fun W' => by rw [results_tmp hres, hv]) hR
/-- A function whose body ranges over functions. -/
theorem calls_of_wp_marks {P : Program} {f : FuncId} {fn : Func} {c : Code} {args : Array Value} {w : World} {R : Ending → World → Prop} (hf : P.funcs[f]? = some fn) (hb : fn.body = some c)
    (h : c.wp P (bodyPostM Fence.wide 9 P fn R) { tmps := args ++ Array.replicate (fn.ntmps - args.size) undef, defers := [] } w) : Calls P f args w R :=
  (callsIn_wide (n := 9)).1 (callsIn_of_wp_marks hf hb trivial ((wpIn_wide (n := 9)).2 h))
theorem MarksAt.below {ds : List Nat} {w w' : World} (h : MarksAt ds w) (hk : ∀ D, D ∈ ds → w'.heap[D]? = w.heap[D]?) : MarksAt ds w' := fun D hD => (hk D hD).trans (h D hD)
end Go.Proofs.YtmbboianghbjkaaDoor

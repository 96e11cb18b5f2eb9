import Derived.Test.YtmbboianghbjkaaDoorPProgChecksx0
import Derived.Test.YtmbboianghbjkaaDoorOpens
import Derived.Lib.SmallJoins
namespace Go.Proofs.YtmbboianghbjkaaDoor
namespace PProgChecks
open Go.RowKit Go.ChangeShapes Go.WideShapes Go.Proofs.YtmbboianghbjkaaDoorW.PrintWords Go.Deep
set_option linter.unusedVariables false
set_option maxRecDepth 100000

/-! The program's own types, opened. -/
section
variable {H : Type} {enc : TypeId × Value → H} {w : World} {base : Nat} {spare : Nat → Bool} {held : Bool}
theorem cInt : Tryd.prog.cellsOf 3 = 1 := by kernel_rfl
theorem cBool : Tryd.prog.cellsOf 4 = 1 := by kernel_rfl
theorem cI32 : Tryd.prog.cellsOf 21 = 1 := by kernel_rfl
theorem cInts : Tryd.prog.cellsOf 74 = 1 := by kernel_rfl
theorem cRanges : Tryd.prog.cellsOf 45 = 1 := by kernel_rfl
theorem cRange : Tryd.prog.cellsOf 96 = 2 := by kernel_rfl
theorem cInst : Tryd.prog.cellsOf 47 = 5 := by kernel_rfl
def i64ok (n : Int) : Prop := -9223372036854775808 ≤ n ∧ n ≤ 9223372036854775807
def i32ok (n : Int) : Prop := -2147483648 ≤ n ∧ n ≤ 2147483647
theorem i64ok_wf {n : Int} (h : (Lit.int .i64 n).wf = true) : i64ok n := by
  simp [Lit.wf, IntKind.min, IntKind.max, IntKind.bits, IntKind.signed] at h
  unfold i64ok
  omega
theorem i32ok_wf {n : Int} (h : (Lit.int .i32 n).wf = true) : i32ok n := by
  simp [Lit.wf, IntKind.min, IntKind.max, IntKind.bits, IntKind.signed] at h
  unfold i32ok
  omega
def rngOk (r : S96) : Prop := i32ok r.f0 ∧ i32ok r.f1
theorem opens_range : Opens enc Tryd.prog w base spare held 96 k96 rngOk := fun fuel cs x h hwt => by
  obtain ⟨xs, n, _, rfl, hl, hlen, hf⟩ := DataW.trod_struct Tryd.underlying96 h
  rw [cRange] at hl
  match cs, hl, xs, hlen with
  | [c0, c1], _, [y0, y1], _ =>
    have f0 := hf 0 _ rfl
    have f1 := hf 1 _ rfl
    simp [cI32] at f0 f1
    obtain ⟨a0, h0, g0⟩ := opens_int (enc := enc) Tryd.underlying21 _ _ _ f0 (fun n hn => hwt n (by simp [DataW.weights, Tryd.underlying96, DataW.weightsEach, hn]))
    obtain ⟨a1, h1, g1⟩ := opens_int (enc := enc) Tryd.underlying21 _ _ _ f1 (fun n hn => hwt n (by simp [DataW.weights, Tryd.underlying96, DataW.weightsEach, hn]))
    exact ⟨⟨a0, a1⟩, ⟨[c0], [c1], rfl, h0, h1⟩, i32ok_wf g0, i32ok_wf g1⟩
def rngsOk (l : List S96) : Prop := l.length * Tryd.prog.bytesOf 96 ≤ reachBytes ∧ ∀ x ∈ l, rngOk x
theorem opens_ranges : Opens enc Tryd.prog w base spare held 45 (Kd.slice 96 k96) rngsOk := opens_slice _ Tryd.underlying45 cRange opens_range
def instOk (r : S47) : Prop := i64ok r.f0 ∧ rngsOk r.f1 ∧ i64ok r.f2 ∧ i64ok r.f3 ∧ i64ok r.f4
theorem opens_inst : Opens enc Tryd.prog w base spare held 47 k47 instOk := fun fuel cs x h hwt => by
  obtain ⟨xs, n, _, rfl, hl, hlen, hf⟩ := DataW.trod_struct Tryd.underlying47 h
  rw [cInst] at hl
  match cs, hl, xs, hlen with
  | [c0, c1, c2, c3, c4], _, [y0, y1, y2, y3, y4], _ =>
    have f0 := hf 0 _ rfl
    have f1 := hf 1 _ rfl
    have f2 := hf 2 _ rfl
    have f3 := hf 3 _ rfl
    have f4 := hf 4 _ rfl
    simp [cInt, cRanges] at f0 f1 f2 f3 f4
    obtain ⟨a0, h0, g0⟩ := opens_int (enc := enc) Tryd.underlying3 _ _ _ f0 (fun n hn => hwt n (by simp [DataW.weights, Tryd.underlying47, DataW.weightsEach, hn]))
    obtain ⟨a1, h1, g1⟩ := opens_ranges (enc := enc) _ _ _ f1 (fun n hn => hwt n (by simp [DataW.weights, Tryd.underlying47, DataW.weightsEach, hn]))
    obtain ⟨a2, h2, g2⟩ := opens_int (enc := enc) Tryd.underlying3 _ _ _ f2 (fun n hn => hwt n (by simp [DataW.weights, Tryd.underlying47, DataW.weightsEach, hn]))
    obtain ⟨a3, h3, g3⟩ := opens_int (enc := enc) Tryd.underlying3 _ _ _ f3 (fun n hn => hwt n (by simp [DataW.weights, Tryd.underlying47, DataW.weightsEach, hn]))
    obtain ⟨a4, h4, g4⟩ := opens_int (enc := enc) Tryd.underlying3 _ _ _ f4 (fun n hn => hwt n (by simp [DataW.weights, Tryd.underlying47, DataW.weightsEach, hn]))
    exact ⟨⟨a0, a1, a2, a3, a4⟩, ⟨[c0], [c1, c2, c3, c4], rfl, h0, ⟨[c1], [c2, c3, c4], rfl, h1, ⟨[c2], [c3, c4], rfl, h2, ⟨[c3], [c4], rfl, h3, h4⟩⟩⟩⟩, i64ok_wf g0, g1, i64ok_wf g2, i64ok_wf g3, i64ok_wf g4⟩
def instsOk (l : List S47) : Prop := l.length * Tryd.prog.bytesOf 47 ≤ reachBytes ∧ ∀ x ∈ l, instOk x
theorem opens_insts : Opens enc Tryd.prog w base spare held 39 (Kd.slice 47 k47) instsOk := opens_slice _ Tryd.underlying39 cInst opens_inst
def strsOk (l : List ByteArray) : Prop := l.length * Tryd.prog.bytesOf 9 ≤ reachBytes ∧ ∀ x ∈ l, x.size ≤ reachBytes
theorem opens_strs : Opens enc Tryd.prog w base spare held 33 (Kd.slice 9 Kd.string) strsOk := opens_slice _ Tryd.underlying33 (by kernel_rfl) (opens_string Tryd.underlying9)
/-- A program that came in. -/
theorem open_prog {r : Reach} {b0 : Nat} {v : Value} {d : DataW H} {p : List MemPlace} (hv : Value.okWide Tryd.prog w r b0 41 v) (h : DataW.Trod enc Tryd.prog w base spare held 41 v d p) (hwt : ∀ n ∈ d.weights Tryd.prog 41, n ≤ reachBytes) :
    ∃ (A0 : Option Addr) (c0 : Nat) (l0 : List S47) (A1 : Option Addr) (c1 : Nat) (l1 : List ByteArray) (raw : Bool), v = .agg #[.slice A0 l0.length c0, .slice A1 l1.length c1, .bool raw] ∧ l0.length ≤ c0 ∧ l1.length ≤ c1 ∧ Kd.C k47 w A0 l0.length l0 ∧ Kd.C Kd.string w A1 l1.length l1 ∧ instsOk l0 ∧ strsOk l1 := by
  obtain ⟨v0, v1, v2, y0, y1, y2, n, rfl, rfl, _, h0, h1, h2⟩ := Joins.open_agg3 Tryd.underlying41 (by kernel_rfl) (by kernel_rfl) hv h
  obtain ⟨l0, ⟨A0, c0, e0, k0, C0⟩, g0⟩ := opens_insts (enc := enc) _ _ _ h0 (fun n hn => hwt n (by simp [DataW.weights, Tryd.underlying41, DataW.weightsEach, hn]))
  obtain ⟨l1, ⟨A1, c1, e1, k1, C1⟩, g1⟩ := opens_strs (enc := enc) _ _ _ h1 (fun n hn => hwt n (by simp [DataW.weights, Tryd.underlying41, DataW.weightsEach, hn]))
  obtain ⟨raw, e2, _⟩ := DataW.trod_bool Tryd.underlying4 h2
  simp only [List.cons.injEq, and_true] at e0 e1 e2
  subst e0 e1 e2
  exact ⟨A0, c0, l0, A1, c1, l1, raw, rfl, k0, k1, C0, C1, g0, g1⟩
end
end PProgChecks
end Go.Proofs.YtmbboianghbjkaaDoor

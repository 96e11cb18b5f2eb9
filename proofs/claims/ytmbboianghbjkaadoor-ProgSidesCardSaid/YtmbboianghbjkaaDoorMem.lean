import Derived.Below
import Derived.WalkKit
import Derived.OwnWalk
import Derived.KernelRfl
import Derived.RowKit3
import Derived.LoopTactic
import Derived.Outline
import Derived.Deep.QuietTactic
import Derived.BigQuiet
import Derived.WideLaws
import Derived.WalkSpells
import Derived.WalkLawsBesides
import Derived.Lib.Hide
import Derived.Deep.LoopGhost
import Derived.Deep.DeepCutAuto
import Derived.Deep.DeepFit
import Derived.Deep.RegionHeld3
import Derived.StillTailTactics
namespace Go.Proofs.YtmbboianghbjkaaDoor
open Go.RowKit

theorem bl_refl (B : Nat) (w : World) : Below B w w ↔ True := iff_true_intro (Below.refl B w)
theorem bl_alloc {B : Nat} {w0 w : World} {o : Obj} (h : Below B w0 w) (hB : B ≤ w.heap.size) : Below B w0 (w.alloc o) ↔ True := iff_true_intro (h.alloc hB o)
theorem bl_set {B : Nat} {w0 w : World} {p : Addr} {v : Value} (h : Below B w0 w) (hB : B ≤ p.block) : Below B w0 (w.setCell p v) ↔ True := iff_true_intro (h.setCell hB v)
theorem bl_drew {B : Nat} {w0 w : World} (h : Below B w0 w) : Below B w0 w.drew ↔ True := iff_true_intro h.drew
theorem bl_drewN {B : Nat} {w0 w : World} {n : Nat} (h : Below B w0 w) : Below B w0 (w.drewN n) ↔ True := iff_true_intro ⟨h.os, h.tape, h.output, h.size, h.block⟩
theorem bl_a2 {B : Nat} {w0 w : World} {o1 o2 : Obj} (h : Below B w0 w) (hB : B ≤ w.heap.size) : Below B w0 ((w.alloc o1).alloc o2) ↔ True := iff_true_intro ((h.alloc hB o1).alloc (by simp; omega) o2)
theorem bl_a3 {B : Nat} {w0 w : World} {o1 o2 o3 : Obj} (h : Below B w0 w) (hB : B ≤ w.heap.size) : Below B w0 (((w.alloc o1).alloc o2).alloc o3) ↔ True := iff_true_intro (((h.alloc hB o1).alloc (by simp; omega) o2).alloc (by simp; omega) o3)
theorem bl_a4 {B : Nat} {w0 w : World} {o1 o2 o3 o4 : Obj} (h : Below B w0 w) (hB : B ≤ w.heap.size) : Below B w0 ((((w.alloc o1).alloc o2).alloc o3).alloc o4) ↔ True := iff_true_intro ((((h.alloc hB o1).alloc (by simp; omega) o2).alloc (by simp; omega) o3).alloc (by simp; omega) o4)
theorem bl_a5 {B : Nat} {w0 w : World} {o1 o2 o3 o4 o5 : Obj} (h : Below B w0 w) (hB : B ≤ w.heap.size) : Below B w0 (((((w.alloc o1).alloc o2).alloc o3).alloc o4).alloc o5) ↔ True := iff_true_intro (((((h.alloc hB o1).alloc (by simp; omega) o2).alloc (by simp; omega) o3).alloc (by simp; omega) o4).alloc (by simp; omega) o5)
theorem below_set {B : Nat} {w0 w : World} {p : Addr} {v : Value} (h : Below B w0 w) (hB : B ≤ p.block) : Below B w0 (w.setCell p v) := h.setCell hB v
theorem le_add_r {a b k : Nat} (h : a ≤ b) : a ≤ b + k ↔ True := iff_true_intro (Nat.le_add_right_of_le h)
theorem lt_add_r {a b k : Nat} (h : a < b) : a < b + k ↔ True := iff_true_intro (Nat.lt_add_right k h)
theorem addr_add (b o n : Nat) : (⟨b, o, none⟩ : Addr).add n = ⟨b, o + n, none⟩ := by unfold Addr.add; split <;> simp_all
theorem below_drewN {B : Nat} {w0 w : World} (h : Below B w0 w) (n : Nat) : Below B w0 (w.drewN n) := ⟨h.os, h.tape, h.output, h.size, h.block⟩
theorem ext_up {B B1 : Nat} {w0 W1 : World} {P : World → Prop} (h : ∀ w', Below B w0 w' → P w') (hb : Below B w0 W1) (hB : B ≤ B1) : ∀ w', Below B1 W1 w' → P w' :=
  fun w' h1 => h w' (hb.trans (h1.mono hB))
theorem box_cell (w : World) (c : Array Value) (T : TypeId) (i : Nat) (v : Value) (hi : c[i]? = some v) : ∀ w', Below (w.heap.size + 1) (w.alloc (.cells c T)) w' → w'.cell? ⟨w.heap.size, i, none⟩ = some v :=
  fun w' h => by rw [h.cell (p := ⟨w.heap.size, i, none⟩) (by simp)]; simp [hi]
theorem grown_none {W w1 : World} (h : W.grownBy w1 none) : Below W.heap.size W w1 := (Below.refl _ _).grown h (Nat.le_refl _) (fun k e => by cases e)
theorem bcell {W w1 : World} (hb : Below W.heap.size W w1) : (∀ b o, b < W.heap.size → w1.cell? ⟨b, o, none⟩ = W.cell? ⟨b, o, none⟩) ∧ (∀ b o, b < W.heap.size → w1.frozen? ⟨b, o, none⟩ = W.frozen? ⟨b, o, none⟩) :=
  ⟨fun b o h => hb.cell (p := ⟨b, o, none⟩) h, fun b o h => hb.frozen (p := ⟨b, o, none⟩) h⟩
/-- Go's max and min of whole numbers. -/
def mxI (x y : Int) : Int := if x < y then y else x
def mnI (x y : Int) : Int := if y < x then y else x
theorem max2_i (k k' : IntKind) (x y : Int) : Builtin.max2 (.int k x) (.int k' y) = pure (.int k (mxI x y)) := by simp only [Builtin.max2, gt_iff_lt, mxI]
theorem min2_i (k k' : IntKind) (x y : Int) : Builtin.min2 (.int k x) (.int k' y) = pure (.int k (mnI x y)) := by simp only [Builtin.min2, mnI]
theorem max_2 (ats : Array TypeId) (ty : TypeId) (a b : Value) : Builtin.max_ ats ty #[a, b] = (Builtin.max2 a b >>= fun s => pure s) := by simp only [Builtin.max_, List.foldlM_cons, List.foldlM_nil]
theorem min_2 (ats : Array TypeId) (ty : TypeId) (a b : Value) : Builtin.min_ ats ty #[a, b] = (Builtin.min2 a b >>= fun s => pure s) := by simp only [Builtin.min_, List.foldlM_cons, List.foldlM_nil]
end Go.Proofs.YtmbboianghbjkaaDoor

import Derived.Below
import Derived.WalkKit
import Derived.OwnWalk
import Derived.KernelRfl
import Derived.RowKit3
import Derived.LoopTactic
import Derived.Outline
import Derived.Deep.QuietTactic
import Derived.BigQuiet
import Derived.WideLaws
import Derived.WalkSpells
import Derived.WalkLawsBesides
import Derived.Lib.Hide
import Derived.Deep.LoopGhost
import Derived.Deep.DeepCutAuto
import Derived.Deep.DeepFit
import Derived.Deep.RegionHeld3
import Derived.StillTailTactics
import Derived.Test.YtmbboianghbjkaaDoorProg
import Derived.RangeFuncNested
import Derived.RangeFuncBound
import Derived.RangeFuncCalls
import Derived.RangeFuncLeaves
import Derived.RangeFuncBox
import Derived.Shelf.Abstract
import Derived.Shelf.RegionOpen
import Derived.OwnWalkIn
import Derived.TacticsInMore
import Derived.LoopNIn
import Derived.LoopIn
-- part Mem
namespace Go.Proofs.YtmbboianghbjkaaDoor
open Go.RowKit

theorem bl_refl (B : Nat) (w : World) : Below B w w ↔ True := iff_true_intro (Below.refl B w)
theorem bl_alloc {B : Nat} {w0 w : World} {o : Obj} (h : Below B w0 w) (hB : B ≤ w.heap.size) : Below B w0 (w.alloc o) ↔ True := iff_true_intro (h.alloc hB o)
theorem bl_set {B : Nat} {w0 w : World} {p : Addr} {v : Value} (h : Below B w0 w) (hB : B ≤ p.block) : Below B w0 (w.setCell p v) ↔ True := iff_true_intro (h.setCell hB v)
theorem bl_drew {B : Nat} {w0 w : World} (h : Below B w0 w) : Below B w0 w.drew ↔ True := iff_true_intro h.drew
theorem bl_drewN {B : Nat} {w0 w : World} {n : Nat} (h : Below B w0 w) : Below B w0 (w.drewN n) ↔ True := iff_true_intro ⟨h.os, h.tape, h.output, h.size, h.block⟩
theorem bl_a2 {B : Nat} {w0 w : World} {o1 o2 : Obj} (h : Below B w0 w) (hB : B ≤ w.heap.size) : Below B w0 ((w.alloc o1).alloc o2) ↔ True := iff_true_intro ((h.alloc hB o1).alloc (by simp; omega) o2)
theorem bl_a3 {B : Nat} {w0 w : World} {o1 o2 o3 : Obj} (h : Below B w0 w) (hB : B ≤ w.heap.size) : Below B w0 (((w.alloc o1).alloc o2).alloc o3) ↔ True := iff_true_intro (((h.alloc hB o1).alloc (by simp; omega) o2).alloc (by simp; omega) o3)
theorem bl_a4 {B : Nat} {w0 w : World} {o1 o2 o3 o4 : Obj} (h : Below B w0 w) (hB : B ≤ w.heap.size) : Below B w0 ((((w.alloc o1).alloc o2).alloc o3).alloc o4) ↔ True := iff_true_intro ((((h.alloc hB o1).alloc (by simp; omega) o2).alloc (by simp; omega) o3).alloc (by simp; omega) o4)
theorem bl_a5 {B : Nat} {w0 w : World} {o1 o2 o3 o4 o5 : Obj} (h : Below B w0 w) (hB : B ≤ w.heap.size) : Below B w0 (((((w.alloc o1).alloc o2).alloc o3).alloc o4).alloc o5) ↔ True := iff_true_intro (((((h.alloc hB o1).alloc (by simp; omega) o2).alloc (by simp; omega) o3).alloc (by simp; omega) o4).alloc (by simp; omega) o5)
theorem below_set {B : Nat} {w0 w : World} {p : Addr} {v : Value} (h : Below B w0 w) (hB : B ≤ p.block) : Below B w0 (w.setCell p v) := h.setCell hB v
theorem le_add_r {a b k : Nat} (h : a ≤ b) : a ≤ b + k ↔ True := iff_true_intro (Nat.le_add_right_of_le h)
theorem lt_add_r {a b k : Nat} (h : a < b) : a < b + k ↔ True := iff_true_intro (Nat.lt_add_right k h)
theorem addr_add (b o n : Nat) : (⟨b, o, none⟩ : Addr).add n = ⟨b, o + n, none⟩ := by unfold Addr.add; split <;> simp_all
theorem below_drewN {B : Nat} {w0 w : World} (h : Below B w0 w) (n : Nat) : Below B w0 (w.drewN n) := ⟨h.os, h.tape, h.output, h.size, h.block⟩
theorem ext_up {B B1 : Nat} {w0 W1 : World} {P : World → Prop} (h : ∀ w', Below B w0 w' → P w') (hb : Below B w0 W1) (hB : B ≤ B1) : ∀ w', Below B1 W1 w' → P w' :=
  fun w' h1 => h w' (hb.trans (h1.mono hB))
theorem box_cell (w : World) (c : Array Value) (T : TypeId) (i : Nat) (v : Value) (hi : c[i]? = some v) : ∀ w', Below (w.heap.size + 1) (w.alloc (.cells c T)) w' → w'.cell? ⟨w.heap.size, i, none⟩ = some v :=
  fun w' h => by rw [h.cell (p := ⟨w.heap.size, i, none⟩) (by simp)]; simp [hi]
theorem grown_none {W w1 : World} (h : W.grownBy w1 none) : Below W.heap.size W w1 := (Below.refl _ _).grown h (Nat.le_refl _) (fun k e => by cases e)
theorem bcell {W w1 : World} (hb : Below W.heap.size W w1) : (∀ b o, b < W.heap.size → w1.cell? ⟨b, o, none⟩ = W.cell? ⟨b, o, none⟩) ∧ (∀ b o, b < W.heap.size → w1.frozen? ⟨b, o, none⟩ = W.frozen? ⟨b, o, none⟩) :=
  ⟨fun b o h => hb.cell (p := ⟨b, o, none⟩) h, fun b o h => hb.frozen (p := ⟨b, o, none⟩) h⟩
/-- Go's max and min of whole numbers. -/
def mxI (x y : Int) : Int := if x < y then y else x
def mnI (x y : Int) : Int := if y < x then y else x
theorem max2_i (k k' : IntKind) (x y : Int) : Builtin.max2 (.int k x) (.int k' y) = pure (.int k (mxI x y)) := by simp only [Builtin.max2, gt_iff_lt, mxI]
theorem min2_i (k k' : IntKind) (x y : Int) : Builtin.min2 (.int k x) (.int k' y) = pure (.int k (mnI x y)) := by simp only [Builtin.min2, mnI]
theorem max_2 (ats : Array TypeId) (ty : TypeId) (a b : Value) : Builtin.max_ ats ty #[a, b] = (Builtin.max2 a b >>= fun s => pure s) := by simp only [Builtin.max_, List.foldlM_cons, List.foldlM_nil]
theorem min_2 (ats : Array TypeId) (ty : TypeId) (a b : Value) : Builtin.min_ ats ty #[a, b] = (Builtin.min2 a b >>= fun s => pure s) := by simp only [Builtin.min_, List.foldlM_cons, List.foldlM_nil]
end Go.Proofs.YtmbboianghbjkaaDoor

-- part Data
namespace Go.Proofs.YtmbboianghbjkaaDoor
open Go.RowKit

/-! What lies in memory as data: facts that hold in every world that is as w0 was below block B. -/
structure Node where
  op : Int
  set : List (Int × Int)
  kids : List Int
  min : Int
  max : Int
  lzy : Bool
  group : Int
  look : Int
structure Tree where
  nodes : List Node
  names : List ByteArray
  raw : Bool
structure Inst where
  op : Int
  set : List (Int × Int)
  x : Int
  y : Int
  n : Int
structure Prog where
  insts : List Inst
  names : List ByteArray
  raw : Bool
instance : Inhabited Node := ⟨⟨0, [], [], 0, 0, false, 0, 0⟩⟩
instance : Inhabited Inst := ⟨⟨0, [], 0, 0, 0⟩⟩

structure RngAt (B : Nat) (w0 : World) (b o : Nat) (r : Int × Int) : Prop where
  lo : ∀ w', Below B w0 w' → w'.cell? ⟨b, o, none⟩ = some (.int .i32 r.1)
  hi : ∀ w', Below B w0 w' → w'.cell? ⟨b, o + 1, none⟩ = some (.int .i32 r.2)
structure IntAt (B : Nat) (w0 : World) (b o : Nat) (x : Int) : Prop where
  at_ : ∀ w', Below B w0 w' → w'.cell? ⟨b, o, none⟩ = some (.int .i64 x)
structure StrAt (B : Nat) (w0 : World) (b o : Nat) (x : ByteArray) : Prop where
  at_ : ∀ w', Below B w0 w' → w'.cell? ⟨b, o, none⟩ = some (.string x)
/-- A slice value that reads as a list, nil too. -/
def Sl {α : Type} (R : Nat → Nat → α → Prop) (sz : Nat) (v : Value) (xs : List α) : Prop :=
  ∃ A c, v = .slice A xs.length c ∧ xs.length ≤ c ∧ xs.length ≤ 9223372036854775807 ∧ (0 < xs.length → ∃ b o, A = some ⟨b, o, none⟩ ∧ ∀ k (h : k < xs.length), R b (o + k * sz) xs[k])
structure NodeAt (B : Nat) (w0 : World) (b o : Nat) (n : Node) : Prop where
  op : ∀ w', Below B w0 w' → w'.cell? ⟨b, o, none⟩ = some (.int .i64 n.op)
  set : ∃ v, (∀ w', Below B w0 w' → w'.cell? ⟨b, o + 1, none⟩ = some v) ∧ Sl (RngAt B w0) 2 v n.set
  kids : ∃ v, (∀ w', Below B w0 w' → w'.cell? ⟨b, o + 2, none⟩ = some v) ∧ Sl (IntAt B w0) 1 v n.kids
  min : ∀ w', Below B w0 w' → w'.cell? ⟨b, o + 3, none⟩ = some (.int .i64 n.min)
  max : ∀ w', Below B w0 w' → w'.cell? ⟨b, o + 4, none⟩ = some (.int .i64 n.max)
  lzy : ∀ w', Below B w0 w' → w'.cell? ⟨b, o + 5, none⟩ = some (.bool n.lzy)
  group : ∀ w', Below B w0 w' → w'.cell? ⟨b, o + 6, none⟩ = some (.int .i64 n.group)
  look : ∀ w', Below B w0 w' → w'.cell? ⟨b, o + 7, none⟩ = some (.int .i64 n.look)
structure InstAt (B : Nat) (w0 : World) (b o : Nat) (n : Inst) : Prop where
  op : ∀ w', Below B w0 w' → w'.cell? ⟨b, o, none⟩ = some (.int .i64 n.op)
  set : ∃ v, (∀ w', Below B w0 w' → w'.cell? ⟨b, o + 1, none⟩ = some v) ∧ Sl (RngAt B w0) 2 v n.set
  x : ∀ w', Below B w0 w' → w'.cell? ⟨b, o + 2, none⟩ = some (.int .i64 n.x)
  y : ∀ w', Below B w0 w' → w'.cell? ⟨b, o + 3, none⟩ = some (.int .i64 n.y)
  n : ∀ w', Below B w0 w' → w'.cell? ⟨b, o + 4, none⟩ = some (.int .i64 n.n)

theorem RngAt.up {B B1 : Nat} {w0 w1 : World} {b o : Nat} {r : Int × Int} (h : RngAt B w0 b o r) (hb : Below B w0 w1) (hB : B ≤ B1) : RngAt B1 w1 b o r :=
  ⟨ext_up h.lo hb hB, ext_up h.hi hb hB⟩
theorem IntAt.up {B B1 : Nat} {w0 w1 : World} {b o : Nat} {r : Int} (h : IntAt B w0 b o r) (hb : Below B w0 w1) (hB : B ≤ B1) : IntAt B1 w1 b o r := ⟨ext_up h.at_ hb hB⟩
theorem StrAt.up {B B1 : Nat} {w0 w1 : World} {b o : Nat} {r : ByteArray} (h : StrAt B w0 b o r) (hb : Below B w0 w1) (hB : B ≤ B1) : StrAt B1 w1 b o r := ⟨ext_up h.at_ hb hB⟩
theorem Sl.mono {α : Type} {R R' : Nat → Nat → α → Prop} {sz : Nat} {v : Value} {xs : List α} (h : Sl R sz v xs) (hR : ∀ b o x, R b o x → R' b o x) : Sl R' sz v xs := by
  obtain ⟨A, c, rfl, h1, h2, h3⟩ := h
  exact ⟨A, c, rfl, h1, h2, fun hp => by obtain ⟨b, o, e, h4⟩ := h3 hp; exact ⟨b, o, e, fun k hk => hR _ _ _ (h4 k hk)⟩⟩
theorem NodeAt.up {B B1 : Nat} {w0 w1 : World} {b o : Nat} {r : Node} (h : NodeAt B w0 b o r) (hb : Below B w0 w1) (hB : B ≤ B1) : NodeAt B1 w1 b o r := by
  obtain ⟨v1, h1, s1⟩ := h.set
  obtain ⟨v2, h2, s2⟩ := h.kids
  exact ⟨ext_up h.op hb hB, ⟨v1, ext_up h1 hb hB, s1.mono fun _ _ _ k => k.up hb hB⟩, ⟨v2, ext_up h2 hb hB, s2.mono fun _ _ _ k => k.up hb hB⟩, ext_up h.min hb hB, ext_up h.max hb hB, ext_up h.lzy hb hB, ext_up h.group hb hB, ext_up h.look hb hB⟩
theorem InstAt.up {B B1 : Nat} {w0 w1 : World} {b o : Nat} {r : Inst} (h : InstAt B w0 b o r) (hb : Below B w0 w1) (hB : B ≤ B1) : InstAt B1 w1 b o r := by
  obtain ⟨v1, h1, s1⟩ := h.set
  exact ⟨ext_up h.op hb hB, ⟨v1, ext_up h1 hb hB, s1.mono fun _ _ _ k => k.up hb hB⟩, ext_up h.x hb hB, ext_up h.y hb hB, ext_up h.n hb hB⟩

/-- A tree as a value. -/
structure TreeV (B : Nat) (w0 : World) (nv sv : Value) (t : Tree) : Prop where
  nodes : Sl (NodeAt B w0) 8 nv t.nodes
  names : Sl (StrAt B w0) 1 sv t.names
theorem TreeV.up {B B1 : Nat} {w0 w1 : World} {nv sv : Value} {t : Tree} (h : TreeV B w0 nv sv t) (hb : Below B w0 w1) (hB : B ≤ B1) : TreeV B1 w1 nv sv t :=
  ⟨h.nodes.mono fun _ _ _ k => k.up hb hB, h.names.mono fun _ _ _ k => k.up hb hB⟩
/-- The table of sets. -/
structure BandsAt (B : Nat) (w0 : World) : Prop where
  lo : ∀ k, k < 3 → ∀ w', Below B w0 w' → w'.cell? ⟨2, k * 2, none⟩ = some (.int .i32 (if k = 0 then 0 else if k = 1 then 57344 else 1114240))
  hi : ∀ k, k < 3 → ∀ w', Below B w0 w' → w'.cell? ⟨2, k * 2 + 1, none⟩ = some (.int .i32 (if k = 0 then 55295 else if k = 1 then 1114111 else 1114367))
theorem BandsAt.up {B B1 : Nat} {w0 w1 : World} (h : BandsAt B w0) (hb : Below B w0 w1) (hB : B ≤ B1) : BandsAt B1 w1 := ⟨fun k hk => ext_up (h.lo k hk) hb hB, fun k hk => ext_up (h.hi k hk) hb hB⟩

theorem getD_at {α : Type} (xs : List α) (k : Nat) (d : α) (h : k < xs.length) : xs[k] = xs.getD k d := by simp [List.getD_eq_getElem?_getD, List.getElem?_eq_getElem h]
theorem ret_bool {a b : Bool} (h : a = b) : Ending.returned (.bool a) = .returned (.bool b) := by rw [h]
theorem ret_int {k : IntKind} {a b : Int} (h : a = b) : Ending.returned (.int k a) = .returned (.int k b) := by rw [h]
def errNo (b : Bool) : Int := if b then 0 else 1
end Go.Proofs.YtmbboianghbjkaaDoor

-- part Quiet
namespace Go.Proofs.YtmbboianghbjkaaDoor
open Go.RowKit

/-- A world that is as W was below block B, and no smaller. -/
structure Ex (B : Nat) (W : World) where
  val : World
  prop : Below B W val
  le : B ≤ val.heap.size
/-- A region whose order is open, whose operations read, and whose callees at most make memory: one walk, in the order of the text. -/
theorem wp_region_ex {P : Program} {id : Nat} {Q : Exit → Act → World → Prop} {a : Act} {w : World} {l : List Oper} (B : Nat) (hB : B ≤ w.heap.size) (hm : P.follows .mixedOrders = true) (hl : Region.lexB .any l.toArray = true)
    (h : wpQuiet P l.toArray (fun w' => ∃ x : Ex B w, w' = x.val) (fun a' => ∀ w', (∃ x : Ex B w, w' = x.val) → Q .normal a' w') l a) : (Code.region id l.toArray true).wp P Q a w :=
  wp_region_quiet (C := fun w' => ∃ x : Ex B w, w' = x.val) hm hl ⟨⟨w.drew, (Below.refl B w).drew, hB⟩, rfl⟩ (by simpa using h)
theorem Ex.old {B : Nat} {W : World} (x : Ex B W) {b o : Nat} (h : b < B) : x.val.cell? ⟨b, o, none⟩ = W.cell? ⟨b, o, none⟩ := x.prop.cell (p := ⟨b, o, none⟩) h
theorem quiet_call {P : Program} {f : FuncId} {args : Array Value} {B : Nat} {W : World} {v : Value} (x : Ex B W)
    (h : Calls P f args x.val fun e w' => e = .returned v ∧ Below x.val.heap.size x.val w') : Calls P f args x.val fun e w'' => e = .returned v ∧ ∃ y : Ex B W, w'' = y.val :=
  h.mono fun _ w' ⟨he, hw⟩ => ⟨he, ⟨w', x.prop.trans (hw.mono x.le), Nat.le_trans x.le hw.size⟩, rfl⟩
theorem quiet_draw {P : Program} {f : FuncId} {args : Array Value} {B : Nat} {W : World} {v : Value} (x : Ex B W)
    (h : Calls P f args x.val fun e w' => e = .returned v ∧ ∃ n, w' = x.val.drewN n) : Calls P f args x.val fun e w'' => e = .returned v ∧ ∃ y : Ex B W, w'' = y.val :=
  h.mono fun _ _ ⟨he, n, hw⟩ => ⟨he, ⟨x.val.drewN n, below_drewN x.prop n, x.le⟩, hw⟩
end Go.Proofs.YtmbboianghbjkaaDoor

-- part Fit
namespace Go.Proofs.YtmbboianghbjkaaDoor
open Go.RowKit
set_option linter.unusedVariables false
set_option linter.unusedSimpArgs false
attribute [local go_sem] bl_refl bl_alloc bl_a2 bl_a3 bl_a4 bl_a5 bl_set bl_drew bl_drewN le_add_r lt_add_r addr_add

theorem get_at (x : ByteArray) (i : Nat) (h : i < x.size) : x.get! i = x[i] := by
  show x.data[i]! = x.data[i]
  rw [getElem!_pos]
/-- May a byte stand in a name. -/
def letOk (c : Int) (first : Bool) : Bool := decide (c = 95) || (decide (97 ≤ c) && decide (c ≤ 122)) || (decide (65 ≤ c) && decide (c ≤ 90)) || (!first && decide (48 ≤ c) && decide (c ≤ 57))
set_option maxHeartbeats 1000000 in
theorem letter_any (c : Int) (first : Bool) (w : World) :
    Calls Tryd.prog 125 #[.int .u8 c, .bool first] w fun e w' => e = .returned (.bool (letOk c first)) ∧ w' = w := by
  cases first
  · go_enter Tryd.func125, Tryd.ntmps125
    go_wp2
    all_goals
      go_ret
      refine ⟨ret_bool ?_, rfl⟩
      unfold letOk
      rw [Bool.eq_iff_iff]
      try simp only [beq_iff_eq, beq_eq_false_iff_ne, ne_eq] at *
      simp
      try omega
  · go_enter Tryd.func125, Tryd.ntmps125
    go_wp2
    all_goals
      go_ret
      refine ⟨ret_bool ?_, rfl⟩
      unfold letOk
      rw [Bool.eq_iff_iff]
      try simp only [beq_iff_eq, beq_eq_false_iff_ne, ne_eq] at *
      simp
      try omega

/-- A slice of texts as it reads in one world. -/
def RdS (w : World) (v : Value) (xs : List ByteArray) : Prop :=
  ∃ A c, v = .slice A xs.length c ∧ xs.length ≤ 9223372036854775807 ∧ (0 < xs.length → ∃ b o, A = some ⟨b, o, none⟩ ∧ ∀ k (h : k < xs.length), w.cell? ⟨b, o + k, none⟩ = some (.string xs[k]))

def contS (xs : List ByteArray) (s : ByteArray) : Bool := xs.any (fun x => s.toList == x.toList)

set_option maxHeartbeats 1000000 in
theorem indexS_any (w : World) (v : Value) (xs : List ByteArray) (s : ByteArray) (h1 : RdS w v xs) :
    Calls Tryd.prog 123 #[v, .string s] w fun e w' => (∃ r : Int, e = .returned (.int .i64 r) ∧ decide (0 ≤ r) = contS xs s) ∧ ∃ n, w' = w.drewN n := by
  obtain ⟨A, c, rfl, l1, r1⟩ := h1
  have R1 := Lib.hid r1
  clear r1
  go_enter Tryd.func123, Tryd.ntmps123
  go_wp2
  go_loopw [5, 8] (fun _ v8 wr => ∃ k : Nat, k ≤ xs.length ∧ v8 = .int .i64 k ∧ (∀ j (h : j < xs.length), j < k → (s.toList == xs[j].toList) = false) ∧ ∃ n, wr = w.drewN n) (fun _ v8 _ => xs.length - (intOf v8).toNat)
  case atStart => exact ⟨0, by omega, rfl, by omega, 0, rfl⟩
  case round =>
    obtain ⟨k, hk, rfl, hn, nd, rfl⟩ := hrel
    have HN := Lib.hid hn
    clear hn
    by_cases hlt : k < xs.length
    · obtain ⟨b, o, rfl, hR⟩ := R1.out (by omega)
      have c1 := hR k hlt
      clear hR
      generalize hx : xs[k] = x at *
      have HX := Lib.hid hx
      clear hx
      by_cases hxy : (s.toList == x.toList) = true
      · go_wp2
        go_ret
        refine ⟨⟨_, rfl, ?_⟩, _, rfl⟩
        have e1 : contS xs s = true := by
          unfold contS
          rw [List.any_eq_true]
          exact ⟨x, HX.out ▸ List.getElem_mem hlt, hxy⟩
        rw [e1]
        simp
      · have hxy' : (s.toList == x.toList) = false := by simpa using hxy
        clear hxy
        go_wp2
        go_roundw
        case rel => exact ⟨k + 1, by omega, by go_num, fun j h hj => by
            by_cases e : j = k
            · subst e
              rw [HX.out]
              exact hxy'
            · exact HN.out j h (by omega), _, rfl⟩
        case measure => simp [intOf]; omega
    · obtain rfl : k = xs.length := by omega
      go_wp2
      go_ret
      refine ⟨⟨_, rfl, ?_⟩, _, rfl⟩
      have e1 : contS xs s = false := by
        unfold contS
        rw [List.any_eq_false]
        intro y hy
        obtain ⟨j, hj, rfl⟩ := List.getElem_of_mem hy
        rw [HN.out j hj hj]
        decide
      rw [e1]
      simp
theorem containsS_any (w : World) (v : Value) (xs : List ByteArray) (s : ByteArray) (h1 : RdS w v xs) :
    Calls Tryd.prog 89 #[v, .string s] w fun e w' => e = .returned (.bool (contS xs s)) ∧ ∃ n, w' = w.drewN n := by
  obtain ⟨A, c, rfl, l1, r1⟩ := h1
  have h1 : RdS w (.slice A xs.length c) xs := ⟨A, c, rfl, l1, r1⟩
  clear r1
  go_enter Tryd.func89, Tryd.ntmps89
  go_wp2_with fail
  refine (indexS_any _ _ xs s h1).mono ?_
  rintro e w1 ⟨⟨r, rfl, hr⟩, n, rfl⟩
  by_cases h0 : 0 ≤ r
  · have hc : contS xs s = true := by rw [← hr]; simp [h0]
    go_wp2
    go_ret
    exact ⟨ret_bool (by rw [hc]), _, rfl⟩
  · have hc : contS xs s = false := by rw [← hr]; simp [h0]
    go_wp2
    go_ret
    exact ⟨ret_bool (by rw [hc]), _, rfl⟩

/-- fitting at one name. -/
def nameOk (pre : List ByteArray) (s : ByteArray) : Bool :=
  decide (s.size ≤ 32) && !(!(decide (s.size = 0)) && contS pre s) && (List.range s.size).all (fun j => letOk (s.get! j).toNat (decide (j = 0)))
def fitOk (names : List ByteArray) : Bool := decide (names.length ≤ 40) && (List.range names.length).all fun i => nameOk (names.take i) (names.getD i default)

set_option maxHeartbeats 1000000 in
theorem fitting_any (B : Nat) (w0 w : World) (v : Value) (xs : List ByteArray) (hb : Below B w0 w) (hB : B ≤ w.heap.size) (hs : Sl (StrAt B w0) 1 v xs) :
    Calls Tryd.prog 94 #[v] w fun e w' => e = .returned (.bool (fitOk xs)) ∧ Below w.heap.size w w' := by
  obtain ⟨A, c, rfl, h1, h2, h3⟩ := hs
  have R1 := Lib.hid h3
  clear h3
  by_cases hl : xs.length ≤ 40
  · go_enter Tryd.func94, Tryd.ntmps94
    go_wp2
    go_loopw [4, 5, 11] (fun _ _ v11 wr => ∃ k : Nat, k ≤ xs.length ∧ v11 = .int .i64 k ∧ (∀ j, j < k → nameOk (xs.take j) (xs.getD j default) = true) ∧ Below w.heap.size w wr) (fun _ _ v11 _ => xs.length - (intOf v11).toNat)
    case atStart => exact ⟨0, by omega, rfl, by omega, Below.refl _ _⟩
    case round =>
      obtain ⟨k, hk, rfl, hn, hbr⟩ := hrel
      have HN := Lib.hid hn
      clear hn
      by_cases hlt : k < xs.length
      · obtain ⟨b, o, rfl, hR⟩ := R1.out (by omega)
        have c1 := (hR k hlt).at_ wr (hb.trans (hbr.mono hB))
        rw [Nat.mul_one] at c1
        clear hR
        have HD := Lib.hid (getD_at xs k default hlt)
        generalize hx : xs[k] = x at *
        have HX := Lib.hid hx
        clear hx
        have hnk : nameOk (xs.take k) x = false → fitOk xs = false := by
          intro h
          unfold fitOk
          rw [Bool.and_eq_false_iff, List.all_eq_false]
          exact .inr ⟨k, by simpa using hlt, by rw [← HD.out, h]; decide⟩
        have HK := Lib.hid hnk
        clear hnk
        by_cases hz : x.size ≤ 32
        · by_cases he : x.toList = []
          · have hz0 : x.size = 0 := by
              rw [ByteArray.toList_eq] at he
              have := congrArg List.length he
              simpa using this
            have hie : x.toList.isEmpty = true := by rw [he]; rfl
            have hnm : nameOk (xs.take k) x = true := by unfold nameOk; simp [hz0]
            have HNM := Lib.hid hnm
            clear hnm he
            go_wp2
            go_loopw [5, 32] (fun _ v32 wr1 => v32 = .int .i64 0 ∧ wr1 = wr) (fun _ _ _ => 0)
            case atStart => exact ⟨rfl, rfl⟩
            case round =>
              obtain ⟨rfl, rfl⟩ := hrel
              go_wp2
              go_roundw
              case rel => exact ⟨k + 1, by omega, by go_num, fun j hj => by
                by_cases e : j = k
                · rw [e, ← HD.out]; exact HNM.out
                · exact HN.out j (by omega), hbr⟩
              case measure => simp [intOf]; omega
          · go_wp2_with fail
            refine (containsS_any _ _ (xs.take k) x ⟨some ⟨b, o, none⟩, c, by rw [List.length_take, Nat.min_eq_left hk], by rw [List.length_take, Nat.min_eq_left hk]; omega, fun hp => ⟨b, o, rfl, fun j hj => ?_⟩⟩).mono ?_
            · obtain ⟨b', o', e, hR⟩ := R1.out (by omega)
              cases e
              have hjl : j < xs.length := by rw [List.length_take] at hj; omega
              have := (hR j hjl).at_ wr (hb.trans (hbr.mono hB))
              rw [Nat.mul_one] at this
              simpa using this
            · rintro e w1 ⟨rfl, nd, rfl⟩
              have hie : x.toList.isEmpty = false := by simpa using he
              have hz0 : x.size ≠ 0 := by
                intro h
                rw [ByteArray.toList_eq] at he
                exact he (List.eq_nil_of_length_eq_zero (by simpa using h))
              have HZ := Lib.hid hz0
              clear he hz0
              by_cases hc : contS (xs.take k) x = true
              · rw [hc]
                go_wp2
                go_ret
                exact ⟨ret_bool (HK.out (by unfold nameOk; simp [HZ.out, hc])).symm, below_drewN hbr _⟩
              · rw [show contS (xs.take k) x = false by simpa using hc]
                have HC := Lib.hid hc
                clear hc
                go_wp2
                go_loopw [5, 32] (fun _ v32 wr1 => ∃ i : Nat, i ≤ x.size ∧ v32 = .int .i64 i ∧ (∀ j, j < i → letOk (x.get! j).toNat (decide (j = 0)) = true) ∧ Below w.heap.size w wr1) (fun _ v32 _ => x.size - (intOf v32).toNat)
                case atStart => exact ⟨0, by omega, rfl, by omega, below_drewN hbr _⟩
                case round =>
                  obtain ⟨i, hi, rfl, hln, hbr1⟩ := hrel
                  have HLN := Lib.hid hln
                  clear hln
                  by_cases hix : i < x.size
                  · go_wp2_with fail
                    refine (letter_any _ _ _).mono ?_
                    rintro e w1 ⟨rfl, rfl⟩
                    have e1 : letOk (x[i].toNat) ((i : Int) == 0) = letOk (x.get! i).toNat (decide (i = 0)) := by
                      rw [show x.get! i = x[i] from get_at x i hix]
                      congr 1
                      rw [Bool.eq_iff_iff]
                      simp
                    rw [e1]
                    by_cases hlo : letOk (x.get! i).toNat (decide (i = 0)) = true
                    · rw [hlo]
                      have HLO := Lib.hid hlo
                      clear hlo e1
                      go_wp2
                      go_roundw
                      case rel => exact ⟨i + 1, by omega, by go_num, fun j hj => by
                        by_cases e : j = i
                        · rw [e]; exact HLO.out
                        · exact HLN.out j (by omega), hbr1⟩
                      case measure => simp [intOf]; omega
                    · rw [show letOk (x.get! i).toNat (decide (i = 0)) = false by simpa using hlo]
                      have HLO := Lib.hid hlo
                      clear hlo e1
                      go_wp2
                      go_ret
                      refine ⟨ret_bool (HK.out ?_).symm, hbr1⟩
                      unfold nameOk
                      rw [Bool.and_eq_false_iff, List.all_eq_false]
                      exact .inr ⟨i, by simpa using hix, HLO.out⟩
                  · obtain rfl : i = x.size := by omega
                    go_wp2
                    go_roundw
                    case rel => exact ⟨k + 1, by omega, by go_num, fun j hj => by
                      by_cases e : j = k
                      · rw [e, ← HD.out]
                        unfold nameOk
                        rw [show contS (xs.take k) x = false by simpa using HC.out]
                        simp [hz]
                        exact HLN.out
                      · exact HN.out j (by omega), hbr1⟩
                    case measure => simp [intOf]; omega
        · go_wp2
          go_ret
          exact ⟨ret_bool (HK.out (by unfold nameOk; simp [hz])).symm, hbr⟩
      · obtain rfl : k = xs.length := by omega
        go_wp2
        go_ret
        refine ⟨ret_bool ?_, hbr⟩
        unfold fitOk
        simp [hl]
        exact HN.out
  · go_enter Tryd.func94, Tryd.ntmps94
    go_wp2
    go_ret
    refine ⟨ret_bool ?_, Below.refl _ _⟩
    unfold fitOk
    simp [hl]
end Go.Proofs.YtmbboianghbjkaaDoor

-- part EqInts
namespace Go.Proofs.YtmbboianghbjkaaDoor
open Go.RowKit
set_option linter.unusedVariables false
set_option linter.unusedSimpArgs false
attribute [local go_sem] addr_add

/-- A slice of ints as it reads in one world. -/
def RdI (w : World) (v : Value) (xs : List Int) : Prop :=
  ∃ A c, v = .slice A xs.length c ∧ xs.length ≤ 9223372036854775807 ∧ (0 < xs.length → ∃ b o, A = some ⟨b, o, none⟩ ∧ ∀ k, k < xs.length → w.cell? ⟨b, o + k, none⟩ = some (.int .i64 (xs.getD k 0)))
theorem Sl.rdI {B : Nat} {w0 w : World} {v : Value} {xs : List Int} (h : Sl (IntAt B w0) 1 v xs) (hb : Below B w0 w) : RdI w v xs := by
  obtain ⟨A, c, rfl, h1, h2, h3⟩ := h
  refine ⟨A, c, rfl, by omega, fun hp => ?_⟩
  obtain ⟨b, o, e, hR⟩ := h3 hp
  exact ⟨b, o, e, fun k hk => by have := (hR k hk).at_ w hb; rw [Nat.mul_one] at this; rw [this, getD_at xs k 0 hk]⟩

theorem eqTake {xs ys : List Int} {k : Nat} (hl : xs.length = ys.length) (hn : ∀ j, j < k → xs.getD j 0 = ys.getD j 0) (hk : k = xs.length) : xs = ys := by
  subst hk
  apply List.ext_getElem hl
  intro i h1 h2
  have := hn i h1
  rwa [← getD_at xs i 0 h1, ← getD_at ys i 0 h2] at this

set_option maxHeartbeats 1000000 in
theorem eqInts_any (w : World) (v1 v2 : Value) (xs ys : List Int) (h1 : RdI w v1 xs) (h2 : RdI w v2 ys) :
    Calls Tryd.prog 128 #[v1, v2] w fun e w' => e = .returned (.bool (decide (xs = ys))) ∧ ∃ n, w' = w.drewN n := by
  obtain ⟨A1, c1, rfl, l1, r1⟩ := h1
  obtain ⟨A2, c2, rfl, l2, r2⟩ := h2
  have R1 := Lib.hid r1
  have R2 := Lib.hid r2
  clear r1 r2
  by_cases hl : xs.length = ys.length
  · have HL := Lib.hid hl
    have q1 : ((xs.length : Int) != (ys.length : Int)) = false := by simp [hl]
    clear hl
    go_enter Tryd.func128, Tryd.ntmps128
    go_wp2
    go_loopw [5, 13] (fun _ v13 wr => ∃ k : Nat, k ≤ xs.length ∧ v13 = .int .i64 k ∧ (∀ j, j < k → xs.getD j 0 = ys.getD j 0) ∧ ∃ n, wr = w.drewN n) (fun _ v13 _ => xs.length - (intOf v13).toNat)
    case atStart => exact ⟨0, by omega, rfl, by omega, 0, rfl⟩
    case round =>
      obtain ⟨k, hk, rfl, hn, nd, rfl⟩ := hrel
      have HN := Lib.hid hn
      clear hn
      by_cases hlt : k < xs.length
      · obtain ⟨b, o, rfl, hR⟩ := R1.out (by omega)
        obtain ⟨b2, o2, rfl, hR2⟩ := R2.out (by have := HL.out; omega)
        have c1 := hR k hlt
        have hlt2 : k < ys.length := by have := HL.out; omega
        have c2 := hR2 k hlt2
        clear hR hR2
        generalize hx : xs.getD k 0 = x at *
        generalize hy : ys.getD k 0 = y at *
        have HX := Lib.hid hx
        have HY := Lib.hid hy
        clear hx hy
        go_wp2
        go_quiet (fail)
        by_cases hxy : x = y
        · have q : (x != y) = false := by simp [hxy]
          have HXY := Lib.hid hxy
          clear hxy
          go_wp2
          go_roundw
          case rel => exact ⟨k + 1, by omega, by go_num, fun j hj => by
            by_cases e : j = k
            · rw [e, HX.out, HY.out, HXY.out]
            · exact HN.out j (by omega), _, rfl⟩
          case measure => simp [intOf]; omega
        · have q : (x != y) = true := by simp [hxy]
          have HXY := Lib.hid hxy
          clear hxy
          go_wp2
          go_ret
          refine ⟨ret_bool ?_, _, World.drewN_drewN ..⟩
          symm
          rw [decide_eq_false_iff_not]
          intro e
          subst e
          exact HXY.out (HX.out.symm.trans HY.out)
      · obtain rfl : k = xs.length := by omega
        go_wp2
        go_ret
        exact ⟨ret_bool (by simp [eqTake HL.out HN.out rfl]), _, rfl⟩
  · have q1 : ((xs.length : Int) != (ys.length : Int)) = true := by simp; omega
    have HL := Lib.hid hl
    clear hl
    go_enter Tryd.func128, Tryd.ntmps128
    go_wp2
    go_ret
    refine ⟨ret_bool ?_, 0, rfl⟩
    symm
    rw [decide_eq_false_iff_not]
    exact fun e => HL.out (by rw [e])
end Go.Proofs.YtmbboianghbjkaaDoor

-- part Own
namespace Go.Proofs.YtmbboianghbjkaaDoor
open Go.RowKit

theorem own_below {w w1 : World} {base n : Nat} {e : TypeId} {size : Nat} {v : Value} {xs : List Value} (h : w.ownsRow base e size v n xs) (hb : Below w.heap.size w w1) : w1.ownsRow base e size v n xs := by
  obtain ⟨h1, h2⟩ := h
  refine ⟨h1, ?_⟩
  rcases h2 with h2 | ⟨g, cap, cur, hv, hg, hh, r⟩
  · exact Or.inl h2
  · exact Or.inr ⟨g, cap, cur, hv, hg, by rw [hb.block g (Array.getElem?_eq_some_iff.1 hh).1]; exact hh, r⟩
theorem own_cap {w : World} {base n : Nat} {e : TypeId} {size : Nat} {A : Option Addr} {m c : Nat} {xs : List Value} (h : w.ownsRow base e size (.slice A m c) n xs) : n ≤ c ∧ c ≤ 9223372036854775807 ∧ m = n := by
  obtain ⟨_, h2⟩ := h
  rcases h2 with ⟨h, h'⟩ | ⟨g, cap, cur, h, _, _, h3, h4, _⟩
  · injection h with _ ha hb; omega
  · injection h with _ ha hb; unfold maxLen at h4; omega
theorem own_form {w : World} {base n : Nat} {e : TypeId} {size : Nat} {v : Value} {xs : List Value} (h : w.ownsRow base e size v n xs) : ∃ A c, v = .slice A n c := by
  obtain ⟨_, h2⟩ := h
  rcases h2 with ⟨h, h'⟩ | ⟨g, cap, cur, h, _⟩
  · exact ⟨none, 0, by rw [h, h']⟩
  · exact ⟨_, cap, h⟩
theorem own_rd_tail {W : World} {base : Nat} {e : TypeId} {A : Option Addr} {c L : Nat} {xs : List Int} (h : W.ownsRow base e 1 (.slice A xs.length c) xs.length (xs.map (Value.int .i64))) (hL : L ≤ xs.length) :
    RdI W (.slice (if c = L then A else Option.map (fun x => x.add L) A) (xs.length - L) (c - L)) (xs.drop L) := by
  obtain ⟨hc1, hc2, _⟩ := own_cap h
  refine ⟨_, c - L, by rw [List.length_drop], by rw [List.length_drop]; omega, fun hp => ?_⟩
  rw [List.length_drop] at hp
  obtain ⟨_, h2⟩ := h
  rcases h2 with ⟨_, h'⟩ | ⟨g, cap, cur, h, _, hh, h3, h4, h5, h6⟩
  · omega
  · injection h with ha hb hcc
    subst ha hcc
    refine ⟨g, L, by rw [if_neg (by omega), Option.map_some, addr_add, Nat.zero_add], fun k hk => ?_⟩
    rw [List.length_drop] at hk
    have hcell : W.cell? ⟨g, L + k, none⟩ = cur[L + k]? := by simp [World.cell?, hh]
    rw [hcell]
    have e1 : (cur.toList.take (xs.length * 1))[L + k]? = cur.toList[L + k]? := by rw [List.getElem?_take, if_pos (by omega)]
    rw [h6] at e1
    rw [← Array.getElem?_toList, ← e1]
    simp [List.getD_eq_getElem?_getD, List.getElem?_drop, List.getElem?_eq_getElem (show L + k < xs.length by omega)]
theorem own_take {W : World} {base : Nat} {e : TypeId} {A : Option Addr} {c n m : Nat} {xs : List Value} (h : W.ownsRow base e 1 (.slice A n c) n xs) (hm : m ≤ n) : W.ownsRow base e 1 (.slice A m c) m (xs.take m) := by
  obtain ⟨h1, h2⟩ := h
  refine ⟨by rw [List.length_take]; omega, ?_⟩
  rcases h2 with ⟨h, h'⟩ | ⟨g, cap, cur, h, hg, hh, h3, h4, h5, h6⟩
  · injection h with ha hb hc
    subst ha hc
    exact Or.inl ⟨by rw [show m = 0 by omega], by omega⟩
  · injection h with ha hb hc
    subst ha hc
    refine Or.inr ⟨g, c, cur, rfl, hg, hh, by omega, h4, h5, ?_⟩
    rw [← h6, List.take_take, Nat.mul_one, Nat.mul_one, Nat.min_eq_left hm]
theorem own_int_cell {W : World} {base : Nat} {e : TypeId} {g n c : Nat} {xs : List Int} (h : W.ownsRow base e 1 (.slice (some ⟨g, 0, none⟩) n c) n (xs.map (Value.int .i64))) (j : Nat) (hj : j < n) : W.cell? ⟨g, j, none⟩ = some (.int .i64 (xs.getD j 0)) := by
  have hl : xs.length = n := by have := h.1; simpa using this
  rw [h.cellAt j (by omega)]
  simp [List.getD_eq_getElem?_getD, List.getElem?_eq_getElem (show j < xs.length by omega)]
theorem own_int_set {W : World} {base : Nat} {e : TypeId} {g n c : Nat} {xs : List Int} (h : W.ownsRow base e 1 (.slice (some ⟨g, 0, none⟩) n c) n (xs.map (Value.int .i64))) (j : Nat) (y : Int) :
    (W.setCell ⟨g, j, none⟩ (.int .i64 y)).ownsRow base e 1 (.slice (some ⟨g, 0, none⟩) n c) n ((xs.set j y).map (Value.int .i64)) ∧ W.grownBy (W.setCell ⟨g, j, none⟩ (.int .i64 y)) (some g) := by
  have := h.stored j (.int .i64 y)
  rwa [← List.map_set] at this
theorem grown_trans {a b c : World} {row : Option Nat} (h : a.grownBy b row) (k : b.grownBy c row) : a.grownBy c row :=
  ⟨k.os.trans h.os, k.tape.trans h.tape, k.output.trans h.output, Nat.le_trans h.size k.size, fun i hi hne => (k.block i (Nat.lt_of_lt_of_le hi h.size) hne).trans (h.block i hi hne)⟩
theorem grown_drew {a b : World} {row : Option Nat} (h : a.grownBy b row) : a.grownBy b.drew row := ⟨h.os, h.tape, h.output, h.size, h.block⟩
theorem grown_drewN {a b : World} {row : Option Nat} (h : a.grownBy b row) (n : Nat) : a.grownBy (b.drewN n) row := ⟨h.os, h.tape, h.output, h.size, h.block⟩
theorem own_drewN {w : World} {base n : Nat} {e : TypeId} {size : Nat} {v : Value} {xs : List Value} (h : w.ownsRow base e size v n xs) (m : Nat) : (w.drewN m).ownsRow base e size v n xs := h
theorem grown_of_below {w w1 : World} (h : Below w.heap.size w w1) (row : Option Nat) : w.grownBy w1 row := ⟨h.os, h.tape, h.output, h.size, fun i hi _ => h.block i hi⟩
theorem below_grown {B : Nat} {w0 w w1 : World} {g : Nat} (h : Below B w0 w) (hg : w.grownBy w1 (some g)) (hB : B ≤ w.heap.size) (hgB : B ≤ g) : Below B w0 w1 := h.grown hg hB (fun k e => by cases e; exact hgB)
end Go.Proofs.YtmbboianghbjkaaDoor

-- part Back
namespace Go.Proofs.YtmbboianghbjkaaDoor
open Go.RowKit Go.Shelf
attribute [local go_sem] Oper.semAt_some

/-- What has come when k rounds are over. -/
def upto {α : Type} (f : Nat → α) (k : Nat) : List α := (List.range k).map f
theorem upto_succ {α : Type} (f : Nat → α) (k : Nat) : upto f (k + 1) = upto f k ++ [f k] := by simp [upto, List.range_succ]
theorem upto_length {α : Type} (f : Nat → α) (k : Nat) : (upto f k).length = k := by simp [upto]

/-- What an iterator over a slice in a box reads. -/
structure BackRd (bx : Nat) (v : Value) (b o : Nat) (xs : List Int) (W : World) : Prop where
  box : W.cell? ⟨bx, 0, none⟩ = some v
  at_ : ∀ k, k < xs.length → W.cell? ⟨b, o + k, none⟩ = some (.int .i64 (xs[k]?.getD 0))

set_option maxHeartbeats 2000000 in
set_option maxRecDepth 100000 in
theorem back1_in {α : Type} (F : Fence) (n : Nat) (h8 : F.fn 118) (hro : F.round = none) (hn : 1 ≤ n) (l bx b o c : Nat) (A : Option Addr) (xs : List Int) (hA : 0 < xs.length → A = some ⟨b, o, none⟩) (hxs : xs.length ≤ 9223372036854775807) (f : Nat → α) (encs : α → Array Value)
    (he : ∀ k, k < xs.length → encs (f k) = #[.int .i64 ((xs.length : Int) - 1 - k), .int .i64 (xs[xs.length - 1 - k]?.getD 0)]) (J Jx : List α → World → Prop)
    (hY : ∀ pre x W1, J pre W1 → pre.length < xs.length → YieldAt F (n - 1) Tryd.prog l (encs x) W1 fun e W' =>
      (e = .returned (.bool true) ∧ J (pre ++ [x]) W' ∧ (BackRd bx (.slice A xs.length c) b o xs W1 → BackRd bx (.slice A xs.length c) b o xs W')) ∨ (e = .returned (.bool false) ∧ Jx (pre ++ [x]) W'))
    (W : World) (hR : BackRd bx (.slice A xs.length c) b o xs W) (h0 : J [] W) :
    CallsIn F n Tryd.prog 118 #[.func (.yield l) #[] #[], .pointer (some ⟨bx, 0, none⟩)] W fun e W' => (∃ v, e = .returned v) ∧
      ((∃ ys, ys = upto f xs.length ∧ J ys W') ∨ (∃ pre, (∃ k, k ≤ xs.length ∧ pre = upto f k) ∧ Jx pre W')) := by
  refine callsIn_of_wp Tryd.func118 rfl h8 ?_ hro
  simp only [Tryd.ntmps118, List.size_toArray, List.length_cons, List.length_nil, Nat.reduceAdd, Nat.reduceSub, Array.replicate_succ, Array.replicate_zero, List.push_toArray, List.append_toArray, List.nil_append, List.cons_append]
  have hbox := hR.box
  gi_wp2
  gi_loopw [3] (fun i wr => ∃ k : Nat, k ≤ xs.length ∧ i = .int .i64 ((xs.length : Int) - 1 - k) ∧ J (upto f k) wr ∧ BackRd bx (.slice A xs.length c) b o xs wr)
    (fun i _ => (intOf i + 1).toNat)
  case atStart => exact ⟨0, Nat.zero_le _, by simp, h0, hR⟩
  case round =>
    clear hbox
    obtain ⟨k, hk, rfl, hJs, hRk⟩ := hrel
    have hbox := hRk.box
    by_cases hlt : k < xs.length
    · obtain rfl := hA (by omega)
      obtain ⟨fn, tmps, assign, body, hy, hRd⟩ := hY _ (f k) wr hJs (by rw [upto_length]; exact hlt)
      rw [he k hlt] at hy
      have hx := hRk.at_ (xs.length - 1 - k) (by omega)
      have e1 : (((xs.length : Int) - 1 - (k : Int)).toNat) = xs.length - 1 - k := by omega
      have p1 : 0 ≤ (xs.length : Int) - 1 - (k : Int) := by omega
      have p2 : (xs.length : Int) - 1 - (k : Int) < (xs.length : Int) := by omega
      gi_wp2
      refine hRd.mono ?_
      rintro e W3 (⟨rfl, hJ3, hk3⟩ | ⟨rfl, hJx3⟩)
      · gi_wp2
        go_roundw
        case rel => exact ⟨k + 1, by omega, by congr 1; omega, by rw [upto_succ]; exact hJ3, hk3 hRk⟩
        case measure => simp [intOf]; omega
      · gi_wp2
        refine bodyPost_ret (results_none rfl _ _ _) rfl ?_
        exact ⟨⟨_, rfl⟩, .inr ⟨_, ⟨k + 1, by omega, (upto_succ _ _).symm⟩, hJx3⟩⟩
    · obtain rfl : k = xs.length := by omega
      have p1 : ((xs.length : Int) - 1 - (xs.length : Int)) < 0 := by omega
      gi_wp2
      go_end0
      exact ⟨⟨_, rfl⟩, .inl ⟨_, rfl, hJs⟩⟩

theorem BackRd.kept {bx b o l : Nat} {v : Value} {xs : List Int} {W : World} {ob : Obj} (o' : Obj) (h : BackRd bx v b o xs W) (hl : W.heap[l]? = some ob) (ho : ob.isCells = false) : BackRd bx v b o xs (W.putObj l o') :=
  ⟨cell_kept h.box (grownBy_putObj' W l o') (fun r e => by cases e; exact ⟨_, hl, ho⟩), fun k hk => cell_kept (h.at_ k hk) (grownBy_putObj' W l o') (fun r e => by cases e; exact ⟨_, hl, ho⟩)⟩

theorem wp_range_back {α : Type} {g : Operand} {ps : Array Tmp} {assign body : Code} {Q : Exit → Act → World → Prop} {a : Act} {w : World} (bx b o c : Nat) (A : Option Addr) (xs : List Int) (hA : 0 < xs.length → A = some ⟨b, o, none⟩) (hxs : xs.length ≤ 9223372036854775807)
    (hg : a.eval g = .func (.func 118) #[] #[.pointer (some ⟨bx, 0, none⟩)]) (f : Nat → α) (encs : α → Array Value) (hps : ∀ x, (encs x).size = ps.size)
    (he : ∀ k, k < xs.length → encs (f k) = #[.int .i64 ((xs.length : Int) - 1 - k), .int .i64 (xs[xs.length - 1 - k]?.getD 0)])
    (hRd : ∀ W, Below w.heap.size w W → BackRd bx (.slice A xs.length c) b o xs W)
    (I : List α → World → Prop) (hI : OwnFrom w.heap.size I) (h0 : I [] w) (a₁ : α → Act)
    (hassign : ∀ (l : Nat) (x : α) (W : World) (K : Act → World → Prop), K (a₁ x) W →
      assign.wpIn (Fence.wide.inRound l) 7 Tryd.prog (Exit.then K (fun _ _ _ => False)) { tmps := (ps.zip (encs x)).foldl (fun t (p, v) => t.setIfInBounds p v) a.tmps, defers := [] } W)
    (hbody : ∀ (l : Nat) (pre : List α) (x : α) (W : World), I pre W → pre.length < xs.length → body.wpIn (Fence.wide.inRound l) 7 Tryd.prog (ownPostG w.heap.size (fun W W' => BackRd bx (.slice A xs.length c) b o xs W → BackRd bx (.slice A xs.length c) b o xs W') I (fun _ _ _ => False) (pre ++ [x]) W) (a₁ x) W)
    (hdone : ∀ (D : Nat) (W : World), w.heap.size ≤ D → I (upto f xs.length) W → W.heap[D]? = some (.deferred (some [])) → Q .normal { a with defers := { target := .collected D, args := #[] } :: a.defers } W) :
    (Code.rangeFunc g ps assign body).wp Tryd.prog Q a w := by
  refine (wpIn_wide (n := 9)).1 ?_
  refine wpIn_rangeFunc_ownG (F := Fence.wide) (n := 9) (N := xs.length) rfl (by omega) hg trivial (enters_of Tryd.func118 (by kernel_rfl) rfl) (encs := encs) (Kp := fun W W' => BackRd bx (.slice A xs.length c) b o xs W → BackRd bx (.slice A xs.length c) b o xs W')
    (S := fun ys => ys = upto f xs.length) (Sp := fun pre => ∃ k, k ≤ xs.length ∧ pre = upto f k) (w0 := w) ?_ (fun h k x => k (h x)) (fun W l ob o' _ hl ho _ h => h.kept o' hl ho) (Below.refl _ _) hps I (fun _ _ _ => False) hI (fun _ _ _ _ _ h _ _ => h) h0 a₁ hassign hbody ?_ (fun _ _ _ _ _ _ h _ => h.elim)
  · intro l J Jx W hW _ _ hY hJ
    exact back1_in Fence.wide 8 trivial rfl (by omega) l bx b o c A xs hA hxs f encs he J Jx hY W (hRd W hW) hJ
  · rintro D ys W hD rfl hi hK
    exact hdone D W hD hi hK
end Go.Proofs.YtmbboianghbjkaaDoor

-- part Back2
namespace Go.Proofs.YtmbboianghbjkaaDoor
open Go.RowKit Go.Shelf
theorem back_any (A : Option Addr) (n c : Nat) (w : World) : Calls Tryd.prog 77 #[.slice A n c] w fun e w' => e = .returned (.func (.func 118) #[] #[.pointer (some ⟨w.heap.size, 0, none⟩)]) ∧ w' = w.alloc (.cells #[.slice A n c] 74) := by
  go_enter Tryd.func77, Tryd.ntmps77
  go_wp2
  go_ret
  exact ⟨rfl, rfl⟩
end Go.Proofs.YtmbboianghbjkaaDoor

-- part Marks
namespace Go.Proofs.YtmbboianghbjkaaDoor
open Go.RowKit Go.Shelf

def mark (D : Nat) : Deferred := { target := .collected D, args := #[] }
def MarksAt (ds : List Nat) (w : World) : Prop := ∀ D, D ∈ ds → w.heap[D]? = some (.deferred (some []))
theorem leaves_marks {P : Program} {fn : Func} {tmps : Array Value} {R : Ending → World → Prop} {n B : Nat} {v : Value} : ∀ (ds : List Nat) (w : World), MarksAt ds w → ds.Nodup → (∀ D ∈ ds, B ≤ D) →
    (∀ W', (results fn tmps).run P W' = .ok v W') → (∀ W', Below B w W' → R (.returned v) W') → LeavesInM Fence.wide n P fn tmps R (ds.map mark) .returning w
  | [], w, _, _, _, hr, hR => ⟨v, hr w, hR w (Below.refl _ _)⟩
  | D :: ds, w, hm, hn, hB, hr, hR => by
    have hD := hm D (by simp)
    have hlt : D < w.heap.size := (Array.getElem?_eq_some_iff.1 hD).1
    refine ⟨by simp, .inl ⟨D, _, rfl, run_takeDeferred hD, ?_⟩⟩
    refine leaves_marks ds _ (fun E hE => ?_) (List.nodup_cons.1 hn).2 (fun E hE => hB E (by simp [hE])) hr (fun W' h => hR W' (?_))
    · have hne : E ≠ D := fun e => (List.nodup_cons.1 hn).1 (e ▸ hE)
      rw [World.putObj_heap_other hne]
      exact hm E (by simp [hE])
    · have h1 : Below B w (w.putObj D (.deferred none)) := ⟨rfl, rfl, rfl, by simp, fun k hk => World.putObj_heap_other (by have := hB D (by simp); omega)⟩
      exact h1.trans h
theorem post_marks {P : Program} {fn : Func} {R : Ending → World → Prop} {a : Act} {w : World} {v : Value} {n : Nat} (ds : List Nat) (B : Nat) (hd : a.defers = ds.map mark) (hm : MarksAt ds w) (hn : ds.Nodup) (hB : ∀ D ∈ ds, B ≤ D)
    (hr : ∀ W', (results fn a.tmps).run P W' = .ok v W') (hR : ∀ W', Below B w W' → R (.returned v) W') : bodyPostM Fence.wide n P fn R .ret a w := by
  show LeavesInM Fence.wide n P fn a.tmps R a.defers .returning w
  rw [hd]
  exact leaves_marks ds w hm hn hB hr hR
theorem post_marks1 {P : Program} {fn : Func} {R : Ending → World → Prop} {a : Act} {w : World} {v : Value} {n : Nat} {t : Tmp} (hres : fn.results = #[.tmp t]) (hv : a.tmps.getD t undef = v) (ds : List Nat) (B : Nat) (hd : a.defers = ds.map mark) (hm : MarksAt ds w) (hn : ds.Nodup) (hB : ∀ D ∈ ds, B ≤ D)
    (hR : ∀ W', Below B w W' → R (.returned v) W') : bodyPostM Fence.wide n P fn R .ret a w :=
  post_marks ds B hd hm hn hB (fun W' => by rw [results_tmp hres, hv]) hR
/-- A function whose body ranges over functions. -/
theorem calls_of_wp_marks {P : Program} {f : FuncId} {fn : Func} {c : Code} {args : Array Value} {w : World} {R : Ending → World → Prop} (hf : P.funcs[f]? = some fn) (hb : fn.body = some c)
    (h : c.wp P (bodyPostM Fence.wide 9 P fn R) { tmps := args ++ Array.replicate (fn.ntmps - args.size) undef, defers := [] } w) : Calls P f args w R :=
  (callsIn_wide (n := 9)).1 (callsIn_of_wp_marks hf hb trivial ((wpIn_wide (n := 9)).2 h))
theorem MarksAt.below {ds : List Nat} {w w' : World} (h : MarksAt ds w) (hk : ∀ D, D ∈ ds → w'.heap[D]? = w.heap[D]?) : MarksAt ds w' := fun D hD => (hk D hD).trans (h D hD)
end Go.Proofs.YtmbboianghbjkaaDoor

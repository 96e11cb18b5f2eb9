import Derived.Test.YtmbboianghbjkaaDoorMem
namespace Go.Proofs.YtmbboianghbjkaaDoor
open Go.RowKit

/-! What lies in memory as data: facts that hold in every world that is as w0 was below block B. -/
structure Node where
  op : Int
  set : List (Int × Int)
  kids : List Int
  min : Int
  max : Int
  lzy : Bool
  group : Int
  look : Int
structure Tree where
  nodes : List Node
  names : List ByteArray
  raw : Bool
structure Inst where
  op : Int
  set : List (Int × Int)
  x : Int
  y : Int
  n : Int
structure Prog where
  insts : List Inst
  names : List ByteArray
  raw : Bool
instance : Inhabited Node := ⟨⟨0, [], [], 0, 0, false, 0, 0⟩⟩
instance : Inhabited Inst := ⟨⟨0, [], 0, 0, 0⟩⟩

structure RngAt (B : Nat) (w0 : World) (b o : Nat) (r : Int × Int) : Prop where
  lo : ∀ w', Below B w0 w' → w'.cell? ⟨b, o, none⟩ = some (.int .i32 r.1)
  hi : ∀ w', Below B w0 w' → w'.cell? ⟨b, o + 1, none⟩ = some (.int .i32 r.2)
structure IntAt (B : Nat) (w0 : World) (b o : Nat) (x : Int) : Prop where
  at_ : ∀ w', Below B w0 w' → w'.cell? ⟨b, o, none⟩ = some (.int .i64 x)
structure StrAt (B : Nat) (w0 : World) (b o : Nat) (x : ByteArray) : Prop where
  at_ : ∀ w', Below B w0 w' → w'.cell? ⟨b, o, none⟩ = some (.string x)
/-- A slice value that reads as a list, nil too. -/
def Sl {α : Type} (R : Nat → Nat → α → Prop) (sz : Nat) (v : Value) (xs : List α) : Prop :=
  ∃ A c, v = .slice A xs.length c ∧ xs.length ≤ c ∧ c ≤ 9223372036854775807 ∧ (0 < xs.length → ∃ b o, A = some ⟨b, o, none⟩ ∧ ∀ k (h : k < xs.length), R b (o + k * sz) xs[k])
structure NodeAt (B : Nat) (w0 : World) (b o : Nat) (n : Node) : Prop where
  op : ∀ w', Below B w0 w' → w'.cell? ⟨b, o, none⟩ = some (.int .i64 n.op)
  set : ∃ v, (∀ w', Below B w0 w' → w'.cell? ⟨b, o + 1, none⟩ = some v) ∧ Sl (RngAt B w0) 2 v n.set
  kids : ∃ v, (∀ w', Below B w0 w' → w'.cell? ⟨b, o + 2, none⟩ = some v) ∧ Sl (IntAt B w0) 1 v n.kids
  min : ∀ w', Below B w0 w' → w'.cell? ⟨b, o + 3, none⟩ = some (.int .i64 n.min)
  max : ∀ w', Below B w0 w' → w'.cell? ⟨b, o + 4, none⟩ = some (.int .i64 n.max)
  lzy : ∀ w', Below B w0 w' → w'.cell? ⟨b, o + 5, none⟩ = some (.bool n.lzy)
  group : ∀ w', Below B w0 w' → w'.cell? ⟨b, o + 6, none⟩ = some (.int .i64 n.group)
  look : ∀ w', Below B w0 w' → w'.cell? ⟨b, o + 7, none⟩ = some (.int .i64 n.look)
structure InstAt (B : Nat) (w0 : World) (b o : Nat) (n : Inst) : Prop where
  op : ∀ w', Below B w0 w' → w'.cell? ⟨b, o, none⟩ = some (.int .i64 n.op)
  set : ∃ v, (∀ w', Below B w0 w' → w'.cell? ⟨b, o + 1, none⟩ = some v) ∧ Sl (RngAt B w0) 2 v n.set
  x : ∀ w', Below B w0 w' → w'.cell? ⟨b, o + 2, none⟩ = some (.int .i64 n.x)
  y : ∀ w', Below B w0 w' → w'.cell? ⟨b, o + 3, none⟩ = some (.int .i64 n.y)
  n : ∀ w', Below B w0 w' → w'.cell? ⟨b, o + 4, none⟩ = some (.int .i64 n.n)

theorem RngAt.up {B B1 : Nat} {w0 w1 : World} {b o : Nat} {r : Int × Int} (h : RngAt B w0 b o r) (hb : Below B w0 w1) (hB : B ≤ B1) : RngAt B1 w1 b o r :=
  ⟨ext_up h.lo hb hB, ext_up h.hi hb hB⟩
theorem IntAt.up {B B1 : Nat} {w0 w1 : World} {b o : Nat} {r : Int} (h : IntAt B w0 b o r) (hb : Below B w0 w1) (hB : B ≤ B1) : IntAt B1 w1 b o r := ⟨ext_up h.at_ hb hB⟩
theorem StrAt.up {B B1 : Nat} {w0 w1 : World} {b o : Nat} {r : ByteArray} (h : StrAt B w0 b o r) (hb : Below B w0 w1) (hB : B ≤ B1) : StrAt B1 w1 b o r := ⟨ext_up h.at_ hb hB⟩
theorem Sl.mono {α : Type} {R R' : Nat → Nat → α → Prop} {sz : Nat} {v : Value} {xs : List α} (h : Sl R sz v xs) (hR : ∀ b o x, R b o x → R' b o x) : Sl R' sz v xs := by
  obtain ⟨A, c, rfl, h1, h2, h3⟩ := h
  exact ⟨A, c, rfl, h1, h2, fun hp => by obtain ⟨b, o, e, h4⟩ := h3 hp; exact ⟨b, o, e, fun k hk => hR _ _ _ (h4 k hk)⟩⟩
theorem NodeAt.up {B B1 : Nat} {w0 w1 : World} {b o : Nat} {r : Node} (h : NodeAt B w0 b o r) (hb : Below B w0 w1) (hB : B ≤ B1) : NodeAt B1 w1 b o r := by
  obtain ⟨v1, h1, s1⟩ := h.set
  obtain ⟨v2, h2, s2⟩ := h.kids
  exact ⟨ext_up h.op hb hB, ⟨v1, ext_up h1 hb hB, s1.mono fun _ _ _ k => k.up hb hB⟩, ⟨v2, ext_up h2 hb hB, s2.mono fun _ _ _ k => k.up hb hB⟩, ext_up h.min hb hB, ext_up h.max hb hB, ext_up h.lzy hb hB, ext_up h.group hb hB, ext_up h.look hb hB⟩
theorem InstAt.up {B B1 : Nat} {w0 w1 : World} {b o : Nat} {r : Inst} (h : InstAt B w0 b o r) (hb : Below B w0 w1) (hB : B ≤ B1) : InstAt B1 w1 b o r := by
  obtain ⟨v1, h1, s1⟩ := h.set
  exact ⟨ext_up h.op hb hB, ⟨v1, ext_up h1 hb hB, s1.mono fun _ _ _ k => k.up hb hB⟩, ext_up h.x hb hB, ext_up h.y hb hB, ext_up h.n hb hB⟩

/-- A tree as a value. -/
structure TreeV (B : Nat) (w0 : World) (nv sv : Value) (t : Tree) : Prop where
  nodes : Sl (NodeAt B w0) 8 nv t.nodes
  names : Sl (StrAt B w0) 1 sv t.names
theorem TreeV.up {B B1 : Nat} {w0 w1 : World} {nv sv : Value} {t : Tree} (h : TreeV B w0 nv sv t) (hb : Below B w0 w1) (hB : B ≤ B1) : TreeV B1 w1 nv sv t :=
  ⟨h.nodes.mono fun _ _ _ k => k.up hb hB, h.names.mono fun _ _ _ k => k.up hb hB⟩
/-- The table of sets. -/
structure BandsAt (B : Nat) (w0 : World) : Prop where
  lo : ∀ k, k < 3 → ∀ w', Below B w0 w' → w'.cell? ⟨2, k * 2, none⟩ = some (.int .i32 (if k = 0 then 0 else if k = 1 then 57344 else 1114240))
  hi : ∀ k, k < 3 → ∀ w', Below B w0 w' → w'.cell? ⟨2, k * 2 + 1, none⟩ = some (.int .i32 (if k = 0 then 55295 else if k = 1 then 1114111 else 1114367))
theorem BandsAt.up {B B1 : Nat} {w0 w1 : World} (h : BandsAt B w0) (hb : Below B w0 w1) (hB : B ≤ B1) : BandsAt B1 w1 := ⟨fun k hk => ext_up (h.lo k hk) hb hB, fun k hk => ext_up (h.hi k hk) hb hB⟩

theorem getD_at {α : Type} (xs : List α) (k : Nat) (d : α) (h : k < xs.length) : xs[k] = xs.getD k d := by simp [List.getD_eq_getElem?_getD, List.getElem?_eq_getElem h]
theorem ret_bool {a b : Bool} (h : a = b) : Ending.returned (.bool a) = .returned (.bool b) := by rw [h]
theorem ret_int {k : IntKind} {a b : Int} (h : a = b) : Ending.returned (.int k a) = .returned (.int k b) := by rw [h]
def errNo (b : Bool) : Int := if b then 0 else 1
end Go.Proofs.YtmbboianghbjkaaDoor

import Derived.Test.YtmbboianghbjkaaDoorEmit
namespace Go.Proofs.YtmbboianghbjkaaDoor
open Go.RowKit Go.Shelf
set_option linter.unusedVariables false
set_option linter.unusedSimpArgs false

theorem MkAt.under {base mk : Nat} {tv v : Value} {L : List IV} {W W' : World} (h : MkAt base mk tv v L W) (k : Below W.heap.size W W') : MkAt base mk tv v L W' :=
  ⟨(k.block mk (Array.getElem?_eq_some_iff.1 h.obj).1).trans h.obj, own_below h.row k, h.le⟩
theorem MkKept.of_below {base mk : Nat} {W W' : World} (h : base ≤ W.heap.size) (k : Below W.heap.size W W') : MkKept base mk W W' :=
  ⟨k.mono h, fun i o h1 _ _ => (k.block i (Array.getElem?_eq_some_iff.1 h1).1).trans h1⟩
theorem MkAt.lt {base mk : Nat} {tv v : Value} {L : List IV} {W : World} (h : MkAt base mk tv v L W) : mk < W.heap.size := (Array.getElem?_eq_some_iff.1 h.obj).1
theorem MkAt.is {base mk : Nat} {tv v : Value} {L : List IV} {W : World} (h : MkAt base mk tv v L W) : ∃ tv v r, W.heap[mk]? = some (.cells #[tv, v] 91 r) := ⟨_, _, _, h.obj⟩
/-- What a call of the maker's gives: it lays xs, and answers ret. -/
def Lays (base mk : Nat) (tv : Value) (L : List IV) (xs : List Inst) (ret : Int) (w : World) (e : Ending) (w' : World) : Prop :=
  e = .returned (.int .i64 ret) ∧ ∃ v' M, MkAt base mk tv v' (L ++ M) w' ∧ IsRd base w' M xs ∧ MkKept base mk w w'
/-- What it is called in: the maker, the tree. -/
structure MArg (base mk B b o c : Nat) (nodes : List Node) (v : Value) (L : List IV) (w0 w : World) : Prop where
  at_ : MkAt base mk (.slice (some ⟨b, o, none⟩) nodes.length c) v L w
  below : Below B w0 w
  le : B ≤ base
  node : ∀ k (h : k < nodes.length), NodeAt B w0 b (o + k * 8) nodes[k]
  count : nodes.length ≤ 2000
  sets : ∀ n ∈ nodes, n.set.length ≤ 17592186044416
theorem MArg.on {base mk B b o c : Nat} {nodes : List Node} {v v' : Value} {L L' : List IV} {w0 w w' : World} (h : MArg base mk B b o c nodes v L w0 w) (k : MkKept base mk w w') (m : MkAt base mk (.slice (some ⟨b, o, none⟩) nodes.length c) v' L' w') : MArg base mk B b o c nodes v' L' w0 w' :=
  ⟨m, h.below.trans (k.below.mono h.le), h.le, h.node, h.count, h.sets⟩
theorem MArg.under {base mk B b o c : Nat} {nodes : List Node} {v : Value} {L : List IV} {w0 w w' : World} (h : MArg base mk B b o c nodes v L w0 w) (k : Below w.heap.size w w') : MArg base mk B b o c nodes v L w0 w' :=
  ⟨h.at_.under k, h.below.trans (k.mono (by have := h.at_.lt; have := h.at_.le; have := h.le; omega)), h.le, h.node, h.count, h.sets⟩

/-- The boxes of node's own frame, from block q on. -/
structure Frm (mk q : Nat) (next level : Int) (nc : Array Value) (W : World) : Prop where
  f0 : W.heap[q]? = some (.cells #[.pointer (some ⟨mk, 0, none⟩)] 89 (0, 0))
  f1 : W.heap[q + 1]? = some (.cells #[.int .i64 next] 3 (0, 0))
  f2 : W.heap[q + 1 + 1]? = some (.cells #[.int .i64 level] 3 (0, 0))
  f3 : W.heap[q + 1 + 1 + 1]? = some (.cells nc 80 (0, 0))
  lt : mk < q
theorem Frm.under {mk q : Nat} {next level : Int} {nc : Array Value} {W W' : World} (h : Frm mk q next level nc W) (k : Below W.heap.size W W') : Frm mk q next level nc W' :=
  ⟨(k.block _ (Array.getElem?_eq_some_iff.1 h.f0).1).trans h.f0, (k.block _ (Array.getElem?_eq_some_iff.1 h.f1).1).trans h.f1, (k.block _ (Array.getElem?_eq_some_iff.1 h.f2).1).trans h.f2, (k.block _ (Array.getElem?_eq_some_iff.1 h.f3).1).trans h.f3, h.lt⟩
theorem Frm.kept {base mk q : Nat} {next level : Int} {nc : Array Value} {W W' : World} (h : Frm mk q next level nc W) (k : MkKept base mk W W') : Frm mk q next level nc W' := by
  have := h.lt
  exact ⟨k.other _ _ h.f0 (by omega) (fun _ _ e => by cases e), k.other _ _ h.f1 (by omega) (fun _ _ e => by cases e), k.other _ _ h.f2 (by omega) (fun _ _ e => by cases e), k.other _ _ h.f3 (by omega) (fun _ _ e => by cases e), h.lt⟩
theorem Frm.c0 {mk q : Nat} {next level : Int} {nc : Array Value} {W : World} (h : Frm mk q next level nc W) : W.cell? ⟨q, 0, none⟩ = some (.pointer (some ⟨mk, 0, none⟩)) := by simp [World.cell?, h.f0]
theorem Frm.c1 {mk q : Nat} {next level : Int} {nc : Array Value} {W : World} (h : Frm mk q next level nc W) : W.cell? ⟨q + 1, 0, none⟩ = some (.int .i64 next) := by simp [World.cell?, h.f1]
theorem Frm.c2 {mk q : Nat} {next level : Int} {nc : Array Value} {W : World} (h : Frm mk q next level nc W) : W.cell? ⟨q + 1 + 1, 0, none⟩ = some (.int .i64 level) := by simp [World.cell?, h.f2]
theorem Frm.c3 {mk q : Nat} {next level : Int} {nc : Array Value} {W : World} (h : Frm mk q next level nc W) (i : Nat) (v : Value) (hv : nc[i]? = some v) : W.cell? ⟨q + 1 + 1 + 1, i, none⟩ = some v := by simp [World.cell?, h.f3, hv]
def nodeCells (op : Int) (sv kv : Value) (mn mx : Int) (lz : Bool) (gr lk : Int) : Array Value := #[.int .i64 op, sv, kv, .int .i64 mn, .int .i64 mx, .bool lz, .int .i64 gr, .int .i64 lk]
/-- The world in which node has laid its boxes. -/
def nodeW (w : World) (mk : Nat) (next level : Int) (nc : Array Value) : World :=
  (((w.alloc (.cells #[.pointer (some ⟨mk, 0, none⟩)] 89)).alloc (.cells #[.int .i64 next] 3)).alloc (.cells #[.int .i64 level] 3)).alloc (.cells nc 80)
theorem nodeW_below (w : World) (mk : Nat) (next level : Int) (nc : Array Value) : Below w.heap.size w (nodeW w mk next level nc) :=
  ((((Below.refl _ _).alloc (by simp) _).alloc (by simp <;> omega) _).alloc (by simp <;> omega) _).alloc (by simp <;> omega) _
theorem nodeW_size (w : World) (mk : Nat) (next level : Int) (nc : Array Value) : (nodeW w mk next level nc).heap.size = w.heap.size + 4 := by simp [nodeW]
theorem nodeW_frm (w : World) (mk : Nat) (next level : Int) (nc : Array Value) (h : mk < w.heap.size) : Frm mk w.heap.size next level nc (nodeW w mk next level nc) := by
  refine ⟨?_, ?_, ?_, ?_, h⟩
  · exact (Below.heap_alloc _ _ _ (by simp <;> omega)).trans ((Below.heap_alloc _ _ _ (by simp <;> omega)).trans ((Below.heap_alloc _ _ _ (by simp)).trans (World.alloc_heap_new w _)))
  · exact (Below.heap_alloc _ _ _ (by simp <;> omega)).trans ((Below.heap_alloc _ _ _ (by simp)).trans (by have := World.alloc_heap_new (w.alloc (.cells #[.pointer (some ⟨mk, 0, none⟩)] 89)) (.cells #[.int .i64 next] 3); rwa [World.size_alloc] at this))
  · exact (Below.heap_alloc _ _ _ (by simp)).trans (by have := World.alloc_heap_new ((w.alloc (.cells #[.pointer (some ⟨mk, 0, none⟩)] 89)).alloc (.cells #[.int .i64 next] 3)) (.cells #[.int .i64 level] 3); rwa [World.size_alloc, World.size_alloc] at this)
  · have := World.alloc_heap_new (((w.alloc (.cells #[.pointer (some ⟨mk, 0, none⟩)] 89)).alloc (.cells #[.int .i64 next] 3)).alloc (.cells #[.int .i64 level] 3)) (.cells nc 80)
    rwa [World.size_alloc, World.size_alloc, World.size_alloc] at this

attribute [local go_sem] bl_refl bl_alloc bl_a2 bl_a3 bl_a4 bl_a5 bl_set bl_drew bl_drewN le_add_r lt_add_r addr_add Oper.semAt_some
set_option maxRecDepth 100000 in
set_option maxHeartbeats 4000000 in
theorem nodeUnit_any (base mk B b o c : Nat) (nodes : List Node) (v : Value) (L : List IV) (w0 w : World) (at_ : Nat) (next level : Int) (hM : MArg base mk B b o c nodes v L w0 w) (hat : at_ < nodes.length) (h1 : (nodes.getD at_ default).op = 1) (hL : L.length ≤ 999999999999) :
    Calls Tryd.prog 42 #[.pointer (some ⟨mk, 0, none⟩), .int .i64 at_, .int .i64 next, .int .i64 level] w (Lays base mk (.slice (some ⟨b, o, none⟩) nodes.length c) L [⟨1, (nodes.getD at_ default).set, next, 0, 0⟩] L.length w) := by
  have hn := hM.node at_ hat
  have hsl := hM.sets _ (List.getElem_mem hat)
  have hN := hM.count
  rw [getD_at nodes at_ default hat] at hn hsl
  generalize nodes.getD at_ default = nd at *
  have hb := hM.below
  have hmB : B ≤ w.heap.size := by have := hM.at_.lt; have := hM.at_.le; have := hM.le; omega
  obtain ⟨op, set, kids, mn, mx, lz, gr, lk⟩ := nd
  obtain ⟨g0, ⟨kv, g1, hset⟩, ⟨vk, g2, hkids⟩, g3, g4, g5, g6, g7⟩ := hn
  dsimp only at *
  subst h1
  have HSET := Lib.hid hset
  obtain ⟨Ak, ck, rfl, hk1, hk2, hk3⟩ := hkids
  obtain ⟨As, cs, rfl, _, _, hs3⟩ := hset
  clear hs3 hk3
  have hml := hM.at_.lt
  have c0 : ∀ w', Below w.heap.size w w' → w'.cell? ⟨mk, 0, none⟩ = some (.slice (some ⟨b, o, none⟩) nodes.length c) := fun w' hw => (hw.cell (p := ⟨mk, 0, none⟩) hml).trans (by simp [World.cell?, hM.at_.obj])
  have H := Lib.hid hM
  clear hM
  refine calls_of_wp_marks Tryd.func42 rfl ?_
  simp only [Tryd.ntmps42, List.size_toArray, List.length_cons, List.length_nil, Nat.reduceAdd, Nat.reduceSub, Array.replicate_succ, Array.replicate_zero, List.push_toArray, List.append_toArray, List.nil_append, List.cons_append]
  go_wp2_with fail
  obtain ⟨W, hW⟩ : ∃ W, W = nodeW w mk next level #[.int .i64 1, .slice As set.length cs, .slice Ak kids.length ck, .int .i64 mn, .int .i64 mx, .bool lz, .int .i64 gr, .int .i64 lk] := ⟨_, rfl⟩
  have hbW : Below w.heap.size w W := by rw [hW]; exact nodeW_below _ _ _ _ _
  have hsz : W.heap.size = w.heap.size + 4 := by rw [hW]; exact nodeW_size _ _ _ _ _
  have hF : Frm mk w.heap.size next level #[.int .i64 1, .slice As set.length cs, .slice Ak kids.length ck, .int .i64 mn, .int .i64 mx, .bool lz, .int .i64 gr, .int .i64 lk] W := by rw [hW]; exact nodeW_frm _ _ _ _ _ hml
  unfold nodeW at hW
  rw [← hW]
  clear hW c0 g0 g1 g2 g3 g4 g5 g6 g7
  have HS := Lib.hid hsz
  have HBW := Lib.hid hbW
  have HF := Lib.hid hF
  have d0 := (hF.under (Below.refl W.heap.size W).drew).c0
  have d1 := (hF.under (Below.refl W.heap.size W).drew).c1
  have d2 := (hF.under (Below.refl W.heap.size W).drew).c3 1 _ rfl
  clear hF hbW hsz
  go_region_held3 (fun W' => W'.cell? ⟨w.heap.size, 0, none⟩ = some (.pointer (some ⟨mk, 0, none⟩)) ∧ W'.cell? ⟨w.heap.size + 1, 0, none⟩ = some (.int .i64 next) ∧ W'.cell? ⟨w.heap.size + 1 + 1 + 1, 1, none⟩ = some (.slice As set.length cs)) (go_keep)
    ((first
      | (go_at_call 76; refine (cloneR_any B w0 _ _ set ((hb.trans (HBW.out.mono hmB)).trans ((Below.refl W.heap.size W).drew.mono (by have := HS.out; omega))) HSET.out hsl).mono ?_; rintro e wc ⟨v', rfl, hsr, hbc⟩; have HSR := Lib.hid hsr; obtain ⟨A', c', rfl, _, _⟩ := hsr; have hbc' : Below W.heap.size W wc := (Below.refl W.heap.size W).drew.trans hbc; clear hbc; have ke0 := (HF.out.under hbc').c0; have ke1 := (HF.out.under hbc').c1; have ke2 := (HF.out.under hbc').c3 1 _ rfl)
      | (go_at_call 41; refine (put_any base mk _ v L ⟨1, .slice A' set.length c', next, 0, 0⟩ _ (H.out.at_.under (HBW.out.trans (hbc'.mono (by have := HS.out; omega)))) (by omega) rfl).mono ?_; rintro e wd ⟨rfl, ⟨v2, hm2⟩, hk2⟩; have kd0 := ((HF.out.under hbc').kept hk2).c0; have kd1 := ((HF.out.under hbc').kept hk2).c1; have kd2 := ((HF.out.under hbc').kept hk2).c3 1 _ rfl)))
  go_wp2
  have hbwc : Below w.heap.size w wc := HBW.out.trans (hbc'.mono (by have := HS.out; omega))
  refine post_marks1 (v := .int .i64 L.length) rfl rfl [] wd.heap.size rfl (fun D h => absurd h (by simp)) List.nodup_nil (fun D h => absurd h (by simp)) (fun W' h => ⟨rfl, v2, [⟨1, .slice A' set.length c', next, 0, 0⟩], hm2.under h, ?_, ?_⟩)
  · have hbase : base ≤ wc.heap.size := by have := H.out.at_.lt; have := H.out.at_.le; have := hbwc.size; omega
    refine IsRd.one ⟨rfl, ?_, rfl, rfl, rfl⟩
    have s1 : SetRd base wc (.slice A' set.length c') set := by
      obtain ⟨A1, c1, e1, q1, q2⟩ := HSR.out
      refine ⟨A1, c1, e1, q1, fun hp => ?_⟩
      obtain ⟨b1, cs1, fr1, e2, q3, q4, q5⟩ := q2 hp
      exact ⟨b1, cs1, fr1, e2, by have := H.out.at_.lt; have := H.out.at_.le; have := HS.out; simp at q3; omega, q4, q5⟩
    exact (s1.kept hk2 (H.out.at_.under hbwc).is).below h
  · have hbase : base ≤ w.heap.size := by have := H.out.at_.lt; have := H.out.at_.le; omega
    exact ((MkKept.of_below hbase hbwc).trans hk2).trans (MkKept.of_below (by have := hk2.below.size; have := hbwc.size; omega) h)
end Go.Proofs.YtmbboianghbjkaaDoor

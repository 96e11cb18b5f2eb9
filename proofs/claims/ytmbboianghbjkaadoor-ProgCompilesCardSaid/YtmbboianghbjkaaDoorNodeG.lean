import Derived.Test.YtmbboianghbjkaaDoorNodeU
import Derived.IntWalk
namespace Go.Proofs.YtmbboianghbjkaaDoor
open Go.RowKit Go.Shelf
set_option linter.unusedVariables false
set_option linter.unusedSimpArgs false
/-- The contract of node at a part. -/
def KidC (base mk B b o c : Nat) (nodes : List Node) (w0 : World) (kid : Nat → Int → Int → Nat → List Inst × Int) (k : Nat) : Prop :=
  ∀ (v : Value) (L : List IV) (w : World) (next level : Int), MArg base mk B b o c nodes v L w0 w → 0 ≤ level → level + (k : Int) ≤ 4000 → L.length + (kid k next level L.length).1.length + k * 400000000 ≤ 1000000000000 →
    Calls Tryd.prog 42 #[.pointer (some ⟨mk, 0, none⟩), .int .i64 k, .int .i64 next, .int .i64 level] w (Lays base mk (.slice (some ⟨b, o, none⟩) nodes.length c) L (kid k next level L.length).1 (kid k next level L.length).2 w)
theorem IsRd.under {base : Nat} {W W' : World} {L : List IV} {xs : List Inst} (h : IsRd base W L xs) (k : Below W.heap.size W W') : IsRd base W' L xs := h.map fun _ _ s => s.below k
theorem IsRd.kept {base mk : Nat} {W W' : World} {L : List IV} {xs : List Inst} (h : IsRd base W L xs) (k : MkKept base mk W W') (hm : ∃ tv v r, W.heap[mk]? = some (.cells #[tv, v] 91 r)) : IsRd base W' L xs := h.map fun _ _ s => s.kept k hm
theorem Frm.setNext {mk q : Nat} {next level x : Int} {nc : Array Value} {W : World} (h : Frm mk q next level nc W) : Frm mk q x level nc (W.setCell ⟨q + 1, 0, none⟩ (.int .i64 x)) := by
  refine ⟨(Below.heap_setCell _ _ _ _ (by simp)).trans h.f0, ?_, (Below.heap_setCell _ _ _ _ (by simp <;> omega)).trans h.f2, (Below.heap_setCell _ _ _ _ (by simp <;> omega)).trans h.f3, h.lt⟩
  have := cells_set h.f1 0 (.int .i64 x)
  simpa using this
theorem Frm.z1 {mk q : Nat} {next level : Int} {nc : Array Value} {W : World} (h : Frm mk q next level nc W) : W.frozen? ⟨q + 1, 0, none⟩ = false := by simp [World.frozen?, h.f1]
/-- A store into a box that is none of the maker's. -/
theorem MkKept.set {base mk q : Nat} {W : World} {v : Value} (hq : base ≤ q) : Below base W (W.setCell ⟨q, 0, none⟩ v) := (Below.refl _ _).setCell (by simpa using hq) _
theorem MkKept.store {base mk q i : Nat} {w w1 : World} {v : Value} (h : MkKept base mk w w1) (hq : w.heap.size ≤ q) (hb : base ≤ q) : MkKept base mk w (w1.setCell ⟨q, i, none⟩ v) :=
  ⟨h.below.setCell (by simpa using hb) _, fun k o h1 h2 h3 => (Below.heap_setCell _ _ _ _ (by have := (Array.getElem?_eq_some_iff.1 h1).1; simp; omega)).trans (h.other k o h1 h2 h3)⟩
theorem MkAt.set {base mk q : Nat} {tv v u : Value} {L : List IV} {W : World} (h : MkAt base mk tv v L W) {t : TypeId} {cs : Array Value} {r : Nat × Nat} (hq : W.heap[q]? = some (.cells cs t r)) (ht : t ≠ 47) (hm : q ≠ mk) : MkAt base mk tv v L (W.setCell ⟨q, 0, none⟩ u) := by
  refine ⟨(Below.heap_setCell _ _ _ _ (by simp; omega)).trans h.obj, ?_, h.le⟩
  refine h.row.kept (grownBy_setAt W q 0 u) (Or.inr fun e => ?_)
  rcases h.row.2 with ⟨e', _⟩ | ⟨g, cap, cur, e', _, hgb, _⟩
  · rw [e'] at e; simp [Value.ownBlock] at e
  · rw [e'] at e
    simp [Value.ownBlock] at e
    subst e
    rw [hq] at hgb
    injection hgb with hgb
    injection hgb with _ hgb
    exact ht hgb
theorem IsRd.set {base q : Nat} {u : Value} {W : World} {L : List IV} {xs : List Inst} (h : IsRd base W L xs) {t : TypeId} {cs : Array Value} {r : Nat × Nat} (hq : W.heap[q]? = some (.cells cs t r)) (ht : t ≠ 96) : IsRd base (W.setCell ⟨q, 0, none⟩ u) L xs := h.map fun v ys s => by
  obtain ⟨A, c, rfl, h1, h2⟩ := s
  refine ⟨A, c, rfl, h1, fun hp => ?_⟩
  obtain ⟨b, cs', fr, e, h3, h4, h5⟩ := h2 hp
  refine ⟨b, cs', fr, e, h3, (Below.heap_setCell _ _ _ _ (fun e' => ?_)).trans h4, h5⟩
  simp at e'
  subst e'
  rw [hq] at h4
  injection h4 with h4
  injection h4 with _ h4
  exact ht h4
attribute [local go_sem] bl_refl bl_alloc bl_a2 bl_a3 bl_a4 bl_a5 bl_set bl_drew bl_drewN le_add_r lt_add_r addr_add Oper.semAt_some

set_option maxRecDepth 100000 in
set_option maxHeartbeats 4000000 in
theorem nodeLook_any (base mk B b o c : Nat) (nodes : List Node) (v : Value) (L : List IV) (w0 w : World) (at_ : Nat) (next level : Int) (hM : MArg base mk B b o c nodes v L w0 w) (hat : at_ < nodes.length) (h1 : (nodes.getD at_ default).op = 6) (hL : L.length ≤ 999999999999) :
    Calls Tryd.prog 42 #[.pointer (some ⟨mk, 0, none⟩), .int .i64 at_, .int .i64 next, .int .i64 level] w (Lays base mk (.slice (some ⟨b, o, none⟩) nodes.length c) L [⟨4, [], next, 0, (nodes.getD at_ default).look⟩] L.length w) := by
  have hn := hM.node at_ hat
  have hsl := hM.sets _ (List.getElem_mem hat)
  have hN := hM.count
  rw [getD_at nodes at_ default hat] at hn hsl
  generalize nodes.getD at_ default = nd at *
  have hb := hM.below
  have hmB : B ≤ w.heap.size := by have := hM.at_.lt; have := hM.at_.le; have := hM.le; omega
  obtain ⟨op, set, kids, mn, mx, lz, gr, lk⟩ := nd
  obtain ⟨g0, ⟨kv, g1, hset⟩, ⟨vk, g2, hkids⟩, g3, g4, g5, g6, g7⟩ := hn
  dsimp only at *
  subst h1
  have HSET := Lib.hid hset
  obtain ⟨Ak, ck, rfl, hk1, hk2, hk3⟩ := hkids
  obtain ⟨As, cs, rfl, _, _, hs3⟩ := hset
  clear hs3 hk3
  have hml := hM.at_.lt
  have c0 : ∀ w', Below w.heap.size w w' → w'.cell? ⟨mk, 0, none⟩ = some (.slice (some ⟨b, o, none⟩) nodes.length c) := fun w' hw => (hw.cell (p := ⟨mk, 0, none⟩) hml).trans (by simp [World.cell?, hM.at_.obj])
  have H := Lib.hid hM
  clear hM
  refine calls_of_wp_marks Tryd.func42 rfl ?_
  simp only [Tryd.ntmps42, List.size_toArray, List.length_cons, List.length_nil, Nat.reduceAdd, Nat.reduceSub, Array.replicate_succ, Array.replicate_zero, List.push_toArray, List.append_toArray, List.nil_append, List.cons_append]
  go_wp2_with fail
  obtain ⟨W, hW⟩ : ∃ W, W = nodeW w mk next level #[.int .i64 6, .slice As set.length cs, .slice Ak kids.length ck, .int .i64 mn, .int .i64 mx, .bool lz, .int .i64 gr, .int .i64 lk] := ⟨_, rfl⟩
  have hbW : Below w.heap.size w W := by rw [hW]; exact nodeW_below _ _ _ _ _
  have hsz : W.heap.size = w.heap.size + 4 := by rw [hW]; exact nodeW_size _ _ _ _ _
  have hF : Frm mk w.heap.size next level #[.int .i64 6, .slice As set.length cs, .slice Ak kids.length ck, .int .i64 mn, .int .i64 mx, .bool lz, .int .i64 gr, .int .i64 lk] W := by rw [hW]; exact nodeW_frm _ _ _ _ _ hml
  unfold nodeW at hW
  rw [← hW]
  clear hW c0 g0 g1 g2 g3 g4 g5 g6 g7
  have HS := Lib.hid hsz
  have HBW := Lib.hid hbW
  have HF := Lib.hid hF
  have d0 := hF.c0
  have d1 := hF.c1
  have d2 := hF.c3 7 _ rfl
  clear hF hbW hsz
  go_wp2_with fail
  refine (put_any base mk _ v L ⟨4, .slice none 0 0, next, 0, lk⟩ _ (H.out.at_.under HBW.out) (by omega) rfl).mono ?_
  rintro e wd ⟨rfl, ⟨v2, hm2⟩, hk2⟩
  have hbwc := HBW.out
  go_wp2
  refine post_marks1 (v := .int .i64 L.length) rfl rfl [] wd.heap.size rfl (fun D h => absurd h (by simp)) List.nodup_nil (fun D h => absurd h (by simp)) (fun W' h => ⟨rfl, v2, [⟨4, .slice none 0 0, next, 0, lk⟩], hm2.under h, ?_, ?_⟩)
  · exact IsRd.one ⟨rfl, SetRd.nil _ _, rfl, rfl, rfl⟩
  · have hbase : base ≤ w.heap.size := by have := H.out.at_.lt; have := H.out.at_.le; omega
    exact ((MkKept.of_below hbase hbwc).trans hk2).trans (MkKept.of_below (by have := hk2.below.size; have := hbwc.size; omega) h)
set_option maxRecDepth 100000 in
set_option maxHeartbeats 4000000 in
theorem nodeGroup_any (base mk B b o c : Nat) (nodes : List Node) (v : Value) (L : List IV) (w0 w : World) (at_ : Nat) (next level : Int) (hM : MArg base mk B b o c nodes v L w0 w) (hat : at_ < nodes.length) (h1 : (nodes.getD at_ default).op = 5) (kid : Nat → Int → Int → Nat → List Inst × Int) (k0 : Nat) (hk0 : (nodes.getD at_ default).kids = [(k0 : Int)]) (hlt : k0 < at_) (hK : KidC base mk B b o c nodes w0 kid k0) (hlv : 0 ≤ level) (hlv2 : level + at_ ≤ 4000) (hL : L.length + (opF kid (nodes.getD at_ default) next level L.length).1.length + at_ * 400000000 ≤ 1000000000000) :
    Calls Tryd.prog 42 #[.pointer (some ⟨mk, 0, none⟩), .int .i64 at_, .int .i64 next, .int .i64 level] w (Lays base mk (.slice (some ⟨b, o, none⟩) nodes.length c) L (opF kid (nodes.getD at_ default) next level L.length).1 (opF kid (nodes.getD at_ default) next level L.length).2 w) := by
  have hop : opF kid (nodes.getD at_ default) next level L.length = (let a := kid k0 (L.length : Int) level (L.length + 1); (⟨3, [], next, 0, wrap64 (wrap64 (2 * (nodes.getD at_ default).group) + 1)⟩ :: (a.1 ++ [⟨3, [], a.2, 0, wrap64 (2 * (nodes.getD at_ default).group)⟩]), ((L.length + 1 + a.1.length : Nat) : Int))) := by
    unfold opF kid0
    rw [h1, hk0]
    rfl
  rw [hop] at hL ⊢
  clear hop
  have hn := hM.node at_ hat
  have hsl := hM.sets _ (List.getElem_mem hat)
  have hN := hM.count
  rw [getD_at nodes at_ default hat] at hn hsl
  generalize nodes.getD at_ default = nd at *
  have hb := hM.below
  have hmB : B ≤ w.heap.size := by have := hM.at_.lt; have := hM.at_.le; have := hM.le; omega
  obtain ⟨op, set, kids, mn, mx, lz, gr, lk⟩ := nd
  obtain ⟨g0, ⟨kv, g1, hset⟩, ⟨vk, g2, hkids⟩, g3, g4, g5, g6, g7⟩ := hn
  dsimp only at *
  subst h1 hk0
  have HSET := Lib.hid hset
  obtain ⟨Ak, ck, rfl, hk1, hk2, hk3⟩ := hkids
  obtain ⟨As, cs, rfl, _, _, hs3⟩ := hset
  clear hs3
  simp only [List.length_cons, List.length_nil, Nat.zero_add] at g2 hk1 hk2 hk3
  have hml := hM.at_.lt
  have c0 : ∀ w', Below w.heap.size w w' → w'.cell? ⟨mk, 0, none⟩ = some (.slice (some ⟨b, o, none⟩) nodes.length c) := fun w' hw => (hw.cell (p := ⟨mk, 0, none⟩) hml).trans (by simp [World.cell?, hM.at_.obj])
  have H := Lib.hid hM
  clear hM
  refine calls_of_wp_marks Tryd.func42 rfl ?_
  simp only [Tryd.ntmps42, List.size_toArray, List.length_cons, List.length_nil, Nat.reduceAdd, Nat.reduceSub, Array.replicate_succ, Array.replicate_zero, List.push_toArray, List.append_toArray, List.nil_append, List.cons_append]
  go_wp2_with fail
  obtain ⟨W, hW⟩ : ∃ W, W = nodeW w mk next level #[.int .i64 5, .slice As set.length cs, .slice Ak 1 ck, .int .i64 mn, .int .i64 mx, .bool lz, .int .i64 gr, .int .i64 lk] := ⟨_, rfl⟩
  have hbW : Below w.heap.size w W := by rw [hW]; exact nodeW_below _ _ _ _ _
  have hsz : W.heap.size = w.heap.size + 4 := by rw [hW]; exact nodeW_size _ _ _ _ _
  have hF : Frm mk w.heap.size next level #[.int .i64 5, .slice As set.length cs, .slice Ak 1 ck, .int .i64 mn, .int .i64 mx, .bool lz, .int .i64 gr, .int .i64 lk] W := by rw [hW]; exact nodeW_frm _ _ _ _ _ hml
  unfold nodeW at hW
  rw [← hW]
  clear hW c0 g0 g1 g2 g3 g4 g5 g6 g7
  have HS := Lib.hid hsz
  have HBW := Lib.hid hbW
  have HF := Lib.hid hF
  have hkc : ∀ W', Below B w0 W' → ∃ bk ok, Ak = some ⟨bk, ok, none⟩ ∧ W'.cell? ⟨bk, ok, none⟩ = some (.int .i64 k0) := fun W' hb' => by
    obtain ⟨bk, ok, e, hh⟩ := hk3 (by omega)
    exact ⟨bk, ok, e, by simpa using (hh 0 (by omega)).at_ W' hb'⟩
  have HKC := Lib.hid hkc
  clear hkc hk3
  have d0 := hF.c0
  have d1 := hF.c1
  have d2 := hF.c3 6 _ rfl
  clear hF hbW hsz
  go_wp2_with fail
  refine (put_any base mk _ v L ⟨3, .slice none 0 0, next, 0, wrap64 (wrap64 (2 * gr) + 1)⟩ _ (H.out.at_.under HBW.out) (by simp at hL; omega) rfl).mono ?_
  rintro e w1 ⟨rfl, ⟨v1, hm1⟩, hk1'⟩
  have hF1 := (HF.out.under (Below.refl W.heap.size W)).kept hk1'
  have hM1 : MArg base mk B b o c nodes v1 (L ++ [⟨3, .slice none 0 0, next, 0, wrap64 (wrap64 (2 * gr) + 1)⟩]) w0 w1 := (H.out.under HBW.out).on hk1' hm1
  have hbase : base ≤ w.heap.size := by have := H.out.at_.lt; have := H.out.at_.le; omega
  have hz1 := hk1'.below.size
  have f1 := hF1.c1
  have z1 := hF1.z1
  have f0 := hF1.c0
  have f2 := hF1.c2
  have f3 := hF1.c3 6 _ rfl
  have f4 := hF1.c3 2 _ rfl
  go_upto_region 21 with (fail)
  have hMS : MkAt base mk _ v1 _ (w1.setCell ⟨w.heap.size + 1, 0, none⟩ (.int .i64 L.length)) := hm1.set hF1.f1 (by decide) (by omega)
  have hFS := hF1.setNext (x := (L.length : Int))
  have hBS : Below base w1 (w1.setCell ⟨w.heap.size + 1, 0, none⟩ (.int .i64 L.length)) := MkKept.set (mk := mk) (by omega)
  have hIS : IsRd base (w1.setCell ⟨w.heap.size + 1, 0, none⟩ (.int .i64 L.length)) [⟨3, .slice none 0 0, next, 0, wrap64 (wrap64 (2 * gr) + 1)⟩] [⟨3, [], next, 0, wrap64 (wrap64 (2 * gr) + 1)⟩] := IsRd.one ⟨rfl, SetRd.nil _ _, rfl, rfl, rfl⟩
  have hKS : MkKept base mk w (w1.setCell ⟨w.heap.size + 1, 0, none⟩ (.int .i64 L.length)) := ((MkKept.of_below hbase HBW.out).trans hk1').store (by omega) (by omega)
  have hzS : (w1.setCell ⟨w.heap.size + 1, 0, none⟩ (.int .i64 L.length)).heap.size = w1.heap.size := by simp
  obtain ⟨W2, hW2⟩ : ∃ W2, W2 = w1.setCell ⟨w.heap.size + 1, 0, none⟩ (.int .i64 L.length) := ⟨_, rfl⟩
  rw [← hW2] at hMS hFS hBS hIS hzS hKS ⊢
  clear hW2 f0 f1 f2 f3 f4 z1 d0 d1 d2
  have hM2 : MArg base mk B b o c nodes v1 (L ++ [⟨3, .slice none 0 0, next, 0, wrap64 (wrap64 (2 * gr) + 1)⟩]) w0 W2 := ⟨hMS, hM1.below.trans (hBS.mono hM1.le), hM1.le, hM1.node, hM1.count, hM1.sets⟩
  have hKi := hK v1 (L ++ [⟨3, .slice none 0 0, next, 0, wrap64 (wrap64 (2 * gr) + 1)⟩]) W2.drew (L.length : Int) level (hM2.under (Below.refl _ _).drew) hlv (by omega)
  rw [show (L ++ [(⟨3, .slice none 0 0, next, 0, wrap64 (wrap64 (2 * gr) + 1)⟩ : IV)]).length = L.length + 1 by simp] at hKi
  simp only [List.length_cons, List.length_append, List.length_nil] at hL
  generalize kid k0 (L.length : Int) level (L.length + 1) = a at *
  obtain ⟨xs, bi⟩ := a
  dsimp only at hKi hL ⊢
  have HKI := Lib.hid (hKi (by omega))
  have hFd := hFS.under (Below.refl W2.heap.size W2).drew
  obtain ⟨bk, ok, rfl, hkd⟩ := HKC.out _ (hM2.under (Below.refl W2.heap.size W2).drew).below
  have d0 := hFd.c0
  have d1 := hFd.c1
  have d2 := hFd.c2
  have d3 := hFd.c3 6 _ rfl
  have d4 := hFd.c3 2 _ rfl
  have HM2 := Lib.hid hM2
  have HFS := Lib.hid hFS
  have HIS := Lib.hid hIS
  have HF1 := Lib.hid hF1
  clear hKi hM2 hFS hIS hFd hF1
  go_region_held3 (fun W' => W'.cell? ⟨w.heap.size, 0, none⟩ = some (.pointer (some ⟨mk, 0, none⟩)) ∧ W'.cell? ⟨w.heap.size + 1, 0, none⟩ = some (.int .i64 L.length) ∧ W'.cell? ⟨w.heap.size + 1 + 1, 0, none⟩ = some (.int .i64 level) ∧ W'.cell? ⟨w.heap.size + 1 + 1 + 1, 6, none⟩ = some (.int .i64 gr) ∧ W'.cell? ⟨w.heap.size + 1 + 1 + 1, 2, none⟩ = some (.slice (some ⟨bk, ok, none⟩) 1 ck) ∧ W'.cell? ⟨bk, ok, none⟩ = some (.int .i64 k0)) (go_keep)
    ((first
      | (go_at_call 42; (with_reducible refine HKI.out.mono ?_); rintro e w3 ⟨rfl, v3, M3, hm3, hi3, hk3⟩; have hF3 := (HFS.out.under (Below.refl W2.heap.size W2).drew).kept hk3; have e0 := hF3.c0; have e1 := hF3.c1; have e2 := hF3.c2; have e3 := hF3.c3 6 _ rfl; have e4 := hF3.c3 2 _ rfl; have HF3 := Lib.hid hF3; clear hF3; have e5 : w3.cell? ⟨bk, ok, none⟩ = some (.int .i64 k0) := (by obtain ⟨b2, o2, e, h⟩ := HKC.out _ (((HM2.out.under (Below.refl W2.heap.size W2).drew).below).trans (hk3.below.mono HM2.out.le)); cases e; exact h))
      | (go_at_call 41; refine (put_any base mk _ v3 _ ⟨3, .slice none 0 0, bi, 0, IntKind.i64.wrap (2 * gr)⟩ _ hm3 (by have := hi3.1; simp; omega) rfl).mono ?_; rintro e w4 ⟨rfl, ⟨v4, hm4⟩, hk4⟩; have hF4 := HF3.out.kept hk4; have e0 := hF4.c0; have e1 := hF4.c1; have e2 := hF4.c2; have e3 := hF4.c3 6 _ rfl; have e4 := hF4.c3 2 _ rfl; have e5 : w4.cell? ⟨bk, ok, none⟩ = some (.int .i64 k0) := (by obtain ⟨b2, o2, e, h⟩ := HKC.out _ (((HM2.out.under (Below.refl W2.heap.size W2).drew).below).trans ((hk3.below.trans hk4.below).mono HM2.out.le)); cases e; exact h))))
  go_wp2
  rw [IntWalk.i64_left] at hm4
  have hzb : base ≤ W2.heap.size := by have := HS.out; omega
  have hi3l := hi3.1
  have hlen : (L ++ [(⟨3, .slice none 0 0, next, 0, wrap64 (wrap64 (2 * gr) + 1)⟩ : IV)] ++ M3).length = L.length + 1 + xs.length := by simp; omega
  refine post_marks1 rfl rfl [] w4.heap.size rfl (fun D h => absurd h (by simp)) List.nodup_nil (fun D h => absurd h (by simp)) (fun W' h => ⟨ret_int (by simp; omega), v4, [⟨3, .slice none 0 0, next, 0, wrap64 (wrap64 (2 * gr) + 1)⟩] ++ (M3 ++ [⟨3, .slice none 0 0, bi, 0, wrap64 (2 * gr)⟩]), ?_, ?_, ?_⟩)
  · have := hm4.under h
    simpa [List.append_assoc] using this
  · have i1 := ((HIS.out.under (Below.refl W2.heap.size W2).drew).kept hk3 (HM2.out.under (Below.refl W2.heap.size W2).drew).at_.is)
    have i2 := (i1.app hi3).kept hk4 hm3.is
    have i3 := (i2.app (IsRd.one (i := ⟨3, .slice none 0 0, bi, 0, wrap64 (2 * gr)⟩) (x := ⟨3, [], bi, 0, wrap64 (2 * gr)⟩) ⟨rfl, SetRd.nil _ _, rfl, rfl, rfl⟩)).under h
    simpa [List.append_assoc] using i3
  · exact (((hKS.trans (MkKept.of_below hzb (Below.refl W2.heap.size W2).drew)).trans hk3).trans hk4).trans (MkKept.of_below (by have q1 := hk4.below.size; have q2 := hk3.below.size; simp at q2; omega) h)
end Go.Proofs.YtmbboianghbjkaaDoor

import Derived.Test.YtmbboianghbjkaaDoorRepeat
namespace Go.Proofs.YtmbboianghbjkaaDoor
open Go.RowKit Go.Shelf
set_option linter.unusedVariables false
set_option linter.unusedSimpArgs false
attribute [local go_sem] bl_refl bl_alloc bl_a2 bl_a3 bl_a4 bl_a5 bl_set bl_drew bl_drewN le_add_r lt_add_r addr_add Oper.semAt_some

set_option maxRecDepth 100000 in
set_option maxHeartbeats 4000000 in
theorem nodeRep_any (base mk B b o c : Nat) (nodes : List Node) (v : Value) (L : List IV) (w0 w : World) (at_ : Nat) (next level : Int) (hM : MArg base mk B b o c nodes v L w0 w) (hat : at_ < nodes.length) (h1 : (nodes.getD at_ default).op = 4) (kid : Nat → Int → Int → Nat → List Inst × Int) (k0 : Nat) (hk0 : (nodes.getD at_ default).kids = [(k0 : Int)]) (hlt : k0 < at_) (hK : (nodes.getD at_ default).max ≠ 0 → KidC base mk B b o c nodes w0 kid k0) (hlv : 0 ≤ level) (hlv2 : level + at_ ≤ 4000) (hnum : 0 ≤ (nodes.getD at_ default).min ∧ (nodes.getD at_ default).min ≤ 200 ∧ -1 ≤ (nodes.getD at_ default).max ∧ (nodes.getD at_ default).max ≤ 200 ∧ ((nodes.getD at_ default).min ≤ (nodes.getD at_ default).max ∨ (nodes.getD at_ default).max = -1)) (hL : L.length + (opF kid (nodes.getD at_ default) next level L.length).1.length + at_ * 400000000 ≤ 1000000000000) :
    Calls Tryd.prog 42 #[.pointer (some ⟨mk, 0, none⟩), .int .i64 at_, .int .i64 next, .int .i64 level] w (Lays base mk (.slice (some ⟨b, o, none⟩) nodes.length c) L (opF kid (nodes.getD at_ default) next level L.length).1 (opF kid (nodes.getD at_ default) next level L.length).2 w) := by
  have hop : opF kid (nodes.getD at_ default) next level L.length = repF kid k0 (nodes.getD at_ default) next level L.length := by
    unfold opF kid0
    rw [h1, hk0]
    rfl
  rw [hop] at hL ⊢
  clear hop
  have hn := hM.node at_ hat
  have hsl := hM.sets _ (List.getElem_mem hat)
  have hN := hM.count
  rw [getD_at nodes at_ default hat] at hn hsl
  generalize nodes.getD at_ default = nd at *
  have hb := hM.below
  have hmB : B ≤ w.heap.size := by have := hM.at_.lt; have := hM.at_.le; have := hM.le; omega
  obtain ⟨op, set, kids, mn, mx, lz, gr, lk⟩ := nd
  obtain ⟨g0, ⟨kv, g1, hset⟩, ⟨vk, g2, hkids⟩, g3, g4, g5, g6, g7⟩ := hn
  dsimp only at *
  subst h1 hk0
  obtain ⟨u1, u2, u3, u4, u5⟩ := hnum
  have HU5 := Lib.hid u5
  have HK0 := Lib.hid hK
  clear u5 hK
  have HSET := Lib.hid hset
  obtain ⟨Ak, ck, rfl, hk1, hk2, hk3⟩ := hkids
  obtain ⟨As, cs, rfl, _, _, hs3⟩ := hset
  clear hs3
  simp only [List.length_cons, List.length_nil, Nat.zero_add] at g2 hk1 hk2 hk3
  have hml := hM.at_.lt
  have c0 : ∀ w', Below w.heap.size w w' → w'.cell? ⟨mk, 0, none⟩ = some (.slice (some ⟨b, o, none⟩) nodes.length c) := fun w' hw => (hw.cell (p := ⟨mk, 0, none⟩) hml).trans (by simp [World.cell?, hM.at_.obj])
  have H := Lib.hid hM
  clear hM
  refine calls_of_wp_marks Tryd.func42 rfl ?_
  simp only [Tryd.ntmps42, List.size_toArray, List.length_cons, List.length_nil, Nat.reduceAdd, Nat.reduceSub, Array.replicate_succ, Array.replicate_zero, List.push_toArray, List.append_toArray, List.nil_append, List.cons_append]
  go_wp2_with fail
  obtain ⟨W, hW⟩ : ∃ W, W = nodeW w mk next level #[.int .i64 4, .slice As set.length cs, .slice Ak 1 ck, .int .i64 mn, .int .i64 mx, .bool lz, .int .i64 gr, .int .i64 lk] := ⟨_, rfl⟩
  have hbW : Below w.heap.size w W := by rw [hW]; exact nodeW_below _ _ _ _ _
  have hsz : W.heap.size = w.heap.size + 4 := by rw [hW]; exact nodeW_size _ _ _ _ _
  have hF : Frm mk w.heap.size next level #[.int .i64 4, .slice As set.length cs, .slice Ak 1 ck, .int .i64 mn, .int .i64 mx, .bool lz, .int .i64 gr, .int .i64 lk] W := by rw [hW]; exact nodeW_frm _ _ _ _ _ hml
  unfold nodeW at hW
  rw [← hW]
  clear hW c0 g0 g1 g2 g3 g4 g5 g6 g7
  have HS := Lib.hid hsz
  have HBW := Lib.hid hbW
  have HF := Lib.hid hF
  have hkc : ∀ W', Below B w0 W' → ∃ bk ok, Ak = some ⟨bk, ok, none⟩ ∧ W'.cell? ⟨bk, ok, none⟩ = some (.int .i64 k0) := fun W' hb' => by
    obtain ⟨bk, ok, e, hh⟩ := hk3 (by omega)
    exact ⟨bk, ok, e, by simpa using (hh 0 (by omega)).at_ W' hb'⟩
  have hLk : L.length + (repF kid k0 ⟨4, set, [(k0 : Int)], mn, mx, lz, gr, lk⟩ next level L.length).1.length + k0 * 400000000 ≤ 1000000000000 := by
    refine Nat.le_trans (Nat.add_le_add_left (Nat.mul_le_mul_right _ (Nat.le_of_lt hlt)) _) hL
  have HRP := Lib.hid (repeat_any base mk B b o c nodes v L w0 W kid k0 next level 4 mn mx gr lk lz (.slice As set.length cs) Ak ck ⟨4, set, [(k0 : Int)], mn, mx, lz, gr, lk⟩ (H.out.under HBW.out) hkc rfl HK0 hlv (by omega) rfl rfl rfl u1 u2 u3 u4 HU5 hLk)
  clear hkc hk3
  have d0 := hF.c0
  have d1 := hF.c1
  have d2 := hF.c2
  obtain ⟨x0, x1, x2, x3, x4, x5, x6, x7⟩ := row8 hF.f3
  clear hF hbW hsz
  go_wp2_with fail
  refine HRP.out.mono ?_
  rintro e wd ⟨rfl, v2, M2, hm2, hi2, hk2⟩
  have hbwc := HBW.out
  go_wp2
  refine post_marks1 rfl rfl [] wd.heap.size rfl (fun D h => absurd h (by simp)) List.nodup_nil (fun D h => absurd h (by simp)) (fun W' h => ⟨rfl, v2, M2, hm2.under h, hi2.under h, ?_⟩)
  have hbase : base ≤ w.heap.size := by have := H.out.at_.lt; have := H.out.at_.le; omega
  exact ((MkKept.of_below hbase hbwc).trans hk2).trans (MkKept.of_below (by have := hk2.below.size; have := hbwc.size; omega) h)
end Go.Proofs.YtmbboianghbjkaaDoor

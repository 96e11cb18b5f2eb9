import Derived.Test.YtmbboianghbjkaaDoorNodeS
namespace Go.Proofs.YtmbboianghbjkaaDoor
open Go.RowKit Go.Shelf
set_option linter.unusedVariables false
set_option linter.unusedSimpArgs false
attribute [local go_sem] bl_refl bl_alloc bl_a2 bl_a3 bl_a4 bl_a5 bl_set bl_drew bl_drewN le_add_r lt_add_r addr_add Oper.semAt_some

set_option maxRecDepth 100000 in
set_option maxHeartbeats 4000000 in
theorem nodeCat_any (base mk B b o c : Nat) (nodes : List Node) (v : Value) (L : List IV) (w0 w : World) (at_ : Nat) (next level : Int) (hM : MArg base mk B b o c nodes v L w0 w) (hat : at_ < nodes.length) (h1 : (nodes.getD at_ default).op = 2) (kid : Nat → Int → Int → Nat → List Inst × Int) (ks : List Nat) (hks : (nodes.getD at_ default).kids = ks.map (fun q : Nat => (q : Int))) (hlt : ∀ k ∈ ks, k < at_) (hkl : ks.length ≤ 2000) (hK : ∀ k ∈ ks, KidC base mk B b o c nodes w0 kid k) (hE : ∀ k ∈ ks, ∀ nx lv m, (kid k nx lv m).1.length ≤ 99999) (hlv : 0 ≤ level) (hlv2 : level + at_ ≤ 4000) (hL : L.length + at_ * 400000000 ≤ 1000000000000) :
    Calls Tryd.prog 42 #[.pointer (some ⟨mk, 0, none⟩), .int .i64 at_, .int .i64 next, .int .i64 level] w (Lays base mk (.slice (some ⟨b, o, none⟩) nodes.length c) L (catF kid level ks.reverse next L.length).1 (catF kid level ks.reverse next L.length).2 w) := by
  have hn := hM.node at_ hat
  have hsl := hM.sets _ (List.getElem_mem hat)
  have hN := hM.count
  rw [getD_at nodes at_ default hat] at hn hsl
  generalize nodes.getD at_ default = nd at *
  have hb := hM.below
  have hmB : B ≤ w.heap.size := by have := hM.at_.lt; have := hM.at_.le; have := hM.le; omega
  obtain ⟨op, set, kids, mn, mx, lz, gr, lk⟩ := nd
  obtain ⟨g0, ⟨kv, g1, hset⟩, ⟨vk, g2, hkids⟩, g3, g4, g5, g6, g7⟩ := hn
  dsimp only at *
  subst h1
  have HKS := Lib.hid hks
  have hkln : kids.length ≤ 2000 := by rw [hks, List.length_map]; exact hkl
  clear hks
  have HSET := Lib.hid hset
  obtain ⟨Ak, ck, rfl, hk1, hk2, hk3⟩ := hkids
  obtain ⟨As, cs, rfl, _, _, hs3⟩ := hset
  clear hs3
  have hml := hM.at_.lt
  have c0 : ∀ w', Below w.heap.size w w' → w'.cell? ⟨mk, 0, none⟩ = some (.slice (some ⟨b, o, none⟩) nodes.length c) := fun w' hw => (hw.cell (p := ⟨mk, 0, none⟩) hml).trans (by simp [World.cell?, hM.at_.obj])
  have H := Lib.hid hM
  clear hM
  refine calls_of_wp_marks Tryd.func42 rfl ?_
  simp only [Tryd.ntmps42, List.size_toArray, List.length_cons, List.length_nil, Nat.reduceAdd, Nat.reduceSub, Array.replicate_succ, Array.replicate_zero, List.push_toArray, List.append_toArray, List.nil_append, List.cons_append]
  go_wp2_with fail
  obtain ⟨W, hW⟩ : ∃ W, W = nodeW w mk next level #[.int .i64 2, .slice As set.length cs, .slice Ak kids.length ck, .int .i64 mn, .int .i64 mx, .bool lz, .int .i64 gr, .int .i64 lk] := ⟨_, rfl⟩
  have hbW : Below w.heap.size w W := by rw [hW]; exact nodeW_below _ _ _ _ _
  have hsz : W.heap.size = w.heap.size + 4 := by rw [hW]; exact nodeW_size _ _ _ _ _
  have hF : Frm mk w.heap.size next level #[.int .i64 2, .slice As set.length cs, .slice Ak kids.length ck, .int .i64 mn, .int .i64 mx, .bool lz, .int .i64 gr, .int .i64 lk] W := by rw [hW]; exact nodeW_frm _ _ _ _ _ hml
  unfold nodeW at hW
  rw [← hW]
  clear hW c0 g0 g1 g2 g3 g4 g5 g6 g7
  have HS := Lib.hid hsz
  have HBW := Lib.hid hbW
  have HF := Lib.hid hF
  obtain ⟨b2, o2, hA2, hI2⟩ : ∃ b2 o2, (0 < kids.length → Ak = some ⟨b2, o2, none⟩) ∧ ∀ k (h : k < kids.length), IntAt B w0 b2 (o2 + k) kids[k] := by
    rcases Nat.eq_zero_or_pos kids.length with h0 | hp
    · exact ⟨0, 0, fun h => absurd h (by omega), fun k h => absurd h (by omega)⟩
    · obtain ⟨b2, o2, e, h⟩ := hk3 hp
      exact ⟨b2, o2, fun _ => e, fun k hk => by simpa using h k hk⟩
  have HI2 := Lib.hid hI2
  have hbase : base ≤ w.heap.size := by have := H.out.at_.lt; have := H.out.at_.le; omega
  have hst : NSt base mk B b o c nodes v L [] [] w0 w next level #[.int .i64 2, .slice As set.length cs, .slice Ak kids.length ck, .int .i64 mn, .int .i64 mx, .bool lz, .int .i64 gr, .int .i64 lk] W := ⟨by rw [List.append_nil]; exact H.out.under HBW.out, IsRd.nil _ _, MkKept.of_below hbase HBW.out, hF⟩
  have d0 := hF.c0
  have d2 := hF.c3 2 _ rfl
  have HST := Lib.hid hst
  clear hk3 hI2 hF hbW hsz hst
  go_wp2_with (go_at_call 77; refine (back_any _ _ _ _).mono ?_; rintro e w' ⟨rfl, rfl⟩)
  clear d0 d2
  have hst5 := HST.out.under hbase ((Below.refl W.heap.size W).alloc (Nat.le_refl _) (.cells #[.slice Ak kids.length ck] 74))
  have hbx5 : Boxed (W.alloc (.cells #[.slice Ak kids.length ck] 74)) W.heap.size 74 (.slice Ak kids.length ck) := Boxed.new W 74 _
  have hsz5 : (W.alloc (.cells #[.slice Ak kids.length ck] 74)).heap.size = W.heap.size + 1 := by simp
  obtain ⟨W5, hW5⟩ : ∃ W5, W5 = W.alloc (.cells #[.slice Ak kids.length ck] 74) := ⟨_, rfl⟩
  rw [← hW5] at hst5 hbx5 hsz5 ⊢
  clear hW5
  have HB5 := Lib.hid hbx5
  have HS5 := Lib.hid hst5
  have HZ5 := Lib.hid hsz5
  clear hbx5 hst5 hsz5
  have hRdOf : ∀ X, Below B w0 X → Boxed X W.heap.size 74 (.slice Ak kids.length ck) → BackRd W.heap.size (.slice Ak kids.length ck) b2 o2 kids X := by
    intro X hX hbk
    refine ⟨hbk.cell, fun k hk => ?_⟩
    rw [(HI2.out k hk).at_ X hX, List.getElem?_eq_getElem hk]
    rfl
  have hzz : w.heap.size ≤ W.heap.size ∧ W.heap.size ≤ W5.heap.size := ⟨by have := HS.out; omega, by have := HZ5.out; omega⟩
  refine wp_range_back (α := Nat) W.heap.size b2 o2 ck Ak kids hA2 (by omega) rfl id (fun k => #[.int .i64 ((kids.length : Int) - 1 - k), .int .i64 (kids[kids.length - 1 - k]?.getD 0)]) (fun _ => rfl) (fun _ _ => rfl) ?hRd
    (fun pr X => ∃ (v' : Value) (M : List IV), NSt base mk B b o c nodes v' L M (catF kid level (pr.map (kapB ks)) next L.length).1 w0 w (catF kid level (pr.map (kapB ks)) next L.length).2 level #[.int .i64 2, .slice As set.length cs, .slice Ak kids.length ck, .int .i64 mn, .int .i64 mx, .bool lz, .int .i64 gr, .int .i64 lk] X ∧ Boxed X W.heap.size 74 (.slice Ak kids.length ck)) ?hI ?h0 ?a1 ?hassign ?hbody ?hdone
  case hRd =>
    intro X hX
    exact hRdOf X (HS5.out.arg.below.trans (hX.mono (by have := HS5.out.arg.le; omega))) ((hX.block _ (by have := HZ5.out; omega)).trans HB5.out)
  case hI =>
    rintro pr X X' row ⟨v', M, h1, h2⟩ hg hr
    exact ⟨v', M, h1.grown hbase hg (fun r e => ⟨by have := (hr r e).1; omega, (hr r e).2⟩), cells_stay hg (fun r e => (hr r e).2) h2⟩
  case h0 =>
    exact ⟨v, [], HS5.out, HB5.out⟩
  case hassign =>
    intro l x X K hKK
    gi_wp2
    exact hKK
  case hbody =>
    rintro l pr x X ⟨v', M, h1, h2⟩ hlen
    have hkp : 0 < ks.length := by have e := congrArg List.length HKS.out; rw [List.length_map] at e; omega
    have hmem := kapB_mem ks x hkp
    have hki : (kids[kids.length - 1 - x]?.getD 0) = ((kapB ks x : Nat) : Int) := by rw [HKS.out]; exact kapB_int ks x
    rw [hki]
    clear hki
    have hcl := catF_len kid level 99999 (pr.map (kapB ks)) next L.length (fun k hk => by
      obtain ⟨y, _, rfl⟩ := List.mem_map.1 hk
      exact hE _ (kapB_mem ks y hkp))
    have hpl : pr.length ≤ 2000 := by omega
    rw [List.length_map] at hcl
    have hMl := h1.rd.1
    have hkl2 := hlt _ hmem
    have hLM : (L ++ M).length = L.length + (catF kid level (pr.map (kapB ks)) next L.length).1.length := by simp; omega
    have hkc := hK _ hmem v' (L ++ M) X (catF kid level (pr.map (kapB ks)) next L.length).2 level h1.arg hlv (by omega) (by
      have := hE _ hmem (catF kid level (pr.map (kapB ks)) next L.length).2 level (L ++ M).length
      have : pr.length * 99999 ≤ 2000 * 99999 := Nat.mul_le_mul_right _ hpl
      omega)
    rw [hLM] at hkc
    have hsn := catF_snoc kid level (kapB ks x) (pr.map (kapB ks)) next L.length
    generalize catF kid level (pr.map (kapB ks)) next L.length = CF at *
    generalize kid (kapB ks x) CF.2 level (L.length + CF.1.length) = KF at *
    have HKC := Lib.hid hkc
    have HSN := Lib.hid hsn
    have H1 := Lib.hid h1
    have c0 := h1.frm.c0
    have c1 := h1.frm.c1
    have c2 := h1.frm.c2
    clear hkc hsn hcl hMl hLM
    gi_wp2
    refine ⟨trivial, (CallsIn.inRound l ((callsIn_wide (n := 6)).2 HKC.out)).mono ?_⟩
    rintro e w1 ⟨rfl, v2, M2, hm2, hi2, hk2⟩
    have hst2 := H1.out.on hk2 hm2 hi2
    have z1 := hst2.frm.z1
    have z0 := hst2.frm.c1
    have HST2 := Lib.hid hst2
    clear hst2
    gi_wp2
    have hst3 := HST2.out.setNext hbase KF.2
    have hbx3 : Boxed (w1.setCell ⟨w.heap.size + 1, 0, none⟩ (.int .i64 KF.2)) W.heap.size 74 (.slice Ak kids.length ck) := (Below.heap_setCell _ _ _ _ (by have := HS.out; simp; omega)).trans (hk2.other _ _ h2 (by have := HS.out; have := H1.out.frm.lt; omega) (fun _ _ e => by cases e))
    refine ⟨((hk2.others H1.out.arg.at_.is).trans (KeepsOthers.setCell _ _ _)).from _, fun _ => hRdOf _ hst3.arg.below hbx3, v2, M ++ M2, ?_, hbx3⟩
    rw [List.map_append, List.map_cons, List.map_nil, HSN.out]
    exact hst3
  case hdone =>
    rintro D X hD ⟨v', M, h1, h2⟩ hD2
    have hkn : kids.length = ks.length := by rw [HKS.out, List.length_map]
    rw [hkn, kapB_all] at h1
    clear hkn
    generalize catF kid level ks.reverse next L.length = CF at *
    have c1 := h1.frm.c1
    have H1 := Lib.hid h1
    clear h1 h2
    go_wp2
    have hgr := H1.out.grown hbase (putObj_grown X D (.deferred none)) (fun r e => by cases e; exact ⟨by omega, _, hD2, rfl⟩)
    exact post_mark_one rfl rfl D rfl hD2 ⟨rfl, v', M, hgr.arg.at_, hgr.rd, hgr.kept⟩
end Go.Proofs.YtmbboianghbjkaaDoor

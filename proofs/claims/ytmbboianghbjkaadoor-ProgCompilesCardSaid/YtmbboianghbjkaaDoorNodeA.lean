import Derived.Test.YtmbboianghbjkaaDoorNodeC
import Derived.Test.YtmbboianghbjkaaDoorRoundH
namespace Go.Proofs.YtmbboianghbjkaaDoor
open Go.RowKit Go.Shelf
set_option linter.unusedVariables false
set_option linter.unusedSimpArgs false
attribute [local go_sem] bl_refl bl_alloc bl_a2 bl_a3 bl_a4 bl_a5 bl_set bl_drew bl_drewN le_add_r lt_add_r addr_add Oper.semAt_some

theorem NSt.setBox {base mk B b o c q : Nat} {nodes : List Node} {v : Value} {L M : List IV} {xs : List Inst} {w0 w : World} {nx level : Int} {nc : Array Value} {W : World} (h : NSt base mk B b o c nodes v L M xs w0 w nx level nc W) (hb : base ≤ w.heap.size) {cs : Array Value} {t : TypeId} {r : Nat × Nat}
    (hq : W.heap[q]? = some (.cells cs t r)) (h1 : t ≠ 47) (h2 : t ≠ 96) (hqq : w.heap.size + 4 ≤ q) (x : Value) : NSt base mk B b o c nodes v L M xs w0 w nx level nc (W.setCell ⟨q, 0, none⟩ x) := by
  have hle := h.arg.le
  have hlt := h.frm.lt
  refine ⟨⟨h.arg.at_.set hq h1 (by omega), h.arg.below.setCell (by simp; omega) _, h.arg.le, h.arg.node, h.arg.count, h.arg.sets⟩, h.rd.set hq h2, h.kept.store (by omega) (by omega), ?_⟩
  exact ⟨(Below.heap_setCell _ _ _ _ (by simp; omega)).trans h.frm.f0, (Below.heap_setCell _ _ _ _ (by simp; omega)).trans h.frm.f1, (Below.heap_setCell _ _ _ _ (by simp; omega)).trans h.frm.f2, (Below.heap_setCell _ _ _ _ (by simp; omega)).trans h.frm.f3, h.frm.lt⟩
theorem altF_snoc (kid : Nat → Int → Int → Nat → List Inst × Int) (next level : Int) (k : Nat) : ∀ (l : List Nat) (bg : Int) (m : Nat),
    altF kid next level (l ++ [k]) bg m = ((altF kid next level l bg m).1 ++ (kid k next level (m + (altF kid next level l bg m).1.length)).1 ++ [⟨2, [], (kid k next level (m + (altF kid next level l bg m).1.length)).2, (altF kid next level l bg m).2, 0⟩], ((m + (altF kid next level l bg m).1.length + (kid k next level (m + (altF kid next level l bg m).1.length)).1.length : Nat) : Int))
  | [], bg, m => by simp [altF]
  | x :: l, bg, m => by
    simp only [List.cons_append, altF]
    rw [altF_snoc kid next level k l]
    have e : m + ((kid x next level m).1 ++ (⟨2, [], (kid x next level m).2, bg, 0⟩ : Inst) :: (altF kid next level l ((m + (kid x next level m).1.length : Nat) : Int) (m + (kid x next level m).1.length + 1)).1).length = m + (kid x next level m).1.length + 1 + (altF kid next level l ((m + (kid x next level m).1.length : Nat) : Int) (m + (kid x next level m).1.length + 1)).1.length := by simp; omega
    rw [e]
    simp [List.append_assoc]
theorem altF_len (kid : Nat → Int → Int → Nat → List Inst × Int) (next level : Int) (E : Nat) : ∀ (l : List Nat) (bg : Int) (m : Nat), (∀ k ∈ l, ∀ nx lv m, (kid k nx lv m).1.length ≤ E) → (altF kid next level l bg m).1.length ≤ l.length * (E + 1)
  | [], bg, m, _ => by simp [altF]
  | x :: l, bg, m, h => by
    simp only [altF, List.length_append, List.length_cons]
    have h1 := h x (by simp) next level m
    have h2 := altF_len kid next level E l ((m + (kid x next level m).1.length : Nat) : Int) (m + (kid x next level m).1.length + 1) (fun k hk => h k (by simp [hk]))
    rw [Nat.add_mul, Nat.one_mul]
    omega
set_option maxRecDepth 100000 in
set_option maxHeartbeats 4000000 in
theorem nodeAlt_any (base mk B b o c : Nat) (nodes : List Node) (v : Value) (L : List IV) (w0 w : World) (at_ : Nat) (next level : Int) (hM : MArg base mk B b o c nodes v L w0 w) (hat : at_ < nodes.length) (h1 : (nodes.getD at_ default).op = 3) (kid : Nat → Int → Int → Nat → List Inst × Int) (ks : List Nat) (k0 : Nat) (hks : (nodes.getD at_ default).kids = (ks ++ [k0]).map (fun q : Nat => (q : Int))) (hlt : ∀ k ∈ ks ++ [k0], k < at_) (hkl : ks.length ≤ 2000) (hK : ∀ k ∈ ks ++ [k0], KidC base mk B b o c nodes w0 kid k) (hE : ∀ k ∈ ks ++ [k0], ∀ nx lv m, (kid k nx lv m).1.length ≤ 99999) (hlv : 0 ≤ level) (hlv2 : level + at_ ≤ 4000) (hL : L.length + at_ * 400000000 ≤ 1000000000000) :
    Calls Tryd.prog 42 #[.pointer (some ⟨mk, 0, none⟩), .int .i64 at_, .int .i64 next, .int .i64 level] w (Lays base mk (.slice (some ⟨b, o, none⟩) nodes.length c) L ((kid k0 next level L.length).1 ++ (altF kid next level ks.reverse (kid k0 next level L.length).2 (L.length + (kid k0 next level L.length).1.length)).1) (altF kid next level ks.reverse (kid k0 next level L.length).2 (L.length + (kid k0 next level L.length).1.length)).2 w) := by
  have hn := hM.node at_ hat
  have hsl := hM.sets _ (List.getElem_mem hat)
  have hN := hM.count
  rw [getD_at nodes at_ default hat] at hn hsl
  generalize nodes.getD at_ default = nd at *
  have hb := hM.below
  have hmB : B ≤ w.heap.size := by have := hM.at_.lt; have := hM.at_.le; have := hM.le; omega
  obtain ⟨op, set, kids, mn, mx, lz, gr, lk⟩ := nd
  obtain ⟨g0, ⟨kv, g1, hset⟩, ⟨vk, g2, hkids⟩, g3, g4, g5, g6, g7⟩ := hn
  dsimp only at *
  subst h1
  have HKS := Lib.hid hks
  have hkln : kids.length ≤ 2001 := by rw [hks, List.length_map, List.length_append]; simp; omega
  have HJ := Lib.hid (show kids.length = ks.length + 1 by rw [hks]; simp)
  clear hks
  have HSET := Lib.hid hset
  obtain ⟨Ak, ck, rfl, hkc1, hkc2, hk3⟩ := hkids
  obtain ⟨As, cs, rfl, _, _, hs3⟩ := hset
  clear hs3
  have hml := hM.at_.lt
  have c0 : ∀ w', Below w.heap.size w w' → w'.cell? ⟨mk, 0, none⟩ = some (.slice (some ⟨b, o, none⟩) nodes.length c) := fun w' hw => (hw.cell (p := ⟨mk, 0, none⟩) hml).trans (by simp [World.cell?, hM.at_.obj])
  have H := Lib.hid hM
  clear hM
  refine calls_of_wp_marks Tryd.func42 rfl ?_
  simp only [Tryd.ntmps42, List.size_toArray, List.length_cons, List.length_nil, Nat.reduceAdd, Nat.reduceSub, Array.replicate_succ, Array.replicate_zero, List.push_toArray, List.append_toArray, List.nil_append, List.cons_append]
  go_wp2_with fail
  obtain ⟨W, hW⟩ : ∃ W, W = nodeW w mk next level #[.int .i64 3, .slice As set.length cs, .slice Ak kids.length ck, .int .i64 mn, .int .i64 mx, .bool lz, .int .i64 gr, .int .i64 lk] := ⟨_, rfl⟩
  have hbW : Below w.heap.size w W := by rw [hW]; exact nodeW_below _ _ _ _ _
  have hsz : W.heap.size = w.heap.size + 4 := by rw [hW]; exact nodeW_size _ _ _ _ _
  have hF : Frm mk w.heap.size next level #[.int .i64 3, .slice As set.length cs, .slice Ak kids.length ck, .int .i64 mn, .int .i64 mx, .bool lz, .int .i64 gr, .int .i64 lk] W := by rw [hW]; exact nodeW_frm _ _ _ _ _ hml
  unfold nodeW at hW
  rw [← hW]
  clear hW c0 g0 g1 g2 g3 g4 g5 g6 g7
  have HS := Lib.hid hsz
  have HBW := Lib.hid hbW
  have HF := Lib.hid hF
  obtain ⟨b2, o2, hA2, hI2⟩ : ∃ b2 o2, (0 < kids.length → Ak = some ⟨b2, o2, none⟩) ∧ ∀ k (h : k < kids.length), IntAt B w0 b2 (o2 + k) kids[k] := by
    rcases Nat.eq_zero_or_pos kids.length with h0 | hp
    · exact ⟨0, 0, fun h => absurd h (by omega), fun k h => absurd h (by omega)⟩
    · obtain ⟨b2, o2, e, h⟩ := hk3 hp
      exact ⟨b2, o2, fun _ => e, fun k hk => by simpa using h k hk⟩
  have HI2 := Lib.hid hI2
  have hbase : base ≤ w.heap.size := by have := H.out.at_.lt; have := H.out.at_.le; omega
  have hst : NSt base mk B b o c nodes v L [] [] w0 w next level #[.int .i64 3, .slice As set.length cs, .slice Ak kids.length ck, .int .i64 mn, .int .i64 mx, .bool lz, .int .i64 gr, .int .i64 lk] W := ⟨by rw [List.append_nil]; exact H.out.under HBW.out, IsRd.nil _ _, MkKept.of_below hbase HBW.out, hF⟩
  have d0 := hF.c0
  have d2 := hF.c3 2 _ rfl
  have HST := Lib.hid hst
  have hcl : ∀ X, Below B w0 X → X.cell? ⟨b2, o2 + ks.length, none⟩ = some (.int .i64 (k0 : Int)) := fun X hX => by
    have hj := HJ.out
    rw [(HI2.out ks.length (by omega)).at_ X hX]
    congr 1
    have e := HKS.out
    subst e
    simp
  obtain rfl := hA2 (by have := HJ.out; omega)
  have HCL := Lib.hid hcl
  have hin0 : (0 : Int) ≤ (ks.length : Int) := by omega
  have hin1 : (ks.length : Int) < (kids.length : Int) := by have := HJ.out; omega
  have hk0m : k0 ∈ ks ++ [k0] := by simp
  have hk0e := hE _ hk0m next level L.length
  have HF0 := Lib.hid (show W.heap.size ≠ mk by have := HS.out; have := hF.lt; omega)
  have HBN := Lib.hid (show (W.alloc (.cells #[.int .i64 0] 3)).drew.heap[W.heap.size]? = some (.cells #[.int .i64 0] 3) from Boxed.new W 3 _)
  have HBK := Lib.hid (show ∀ w1, MkKept base mk (W.alloc (.cells #[.int .i64 0] 3)).drew w1 → w1.heap[W.heap.size]? = some (.cells #[.int .i64 0] 3) ∧ w1.frozen? ⟨W.heap.size, 0, none⟩ = false from fun w1 h1 => by
    have hh := h1.other W.heap.size _ HBN.out HF0.out (fun _ _ e => by cases e)
    exact ⟨hh, by simp [World.frozen?, hh]⟩)
  have HB1 := Lib.hid (Below.refl W.heap.size W).drew
  have HB2 := Lib.hid ((Below.refl W.heap.size W).alloc (Nat.le_refl _) (.cells #[.int .i64 0] 3)).drew
  have hkc : ∀ W1, Below W.heap.size W W1 → Calls Tryd.prog 42 #[.pointer (some ⟨mk, 0, none⟩), .int .i64 k0, .int .i64 next, .int .i64 level] W1 (fun e w1 => e = .returned (.int .i64 (kid k0 next level L.length).2) ∧ MkKept base mk W1 w1 ∧ (W1 = (W.alloc (.cells #[.int .i64 0] 3)).drew → w1.frozen? ⟨W.heap.size, 0, none⟩ = false) ∧ (W1 = (W.alloc (.cells #[.int .i64 0] 3)).drew → w1.cell? ⟨W.heap.size, 0, none⟩ = some (.int .i64 0)) ∧ ∃ (v' : Value) (M : List IV), NSt base mk B b o c nodes v' L M (kid k0 next level L.length).1 w0 w next level #[.int .i64 3, .slice As set.length cs, .slice (some ⟨b2, o2, none⟩) kids.length ck, .int .i64 mn, .int .i64 mx, .bool lz, .int .i64 gr, .int .i64 lk] w1) := fun W1 hB1 => by
    refine (hK _ hk0m v L W1 next level ((H.out.under HBW.out).under hB1) hlv (by have := hlt _ hk0m; omega) (by have := hlt _ hk0m; omega)).mono ?_
    rintro e w1 ⟨rfl, v1, M1, hm1, hi1, hk1'⟩
    exact ⟨rfl, hk1', fun e => (by subst e; exact (HBK.out _ hk1').2), fun e => (by subst e; exact Boxed.cell (HBK.out _ hk1').1), v1, M1, (HST.out.under hbase hB1).on hk1' (by simpa using hm1) hi1⟩
  generalize kid k0 next level L.length = K0 at *
  have HKC := Lib.hid hkc
  have HHF := Lib.hid (show ∀ W1, Below W.heap.size W W1 → W1.cell? ⟨w.heap.size, 0, none⟩ = some (.pointer (some ⟨mk, 0, none⟩)) ∧ W1.cell? ⟨w.heap.size + 1, 0, none⟩ = some (.int .i64 next) ∧ W1.cell? ⟨w.heap.size + 1 + 1, 0, none⟩ = some (.int .i64 level) ∧ W1.cell? ⟨w.heap.size + 1 + 1 + 1, 2, none⟩ = some (.slice (some ⟨b2, o2, none⟩) kids.length ck) ∧ W1.cell? ⟨b2, o2 + ks.length, none⟩ = some (.int .i64 (k0 : Int)) from fun W1 hB1 => ⟨(HF.out.under hB1).c0, (HF.out.under hB1).c1, (HF.out.under hB1).c2, (HF.out.under hB1).c3 2 _ rfl, HCL.out _ ((H.out.under HBW.out).under hB1).below⟩)
  obtain ⟨e0, e1, e2, e3, e4⟩ := HHF.out _ (Below.refl W.heap.size W).drew
  obtain ⟨y0, y1, y2, y3, y4⟩ := HHF.out _ ((Below.refl W.heap.size W).alloc (Nat.le_refl _) (.cells #[.int .i64 0] 3)).drew
  have n0 : W.heap.size ≠ w.heap.size := World.new_ne W.drew _ e0
  have n1 : W.heap.size ≠ w.heap.size + 1 := World.new_ne W.drew _ e1
  have n2 : W.heap.size ≠ w.heap.size + 1 + 1 := World.new_ne W.drew _ e2
  have n3 : W.heap.size ≠ w.heap.size + 1 + 1 + 1 := World.new_ne W.drew _ e3
  have n4 : W.heap.size ≠ b2 := World.new_ne W.drew _ e4
  clear hk3 hI2 hF hbW hsz hst hcl hkc
  go_upto_region 14 with (fail)
  rw [show (kids.length : Int) - 1 = (ks.length : Int) from by have := HJ.out; omega]
  clear d0 d2
  go_region_held3 (fun W' => W'.cell? ⟨w.heap.size, 0, none⟩ = some (.pointer (some ⟨mk, 0, none⟩)) ∧ W'.cell? ⟨w.heap.size + 1, 0, none⟩ = some (.int .i64 next) ∧ W'.cell? ⟨w.heap.size + 1 + 1, 0, none⟩ = some (.int .i64 level) ∧ W'.cell? ⟨w.heap.size + 1 + 1 + 1, 2, none⟩ = some (.slice (some ⟨b2, o2, none⟩) kids.length ck) ∧ W'.cell? ⟨b2, o2 + ks.length, none⟩ = some (.int .i64 (k0 : Int))) (go_keep)
    ((go_at_call 42; refine Calls.mono (HKC.out _ (by first | exact HB1.out | exact HB2.out)) ?_; rintro e w1 ⟨rfl, hk1', f6, f7, v1, M1, hst1⟩; have f0 := hst1.frm.c0; have f1 := hst1.frm.c1; have f2 := hst1.frm.c2; have f3 := hst1.frm.c3 2 _ rfl; have f4 := HCL.out _ hst1.arg.below; (try simp only [eq_self_iff_true, forall_const] at f6 f7); have HK1 := Lib.hid hk1'; have HST1 := Lib.hid hst1; clear hk1' hst1))
  · obtain ⟨X, hX⟩ : ∃ X, X = w1.alloc (.cells #[.int .i64 K0.2] 3) := ⟨_, rfl⟩
    have hst := HST1.out.under hbase ((Below.refl w1.heap.size w1).alloc (Nat.le_refl _) (.cells #[.int .i64 K0.2] 3))
    have hbx : Boxed (w1.alloc (.cells #[.int .i64 K0.2] 3)) w1.heap.size 3 (.int .i64 K0.2) := Boxed.new w1 3 _
    have hqq : w.heap.size + 4 ≤ w1.heap.size := by have := HK1.out.below.size; have := HS.out; have := (Array.getElem?_eq_some_iff.1 HST1.out.frm.f3).1; omega
    rw [← hX] at hst hbx ⊢
    clear hX
    generalize w1.heap.size = q at hbx hqq ⊢
    have HBX := Lib.hid hbx
    have HSX := Lib.hid hst
    clear hbx hst f0 f1 f2 f3 f4 f6 f7 HK1 HST1
    obtain ⟨kd, hkd⟩ : ∃ kd : List Int, kd = ks.map (fun p : Nat => (p : Int)) := ⟨_, rfl⟩
    have hkdl : kd.length = ks.length := by rw [hkd, List.length_map]
    have HKD := Lib.hid hkd
    have HKL := Lib.hid hkdl
    have hck : (ks.length : Int) ≤ (ck : Int) := by have := HJ.out; omega
    have g2 := HSX.out.frm.c3 2 _ rfl
    have HQ := Lib.hid hqq
    clear hkd hkdl hqq
    go_wp2_with (go_at_call 77; refine (back_any _ _ _ _).mono ?_; rintro e w' ⟨rfl, rfl⟩)
    clear g2 hck
    rw [← HKL.out]
    have hst5 := HSX.out.under hbase ((Below.refl X.heap.size X).alloc (Nat.le_refl _) (.cells #[.slice (some ⟨b2, o2, none⟩) kd.length ck] 74))
    have hbx5 : Boxed (X.alloc (.cells #[.slice (some ⟨b2, o2, none⟩) kd.length ck] 74)) X.heap.size 74 (.slice (some ⟨b2, o2, none⟩) kd.length ck) := Boxed.new X 74 _
    have hqx : q < X.heap.size := (Array.getElem?_eq_some_iff.1 HBX.out).1
    have hbq5 : Boxed (X.alloc (.cells #[.slice (some ⟨b2, o2, none⟩) kd.length ck] 74)) q 3 (.int .i64 K0.2) := (((Below.refl X.heap.size X).alloc (Nat.le_refl _) _).block q hqx).trans HBX.out
    have hsz5 : (X.alloc (.cells #[.slice (some ⟨b2, o2, none⟩) kd.length ck] 74)).heap.size = X.heap.size + 1 := by simp
    obtain ⟨W5, hW5⟩ : ∃ W5, W5 = X.alloc (.cells #[.slice (some ⟨b2, o2, none⟩) kd.length ck] 74) := ⟨_, rfl⟩
    rw [← hW5] at hst5 hbx5 hsz5 hbq5 ⊢
    clear hW5
    generalize X.heap.size = q5 at hbx5 hsz5 hqx ⊢
    have HB5 := Lib.hid hbx5
    have HQ5 := Lib.hid hbq5
    have HS5 := Lib.hid hst5
    have HZ5 := Lib.hid hsz5
    clear hbx5 hst5 hsz5 hbq5
    have hRdOf : ∀ Y, Below B w0 Y → Boxed Y q5 74 (.slice (some ⟨b2, o2, none⟩) kd.length ck) → BackRd q5 (.slice (some ⟨b2, o2, none⟩) kd.length ck) b2 o2 kd Y := by
      intro Y hY hbk
      refine ⟨hbk.cell, fun k hk => ?_⟩
      have hk2 : k < kids.length := by have := HKL.out; have := HJ.out; omega
      rw [(HI2.out k hk2).at_ Y hY]
      congr 1
      have e1 := HKS.out
      have e2 := HKD.out
      subst e1 e2
      simp only [List.length_map] at hk
      simp [hk]
    have hzz : q < q5 ∧ q5 < W5.heap.size ∧ w.heap.size + 4 ≤ q := ⟨hqx, by have := HZ5.out; omega, HQ.out⟩
    refine wp_range_back (α := Nat) q5 b2 o2 ck (some ⟨b2, o2, none⟩) kd (fun _ => rfl) (by have := HKL.out; omega) rfl id (fun k => #[.int .i64 ((kd.length : Int) - 1 - k), .int .i64 (kd[kd.length - 1 - k]?.getD 0)]) (fun _ => rfl) (fun _ _ => rfl) ?hRd
      (fun pr Y => ∃ (v' : Value) (M : List IV), NSt base mk B b o c nodes v' L M (K0.1 ++ (altF kid next level (pr.map (kapB ks)) K0.2 (L.length + K0.1.length)).1) w0 w next level #[.int .i64 3, .slice As set.length cs, .slice (some ⟨b2, o2, none⟩) kids.length ck, .int .i64 mn, .int .i64 mx, .bool lz, .int .i64 gr, .int .i64 lk] Y ∧ Boxed Y q 3 (.int .i64 (altF kid next level (pr.map (kapB ks)) K0.2 (L.length + K0.1.length)).2) ∧ Boxed Y q5 74 (.slice (some ⟨b2, o2, none⟩) kd.length ck)) ?hI ?h0 ?a1 ?hassign ?hbody ?hdone
    case hRd =>
      intro Y hY
      exact hRdOf Y (HS5.out.arg.below.trans (hY.mono (by have := HS5.out.arg.le; omega))) ((hY.block _ (by omega)).trans HB5.out)
    case hI =>
      rintro pr Y Y' row ⟨v', M, h1, h2, h3⟩ hg hr
      exact ⟨v', M, h1.grown hbase hg (fun r e => ⟨by have := (hr r e).1; omega, (hr r e).2⟩), cells_stay hg (fun r e => (hr r e).2) h2, cells_stay hg (fun r e => (hr r e).2) h3⟩
    case h0 =>
      refine ⟨v1, M1, ?_, HQ5.out, HB5.out⟩
      have e : K0.1 ++ (altF kid next level (([] : List Nat).map (kapB ks)) K0.2 (L.length + K0.1.length)).1 = K0.1 := by simp [altF]
      rw [e]
      exact HS5.out
    case hassign =>
      intro l x Y K hKK
      gi_wp2
      exact hKK
    case hbody =>
      rintro l pr x Y ⟨v', M, h1, h2, h3⟩ hlen
      have hkp : 0 < ks.length := by have := HKL.out; omega
      have hmem := kapB_mem ks x hkp
      have hmem2 : kapB ks x ∈ ks ++ [k0] := by simp [hmem]
      have hki : (kd[kd.length - 1 - x]?.getD 0) = ((kapB ks x : Nat) : Int) := by rw [HKD.out]; exact kapB_int ks x
      rw [hki]
      clear hki
      have hcl := altF_len kid next level 99999 (pr.map (kapB ks)) K0.2 (L.length + K0.1.length) (fun k hk => by
        obtain ⟨y, _, rfl⟩ := List.mem_map.1 hk
        exact hE _ (by simp [kapB_mem ks y hkp]))
      have hpl : pr.length ≤ 2000 := by have := HKL.out; omega
      rw [List.length_map] at hcl
      have hMl := h1.rd.1
      rw [List.length_append] at hMl
      have hkl2 := hlt _ hmem2
      have hLM : (L ++ M).length = L.length + K0.1.length + (altF kid next level (pr.map (kapB ks)) K0.2 (L.length + K0.1.length)).1.length := by simp; omega
      have hp9 : pr.length * 100000 ≤ 2000 * 100000 := Nat.mul_le_mul_right _ hpl
      have hkb := hE _ hmem2 next level (L ++ M).length
      have hkc := hK _ hmem2 v' (L ++ M) Y.drew next level (h1.arg.under (Below.refl _ _).drew) hlv (by omega) (by omega)
      have hsn := altF_snoc kid next level (kapB ks x) (pr.map (kapB ks)) K0.2 (L.length + K0.1.length)
      rw [hLM] at hkc hkb
      generalize altF kid next level (pr.map (kapB ks)) K0.2 (L.length + K0.1.length) = AF at *
      generalize kid (kapB ks x) next level (L.length + K0.1.length + AF.1.length) = KF at *
      have hLp : (L ++ M).length + KF.1.length ≤ 999999999998 := by omega
      have HKC := Lib.hid hkc
      have HSN := Lib.hid hsn
      have H1 := Lib.hid h1
      have HBG := Lib.hid h2
      have HB3 := Lib.hid h3
      have HLM := Lib.hid hLM
      have HML := Lib.hid hMl
      have c0 : Y.drew.cell? ⟨w.heap.size, 0, none⟩ = some (.pointer (some ⟨mk, 0, none⟩)) := h1.frm.c0
      have c1 : Y.drew.cell? ⟨w.heap.size + 1, 0, none⟩ = some (.int .i64 next) := h1.frm.c1
      have c2 : Y.drew.cell? ⟨w.heap.size + 1 + 1, 0, none⟩ = some (.int .i64 level) := h1.frm.c2
      have c3 : Y.drew.cell? ⟨q, 0, none⟩ = some (.int .i64 AF.2) := Boxed.cell h2
      clear hkc hsn hcl hMl hLM h1 h2 h3 hp9 hkb hkl2 hpl
      gi_wp2
      refine region_round (S := (fun W' : World => W'.cell? ⟨w.heap.size, 0, none⟩ = some (.pointer (some ⟨mk, 0, none⟩)) ∧ W'.cell? ⟨w.heap.size + 1, 0, none⟩ = some (.int .i64 next) ∧ W'.cell? ⟨w.heap.size + 1 + 1, 0, none⟩ = some (.int .i64 level))) (by kernel_rfl) (by kernel_rfl) ⟨c0, c1, c2⟩ (fun hH => ?_)
      refine wpAnyH_take (i := 0) (v := ?vv0a) rfl (by kernel_rfl) (by kernel_rfl) (by kernel_rfl) (fun _ _ _ h => by cases h.1) (Or.inl ⟨by rfl, ?hy0a⟩) (by assumption) ?rs0a
      case hy0a =>
        intro W' hS'
        (try dsimp only at hS')
        go_simp
        try with_reducible rfl
      try simp only [Act.put, List.setIfInBounds_toArray, List.set_cons_zero, List.set_cons_succ]
      refine wpAnyH_take (i := 1) (v := ?vv1a) rfl (by kernel_rfl) (by kernel_rfl) (by kernel_rfl) (fun _ _ _ h => by cases h.1) (Or.inl ⟨by rfl, ?hy1a⟩) (by assumption) ?rs1a
      case hy1a =>
        intro W' hS'
        (try dsimp only at hS')
        go_simp
        try with_reducible rfl
      try simp only [Act.put, List.setIfInBounds_toArray, List.set_cons_zero, List.set_cons_succ]
      refine wpAnyH_take (i := 2) (v := ?vv2a) rfl (by kernel_rfl) (by kernel_rfl) (by kernel_rfl) (fun _ _ _ h => by cases h.1) (Or.inl ⟨by rfl, ?hy2a⟩) (by assumption) ?rs2a
      case hy2a =>
        intro W' hS'
        (try dsimp only at hS')
        go_simp
        try with_reducible rfl
      try simp only [Act.put, List.setIfInBounds_toArray, List.set_cons_zero, List.set_cons_succ]
      refine wpAnyH_take (i := 3) (v := ?vv3a) rfl (by kernel_rfl) (by kernel_rfl) (by kernel_rfl) (fun _ _ _ h => by cases h.1) (Or.inl ⟨by rfl, ?hy3a⟩) (by assumption) ?rs3a
      case hy3a =>
        intro W' hS'
        (try dsimp only at hS')
        go_simp
        try with_reducible rfl
      try simp only [Act.put, List.setIfInBounds_toArray, List.set_cons_zero, List.set_cons_succ]
      refine wpAnyH_take (i := 4) (v := ?vv4a) rfl (by kernel_rfl) (by kernel_rfl) (by kernel_rfl) (fun _ _ _ h => by cases h.1) (Or.inl ⟨by rfl, ?hy4a⟩) (by assumption) ?rs4a
      case hy4a =>
        intro W' hS'
        (try dsimp only at hS')
        go_simp
        try with_reducible rfl
      try simp only [Act.put, List.setIfInBounds_toArray, List.set_cons_zero, List.set_cons_succ]
      refine wpAnyH_ready (rs := [5, 6]) (by kernel_rfl) (by simp) ?_
      refine AllReadyH.cons rfl (fun K hK => ?_) (AllReadyH.cons rfl (fun K hK => ?_) AllReadyH.nil)
      · go_simp
        refine HKC.out.mono ?_
        rintro e y1 ⟨rfl, v2, M2, hm2, hi2, hk2⟩
        have hst2 := (H1.out.under hbase (Below.refl Y.heap.size Y).drew).on hk2 hm2 hi2
        have hbg2 : Boxed y1 q 3 (.int .i64 AF.2) := hk2.other _ _ HBG.out (by have := H1.out.frm.lt; omega) (fun _ _ e => by cases e)
        have hb32 : Boxed y1 q5 74 (.slice (some ⟨b2, o2, none⟩) kd.length ck) := hk2.other _ _ HB3.out (by have := H1.out.frm.lt; omega) (fun _ _ e => by cases e)
        have e0 := hst2.frm.c0
        have e1 := hst2.frm.c1
        have e2 := hst2.frm.c2
        have e3 := Boxed.cell hbg2
        have HST2 := Lib.hid hst2
        have HBG2 := Lib.hid hbg2
        have HB32 := Lib.hid hb32
        clear hst2 hbg2 hb32
        refine hK.out _ _ ⟨e0, e1, e2⟩ (fun hH2 => ?_)
        clear hK K
        (try simp only [Act.put, List.setIfInBounds_toArray, List.set_cons_zero, List.set_cons_succ])
        refine wpAnyH_ready (rs := [6]) (by kernel_rfl) (by simp) ?_
        refine AllReadyH.cons rfl (fun K hK => ?_) AllReadyH.nil
        go_simp
        refine hK.out _ _ ⟨e0, e1, e2⟩ (fun hH3 => ?_)
        clear hK K
        (try simp only [Act.put, List.setIfInBounds_toArray, List.set_cons_zero, List.set_cons_succ])
        refine wpAnyH_ready (rs := [7]) (by kernel_rfl) (by simp) ?_
        refine AllReadyH.cons rfl (fun K hK => ?_) AllReadyH.nil
        go_simp
        refine hK.out _ _ ⟨e0, e1, e2⟩ (fun hH4 => ?_)
        clear hK K
        (try simp only [Act.put, List.setIfInBounds_toArray, List.set_cons_zero, List.set_cons_succ])
        refine wpAnyH_ready (rs := [8]) (by kernel_rfl) (by simp) ?_
        refine AllReadyH.cons rfl (fun K hK => ?_) AllReadyH.nil
        go_simp
        have hM2l := hi2.1
        refine (put_any base mk _ v2 _ ⟨2, .slice none 0 0, KF.2, AF.2, 0⟩ _ HST2.out.arg.at_ (by have := HLM.out; simp only [List.length_append] at *; omega) rfl).mono ?_
        rintro e y2 ⟨rfl, ⟨v3, hm3⟩, hk3⟩
        have hst3 := HST2.out.on hk3 (N := [⟨2, .slice none 0 0, KF.2, AF.2, 0⟩]) (ys := [⟨2, [], KF.2, AF.2, 0⟩]) hm3 (IsRd.one ⟨rfl, SetRd.nil _ _, rfl, rfl, rfl⟩)
        have hbg3 : Boxed y2 q 3 (.int .i64 AF.2) := hk3.other _ _ HBG2.out (by have := H1.out.frm.lt; omega) (fun _ _ e => by cases e)
        have hb33 : Boxed y2 q5 74 (.slice (some ⟨b2, o2, none⟩) kd.length ck) := hk3.other _ _ HB32.out (by have := H1.out.frm.lt; omega) (fun _ _ e => by cases e)
        have HST3 := Lib.hid hst3
        have HBG3 := Lib.hid hbg3
        have HB33 := Lib.hid hb33
        have z3 : y2.frozen? ⟨q, 0, none⟩ = false := by have hh := hbg3; unfold Boxed at hh; simp [World.frozen?, hh]
        have z4 := Boxed.cell hbg3
        refine hK.out _ _ ⟨hst3.frm.c0, hst3.frm.c1, hst3.frm.c2⟩ (fun hH5 => ?_)
        clear hK K hst3 hbg3 hb33
        (try simp only [Act.put, List.setIfInBounds_toArray, List.set_cons_zero, List.set_cons_succ])
        refine wpAnyH_ready (rs := [9]) (by kernel_rfl) (by simp) ?_
        refine AllReadyH.cons rfl (fun K hK => ?_) AllReadyH.nil
        go_simp
        have hst4 := HST3.out.setBox hbase HBG3.out (by decide) (by decide) HQ.out (.int .i64 ((L.length : Int) + ((M.length : Int) + (KF.1.length : Int))))
        have hbg4 : Boxed (y2.setCell ⟨q, 0, none⟩ (.int .i64 ((L.length : Int) + ((M.length : Int) + (KF.1.length : Int))))) q 3 (.int .i64 ((L.length : Int) + ((M.length : Int) + (KF.1.length : Int)))) := by
          have := cells_set HBG3.out 0 (.int .i64 ((L.length : Int) + ((M.length : Int) + (KF.1.length : Int))))
          simpa [Boxed] using this
        have hb34 : Boxed (y2.setCell ⟨q, 0, none⟩ (.int .i64 ((L.length : Int) + ((M.length : Int) + (KF.1.length : Int))))) q5 74 (.slice (some ⟨b2, o2, none⟩) kd.length ck) := (Below.heap_setCell _ _ _ _ (by simp; omega)).trans HB33.out
        refine hK.out _ _ ⟨hst4.frm.c0, hst4.frm.c1, hst4.frm.c2⟩ (fun hH6 => ?_)
        clear hK K
        refine wpAnyH_done (by kernel_rfl) ?_ _
        refine ⟨rfl, ?_⟩
        gi_wp2
        have ea : K0.1 ++ (altF kid next level (pr.map (kapB ks) ++ [kapB ks x]) K0.2 (L.length + K0.1.length)).1 = K0.1 ++ AF.1 ++ KF.1 ++ [⟨2, [], KF.2, AF.2, 0⟩] := by rw [HSN.out]; simp [List.append_assoc]
        have eb : (altF kid next level (pr.map (kapB ks) ++ [kapB ks x]) K0.2 (L.length + K0.1.length)).2 = (L.length : Int) + ((M.length : Int) + (KF.1.length : Int)) := by rw [HSN.out]; have := HML.out; simp only; omega
        refine ⟨((((KeepsOthers.drew Y).trans (hk2.others H1.out.arg.at_.is)).trans (hk3.others HST2.out.arg.at_.is)).trans (KeepsOthers.setCell _ _ _)).from _, fun _ => hRdOf _ hst4.arg.below hb34, v3, M ++ M2 ++ [⟨2, .slice none 0 0, KF.2, AF.2, 0⟩], ?_, ?_, hb34⟩
        · rw [List.map_append, List.map_cons, List.map_nil, ea]
          exact hst4
        · rw [List.map_append, List.map_cons, List.map_nil, eb]
          exact hbg4
      · go_simp
        refine hK.out _ _ ⟨c0, c1, c2⟩ (fun hH3 => ?_)
        clear hK K
        (try simp only [Act.put, List.setIfInBounds_toArray, List.set_cons_zero, List.set_cons_succ])
        refine wpAnyH_ready (rs := [5]) (by kernel_rfl) (by simp) ?_
        refine AllReadyH.cons rfl (fun K hK => ?_) AllReadyH.nil
        go_simp
        refine HKC.out.mono ?_
        rintro e y1 ⟨rfl, v2, M2, hm2, hi2, hk2⟩
        have hst2 := (H1.out.under hbase (Below.refl Y.heap.size Y).drew).on hk2 hm2 hi2
        have hbg2 : Boxed y1 q 3 (.int .i64 AF.2) := hk2.other _ _ HBG.out (by have := H1.out.frm.lt; omega) (fun _ _ e => by cases e)
        have hb32 : Boxed y1 q5 74 (.slice (some ⟨b2, o2, none⟩) kd.length ck) := hk2.other _ _ HB3.out (by have := H1.out.frm.lt; omega) (fun _ _ e => by cases e)
        have e0 := hst2.frm.c0
        have e1 := hst2.frm.c1
        have e2 := hst2.frm.c2
        have e3 := Boxed.cell hbg2
        have HST2 := Lib.hid hst2
        have HBG2 := Lib.hid hbg2
        have HB32 := Lib.hid hb32
        clear hst2 hbg2 hb32
        refine hK.out _ _ ⟨e0, e1, e2⟩ (fun hH2 => ?_)
        clear hK K
        (try simp only [Act.put, List.setIfInBounds_toArray, List.set_cons_zero, List.set_cons_succ])
        refine wpAnyH_ready (rs := [7]) (by kernel_rfl) (by simp) ?_
        refine AllReadyH.cons rfl (fun K hK => ?_) AllReadyH.nil
        go_simp
        refine hK.out _ _ ⟨e0, e1, e2⟩ (fun hH4 => ?_)
        clear hK K
        (try simp only [Act.put, List.setIfInBounds_toArray, List.set_cons_zero, List.set_cons_succ])
        refine wpAnyH_ready (rs := [8]) (by kernel_rfl) (by simp) ?_
        refine AllReadyH.cons rfl (fun K hK => ?_) AllReadyH.nil
        go_simp
        have hM2l := hi2.1
        refine (put_any base mk _ v2 _ ⟨2, .slice none 0 0, KF.2, AF.2, 0⟩ _ HST2.out.arg.at_ (by have := HLM.out; simp only [List.length_append] at *; omega) rfl).mono ?_
        rintro e y2 ⟨rfl, ⟨v3, hm3⟩, hk3⟩
        have hst3 := HST2.out.on hk3 (N := [⟨2, .slice none 0 0, KF.2, AF.2, 0⟩]) (ys := [⟨2, [], KF.2, AF.2, 0⟩]) hm3 (IsRd.one ⟨rfl, SetRd.nil _ _, rfl, rfl, rfl⟩)
        have hbg3 : Boxed y2 q 3 (.int .i64 AF.2) := hk3.other _ _ HBG2.out (by have := H1.out.frm.lt; omega) (fun _ _ e => by cases e)
        have hb33 : Boxed y2 q5 74 (.slice (some ⟨b2, o2, none⟩) kd.length ck) := hk3.other _ _ HB32.out (by have := H1.out.frm.lt; omega) (fun _ _ e => by cases e)
        have HST3 := Lib.hid hst3
        have HBG3 := Lib.hid hbg3
        have HB33 := Lib.hid hb33
        have z3 : y2.frozen? ⟨q, 0, none⟩ = false := by have hh := hbg3; unfold Boxed at hh; simp [World.frozen?, hh]
        have z4 := Boxed.cell hbg3
        refine hK.out _ _ ⟨hst3.frm.c0, hst3.frm.c1, hst3.frm.c2⟩ (fun hH5 => ?_)
        clear hK K hst3 hbg3 hb33
        (try simp only [Act.put, List.setIfInBounds_toArray, List.set_cons_zero, List.set_cons_succ])
        refine wpAnyH_ready (rs := [9]) (by kernel_rfl) (by simp) ?_
        refine AllReadyH.cons rfl (fun K hK => ?_) AllReadyH.nil
        go_simp
        have hst4 := HST3.out.setBox hbase HBG3.out (by decide) (by decide) HQ.out (.int .i64 ((L.length : Int) + ((M.length : Int) + (KF.1.length : Int))))
        have hbg4 : Boxed (y2.setCell ⟨q, 0, none⟩ (.int .i64 ((L.length : Int) + ((M.length : Int) + (KF.1.length : Int))))) q 3 (.int .i64 ((L.length : Int) + ((M.length : Int) + (KF.1.length : Int)))) := by
          have := cells_set HBG3.out 0 (.int .i64 ((L.length : Int) + ((M.length : Int) + (KF.1.length : Int))))
          simpa [Boxed] using this
        have hb34 : Boxed (y2.setCell ⟨q, 0, none⟩ (.int .i64 ((L.length : Int) + ((M.length : Int) + (KF.1.length : Int))))) q5 74 (.slice (some ⟨b2, o2, none⟩) kd.length ck) := (Below.heap_setCell _ _ _ _ (by simp; omega)).trans HB33.out
        refine hK.out _ _ ⟨hst4.frm.c0, hst4.frm.c1, hst4.frm.c2⟩ (fun hH6 => ?_)
        clear hK K
        refine wpAnyH_done (by kernel_rfl) ?_ _
        refine ⟨rfl, ?_⟩
        gi_wp2
        have ea : K0.1 ++ (altF kid next level (pr.map (kapB ks) ++ [kapB ks x]) K0.2 (L.length + K0.1.length)).1 = K0.1 ++ AF.1 ++ KF.1 ++ [⟨2, [], KF.2, AF.2, 0⟩] := by rw [HSN.out]; simp [List.append_assoc]
        have eb : (altF kid next level (pr.map (kapB ks) ++ [kapB ks x]) K0.2 (L.length + K0.1.length)).2 = (L.length : Int) + ((M.length : Int) + (KF.1.length : Int)) := by rw [HSN.out]; have := HML.out; simp only; omega
        refine ⟨((((KeepsOthers.drew Y).trans (hk2.others H1.out.arg.at_.is)).trans (hk3.others HST2.out.arg.at_.is)).trans (KeepsOthers.setCell _ _ _)).from _, fun _ => hRdOf _ hst4.arg.below hb34, v3, M ++ M2 ++ [⟨2, .slice none 0 0, KF.2, AF.2, 0⟩], ?_, ?_, hb34⟩
        · rw [List.map_append, List.map_cons, List.map_nil, ea]
          exact hst4
        · rw [List.map_append, List.map_cons, List.map_nil, eb]
          exact hbg4
    case hdone =>
      rintro D Y hD ⟨v', M, h1, h2, h3⟩ hD2
      rw [HKL.out, kapB_all] at h1 h2
      generalize altF kid next level ks.reverse K0.2 (L.length + K0.1.length) = CF at *
      have c1 := Boxed.cell h2
      have H1 := Lib.hid h1
      clear h1 h2 h3
      go_wp2
      have hgr := H1.out.grown hbase (putObj_grown Y D (.deferred none)) (fun r e => by cases e; exact ⟨by omega, _, hD2, rfl⟩)
      exact post_mark_one rfl rfl D rfl hD2 ⟨rfl, v', M, hgr.arg.at_, hgr.rd, hgr.kept⟩
  · obtain ⟨X, hX⟩ : ∃ X, X = w1.setCell ⟨W.heap.size, 0, none⟩ (.int .i64 K0.2) := ⟨_, rfl⟩
    have hbk := (HBK.out _ HK1.out).1
    have hqq : w.heap.size + 4 ≤ W.heap.size := by have := HS.out; omega
    have hst := HST1.out.setBox hbase hbk (by decide) (by decide) hqq (.int .i64 K0.2)
    have hbx : Boxed (w1.setCell ⟨W.heap.size, 0, none⟩ (.int .i64 K0.2)) W.heap.size 3 (.int .i64 K0.2) := by
      have := cells_set hbk 0 (.int .i64 K0.2)
      simpa [Boxed] using this
    rw [← hX] at hst hbx ⊢
    clear hX
    generalize W.heap.size = q at hbx hqq ⊢
    have HBX := Lib.hid hbx
    have HSX := Lib.hid hst
    clear hbx hst hbk f0 f1 f2 f3 f4 f6 f7 HK1 HST1
    obtain ⟨kd, hkd⟩ : ∃ kd : List Int, kd = ks.map (fun p : Nat => (p : Int)) := ⟨_, rfl⟩
    have hkdl : kd.length = ks.length := by rw [hkd, List.length_map]
    have HKD := Lib.hid hkd
    have HKL := Lib.hid hkdl
    have hck : (ks.length : Int) ≤ (ck : Int) := by have := HJ.out; omega
    have g2 := HSX.out.frm.c3 2 _ rfl
    have HQ := Lib.hid hqq
    clear hkd hkdl hqq
    go_wp2_with (go_at_call 77; refine (back_any _ _ _ _).mono ?_; rintro e w' ⟨rfl, rfl⟩)
    clear g2 hck
    rw [← HKL.out]
    have hst5 := HSX.out.under hbase ((Below.refl X.heap.size X).alloc (Nat.le_refl _) (.cells #[.slice (some ⟨b2, o2, none⟩) kd.length ck] 74))
    have hbx5 : Boxed (X.alloc (.cells #[.slice (some ⟨b2, o2, none⟩) kd.length ck] 74)) X.heap.size 74 (.slice (some ⟨b2, o2, none⟩) kd.length ck) := Boxed.new X 74 _
    have hqx : q < X.heap.size := (Array.getElem?_eq_some_iff.1 HBX.out).1
    have hbq5 : Boxed (X.alloc (.cells #[.slice (some ⟨b2, o2, none⟩) kd.length ck] 74)) q 3 (.int .i64 K0.2) := (((Below.refl X.heap.size X).alloc (Nat.le_refl _) _).block q hqx).trans HBX.out
    have hsz5 : (X.alloc (.cells #[.slice (some ⟨b2, o2, none⟩) kd.length ck] 74)).heap.size = X.heap.size + 1 := by simp
    obtain ⟨W5, hW5⟩ : ∃ W5, W5 = X.alloc (.cells #[.slice (some ⟨b2, o2, none⟩) kd.length ck] 74) := ⟨_, rfl⟩
    rw [← hW5] at hst5 hbx5 hsz5 hbq5 ⊢
    clear hW5
    generalize X.heap.size = q5 at hbx5 hsz5 hqx ⊢
    have HB5 := Lib.hid hbx5
    have HQ5 := Lib.hid hbq5
    have HS5 := Lib.hid hst5
    have HZ5 := Lib.hid hsz5
    clear hbx5 hst5 hsz5 hbq5
    have hRdOf : ∀ Y, Below B w0 Y → Boxed Y q5 74 (.slice (some ⟨b2, o2, none⟩) kd.length ck) → BackRd q5 (.slice (some ⟨b2, o2, none⟩) kd.length ck) b2 o2 kd Y := by
      intro Y hY hbk
      refine ⟨hbk.cell, fun k hk => ?_⟩
      have hk2 : k < kids.length := by have := HKL.out; have := HJ.out; omega
      rw [(HI2.out k hk2).at_ Y hY]
      congr 1
      have e1 := HKS.out
      have e2 := HKD.out
      subst e1 e2
      simp only [List.length_map] at hk
      simp [hk]
    have hzz : q < q5 ∧ q5 < W5.heap.size ∧ w.heap.size + 4 ≤ q := ⟨hqx, by have := HZ5.out; omega, HQ.out⟩
    refine wp_range_back (α := Nat) q5 b2 o2 ck (some ⟨b2, o2, none⟩) kd (fun _ => rfl) (by have := HKL.out; omega) rfl id (fun k => #[.int .i64 ((kd.length : Int) - 1 - k), .int .i64 (kd[kd.length - 1 - k]?.getD 0)]) (fun _ => rfl) (fun _ _ => rfl) ?hRd2
      (fun pr Y => ∃ (v' : Value) (M : List IV), NSt base mk B b o c nodes v' L M (K0.1 ++ (altF kid next level (pr.map (kapB ks)) K0.2 (L.length + K0.1.length)).1) w0 w next level #[.int .i64 3, .slice As set.length cs, .slice (some ⟨b2, o2, none⟩) kids.length ck, .int .i64 mn, .int .i64 mx, .bool lz, .int .i64 gr, .int .i64 lk] Y ∧ Boxed Y q 3 (.int .i64 (altF kid next level (pr.map (kapB ks)) K0.2 (L.length + K0.1.length)).2) ∧ Boxed Y q5 74 (.slice (some ⟨b2, o2, none⟩) kd.length ck)) ?hI2 ?h02 ?a12 ?hassign2 ?hbody2 ?hdone2
    case hRd2 =>
      intro Y hY
      exact hRdOf Y (HS5.out.arg.below.trans (hY.mono (by have := HS5.out.arg.le; omega))) ((hY.block _ (by omega)).trans HB5.out)
    case hI2 =>
      rintro pr Y Y' row ⟨v', M, h1, h2, h3⟩ hg hr
      exact ⟨v', M, h1.grown hbase hg (fun r e => ⟨by have := (hr r e).1; omega, (hr r e).2⟩), cells_stay hg (fun r e => (hr r e).2) h2, cells_stay hg (fun r e => (hr r e).2) h3⟩
    case h02 =>
      refine ⟨v1, M1, ?_, HQ5.out, HB5.out⟩
      have e : K0.1 ++ (altF kid next level (([] : List Nat).map (kapB ks)) K0.2 (L.length + K0.1.length)).1 = K0.1 := by simp [altF]
      rw [e]
      exact HS5.out
    case hassign2 =>
      intro l x Y K hKK
      gi_wp2
      exact hKK
    case hbody2 =>
      rintro l pr x Y ⟨v', M, h1, h2, h3⟩ hlen
      have hkp : 0 < ks.length := by have := HKL.out; omega
      have hmem := kapB_mem ks x hkp
      have hmem2 : kapB ks x ∈ ks ++ [k0] := by simp [hmem]
      have hki : (kd[kd.length - 1 - x]?.getD 0) = ((kapB ks x : Nat) : Int) := by rw [HKD.out]; exact kapB_int ks x
      rw [hki]
      clear hki
      have hcl := altF_len kid next level 99999 (pr.map (kapB ks)) K0.2 (L.length + K0.1.length) (fun k hk => by
        obtain ⟨y, _, rfl⟩ := List.mem_map.1 hk
        exact hE _ (by simp [kapB_mem ks y hkp]))
      have hpl : pr.length ≤ 2000 := by have := HKL.out; omega
      rw [List.length_map] at hcl
      have hMl := h1.rd.1
      rw [List.length_append] at hMl
      have hkl2 := hlt _ hmem2
      have hLM : (L ++ M).length = L.length + K0.1.length + (altF kid next level (pr.map (kapB ks)) K0.2 (L.length + K0.1.length)).1.length := by simp; omega
      have hp9 : pr.length * 100000 ≤ 2000 * 100000 := Nat.mul_le_mul_right _ hpl
      have hkb := hE _ hmem2 next level (L ++ M).length
      have hkc := hK _ hmem2 v' (L ++ M) Y.drew next level (h1.arg.under (Below.refl _ _).drew) hlv (by omega) (by omega)
      have hsn := altF_snoc kid next level (kapB ks x) (pr.map (kapB ks)) K0.2 (L.length + K0.1.length)
      rw [hLM] at hkc hkb
      generalize altF kid next level (pr.map (kapB ks)) K0.2 (L.length + K0.1.length) = AF at *
      generalize kid (kapB ks x) next level (L.length + K0.1.length + AF.1.length) = KF at *
      have hLp : (L ++ M).length + KF.1.length ≤ 999999999998 := by omega
      have HKC := Lib.hid hkc
      have HSN := Lib.hid hsn
      have H1 := Lib.hid h1
      have HBG := Lib.hid h2
      have HB3 := Lib.hid h3
      have HLM := Lib.hid hLM
      have HML := Lib.hid hMl
      have c0 : Y.drew.cell? ⟨w.heap.size, 0, none⟩ = some (.pointer (some ⟨mk, 0, none⟩)) := h1.frm.c0
      have c1 : Y.drew.cell? ⟨w.heap.size + 1, 0, none⟩ = some (.int .i64 next) := h1.frm.c1
      have c2 : Y.drew.cell? ⟨w.heap.size + 1 + 1, 0, none⟩ = some (.int .i64 level) := h1.frm.c2
      have c3 : Y.drew.cell? ⟨q, 0, none⟩ = some (.int .i64 AF.2) := Boxed.cell h2
      clear hkc hsn hcl hMl hLM h1 h2 h3 hp9 hkb hkl2 hpl
      gi_wp2
      refine region_round (S := (fun W' : World => W'.cell? ⟨w.heap.size, 0, none⟩ = some (.pointer (some ⟨mk, 0, none⟩)) ∧ W'.cell? ⟨w.heap.size + 1, 0, none⟩ = some (.int .i64 next) ∧ W'.cell? ⟨w.heap.size + 1 + 1, 0, none⟩ = some (.int .i64 level))) (by kernel_rfl) (by kernel_rfl) ⟨c0, c1, c2⟩ (fun hH => ?_)
      refine wpAnyH_take (i := 0) (v := ?vv0b) rfl (by kernel_rfl) (by kernel_rfl) (by kernel_rfl) (fun _ _ _ h => by cases h.1) (Or.inl ⟨by rfl, ?hy0b⟩) (by assumption) ?rs0b
      case hy0b =>
        intro W' hS'
        (try dsimp only at hS')
        go_simp
        try with_reducible rfl
      try simp only [Act.put, List.setIfInBounds_toArray, List.set_cons_zero, List.set_cons_succ]
      refine wpAnyH_take (i := 1) (v := ?vv1b) rfl (by kernel_rfl) (by kernel_rfl) (by kernel_rfl) (fun _ _ _ h => by cases h.1) (Or.inl ⟨by rfl, ?hy1b⟩) (by assumption) ?rs1b
      case hy1b =>
        intro W' hS'
        (try dsimp only at hS')
        go_simp
        try with_reducible rfl
      try simp only [Act.put, List.setIfInBounds_toArray, List.set_cons_zero, List.set_cons_succ]
      refine wpAnyH_take (i := 2) (v := ?vv2b) rfl (by kernel_rfl) (by kernel_rfl) (by kernel_rfl) (fun _ _ _ h => by cases h.1) (Or.inl ⟨by rfl, ?hy2b⟩) (by assumption) ?rs2b
      case hy2b =>
        intro W' hS'
        (try dsimp only at hS')
        go_simp
        try with_reducible rfl
      try simp only [Act.put, List.setIfInBounds_toArray, List.set_cons_zero, List.set_cons_succ]
      refine wpAnyH_take (i := 3) (v := ?vv3b) rfl (by kernel_rfl) (by kernel_rfl) (by kernel_rfl) (fun _ _ _ h => by cases h.1) (Or.inl ⟨by rfl, ?hy3b⟩) (by assumption) ?rs3b
      case hy3b =>
        intro W' hS'
        (try dsimp only at hS')
        go_simp
        try with_reducible rfl
      try simp only [Act.put, List.setIfInBounds_toArray, List.set_cons_zero, List.set_cons_succ]
      refine wpAnyH_take (i := 4) (v := ?vv4b) rfl (by kernel_rfl) (by kernel_rfl) (by kernel_rfl) (fun _ _ _ h => by cases h.1) (Or.inl ⟨by rfl, ?hy4b⟩) (by assumption) ?rs4b
      case hy4b =>
        intro W' hS'
        (try dsimp only at hS')
        go_simp
        try with_reducible rfl
      try simp only [Act.put, List.setIfInBounds_toArray, List.set_cons_zero, List.set_cons_succ]
      refine wpAnyH_ready (rs := [5, 6]) (by kernel_rfl) (by simp) ?_
      refine AllReadyH.cons rfl (fun K hK => ?_) (AllReadyH.cons rfl (fun K hK => ?_) AllReadyH.nil)
      · go_simp
        refine HKC.out.mono ?_
        rintro e y1 ⟨rfl, v2, M2, hm2, hi2, hk2⟩
        have hst2 := (H1.out.under hbase (Below.refl Y.heap.size Y).drew).on hk2 hm2 hi2
        have hbg2 : Boxed y1 q 3 (.int .i64 AF.2) := hk2.other _ _ HBG.out (by have := H1.out.frm.lt; omega) (fun _ _ e => by cases e)
        have hb32 : Boxed y1 q5 74 (.slice (some ⟨b2, o2, none⟩) kd.length ck) := hk2.other _ _ HB3.out (by have := H1.out.frm.lt; omega) (fun _ _ e => by cases e)
        have e0 := hst2.frm.c0
        have e1 := hst2.frm.c1
        have e2 := hst2.frm.c2
        have e3 := Boxed.cell hbg2
        have HST2 := Lib.hid hst2
        have HBG2 := Lib.hid hbg2
        have HB32 := Lib.hid hb32
        clear hst2 hbg2 hb32
        refine hK.out _ _ ⟨e0, e1, e2⟩ (fun hH2 => ?_)
        clear hK K
        (try simp only [Act.put, List.setIfInBounds_toArray, List.set_cons_zero, List.set_cons_succ])
        refine wpAnyH_ready (rs := [6]) (by kernel_rfl) (by simp) ?_
        refine AllReadyH.cons rfl (fun K hK => ?_) AllReadyH.nil
        go_simp
        refine hK.out _ _ ⟨e0, e1, e2⟩ (fun hH3 => ?_)
        clear hK K
        (try simp only [Act.put, List.setIfInBounds_toArray, List.set_cons_zero, List.set_cons_succ])
        refine wpAnyH_ready (rs := [7]) (by kernel_rfl) (by simp) ?_
        refine AllReadyH.cons rfl (fun K hK => ?_) AllReadyH.nil
        go_simp
        refine hK.out _ _ ⟨e0, e1, e2⟩ (fun hH4 => ?_)
        clear hK K
        (try simp only [Act.put, List.setIfInBounds_toArray, List.set_cons_zero, List.set_cons_succ])
        refine wpAnyH_ready (rs := [8]) (by kernel_rfl) (by simp) ?_
        refine AllReadyH.cons rfl (fun K hK => ?_) AllReadyH.nil
        go_simp
        have hM2l := hi2.1
        refine (put_any base mk _ v2 _ ⟨2, .slice none 0 0, KF.2, AF.2, 0⟩ _ HST2.out.arg.at_ (by have := HLM.out; simp only [List.length_append] at *; omega) rfl).mono ?_
        rintro e y2 ⟨rfl, ⟨v3, hm3⟩, hk3⟩
        have hst3 := HST2.out.on hk3 (N := [⟨2, .slice none 0 0, KF.2, AF.2, 0⟩]) (ys := [⟨2, [], KF.2, AF.2, 0⟩]) hm3 (IsRd.one ⟨rfl, SetRd.nil _ _, rfl, rfl, rfl⟩)
        have hbg3 : Boxed y2 q 3 (.int .i64 AF.2) := hk3.other _ _ HBG2.out (by have := H1.out.frm.lt; omega) (fun _ _ e => by cases e)
        have hb33 : Boxed y2 q5 74 (.slice (some ⟨b2, o2, none⟩) kd.length ck) := hk3.other _ _ HB32.out (by have := H1.out.frm.lt; omega) (fun _ _ e => by cases e)
        have HST3 := Lib.hid hst3
        have HBG3 := Lib.hid hbg3
        have HB33 := Lib.hid hb33
        have z3 : y2.frozen? ⟨q, 0, none⟩ = false := by have hh := hbg3; unfold Boxed at hh; simp [World.frozen?, hh]
        have z4 := Boxed.cell hbg3
        refine hK.out _ _ ⟨hst3.frm.c0, hst3.frm.c1, hst3.frm.c2⟩ (fun hH5 => ?_)
        clear hK K hst3 hbg3 hb33
        (try simp only [Act.put, List.setIfInBounds_toArray, List.set_cons_zero, List.set_cons_succ])
        refine wpAnyH_ready (rs := [9]) (by kernel_rfl) (by simp) ?_
        refine AllReadyH.cons rfl (fun K hK => ?_) AllReadyH.nil
        go_simp
        have hst4 := HST3.out.setBox hbase HBG3.out (by decide) (by decide) HQ.out (.int .i64 ((L.length : Int) + ((M.length : Int) + (KF.1.length : Int))))
        have hbg4 : Boxed (y2.setCell ⟨q, 0, none⟩ (.int .i64 ((L.length : Int) + ((M.length : Int) + (KF.1.length : Int))))) q 3 (.int .i64 ((L.length : Int) + ((M.length : Int) + (KF.1.length : Int)))) := by
          have := cells_set HBG3.out 0 (.int .i64 ((L.length : Int) + ((M.length : Int) + (KF.1.length : Int))))
          simpa [Boxed] using this
        have hb34 : Boxed (y2.setCell ⟨q, 0, none⟩ (.int .i64 ((L.length : Int) + ((M.length : Int) + (KF.1.length : Int))))) q5 74 (.slice (some ⟨b2, o2, none⟩) kd.length ck) := (Below.heap_setCell _ _ _ _ (by simp; omega)).trans HB33.out
        refine hK.out _ _ ⟨hst4.frm.c0, hst4.frm.c1, hst4.frm.c2⟩ (fun hH6 => ?_)
        clear hK K
        refine wpAnyH_done (by kernel_rfl) ?_ _
        refine ⟨rfl, ?_⟩
        gi_wp2
        have ea : K0.1 ++ (altF kid next level (pr.map (kapB ks) ++ [kapB ks x]) K0.2 (L.length + K0.1.length)).1 = K0.1 ++ AF.1 ++ KF.1 ++ [⟨2, [], KF.2, AF.2, 0⟩] := by rw [HSN.out]; simp [List.append_assoc]
        have eb : (altF kid next level (pr.map (kapB ks) ++ [kapB ks x]) K0.2 (L.length + K0.1.length)).2 = (L.length : Int) + ((M.length : Int) + (KF.1.length : Int)) := by rw [HSN.out]; have := HML.out; simp only; omega
        refine ⟨((((KeepsOthers.drew Y).trans (hk2.others H1.out.arg.at_.is)).trans (hk3.others HST2.out.arg.at_.is)).trans (KeepsOthers.setCell _ _ _)).from _, fun _ => hRdOf _ hst4.arg.below hb34, v3, M ++ M2 ++ [⟨2, .slice none 0 0, KF.2, AF.2, 0⟩], ?_, ?_, hb34⟩
        · rw [List.map_append, List.map_cons, List.map_nil, ea]
          exact hst4
        · rw [List.map_append, List.map_cons, List.map_nil, eb]
          exact hbg4
      · go_simp
        refine hK.out _ _ ⟨c0, c1, c2⟩ (fun hH3 => ?_)
        clear hK K
        (try simp only [Act.put, List.setIfInBounds_toArray, List.set_cons_zero, List.set_cons_succ])
        refine wpAnyH_ready (rs := [5]) (by kernel_rfl) (by simp) ?_
        refine AllReadyH.cons rfl (fun K hK => ?_) AllReadyH.nil
        go_simp
        refine HKC.out.mono ?_
        rintro e y1 ⟨rfl, v2, M2, hm2, hi2, hk2⟩
        have hst2 := (H1.out.under hbase (Below.refl Y.heap.size Y).drew).on hk2 hm2 hi2
        have hbg2 : Boxed y1 q 3 (.int .i64 AF.2) := hk2.other _ _ HBG.out (by have := H1.out.frm.lt; omega) (fun _ _ e => by cases e)
        have hb32 : Boxed y1 q5 74 (.slice (some ⟨b2, o2, none⟩) kd.length ck) := hk2.other _ _ HB3.out (by have := H1.out.frm.lt; omega) (fun _ _ e => by cases e)
        have e0 := hst2.frm.c0
        have e1 := hst2.frm.c1
        have e2 := hst2.frm.c2
        have e3 := Boxed.cell hbg2
        have HST2 := Lib.hid hst2
        have HBG2 := Lib.hid hbg2
        have HB32 := Lib.hid hb32
        clear hst2 hbg2 hb32
        refine hK.out _ _ ⟨e0, e1, e2⟩ (fun hH2 => ?_)
        clear hK K
        (try simp only [Act.put, List.setIfInBounds_toArray, List.set_cons_zero, List.set_cons_succ])
        refine wpAnyH_ready (rs := [7]) (by kernel_rfl) (by simp) ?_
        refine AllReadyH.cons rfl (fun K hK => ?_) AllReadyH.nil
        go_simp
        refine hK.out _ _ ⟨e0, e1, e2⟩ (fun hH4 => ?_)
        clear hK K
        (try simp only [Act.put, List.setIfInBounds_toArray, List.set_cons_zero, List.set_cons_succ])
        refine wpAnyH_ready (rs := [8]) (by kernel_rfl) (by simp) ?_
        refine AllReadyH.cons rfl (fun K hK => ?_) AllReadyH.nil
        go_simp
        have hM2l := hi2.1
        refine (put_any base mk _ v2 _ ⟨2, .slice none 0 0, KF.2, AF.2, 0⟩ _ HST2.out.arg.at_ (by have := HLM.out; simp only [List.length_append] at *; omega) rfl).mono ?_
        rintro e y2 ⟨rfl, ⟨v3, hm3⟩, hk3⟩
        have hst3 := HST2.out.on hk3 (N := [⟨2, .slice none 0 0, KF.2, AF.2, 0⟩]) (ys := [⟨2, [], KF.2, AF.2, 0⟩]) hm3 (IsRd.one ⟨rfl, SetRd.nil _ _, rfl, rfl, rfl⟩)
        have hbg3 : Boxed y2 q 3 (.int .i64 AF.2) := hk3.other _ _ HBG2.out (by have := H1.out.frm.lt; omega) (fun _ _ e => by cases e)
        have hb33 : Boxed y2 q5 74 (.slice (some ⟨b2, o2, none⟩) kd.length ck) := hk3.other _ _ HB32.out (by have := H1.out.frm.lt; omega) (fun _ _ e => by cases e)
        have HST3 := Lib.hid hst3
        have HBG3 := Lib.hid hbg3
        have HB33 := Lib.hid hb33
        have z3 : y2.frozen? ⟨q, 0, none⟩ = false := by have hh := hbg3; unfold Boxed at hh; simp [World.frozen?, hh]
        have z4 := Boxed.cell hbg3
        refine hK.out _ _ ⟨hst3.frm.c0, hst3.frm.c1, hst3.frm.c2⟩ (fun hH5 => ?_)
        clear hK K hst3 hbg3 hb33
        (try simp only [Act.put, List.setIfInBounds_toArray, List.set_cons_zero, List.set_cons_succ])
        refine wpAnyH_ready (rs := [9]) (by kernel_rfl) (by simp) ?_
        refine AllReadyH.cons rfl (fun K hK => ?_) AllReadyH.nil
        go_simp
        have hst4 := HST3.out.setBox hbase HBG3.out (by decide) (by decide) HQ.out (.int .i64 ((L.length : Int) + ((M.length : Int) + (KF.1.length : Int))))
        have hbg4 : Boxed (y2.setCell ⟨q, 0, none⟩ (.int .i64 ((L.length : Int) + ((M.length : Int) + (KF.1.length : Int))))) q 3 (.int .i64 ((L.length : Int) + ((M.length : Int) + (KF.1.length : Int)))) := by
          have := cells_set HBG3.out 0 (.int .i64 ((L.length : Int) + ((M.length : Int) + (KF.1.length : Int))))
          simpa [Boxed] using this
        have hb34 : Boxed (y2.setCell ⟨q, 0, none⟩ (.int .i64 ((L.length : Int) + ((M.length : Int) + (KF.1.length : Int))))) q5 74 (.slice (some ⟨b2, o2, none⟩) kd.length ck) := (Below.heap_setCell _ _ _ _ (by simp; omega)).trans HB33.out
        refine hK.out _ _ ⟨hst4.frm.c0, hst4.frm.c1, hst4.frm.c2⟩ (fun hH6 => ?_)
        clear hK K
        refine wpAnyH_done (by kernel_rfl) ?_ _
        refine ⟨rfl, ?_⟩
        gi_wp2
        have ea : K0.1 ++ (altF kid next level (pr.map (kapB ks) ++ [kapB ks x]) K0.2 (L.length + K0.1.length)).1 = K0.1 ++ AF.1 ++ KF.1 ++ [⟨2, [], KF.2, AF.2, 0⟩] := by rw [HSN.out]; simp [List.append_assoc]
        have eb : (altF kid next level (pr.map (kapB ks) ++ [kapB ks x]) K0.2 (L.length + K0.1.length)).2 = (L.length : Int) + ((M.length : Int) + (KF.1.length : Int)) := by rw [HSN.out]; have := HML.out; simp only; omega
        refine ⟨((((KeepsOthers.drew Y).trans (hk2.others H1.out.arg.at_.is)).trans (hk3.others HST2.out.arg.at_.is)).trans (KeepsOthers.setCell _ _ _)).from _, fun _ => hRdOf _ hst4.arg.below hb34, v3, M ++ M2 ++ [⟨2, .slice none 0 0, KF.2, AF.2, 0⟩], ?_, ?_, hb34⟩
        · rw [List.map_append, List.map_cons, List.map_nil, ea]
          exact hst4
        · rw [List.map_append, List.map_cons, List.map_nil, eb]
          exact hbg4
    case hdone2 =>
      rintro D Y hD ⟨v', M, h1, h2, h3⟩ hD2
      rw [HKL.out, kapB_all] at h1 h2
      generalize altF kid next level ks.reverse K0.2 (L.length + K0.1.length) = CF at *
      have c1 := Boxed.cell h2
      have H1 := Lib.hid h1
      clear h1 h2 h3
      go_wp2
      have hgr := H1.out.grown hbase (putObj_grown Y D (.deferred none)) (fun r e => by cases e; exact ⟨by omega, _, hD2, rfl⟩)
      exact post_mark_one rfl rfl D rfl hD2 ⟨rfl, v', M, hgr.arg.at_, hgr.rd, hgr.kept⟩
end Go.Proofs.YtmbboianghbjkaaDoor

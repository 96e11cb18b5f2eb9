import Derived.Test.YtmbboianghbjkaaDoorNodeG
import Derived.RegionTactic
import Derived.BigRegion
namespace Go.Proofs.YtmbboianghbjkaaDoor
open Go.RowKit Go.Shelf
set_option linter.unusedVariables false
set_option linter.unusedSimpArgs false

theorem flat_set (L M : List IV) (i : IV) (x y : Int) :
    (((L ++ i :: M).flatMap IV.cells).set (L.length * 5 + 2) (.int .i64 x)).set (L.length * 5 + 3) (.int .i64 y) = (L ++ { i with x := x, y := y } :: M).flatMap IV.cells := by
  have hl : ∀ L : List IV, (L.flatMap IV.cells).length = L.length * 5 := by
    intro L
    induction L with
    | nil => rfl
    | cons a r ih => rw [List.flatMap_cons, List.length_append, ih]; simp [IV.cells]; omega
  rw [List.flatMap_append, List.flatMap_append, List.set_append_right _ _ (by rw [hl]; omega), List.set_append_right _ _ (by rw [hl]; omega), hl, List.flatMap_cons, List.flatMap_cons]
  rw [show L.length * 5 + 2 - L.length * 5 = 2 by omega, show L.length * 5 + 3 - L.length * 5 = 3 by omega]
  rfl
theorem flat_at (L M : List IV) (i : IV) : ((L ++ i :: M).flatMap IV.cells)[L.length * 5 + 2]? = some (.int .i64 i.x) ∧ ((L ++ i :: M).flatMap IV.cells)[L.length * 5 + 3]? = some (.int .i64 i.y) := by
  have hl : ∀ L : List IV, (L.flatMap IV.cells).length = L.length * 5 := by
    intro L
    induction L with
    | nil => rfl
    | cons a r ih => rw [List.flatMap_cons, List.length_append, ih]; simp [IV.cells]; omega
  rw [List.flatMap_append, List.getElem?_append_right (by rw [hl]; omega), List.getElem?_append_right (by rw [hl]; omega), hl, List.flatMap_cons]
  rw [show L.length * 5 + 2 - L.length * 5 = 2 by omega, show L.length * 5 + 3 - L.length * 5 = 3 by omega]
  exact ⟨rfl, rfl⟩
theorem ownsRow_pos {w : World} {base n : Nat} {e : TypeId} {size : Nat} {v : Value} {xs : List Value} (h : w.ownsRow base e size v n xs) (hn : 0 < n) : ∃ g cap, v = .slice (some ⟨g, 0, none⟩) n cap := by
  rcases h.2 with ⟨_, h0⟩ | ⟨g, cap, cur, e, _⟩
  · omega
  · exact ⟨g, cap, e⟩
/-- The fork's two places, laid anew. -/
def forkW (W : World) (g k : Nat) (x y : Int) : World := (W.setCell ⟨g, k * 5 + 2, none⟩ (.int .i64 x)).setCell ⟨g, k * 5 + 3, none⟩ (.int .i64 y)
theorem MkAt.row_ne {base mk : Nat} {tv : Value} {g n cap : Nat} {L : List IV} {W : World} (h : MkAt base mk tv (.slice (some ⟨g, 0, none⟩) n cap) L W) (hn : 0 < L.length) : (∃ cs r, W.heap[g]? = some (.cells cs 47 r)) ∧ base ≤ g ∧ g ≠ mk ∧ n = L.length := by
  rcases h.row.2 with ⟨e, _⟩ | ⟨g', cap', cur, e, hb, hgb, _⟩
  · cases e
  · injection e with e1 e2 e3
    injection e1 with e1
    injection e1 with e1
    subst e1
    refine ⟨⟨_, _, hgb⟩, hb, fun e => ?_, e2⟩
    subst e
    rw [h.obj] at hgb
    injection hgb with hgb
    injection hgb with _ hgb
    cases hgb
theorem MkAt.fork {base mk : Nat} {tv : Value} {g n cap : Nat} {L M : List IV} {i : IV} {W : World} (h : MkAt base mk tv (.slice (some ⟨g, 0, none⟩) n cap) (L ++ i :: M) W) (x y : Int) :
    MkAt base mk tv (.slice (some ⟨g, 0, none⟩) n cap) (L ++ { i with x := x, y := y } :: M) (forkW W g L.length x y) := by
  obtain ⟨⟨cs, r, hg⟩, hb, hne, hn⟩ := h.row_ne (by simp <;> omega)
  subst hn
  refine ⟨?_, ?_, h.le⟩
  · unfold forkW
    exact (Below.heap_setCell _ _ _ _ (by simp; omega)).trans ((Below.heap_setCell _ _ _ _ (by simp; omega)).trans h.obj)
  · have s1 := (h.row.stored (L.length * 5 + 2) (.int .i64 x)).1
    have s2 := (s1.stored (L.length * 5 + 3) (.int .i64 y)).1
    rw [flat_set] at s2
    unfold forkW
    simpa using s2
theorem forkW_kept {base mk : Nat} {g k : Nat} {w W : World} {x y : Int} (h : MkKept base mk w W) (hb : base ≤ g) (hg : ∃ cs r, W.heap[g]? = some (.cells cs 47 r)) : MkKept base mk w (forkW W g k x y) := by
  refine ⟨(h.below.setCell (by simpa using hb) _).setCell (by simpa using hb) _, fun q o h1 h2 h3 => ?_⟩
  have ho := h.other q o h1 h2 h3
  have hne : q ≠ g := fun e => by
    subst e
    obtain ⟨cs, r, hg⟩ := hg
    rw [ho] at hg
    injection hg with hg
    exact h3 _ _ hg
  unfold forkW
  exact (Below.heap_setCell _ _ _ _ (by simpa using hne)).trans ((Below.heap_setCell _ _ _ _ (by simpa using hne)).trans ho)
theorem forkW_set {base g k : Nat} {W : World} {x y : Int} {v : Value} {xs : List (Int × Int)} (hg : ∃ cs r, W.heap[g]? = some (.cells cs 47 r)) (s : SetRd base W v xs) : SetRd base (forkW W g k x y) v xs := by
  obtain ⟨A, c, rfl, h1, h2⟩ := s
  refine ⟨A, c, rfl, h1, fun hp => ?_⟩
  obtain ⟨b, cs', fr, e, h3, h4, h5⟩ := h2 hp
  have hne : b ≠ g := fun e' => by
    subst e'
    obtain ⟨cs, r, hg⟩ := hg
    rw [h4] at hg
    injection hg with hg
    injection hg with _ hg
    cases hg
  refine ⟨b, cs', fr, e, h3, ?_, h5⟩
  unfold forkW
  exact (Below.heap_setCell _ _ _ _ (by simpa using hne)).trans ((Below.heap_setCell _ _ _ _ (by simpa using hne)).trans h4)
theorem IsRd.fork {base g k : Nat} {W : World} {x y : Int} {L : List IV} {xs : List Inst} (hg : ∃ cs r, W.heap[g]? = some (.cells cs 47 r)) (h : IsRd base W L xs) : IsRd base (forkW W g k x y) L xs := h.map fun _ _ s => forkW_set hg s

attribute [local go_sem] bl_refl bl_alloc bl_a2 bl_a3 bl_a4 bl_a5 bl_set bl_drew bl_drewN le_add_r lt_add_r addr_add
set_option maxRecDepth 100000 in
set_option maxHeartbeats 4000000 in
theorem round_pg (base mk B b o c : Nat) (nodes : List Node) (v : Value) (L : List IV) (w0 w : World) (kid : Nat → Int → Int → Nat → List Inst × Int) (k0 : Nat) (next back level : Int) (op mn mx gr lk : Int) (sv : Value) (Ak : Option Addr) (ck : Nat)
    (hM : MArg base mk B b o c nodes v L w0 w) (hkd : ∀ W', Below B w0 W' → ∃ bk ok, Ak = some ⟨bk, ok, none⟩ ∧ W'.cell? ⟨bk, ok, none⟩ = some (.int .i64 k0)) (hsv : sv.oneCell' = true) (hK : KidC base mk B b o c nodes w0 kid k0) (hlv : 0 ≤ level) (hlv2 : level + 1 + (k0 : Int) ≤ 4000)
    (hL : L.length + (roundF kid k0 false next back level L.length).1.length + k0 * 400000000 ≤ 1000000000000) (hbk : 0 ≤ back) :
    Calls Tryd.prog 119 #[.pointer (some ⟨mk, 0, none⟩), .agg #[.int .i64 op, sv, .slice Ak 1 ck, .int .i64 mn, .int .i64 mx, .bool false, .int .i64 gr, .int .i64 lk], .int .i64 next, .int .i64 back, .int .i64 level] w
      (Lays base mk (.slice (some ⟨b, o, none⟩) nodes.length c) L (roundF kid k0 false next back level L.length).1 (roundF kid k0 false next back level L.length).2 w) := by
  have hml := hM.at_.lt
  have hbase : base ≤ w.heap.size := by have := hM.at_.le; omega
  unfold roundF at hL ⊢
  simp only [if_neg (show ¬ back < 0 by omega), Bool.false_eq_true, if_false] at hL ⊢
  simp only [List.length_cons, List.length_append, List.length_nil] at hL
  generalize hkid : kid k0 ((L.length + 1 : Nat) : Int) (level + 1) (L.length + 2) = a at *
  obtain ⟨xs, bi⟩ := a
  dsimp only at hL ⊢
  have HKID := Lib.hid hkid
  have H := Lib.hid hM
  have HKD := Lib.hid hkd
  clear hM hkd hkid
  obtain ⟨W, hW⟩ : ∃ W, W = w.alloc (.cells #[.int .i64 op, sv, .slice Ak 1 ck, .int .i64 mn, .int .i64 mx, .bool false, .int .i64 gr, .int .i64 lk] 80) := ⟨_, rfl⟩
  have hbW : Below w.heap.size w W := by rw [hW]; exact (Below.refl _ _).alloc (by simp) _
  have hsz : W.heap.size = w.heap.size + 1 := by rw [hW]; simp
  have hox : W.heap[w.heap.size]? = some (.cells #[.int .i64 op, sv, .slice Ak 1 ck, .int .i64 mn, .int .i64 mx, .bool false, .int .i64 gr, .int .i64 lk] 80 (0, 0)) := by rw [hW]; exact World.alloc_heap_new w _
  go_enter Tryd.func119, Tryd.ntmps119
  go_wp2_with fail
  rw [← hW]
  clear hW
  have hM1 := H.out.under hbW
  have hKW : MkKept base mk w W := MkKept.of_below hbase hbW
  have HS := Lib.hid hsz
  have HOX := Lib.hid hox
  have HKW := Lib.hid hKW
  have HM1 := Lib.hid hM1
  clear hsz hox hbW hKW hM1
  refine (put_any base mk _ v L ⟨2, .slice none 0 0, 0, 0, 0⟩ _ HM1.out.at_ (by omega) rfl).mono ?_
  rintro e w1 ⟨rfl, ⟨v1, hm1⟩, hk1⟩
  have HA1 := Lib.hid (HM1.out.on hk1 hm1)
  have HK1 := Lib.hid (HKW.out.trans hk1)
  have HO1 := Lib.hid (hk1.other _ _ HOX.out (by omega) (fun _ _ e => by cases e))
  clear hm1 hk1
  go_wp2_with fail
  refine (put_any base mk _ v1 (L ++ [⟨2, .slice none 0 0, 0, 0, 0⟩]) ⟨6, .slice none 0 0, back, 0, level⟩ _ HA1.out.at_ (by simp; omega) rfl).mono ?_
  rintro e w2 ⟨rfl, ⟨v2, hm2⟩, hk2⟩
  have HA2 := Lib.hid (HA1.out.on hk2 hm2)
  have HK2 := Lib.hid (HK1.out.trans hk2)
  have hO2 := hk2.other _ _ HO1.out (by omega) (fun _ _ e => by cases e)
  have q2 : w2.cell? ⟨w.heap.size, 2, none⟩ = some (.slice Ak 1 ck) := by rw [cell_of_row _ _ _ _ _ _ hO2]; rfl
  have HO2 := Lib.hid hO2
  clear hm2 hk2 hO2
  obtain ⟨bk, ok, rfl, hkc⟩ := HKD.out _ HA2.out.below
  have hKi := hK v2 _ w2 ((L.length + 1 : Nat) : Int) (level + 1) HA2.out (by omega) (by omega)
  have hl2 : (L ++ [(⟨2, .slice none 0 0, 0, 0, 0⟩ : IV)] ++ [(⟨6, .slice none 0 0, back, 0, level⟩ : IV)]).length = L.length + 2 := by simp
  rw [hl2, HKID.out] at hKi
  have HKI := Lib.hid (hKi (by dsimp only; omega))
  clear hKi
  have hcast : ((L.length + 1 : Nat) : Int) = (L.length : Int) + 1 := by omega
  rw [hcast] at HKI
  clear hcast hl2
  go_wp2_with fail
  refine HKI.out.mono ?_
  rintro e w3 ⟨rfl, v3, M3, hm3, hi3, hk3⟩
  have HA3 := Lib.hid (HA2.out.on hk3 hm3)
  have HK3 := Lib.hid (HK2.out.trans hk3)
  have HO3 := Lib.hid (hk3.other _ _ HO2.out (by omega) (fun _ _ e => by cases e))
  have hxl := hi3.1
  have HI3 := Lib.hid hi3
  have HIP := Lib.hid (((IsRd.one (i := ⟨6, .slice none 0 0, back, 0, level⟩) (x := ⟨6, [], back, 0, level⟩) ⟨rfl, SetRd.nil base w2, rfl, rfl, rfl⟩)).kept hk3 HA2.out.at_.is)
  clear hm3 hk3 hi3 q2 hkc
  go_wp2_with fail
  refine (put_any base mk _ v3 _ ⟨5, .slice none 0 0, bi, 0, level⟩ _ HA3.out.at_ (by simp; omega) rfl).mono ?_
  rintro e w4 ⟨rfl, ⟨v4, hm4⟩, hk4⟩
  have hA4 := (HA3.out.on hk4 hm4)
  have HK4 := Lib.hid (HK3.out.trans hk4)
  have hO4 := hk4.other _ _ HO3.out (by omega) (fun _ _ e => by cases e)
  have q5 : w4.cell? ⟨w.heap.size, 5, none⟩ = some (.bool false) := by rw [cell_of_row _ _ _ _ _ _ hO4]; rfl
  have HI4 := Lib.hid (((HIP.out.app HI3.out).kept hk4 HA3.out.at_.is).app (IsRd.one (i := ⟨5, .slice none 0 0, bi, 0, level⟩) (x := ⟨5, [], bi, 0, level⟩) ⟨rfl, SetRd.nil base w4, rfl, rfl, rfl⟩))
  have hm5 := hA4.at_
  rw [List.append_assoc, List.append_assoc, List.append_assoc] at hm5
  obtain ⟨A4, c4, rfl⟩ := own_form hm5.row
  obtain ⟨g, cap, e4⟩ := ownsRow_pos hm5.row (by simp; omega)
  injection e4 with e4a e4b e4c
  subst e4a e4c
  obtain ⟨Z, hZ⟩ : ∃ Z, Z = L ++ (⟨2, .slice none 0 0, 0, 0, 0⟩ : IV) :: ([(⟨6, .slice none 0 0, back, 0, level⟩ : IV)] ++ (M3 ++ [(⟨5, .slice none 0 0, bi, 0, level⟩ : IV)])) := ⟨_, rfl⟩
  have hZl : Z.length = L.length + 3 + xs.length := by rw [hZ]; simp; omega
  have hfa := flat_at L ([(⟨6, .slice none 0 0, back, 0, level⟩ : IV)] ++ (M3 ++ [(⟨5, .slice none 0 0, bi, 0, level⟩ : IV)])) ⟨2, .slice none 0 0, 0, 0, 0⟩
  rw [← hZ] at hfa
  change MkAt base mk _ (.slice (some ⟨g, 0, none⟩) (L ++ (⟨2, .slice none 0 0, 0, 0, 0⟩ : IV) :: ([(⟨6, .slice none 0 0, back, 0, level⟩ : IV)] ++ (M3 ++ [(⟨5, .slice none 0 0, bi, 0, level⟩ : IV)]))).length c4) (L ++ (⟨2, .slice none 0 0, 0, 0, 0⟩ : IV) :: ([(⟨6, .slice none 0 0, back, 0, level⟩ : IV)] ++ (M3 ++ [(⟨5, .slice none 0 0, bi, 0, level⟩ : IV)]))) w4 at hm5
  rw [← hZ] at hm5
  have hgm := (hm5.row_ne (by omega))
  have q1 : w4.cell? ⟨mk, 1, none⟩ = some (.slice (some ⟨g, 0, none⟩) Z.length c4) := by simp [World.cell?, hm5.obj]
  have q3 : w4.frozen? ⟨g, L.length * 5 + 2, none⟩ = false := hm5.row.frozenAt _
  have q4 : w4.frozen? ⟨g, L.length * 5 + 3, none⟩ = false := hm5.row.frozenAt _
  have hltN : L.length < Z.length := by omega
  have hltNi : (L.length : Int) < (Z.length : Int) := by omega
  have hm0 : w4.cell? ⟨g, L.length * 5 + 2, none⟩ = some (.int .i64 0) := by
    rw [hm5.row.cellAt _ (by omega)]
    exact hfa.1
  have hm6 : w4.cell? ⟨g, L.length * 5 + 3, none⟩ = some (.int .i64 0) := by
    rw [hm5.row.cellAt _ (by omega)]
    exact hfa.2
  have hgne : mk ≠ g := fun e => hgm.2.2.1 e.symm
  have hgne2 : g ≠ mk := hgm.2.2.1
  have HM5 := Lib.hid hm5
  have HGM := Lib.hid hgm
  have HA4 := Lib.hid hA4
  have HZ := Lib.hid hZ
  have HZL := Lib.hid hZl
  have HO4 := Lib.hid hO4
  clear hm5 hgm hA4 hZ hm4 hk4 hO4 hfa

  have HMZ : Hid (MkAt base mk (.slice (some ⟨b, o, none⟩) nodes.length c) (.slice (some ⟨g, 0, none⟩) Z.length c4) (L ++ (⟨2, .slice none 0 0, 0, 0, 0⟩ : IV) :: ([(⟨6, .slice none 0 0, back, 0, level⟩ : IV)] ++ (M3 ++ [(⟨5, .slice none 0 0, bi, 0, level⟩ : IV)]))) w4) := Lib.hid (by have h := HM5.out; rw [HZ.out] at h ⊢; exact h)
  go_upto_region 6 with (fail)
  go_region
  go_wp2
  go_ret
  have hX : ((L.length + 2 + xs.length : Nat) : Int) = (L.length : Int) + ((xs.length : Int) + 1 + 1) := by omega
  rw [hX]
  obtain ⟨hgt, hgb, _, _⟩ := HGM.out
  have hF : MkAt base mk (.slice (some ⟨b, o, none⟩) nodes.length c) (.slice (some ⟨g, 0, none⟩) Z.length c4) (L ++ (⟨2, .slice none 0 0, (L.length : Int) + ((xs.length : Int) + 1 + 1), next, 0⟩ : IV) :: ([(⟨6, .slice none 0 0, back, 0, level⟩ : IV)] ++ (M3 ++ [(⟨5, .slice none 0 0, bi, 0, level⟩ : IV)]))) (forkW w4 g L.length ((L.length : Int) + ((xs.length : Int) + 1 + 1)) (next)) := (HMZ.out).fork _ _
  have hzz : (forkW w4 g L.length ((L.length : Int) + ((xs.length : Int) + 1 + 1)) (next)).heap.size = w4.heap.size := by simp [forkW]
  have hle : base ≤ w4.heap.size := by have := (HK4.out).below.size; omega
  refine ⟨rfl, .slice (some ⟨g, 0, none⟩) Z.length c4, (⟨2, .slice none 0 0, (L.length : Int) + ((xs.length : Int) + 1 + 1), next, 0⟩ : IV) :: ([(⟨6, .slice none 0 0, back, 0, level⟩ : IV)] ++ (M3 ++ [(⟨5, .slice none 0 0, bi, 0, level⟩ : IV)])), ?_, ?_, ?_⟩
  · exact hF.under (Below.refl _ _).drew
  · refine IsRd.under (W := forkW w4 g L.length ((L.length : Int) + ((xs.length : Int) + 1 + 1)) (next)) ?_ (Below.refl _ _).drew
    have hh := IsRd.fork (k := L.length) (x := (L.length : Int) + ((xs.length : Int) + 1 + 1)) (y := next) hgt (HI4.out)
    have h1 := (IsRd.one (base := base) (W := forkW w4 g L.length ((L.length : Int) + ((xs.length : Int) + 1 + 1)) (next)) (i := ⟨2, .slice none 0 0, (L.length : Int) + ((xs.length : Int) + 1 + 1), next, 0⟩) (x := ⟨2, [], (L.length : Int) + ((xs.length : Int) + 1 + 1), next, 0⟩) ⟨rfl, SetRd.nil _ _, rfl, rfl, rfl⟩).app hh
    simpa [List.append_assoc] using h1
  · exact (forkW_kept (HK4.out) hgb hgt).trans (MkKept.of_below (by omega) (Below.refl (forkW w4 g L.length ((L.length : Int) + ((xs.length : Int) + 1 + 1)) (next)).heap.size _).drew)
set_option maxRecDepth 100000 in
set_option maxHeartbeats 4000000 in
theorem round_pl (base mk B b o c : Nat) (nodes : List Node) (v : Value) (L : List IV) (w0 w : World) (kid : Nat → Int → Int → Nat → List Inst × Int) (k0 : Nat) (next back level : Int) (op mn mx gr lk : Int) (sv : Value) (Ak : Option Addr) (ck : Nat)
    (hM : MArg base mk B b o c nodes v L w0 w) (hkd : ∀ W', Below B w0 W' → ∃ bk ok, Ak = some ⟨bk, ok, none⟩ ∧ W'.cell? ⟨bk, ok, none⟩ = some (.int .i64 k0)) (hsv : sv.oneCell' = true) (hK : KidC base mk B b o c nodes w0 kid k0) (hlv : 0 ≤ level) (hlv2 : level + 1 + (k0 : Int) ≤ 4000)
    (hL : L.length + (roundF kid k0 true next back level L.length).1.length + k0 * 400000000 ≤ 1000000000000) (hbk : 0 ≤ back) :
    Calls Tryd.prog 119 #[.pointer (some ⟨mk, 0, none⟩), .agg #[.int .i64 op, sv, .slice Ak 1 ck, .int .i64 mn, .int .i64 mx, .bool true, .int .i64 gr, .int .i64 lk], .int .i64 next, .int .i64 back, .int .i64 level] w
      (Lays base mk (.slice (some ⟨b, o, none⟩) nodes.length c) L (roundF kid k0 true next back level L.length).1 (roundF kid k0 true next back level L.length).2 w) := by
  have hml := hM.at_.lt
  have hbase : base ≤ w.heap.size := by have := hM.at_.le; omega
  unfold roundF at hL ⊢
  simp only [if_neg (show ¬ back < 0 by omega), if_true] at hL ⊢
  simp only [List.length_cons, List.length_append, List.length_nil] at hL
  generalize hkid : kid k0 ((L.length + 1 : Nat) : Int) (level + 1) (L.length + 2) = a at *
  obtain ⟨xs, bi⟩ := a
  dsimp only at hL ⊢
  have HKID := Lib.hid hkid
  have H := Lib.hid hM
  have HKD := Lib.hid hkd
  clear hM hkd hkid
  obtain ⟨W, hW⟩ : ∃ W, W = w.alloc (.cells #[.int .i64 op, sv, .slice Ak 1 ck, .int .i64 mn, .int .i64 mx, .bool true, .int .i64 gr, .int .i64 lk] 80) := ⟨_, rfl⟩
  have hbW : Below w.heap.size w W := by rw [hW]; exact (Below.refl _ _).alloc (by simp) _
  have hsz : W.heap.size = w.heap.size + 1 := by rw [hW]; simp
  have hox : W.heap[w.heap.size]? = some (.cells #[.int .i64 op, sv, .slice Ak 1 ck, .int .i64 mn, .int .i64 mx, .bool true, .int .i64 gr, .int .i64 lk] 80 (0, 0)) := by rw [hW]; exact World.alloc_heap_new w _
  go_enter Tryd.func119, Tryd.ntmps119
  go_wp2_with fail
  rw [← hW]
  clear hW
  have hM1 := H.out.under hbW
  have hKW : MkKept base mk w W := MkKept.of_below hbase hbW
  have HS := Lib.hid hsz
  have HOX := Lib.hid hox
  have HKW := Lib.hid hKW
  have HM1 := Lib.hid hM1
  clear hsz hox hbW hKW hM1
  refine (put_any base mk _ v L ⟨2, .slice none 0 0, 0, 0, 0⟩ _ HM1.out.at_ (by omega) rfl).mono ?_
  rintro e w1 ⟨rfl, ⟨v1, hm1⟩, hk1⟩
  have HA1 := Lib.hid (HM1.out.on hk1 hm1)
  have HK1 := Lib.hid (HKW.out.trans hk1)
  have HO1 := Lib.hid (hk1.other _ _ HOX.out (by omega) (fun _ _ e => by cases e))
  clear hm1 hk1
  go_wp2_with fail
  refine (put_any base mk _ v1 (L ++ [⟨2, .slice none 0 0, 0, 0, 0⟩]) ⟨6, .slice none 0 0, back, 0, level⟩ _ HA1.out.at_ (by simp; omega) rfl).mono ?_
  rintro e w2 ⟨rfl, ⟨v2, hm2⟩, hk2⟩
  have HA2 := Lib.hid (HA1.out.on hk2 hm2)
  have HK2 := Lib.hid (HK1.out.trans hk2)
  have hO2 := hk2.other _ _ HO1.out (by omega) (fun _ _ e => by cases e)
  have q2 : w2.cell? ⟨w.heap.size, 2, none⟩ = some (.slice Ak 1 ck) := by rw [cell_of_row _ _ _ _ _ _ hO2]; rfl
  have HO2 := Lib.hid hO2
  clear hm2 hk2 hO2
  obtain ⟨bk, ok, rfl, hkc⟩ := HKD.out _ HA2.out.below
  have hKi := hK v2 _ w2 ((L.length + 1 : Nat) : Int) (level + 1) HA2.out (by omega) (by omega)
  have hl2 : (L ++ [(⟨2, .slice none 0 0, 0, 0, 0⟩ : IV)] ++ [(⟨6, .slice none 0 0, back, 0, level⟩ : IV)]).length = L.length + 2 := by simp
  rw [hl2, HKID.out] at hKi
  have HKI := Lib.hid (hKi (by dsimp only; omega))
  clear hKi
  have hcast : ((L.length + 1 : Nat) : Int) = (L.length : Int) + 1 := by omega
  rw [hcast] at HKI
  clear hcast hl2
  go_wp2_with fail
  refine HKI.out.mono ?_
  rintro e w3 ⟨rfl, v3, M3, hm3, hi3, hk3⟩
  have HA3 := Lib.hid (HA2.out.on hk3 hm3)
  have HK3 := Lib.hid (HK2.out.trans hk3)
  have HO3 := Lib.hid (hk3.other _ _ HO2.out (by omega) (fun _ _ e => by cases e))
  have hxl := hi3.1
  have HI3 := Lib.hid hi3
  have HIP := Lib.hid (((IsRd.one (i := ⟨6, .slice none 0 0, back, 0, level⟩) (x := ⟨6, [], back, 0, level⟩) ⟨rfl, SetRd.nil base w2, rfl, rfl, rfl⟩)).kept hk3 HA2.out.at_.is)
  clear hm3 hk3 hi3 q2 hkc
  go_wp2_with fail
  refine (put_any base mk _ v3 _ ⟨5, .slice none 0 0, bi, 0, level⟩ _ HA3.out.at_ (by simp; omega) rfl).mono ?_
  rintro e w4 ⟨rfl, ⟨v4, hm4⟩, hk4⟩
  have hA4 := (HA3.out.on hk4 hm4)
  have HK4 := Lib.hid (HK3.out.trans hk4)
  have hO4 := hk4.other _ _ HO3.out (by omega) (fun _ _ e => by cases e)
  have q5 : w4.cell? ⟨w.heap.size, 5, none⟩ = some (.bool true) := by rw [cell_of_row _ _ _ _ _ _ hO4]; rfl
  have HI4 := Lib.hid (((HIP.out.app HI3.out).kept hk4 HA3.out.at_.is).app (IsRd.one (i := ⟨5, .slice none 0 0, bi, 0, level⟩) (x := ⟨5, [], bi, 0, level⟩) ⟨rfl, SetRd.nil base w4, rfl, rfl, rfl⟩))
  have hm5 := hA4.at_
  rw [List.append_assoc, List.append_assoc, List.append_assoc] at hm5
  obtain ⟨A4, c4, rfl⟩ := own_form hm5.row
  obtain ⟨g, cap, e4⟩ := ownsRow_pos hm5.row (by simp; omega)
  injection e4 with e4a e4b e4c
  subst e4a e4c
  obtain ⟨Z, hZ⟩ : ∃ Z, Z = L ++ (⟨2, .slice none 0 0, 0, 0, 0⟩ : IV) :: ([(⟨6, .slice none 0 0, back, 0, level⟩ : IV)] ++ (M3 ++ [(⟨5, .slice none 0 0, bi, 0, level⟩ : IV)])) := ⟨_, rfl⟩
  have hZl : Z.length = L.length + 3 + xs.length := by rw [hZ]; simp; omega
  have hfa := flat_at L ([(⟨6, .slice none 0 0, back, 0, level⟩ : IV)] ++ (M3 ++ [(⟨5, .slice none 0 0, bi, 0, level⟩ : IV)])) ⟨2, .slice none 0 0, 0, 0, 0⟩
  rw [← hZ] at hfa
  change MkAt base mk _ (.slice (some ⟨g, 0, none⟩) (L ++ (⟨2, .slice none 0 0, 0, 0, 0⟩ : IV) :: ([(⟨6, .slice none 0 0, back, 0, level⟩ : IV)] ++ (M3 ++ [(⟨5, .slice none 0 0, bi, 0, level⟩ : IV)]))).length c4) (L ++ (⟨2, .slice none 0 0, 0, 0, 0⟩ : IV) :: ([(⟨6, .slice none 0 0, back, 0, level⟩ : IV)] ++ (M3 ++ [(⟨5, .slice none 0 0, bi, 0, level⟩ : IV)]))) w4 at hm5
  rw [← hZ] at hm5
  have hgm := (hm5.row_ne (by omega))
  have q1 : w4.cell? ⟨mk, 1, none⟩ = some (.slice (some ⟨g, 0, none⟩) Z.length c4) := by simp [World.cell?, hm5.obj]
  have q3 : w4.frozen? ⟨g, L.length * 5 + 2, none⟩ = false := hm5.row.frozenAt _
  have q4 : w4.frozen? ⟨g, L.length * 5 + 3, none⟩ = false := hm5.row.frozenAt _
  have hltN : L.length < Z.length := by omega
  have hltNi : (L.length : Int) < (Z.length : Int) := by omega
  have hm0 : w4.cell? ⟨g, L.length * 5 + 2, none⟩ = some (.int .i64 0) := by
    rw [hm5.row.cellAt _ (by omega)]
    exact hfa.1
  have hm6 : w4.cell? ⟨g, L.length * 5 + 3, none⟩ = some (.int .i64 0) := by
    rw [hm5.row.cellAt _ (by omega)]
    exact hfa.2
  have hgne : mk ≠ g := fun e => hgm.2.2.1 e.symm
  have hgne2 : g ≠ mk := hgm.2.2.1
  have HM5 := Lib.hid hm5
  have HGM := Lib.hid hgm
  have HA4 := Lib.hid hA4
  have HZ := Lib.hid hZ
  have HZL := Lib.hid hZl
  have HO4 := Lib.hid hO4
  clear hm5 hgm hA4 hZ hm4 hk4 hO4 hfa

  have HMZ : Hid (MkAt base mk (.slice (some ⟨b, o, none⟩) nodes.length c) (.slice (some ⟨g, 0, none⟩) Z.length c4) (L ++ (⟨2, .slice none 0 0, 0, 0, 0⟩ : IV) :: ([(⟨6, .slice none 0 0, back, 0, level⟩ : IV)] ++ (M3 ++ [(⟨5, .slice none 0 0, bi, 0, level⟩ : IV)]))) w4) := Lib.hid (by have h := HM5.out; rw [HZ.out] at h ⊢; exact h)
  go_upto_region 6 with (fail)
  go_region
  obtain ⟨hgt, hgb, _, _⟩ := HGM.out
  have hfm : MkAt base mk (.slice (some ⟨b, o, none⟩) nodes.length c) (.slice (some ⟨g, 0, none⟩) Z.length c4) (L ++ (⟨2, .slice none 0 0, (L.length : Int) + ((xs.length : Int) + 1 + 1), next, 0⟩ : IV) :: ([(⟨6, .slice none 0 0, back, 0, level⟩ : IV)] ++ (M3 ++ [(⟨5, .slice none 0 0, bi, 0, level⟩ : IV)]))) (forkW w4 g L.length ((L.length : Int) + ((xs.length : Int) + 1 + 1)) next).drew := MkAt.under (HMZ.out.fork ((L.length : Int) + ((xs.length : Int) + 1 + 1)) next) (Below.refl _ _).drew
  have hfi := (IsRd.fork (k := L.length) (x := (L.length : Int) + ((xs.length : Int) + 1 + 1)) (y := next) hgt HI4.out).under (Below.refl _ _).drew
  have hzz4 : (forkW w4 g L.length ((L.length : Int) + ((xs.length : Int) + 1 + 1)) next).heap.size = w4.heap.size := by simp [forkW]
  have hfk := (forkW_kept (k := L.length) (x := (L.length : Int) + ((xs.length : Int) + 1 + 1)) (y := next) HK4.out hgb hgt).trans (MkKept.of_below (by have := HK4.out.below.size; omega) (Below.refl (forkW w4 g L.length ((L.length : Int) + ((xs.length : Int) + 1 + 1)) next).heap.size _).drew)
  have hfo : (forkW w4 g L.length ((L.length : Int) + ((xs.length : Int) + 1 + 1)) next).drew.heap[w.heap.size]? = some (.cells #[.int .i64 op, sv, .slice (some ⟨bk, ok, none⟩) 1 ck, .int .i64 mn, .int .i64 mx, .bool true, .int .i64 gr, .int .i64 lk] 80 (0, 0)) := ((forkW_kept (k := L.length) (x := (L.length : Int) + ((xs.length : Int) + 1 + 1)) (y := next) (MkKept.refl base mk w4) hgb hgt).trans (MkKept.of_below (by have := HK4.out.below.size; omega) (Below.refl (forkW w4 g L.length ((L.length : Int) + ((xs.length : Int) + 1 + 1)) next).heap.size _).drew)).other _ _ HO4.out (by omega) (fun _ _ e => by cases e)
  clear q1 q3 q4 q5 hm0 hm6 hgt hgb
  obtain ⟨w5, hw5⟩ : ∃ w5, w5 = (forkW w4 g L.length ((L.length : Int) + ((xs.length : Int) + 1 + 1)) next).drew := ⟨_, rfl⟩
  rw [← hw5] at hfm hfi hfk hfo
  unfold forkW at hw5
  rw [← hw5]
  clear hw5 hzz4
  have hfa := flat_at L ([(⟨6, .slice none 0 0, back, 0, level⟩ : IV)] ++ (M3 ++ [(⟨5, .slice none 0 0, bi, 0, level⟩ : IV)])) ⟨2, .slice none 0 0, (L.length : Int) + ((xs.length : Int) + 1 + 1), next, 0⟩
  have hZ2 : Z.length = (L ++ (⟨2, .slice none 0 0, (L.length : Int) + ((xs.length : Int) + 1 + 1), next, 0⟩ : IV) :: ([(⟨6, .slice none 0 0, back, 0, level⟩ : IV)] ++ (M3 ++ [(⟨5, .slice none 0 0, bi, 0, level⟩ : IV)]))).length := by rw [HZ.out]; simp
  have hrow := hfm.row
  rw [← hZ2] at hrow
  have q1 : w5.cell? ⟨mk, 1, none⟩ = some (.slice (some ⟨g, 0, none⟩) Z.length c4) := by simp [World.cell?, hfm.obj]
  have q3 : w5.frozen? ⟨g, L.length * 5 + 2, none⟩ = false := hrow.frozenAt _
  have q4 : w5.frozen? ⟨g, L.length * 5 + 3, none⟩ = false := hrow.frozenAt _
  have q5 : w5.cell? ⟨w.heap.size, 5, none⟩ = some (.bool true) := by rw [cell_of_row _ _ _ _ _ _ hfo]; rfl
  have hm0 : w5.cell? ⟨g, L.length * 5 + 2, none⟩ = some (.int .i64 ((L.length : Int) + ((xs.length : Int) + 1 + 1))) := by
    rw [hrow.cellAt _ (by omega)]
    exact hfa.1
  have hm6 : w5.cell? ⟨g, L.length * 5 + 3, none⟩ = some (.int .i64 next) := by
    rw [hrow.cellAt _ (by omega)]
    exact hfa.2
  have HGM := Lib.hid (hfm.row_ne (by simp <;> omega))
  have HFM := Lib.hid hfm
  have HFI := Lib.hid hfi
  have HFK := Lib.hid hfk
  clear hfm hfi hfk hfo hfa hrow hZ2
  go_upto_region 8 with (fail)
  go_region
  go_wp2
  go_ret
  have hX : ((L.length + 2 + xs.length : Nat) : Int) = (L.length : Int) + ((xs.length : Int) + 1 + 1) := by omega
  rw [hX]
  obtain ⟨hgt, hgb, _, _⟩ := HGM.out
  have hF : MkAt base mk (.slice (some ⟨b, o, none⟩) nodes.length c) (.slice (some ⟨g, 0, none⟩) Z.length c4) (L ++ (⟨2, .slice none 0 0, next, (L.length : Int) + ((xs.length : Int) + 1 + 1), 0⟩ : IV) :: ([(⟨6, .slice none 0 0, back, 0, level⟩ : IV)] ++ (M3 ++ [(⟨5, .slice none 0 0, bi, 0, level⟩ : IV)]))) (forkW w5 g L.length (next) ((L.length : Int) + ((xs.length : Int) + 1 + 1))) := (HFM.out).fork _ _
  have hzz : (forkW w5 g L.length (next) ((L.length : Int) + ((xs.length : Int) + 1 + 1))).heap.size = w5.heap.size := by simp [forkW]
  have hle : base ≤ w5.heap.size := by have := (HFK.out).below.size; omega
  refine ⟨rfl, .slice (some ⟨g, 0, none⟩) Z.length c4, (⟨2, .slice none 0 0, next, (L.length : Int) + ((xs.length : Int) + 1 + 1), 0⟩ : IV) :: ([(⟨6, .slice none 0 0, back, 0, level⟩ : IV)] ++ (M3 ++ [(⟨5, .slice none 0 0, bi, 0, level⟩ : IV)])), ?_, ?_, ?_⟩
  · exact hF.under (Below.refl _ _).drew
  · refine IsRd.under (W := forkW w5 g L.length (next) ((L.length : Int) + ((xs.length : Int) + 1 + 1))) ?_ (Below.refl _ _).drew
    have hh := IsRd.fork (k := L.length) (x := next) (y := (L.length : Int) + ((xs.length : Int) + 1 + 1)) hgt (HFI.out)
    have h1 := (IsRd.one (base := base) (W := forkW w5 g L.length (next) ((L.length : Int) + ((xs.length : Int) + 1 + 1))) (i := ⟨2, .slice none 0 0, next, (L.length : Int) + ((xs.length : Int) + 1 + 1), 0⟩) (x := ⟨2, [], next, (L.length : Int) + ((xs.length : Int) + 1 + 1), 0⟩) ⟨rfl, SetRd.nil _ _, rfl, rfl, rfl⟩).app hh
    simpa [List.append_assoc] using h1
  · exact (forkW_kept (HFK.out) hgb hgt).trans (MkKept.of_below (by omega) (Below.refl (forkW w5 g L.length (next) ((L.length : Int) + ((xs.length : Int) + 1 + 1))).heap.size _).drew)
set_option maxRecDepth 100000 in
set_option maxHeartbeats 4000000 in
theorem round_ng (base mk B b o c : Nat) (nodes : List Node) (v : Value) (L : List IV) (w0 w : World) (kid : Nat → Int → Int → Nat → List Inst × Int) (k0 : Nat) (next back level : Int) (op mn mx gr lk : Int) (sv : Value) (Ak : Option Addr) (ck : Nat)
    (hM : MArg base mk B b o c nodes v L w0 w) (hkd : ∀ W', Below B w0 W' → ∃ bk ok, Ak = some ⟨bk, ok, none⟩ ∧ W'.cell? ⟨bk, ok, none⟩ = some (.int .i64 k0)) (hsv : sv.oneCell' = true) (hK : KidC base mk B b o c nodes w0 kid k0) (hlv : 0 ≤ level) (hlv2 : level + 1 + (k0 : Int) ≤ 4000)
    (hL : L.length + (roundF kid k0 false next back level L.length).1.length + k0 * 400000000 ≤ 1000000000000) (hbk : back < 0) :
    Calls Tryd.prog 119 #[.pointer (some ⟨mk, 0, none⟩), .agg #[.int .i64 op, sv, .slice Ak 1 ck, .int .i64 mn, .int .i64 mx, .bool false, .int .i64 gr, .int .i64 lk], .int .i64 next, .int .i64 back, .int .i64 level] w
      (Lays base mk (.slice (some ⟨b, o, none⟩) nodes.length c) L (roundF kid k0 false next back level L.length).1 (roundF kid k0 false next back level L.length).2 w) := by
  have hml := hM.at_.lt
  have hbase : base ≤ w.heap.size := by have := hM.at_.le; omega
  unfold roundF at hL ⊢
  simp only [if_pos hbk, Bool.false_eq_true, if_false] at hL ⊢
  simp only [List.length_cons, List.length_append, List.length_nil] at hL
  generalize hkid : kid k0 ((L.length + 1 : Nat) : Int) (level + 1) (L.length + 2) = a at *
  obtain ⟨xs, bi⟩ := a
  dsimp only at hL ⊢
  have HKID := Lib.hid hkid
  have H := Lib.hid hM
  have HKD := Lib.hid hkd
  clear hM hkd hkid
  obtain ⟨W, hW⟩ : ∃ W, W = w.alloc (.cells #[.int .i64 op, sv, .slice Ak 1 ck, .int .i64 mn, .int .i64 mx, .bool false, .int .i64 gr, .int .i64 lk] 80) := ⟨_, rfl⟩
  have hbW : Below w.heap.size w W := by rw [hW]; exact (Below.refl _ _).alloc (by simp) _
  have hsz : W.heap.size = w.heap.size + 1 := by rw [hW]; simp
  have hox : W.heap[w.heap.size]? = some (.cells #[.int .i64 op, sv, .slice Ak 1 ck, .int .i64 mn, .int .i64 mx, .bool false, .int .i64 gr, .int .i64 lk] 80 (0, 0)) := by rw [hW]; exact World.alloc_heap_new w _
  go_enter Tryd.func119, Tryd.ntmps119
  go_wp2_with fail
  rw [← hW]
  clear hW
  have hM1 := H.out.under hbW
  have hKW : MkKept base mk w W := MkKept.of_below hbase hbW
  have HS := Lib.hid hsz
  have HOX := Lib.hid hox
  have HKW := Lib.hid hKW
  have HM1 := Lib.hid hM1
  clear hsz hox hbW hKW hM1
  refine (put_any base mk _ v L ⟨2, .slice none 0 0, 0, 0, 0⟩ _ HM1.out.at_ (by omega) rfl).mono ?_
  rintro e w1 ⟨rfl, ⟨v1, hm1⟩, hk1⟩
  have HA1 := Lib.hid (HM1.out.on hk1 hm1)
  have HK1 := Lib.hid (HKW.out.trans hk1)
  have HO1 := Lib.hid (hk1.other _ _ HOX.out (by omega) (fun _ _ e => by cases e))
  clear hm1 hk1
  go_wp2_with fail
  refine (put_any base mk _ v1 (L ++ [⟨2, .slice none 0 0, 0, 0, 0⟩]) ⟨6, .slice none 0 0, (L.length : Int), 0, level⟩ _ HA1.out.at_ (by simp; omega) rfl).mono ?_
  rintro e w2 ⟨rfl, ⟨v2, hm2⟩, hk2⟩
  have HA2 := Lib.hid (HA1.out.on hk2 hm2)
  have HK2 := Lib.hid (HK1.out.trans hk2)
  have hO2 := hk2.other _ _ HO1.out (by omega) (fun _ _ e => by cases e)
  have q2 : w2.cell? ⟨w.heap.size, 2, none⟩ = some (.slice Ak 1 ck) := by rw [cell_of_row _ _ _ _ _ _ hO2]; rfl
  have HO2 := Lib.hid hO2
  clear hm2 hk2 hO2
  obtain ⟨bk, ok, rfl, hkc⟩ := HKD.out _ HA2.out.below
  have hKi := hK v2 _ w2 ((L.length + 1 : Nat) : Int) (level + 1) HA2.out (by omega) (by omega)
  have hl2 : (L ++ [(⟨2, .slice none 0 0, 0, 0, 0⟩ : IV)] ++ [(⟨6, .slice none 0 0, (L.length : Int), 0, level⟩ : IV)]).length = L.length + 2 := by simp
  rw [hl2, HKID.out] at hKi
  have HKI := Lib.hid (hKi (by dsimp only; omega))
  clear hKi
  have hcast : ((L.length + 1 : Nat) : Int) = (L.length : Int) + 1 := by omega
  rw [hcast] at HKI
  clear hcast hl2
  go_wp2_with fail
  refine HKI.out.mono ?_
  rintro e w3 ⟨rfl, v3, M3, hm3, hi3, hk3⟩
  have HA3 := Lib.hid (HA2.out.on hk3 hm3)
  have HK3 := Lib.hid (HK2.out.trans hk3)
  have HO3 := Lib.hid (hk3.other _ _ HO2.out (by omega) (fun _ _ e => by cases e))
  have hxl := hi3.1
  have HI3 := Lib.hid hi3
  have HIP := Lib.hid (((IsRd.one (i := ⟨6, .slice none 0 0, (L.length : Int), 0, level⟩) (x := ⟨6, [], (L.length : Int), 0, level⟩) ⟨rfl, SetRd.nil base w2, rfl, rfl, rfl⟩)).kept hk3 HA2.out.at_.is)
  clear hm3 hk3 hi3 q2 hkc
  go_wp2_with fail
  refine (put_any base mk _ v3 _ ⟨5, .slice none 0 0, bi, 0, level⟩ _ HA3.out.at_ (by simp; omega) rfl).mono ?_
  rintro e w4 ⟨rfl, ⟨v4, hm4⟩, hk4⟩
  have hA4 := (HA3.out.on hk4 hm4)
  have HK4 := Lib.hid (HK3.out.trans hk4)
  have hO4 := hk4.other _ _ HO3.out (by omega) (fun _ _ e => by cases e)
  have q5 : w4.cell? ⟨w.heap.size, 5, none⟩ = some (.bool false) := by rw [cell_of_row _ _ _ _ _ _ hO4]; rfl
  have HI4 := Lib.hid (((HIP.out.app HI3.out).kept hk4 HA3.out.at_.is).app (IsRd.one (i := ⟨5, .slice none 0 0, bi, 0, level⟩) (x := ⟨5, [], bi, 0, level⟩) ⟨rfl, SetRd.nil base w4, rfl, rfl, rfl⟩))
  have hm5 := hA4.at_
  rw [List.append_assoc, List.append_assoc, List.append_assoc] at hm5
  obtain ⟨A4, c4, rfl⟩ := own_form hm5.row
  obtain ⟨g, cap, e4⟩ := ownsRow_pos hm5.row (by simp; omega)
  injection e4 with e4a e4b e4c
  subst e4a e4c
  obtain ⟨Z, hZ⟩ : ∃ Z, Z = L ++ (⟨2, .slice none 0 0, 0, 0, 0⟩ : IV) :: ([(⟨6, .slice none 0 0, (L.length : Int), 0, level⟩ : IV)] ++ (M3 ++ [(⟨5, .slice none 0 0, bi, 0, level⟩ : IV)])) := ⟨_, rfl⟩
  have hZl : Z.length = L.length + 3 + xs.length := by rw [hZ]; simp; omega
  have hfa := flat_at L ([(⟨6, .slice none 0 0, (L.length : Int), 0, level⟩ : IV)] ++ (M3 ++ [(⟨5, .slice none 0 0, bi, 0, level⟩ : IV)])) ⟨2, .slice none 0 0, 0, 0, 0⟩
  rw [← hZ] at hfa
  change MkAt base mk _ (.slice (some ⟨g, 0, none⟩) (L ++ (⟨2, .slice none 0 0, 0, 0, 0⟩ : IV) :: ([(⟨6, .slice none 0 0, (L.length : Int), 0, level⟩ : IV)] ++ (M3 ++ [(⟨5, .slice none 0 0, bi, 0, level⟩ : IV)]))).length c4) (L ++ (⟨2, .slice none 0 0, 0, 0, 0⟩ : IV) :: ([(⟨6, .slice none 0 0, (L.length : Int), 0, level⟩ : IV)] ++ (M3 ++ [(⟨5, .slice none 0 0, bi, 0, level⟩ : IV)]))) w4 at hm5
  rw [← hZ] at hm5
  have hgm := (hm5.row_ne (by omega))
  have q1 : w4.cell? ⟨mk, 1, none⟩ = some (.slice (some ⟨g, 0, none⟩) Z.length c4) := by simp [World.cell?, hm5.obj]
  have q3 : w4.frozen? ⟨g, L.length * 5 + 2, none⟩ = false := hm5.row.frozenAt _
  have q4 : w4.frozen? ⟨g, L.length * 5 + 3, none⟩ = false := hm5.row.frozenAt _
  have hltN : L.length < Z.length := by omega
  have hltNi : (L.length : Int) < (Z.length : Int) := by omega
  have hm0 : w4.cell? ⟨g, L.length * 5 + 2, none⟩ = some (.int .i64 0) := by
    rw [hm5.row.cellAt _ (by omega)]
    exact hfa.1
  have hm6 : w4.cell? ⟨g, L.length * 5 + 3, none⟩ = some (.int .i64 0) := by
    rw [hm5.row.cellAt _ (by omega)]
    exact hfa.2
  have hgne : mk ≠ g := fun e => hgm.2.2.1 e.symm
  have hgne2 : g ≠ mk := hgm.2.2.1
  have HM5 := Lib.hid hm5
  have HGM := Lib.hid hgm
  have HA4 := Lib.hid hA4
  have HZ := Lib.hid hZ
  have HZL := Lib.hid hZl
  have HO4 := Lib.hid hO4
  clear hm5 hgm hA4 hZ hm4 hk4 hO4 hfa

  have HMZ : Hid (MkAt base mk (.slice (some ⟨b, o, none⟩) nodes.length c) (.slice (some ⟨g, 0, none⟩) Z.length c4) (L ++ (⟨2, .slice none 0 0, 0, 0, 0⟩ : IV) :: ([(⟨6, .slice none 0 0, (L.length : Int), 0, level⟩ : IV)] ++ (M3 ++ [(⟨5, .slice none 0 0, bi, 0, level⟩ : IV)]))) w4) := Lib.hid (by have h := HM5.out; rw [HZ.out] at h ⊢; exact h)
  go_upto_region 6 with (fail)
  go_region
  go_wp2
  go_ret
  have hX : ((L.length + 2 + xs.length : Nat) : Int) = (L.length : Int) + ((xs.length : Int) + 1 + 1) := by omega
  rw [hX]
  obtain ⟨hgt, hgb, _, _⟩ := HGM.out
  have hF : MkAt base mk (.slice (some ⟨b, o, none⟩) nodes.length c) (.slice (some ⟨g, 0, none⟩) Z.length c4) (L ++ (⟨2, .slice none 0 0, (L.length : Int) + ((xs.length : Int) + 1 + 1), next, 0⟩ : IV) :: ([(⟨6, .slice none 0 0, (L.length : Int), 0, level⟩ : IV)] ++ (M3 ++ [(⟨5, .slice none 0 0, bi, 0, level⟩ : IV)]))) (forkW w4 g L.length ((L.length : Int) + ((xs.length : Int) + 1 + 1)) (next)) := (HMZ.out).fork _ _
  have hzz : (forkW w4 g L.length ((L.length : Int) + ((xs.length : Int) + 1 + 1)) (next)).heap.size = w4.heap.size := by simp [forkW]
  have hle : base ≤ w4.heap.size := by have := (HK4.out).below.size; omega
  refine ⟨rfl, .slice (some ⟨g, 0, none⟩) Z.length c4, (⟨2, .slice none 0 0, (L.length : Int) + ((xs.length : Int) + 1 + 1), next, 0⟩ : IV) :: ([(⟨6, .slice none 0 0, (L.length : Int), 0, level⟩ : IV)] ++ (M3 ++ [(⟨5, .slice none 0 0, bi, 0, level⟩ : IV)])), ?_, ?_, ?_⟩
  · exact hF.under (Below.refl _ _).drew
  · refine IsRd.under (W := forkW w4 g L.length ((L.length : Int) + ((xs.length : Int) + 1 + 1)) (next)) ?_ (Below.refl _ _).drew
    have hh := IsRd.fork (k := L.length) (x := (L.length : Int) + ((xs.length : Int) + 1 + 1)) (y := next) hgt (HI4.out)
    have h1 := (IsRd.one (base := base) (W := forkW w4 g L.length ((L.length : Int) + ((xs.length : Int) + 1 + 1)) (next)) (i := ⟨2, .slice none 0 0, (L.length : Int) + ((xs.length : Int) + 1 + 1), next, 0⟩) (x := ⟨2, [], (L.length : Int) + ((xs.length : Int) + 1 + 1), next, 0⟩) ⟨rfl, SetRd.nil _ _, rfl, rfl, rfl⟩).app hh
    simpa [List.append_assoc] using h1
  · exact (forkW_kept (HK4.out) hgb hgt).trans (MkKept.of_below (by omega) (Below.refl (forkW w4 g L.length ((L.length : Int) + ((xs.length : Int) + 1 + 1)) (next)).heap.size _).drew)
set_option maxRecDepth 100000 in
set_option maxHeartbeats 4000000 in
theorem round_nl (base mk B b o c : Nat) (nodes : List Node) (v : Value) (L : List IV) (w0 w : World) (kid : Nat → Int → Int → Nat → List Inst × Int) (k0 : Nat) (next back level : Int) (op mn mx gr lk : Int) (sv : Value) (Ak : Option Addr) (ck : Nat)
    (hM : MArg base mk B b o c nodes v L w0 w) (hkd : ∀ W', Below B w0 W' → ∃ bk ok, Ak = some ⟨bk, ok, none⟩ ∧ W'.cell? ⟨bk, ok, none⟩ = some (.int .i64 k0)) (hsv : sv.oneCell' = true) (hK : KidC base mk B b o c nodes w0 kid k0) (hlv : 0 ≤ level) (hlv2 : level + 1 + (k0 : Int) ≤ 4000)
    (hL : L.length + (roundF kid k0 true next back level L.length).1.length + k0 * 400000000 ≤ 1000000000000) (hbk : back < 0) :
    Calls Tryd.prog 119 #[.pointer (some ⟨mk, 0, none⟩), .agg #[.int .i64 op, sv, .slice Ak 1 ck, .int .i64 mn, .int .i64 mx, .bool true, .int .i64 gr, .int .i64 lk], .int .i64 next, .int .i64 back, .int .i64 level] w
      (Lays base mk (.slice (some ⟨b, o, none⟩) nodes.length c) L (roundF kid k0 true next back level L.length).1 (roundF kid k0 true next back level L.length).2 w) := by
  have hml := hM.at_.lt
  have hbase : base ≤ w.heap.size := by have := hM.at_.le; omega
  unfold roundF at hL ⊢
  simp only [if_pos hbk, if_true] at hL ⊢
  simp only [List.length_cons, List.length_append, List.length_nil] at hL
  generalize hkid : kid k0 ((L.length + 1 : Nat) : Int) (level + 1) (L.length + 2) = a at *
  obtain ⟨xs, bi⟩ := a
  dsimp only at hL ⊢
  have HKID := Lib.hid hkid
  have H := Lib.hid hM
  have HKD := Lib.hid hkd
  clear hM hkd hkid
  obtain ⟨W, hW⟩ : ∃ W, W = w.alloc (.cells #[.int .i64 op, sv, .slice Ak 1 ck, .int .i64 mn, .int .i64 mx, .bool true, .int .i64 gr, .int .i64 lk] 80) := ⟨_, rfl⟩
  have hbW : Below w.heap.size w W := by rw [hW]; exact (Below.refl _ _).alloc (by simp) _
  have hsz : W.heap.size = w.heap.size + 1 := by rw [hW]; simp
  have hox : W.heap[w.heap.size]? = some (.cells #[.int .i64 op, sv, .slice Ak 1 ck, .int .i64 mn, .int .i64 mx, .bool true, .int .i64 gr, .int .i64 lk] 80 (0, 0)) := by rw [hW]; exact World.alloc_heap_new w _
  go_enter Tryd.func119, Tryd.ntmps119
  go_wp2_with fail
  rw [← hW]
  clear hW
  have hM1 := H.out.under hbW
  have hKW : MkKept base mk w W := MkKept.of_below hbase hbW
  have HS := Lib.hid hsz
  have HOX := Lib.hid hox
  have HKW := Lib.hid hKW
  have HM1 := Lib.hid hM1
  clear hsz hox hbW hKW hM1
  refine (put_any base mk _ v L ⟨2, .slice none 0 0, 0, 0, 0⟩ _ HM1.out.at_ (by omega) rfl).mono ?_
  rintro e w1 ⟨rfl, ⟨v1, hm1⟩, hk1⟩
  have HA1 := Lib.hid (HM1.out.on hk1 hm1)
  have HK1 := Lib.hid (HKW.out.trans hk1)
  have HO1 := Lib.hid (hk1.other _ _ HOX.out (by omega) (fun _ _ e => by cases e))
  clear hm1 hk1
  go_wp2_with fail
  refine (put_any base mk _ v1 (L ++ [⟨2, .slice none 0 0, 0, 0, 0⟩]) ⟨6, .slice none 0 0, (L.length : Int), 0, level⟩ _ HA1.out.at_ (by simp; omega) rfl).mono ?_
  rintro e w2 ⟨rfl, ⟨v2, hm2⟩, hk2⟩
  have HA2 := Lib.hid (HA1.out.on hk2 hm2)
  have HK2 := Lib.hid (HK1.out.trans hk2)
  have hO2 := hk2.other _ _ HO1.out (by omega) (fun _ _ e => by cases e)
  have q2 : w2.cell? ⟨w.heap.size, 2, none⟩ = some (.slice Ak 1 ck) := by rw [cell_of_row _ _ _ _ _ _ hO2]; rfl
  have HO2 := Lib.hid hO2
  clear hm2 hk2 hO2
  obtain ⟨bk, ok, rfl, hkc⟩ := HKD.out _ HA2.out.below
  have hKi := hK v2 _ w2 ((L.length + 1 : Nat) : Int) (level + 1) HA2.out (by omega) (by omega)
  have hl2 : (L ++ [(⟨2, .slice none 0 0, 0, 0, 0⟩ : IV)] ++ [(⟨6, .slice none 0 0, (L.length : Int), 0, level⟩ : IV)]).length = L.length + 2 := by simp
  rw [hl2, HKID.out] at hKi
  have HKI := Lib.hid (hKi (by dsimp only; omega))
  clear hKi
  have hcast : ((L.length + 1 : Nat) : Int) = (L.length : Int) + 1 := by omega
  rw [hcast] at HKI
  clear hcast hl2
  go_wp2_with fail
  refine HKI.out.mono ?_
  rintro e w3 ⟨rfl, v3, M3, hm3, hi3, hk3⟩
  have HA3 := Lib.hid (HA2.out.on hk3 hm3)
  have HK3 := Lib.hid (HK2.out.trans hk3)
  have HO3 := Lib.hid (hk3.other _ _ HO2.out (by omega) (fun _ _ e => by cases e))
  have hxl := hi3.1
  have HI3 := Lib.hid hi3
  have HIP := Lib.hid (((IsRd.one (i := ⟨6, .slice none 0 0, (L.length : Int), 0, level⟩) (x := ⟨6, [], (L.length : Int), 0, level⟩) ⟨rfl, SetRd.nil base w2, rfl, rfl, rfl⟩)).kept hk3 HA2.out.at_.is)
  clear hm3 hk3 hi3 q2 hkc
  go_wp2_with fail
  refine (put_any base mk _ v3 _ ⟨5, .slice none 0 0, bi, 0, level⟩ _ HA3.out.at_ (by simp; omega) rfl).mono ?_
  rintro e w4 ⟨rfl, ⟨v4, hm4⟩, hk4⟩
  have hA4 := (HA3.out.on hk4 hm4)
  have HK4 := Lib.hid (HK3.out.trans hk4)
  have hO4 := hk4.other _ _ HO3.out (by omega) (fun _ _ e => by cases e)
  have q5 : w4.cell? ⟨w.heap.size, 5, none⟩ = some (.bool true) := by rw [cell_of_row _ _ _ _ _ _ hO4]; rfl
  have HI4 := Lib.hid (((HIP.out.app HI3.out).kept hk4 HA3.out.at_.is).app (IsRd.one (i := ⟨5, .slice none 0 0, bi, 0, level⟩) (x := ⟨5, [], bi, 0, level⟩) ⟨rfl, SetRd.nil base w4, rfl, rfl, rfl⟩))
  have hm5 := hA4.at_
  rw [List.append_assoc, List.append_assoc, List.append_assoc] at hm5
  obtain ⟨A4, c4, rfl⟩ := own_form hm5.row
  obtain ⟨g, cap, e4⟩ := ownsRow_pos hm5.row (by simp; omega)
  injection e4 with e4a e4b e4c
  subst e4a e4c
  obtain ⟨Z, hZ⟩ : ∃ Z, Z = L ++ (⟨2, .slice none 0 0, 0, 0, 0⟩ : IV) :: ([(⟨6, .slice none 0 0, (L.length : Int), 0, level⟩ : IV)] ++ (M3 ++ [(⟨5, .slice none 0 0, bi, 0, level⟩ : IV)])) := ⟨_, rfl⟩
  have hZl : Z.length = L.length + 3 + xs.length := by rw [hZ]; simp; omega
  have hfa := flat_at L ([(⟨6, .slice none 0 0, (L.length : Int), 0, level⟩ : IV)] ++ (M3 ++ [(⟨5, .slice none 0 0, bi, 0, level⟩ : IV)])) ⟨2, .slice none 0 0, 0, 0, 0⟩
  rw [← hZ] at hfa
  change MkAt base mk _ (.slice (some ⟨g, 0, none⟩) (L ++ (⟨2, .slice none 0 0, 0, 0, 0⟩ : IV) :: ([(⟨6, .slice none 0 0, (L.length : Int), 0, level⟩ : IV)] ++ (M3 ++ [(⟨5, .slice none 0 0, bi, 0, level⟩ : IV)]))).length c4) (L ++ (⟨2, .slice none 0 0, 0, 0, 0⟩ : IV) :: ([(⟨6, .slice none 0 0, (L.length : Int), 0, level⟩ : IV)] ++ (M3 ++ [(⟨5, .slice none 0 0, bi, 0, level⟩ : IV)]))) w4 at hm5
  rw [← hZ] at hm5
  have hgm := (hm5.row_ne (by omega))
  have q1 : w4.cell? ⟨mk, 1, none⟩ = some (.slice (some ⟨g, 0, none⟩) Z.length c4) := by simp [World.cell?, hm5.obj]
  have q3 : w4.frozen? ⟨g, L.length * 5 + 2, none⟩ = false := hm5.row.frozenAt _
  have q4 : w4.frozen? ⟨g, L.length * 5 + 3, none⟩ = false := hm5.row.frozenAt _
  have hltN : L.length < Z.length := by omega
  have hltNi : (L.length : Int) < (Z.length : Int) := by omega
  have hm0 : w4.cell? ⟨g, L.length * 5 + 2, none⟩ = some (.int .i64 0) := by
    rw [hm5.row.cellAt _ (by omega)]
    exact hfa.1
  have hm6 : w4.cell? ⟨g, L.length * 5 + 3, none⟩ = some (.int .i64 0) := by
    rw [hm5.row.cellAt _ (by omega)]
    exact hfa.2
  have hgne : mk ≠ g := fun e => hgm.2.2.1 e.symm
  have hgne2 : g ≠ mk := hgm.2.2.1
  have HM5 := Lib.hid hm5
  have HGM := Lib.hid hgm
  have HA4 := Lib.hid hA4
  have HZ := Lib.hid hZ
  have HZL := Lib.hid hZl
  have HO4 := Lib.hid hO4
  clear hm5 hgm hA4 hZ hm4 hk4 hO4 hfa

  have HMZ : Hid (MkAt base mk (.slice (some ⟨b, o, none⟩) nodes.length c) (.slice (some ⟨g, 0, none⟩) Z.length c4) (L ++ (⟨2, .slice none 0 0, 0, 0, 0⟩ : IV) :: ([(⟨6, .slice none 0 0, (L.length : Int), 0, level⟩ : IV)] ++ (M3 ++ [(⟨5, .slice none 0 0, bi, 0, level⟩ : IV)]))) w4) := Lib.hid (by have h := HM5.out; rw [HZ.out] at h ⊢; exact h)
  go_upto_region 6 with (fail)
  go_region
  obtain ⟨hgt, hgb, _, _⟩ := HGM.out
  have hfm : MkAt base mk (.slice (some ⟨b, o, none⟩) nodes.length c) (.slice (some ⟨g, 0, none⟩) Z.length c4) (L ++ (⟨2, .slice none 0 0, (L.length : Int) + ((xs.length : Int) + 1 + 1), next, 0⟩ : IV) :: ([(⟨6, .slice none 0 0, (L.length : Int), 0, level⟩ : IV)] ++ (M3 ++ [(⟨5, .slice none 0 0, bi, 0, level⟩ : IV)]))) (forkW w4 g L.length ((L.length : Int) + ((xs.length : Int) + 1 + 1)) next).drew := MkAt.under (HMZ.out.fork ((L.length : Int) + ((xs.length : Int) + 1 + 1)) next) (Below.refl _ _).drew
  have hfi := (IsRd.fork (k := L.length) (x := (L.length : Int) + ((xs.length : Int) + 1 + 1)) (y := next) hgt HI4.out).under (Below.refl _ _).drew
  have hzz4 : (forkW w4 g L.length ((L.length : Int) + ((xs.length : Int) + 1 + 1)) next).heap.size = w4.heap.size := by simp [forkW]
  have hfk := (forkW_kept (k := L.length) (x := (L.length : Int) + ((xs.length : Int) + 1 + 1)) (y := next) HK4.out hgb hgt).trans (MkKept.of_below (by have := HK4.out.below.size; omega) (Below.refl (forkW w4 g L.length ((L.length : Int) + ((xs.length : Int) + 1 + 1)) next).heap.size _).drew)
  have hfo : (forkW w4 g L.length ((L.length : Int) + ((xs.length : Int) + 1 + 1)) next).drew.heap[w.heap.size]? = some (.cells #[.int .i64 op, sv, .slice (some ⟨bk, ok, none⟩) 1 ck, .int .i64 mn, .int .i64 mx, .bool true, .int .i64 gr, .int .i64 lk] 80 (0, 0)) := ((forkW_kept (k := L.length) (x := (L.length : Int) + ((xs.length : Int) + 1 + 1)) (y := next) (MkKept.refl base mk w4) hgb hgt).trans (MkKept.of_below (by have := HK4.out.below.size; omega) (Below.refl (forkW w4 g L.length ((L.length : Int) + ((xs.length : Int) + 1 + 1)) next).heap.size _).drew)).other _ _ HO4.out (by omega) (fun _ _ e => by cases e)
  clear q1 q3 q4 q5 hm0 hm6 hgt hgb
  obtain ⟨w5, hw5⟩ : ∃ w5, w5 = (forkW w4 g L.length ((L.length : Int) + ((xs.length : Int) + 1 + 1)) next).drew := ⟨_, rfl⟩
  rw [← hw5] at hfm hfi hfk hfo
  unfold forkW at hw5
  rw [← hw5]
  clear hw5 hzz4
  have hfa := flat_at L ([(⟨6, .slice none 0 0, (L.length : Int), 0, level⟩ : IV)] ++ (M3 ++ [(⟨5, .slice none 0 0, bi, 0, level⟩ : IV)])) ⟨2, .slice none 0 0, (L.length : Int) + ((xs.length : Int) + 1 + 1), next, 0⟩
  have hZ2 : Z.length = (L ++ (⟨2, .slice none 0 0, (L.length : Int) + ((xs.length : Int) + 1 + 1), next, 0⟩ : IV) :: ([(⟨6, .slice none 0 0, (L.length : Int), 0, level⟩ : IV)] ++ (M3 ++ [(⟨5, .slice none 0 0, bi, 0, level⟩ : IV)]))).length := by rw [HZ.out]; simp
  have hrow := hfm.row
  rw [← hZ2] at hrow
  have q1 : w5.cell? ⟨mk, 1, none⟩ = some (.slice (some ⟨g, 0, none⟩) Z.length c4) := by simp [World.cell?, hfm.obj]
  have q3 : w5.frozen? ⟨g, L.length * 5 + 2, none⟩ = false := hrow.frozenAt _
  have q4 : w5.frozen? ⟨g, L.length * 5 + 3, none⟩ = false := hrow.frozenAt _
  have q5 : w5.cell? ⟨w.heap.size, 5, none⟩ = some (.bool true) := by rw [cell_of_row _ _ _ _ _ _ hfo]; rfl
  have hm0 : w5.cell? ⟨g, L.length * 5 + 2, none⟩ = some (.int .i64 ((L.length : Int) + ((xs.length : Int) + 1 + 1))) := by
    rw [hrow.cellAt _ (by omega)]
    exact hfa.1
  have hm6 : w5.cell? ⟨g, L.length * 5 + 3, none⟩ = some (.int .i64 next) := by
    rw [hrow.cellAt _ (by omega)]
    exact hfa.2
  have HGM := Lib.hid (hfm.row_ne (by simp <;> omega))
  have HFM := Lib.hid hfm
  have HFI := Lib.hid hfi
  have HFK := Lib.hid hfk
  clear hfm hfi hfk hfo hfa hrow hZ2
  go_upto_region 8 with (fail)
  go_region
  go_wp2
  go_ret
  have hX : ((L.length + 2 + xs.length : Nat) : Int) = (L.length : Int) + ((xs.length : Int) + 1 + 1) := by omega
  rw [hX]
  obtain ⟨hgt, hgb, _, _⟩ := HGM.out
  have hF : MkAt base mk (.slice (some ⟨b, o, none⟩) nodes.length c) (.slice (some ⟨g, 0, none⟩) Z.length c4) (L ++ (⟨2, .slice none 0 0, next, (L.length : Int) + ((xs.length : Int) + 1 + 1), 0⟩ : IV) :: ([(⟨6, .slice none 0 0, (L.length : Int), 0, level⟩ : IV)] ++ (M3 ++ [(⟨5, .slice none 0 0, bi, 0, level⟩ : IV)]))) (forkW w5 g L.length (next) ((L.length : Int) + ((xs.length : Int) + 1 + 1))) := (HFM.out).fork _ _
  have hzz : (forkW w5 g L.length (next) ((L.length : Int) + ((xs.length : Int) + 1 + 1))).heap.size = w5.heap.size := by simp [forkW]
  have hle : base ≤ w5.heap.size := by have := (HFK.out).below.size; omega
  refine ⟨rfl, .slice (some ⟨g, 0, none⟩) Z.length c4, (⟨2, .slice none 0 0, next, (L.length : Int) + ((xs.length : Int) + 1 + 1), 0⟩ : IV) :: ([(⟨6, .slice none 0 0, (L.length : Int), 0, level⟩ : IV)] ++ (M3 ++ [(⟨5, .slice none 0 0, bi, 0, level⟩ : IV)])), ?_, ?_, ?_⟩
  · exact hF.under (Below.refl _ _).drew
  · refine IsRd.under (W := forkW w5 g L.length (next) ((L.length : Int) + ((xs.length : Int) + 1 + 1))) ?_ (Below.refl _ _).drew
    have hh := IsRd.fork (k := L.length) (x := next) (y := (L.length : Int) + ((xs.length : Int) + 1 + 1)) hgt (HFI.out)
    have h1 := (IsRd.one (base := base) (W := forkW w5 g L.length (next) ((L.length : Int) + ((xs.length : Int) + 1 + 1))) (i := ⟨2, .slice none 0 0, next, (L.length : Int) + ((xs.length : Int) + 1 + 1), 0⟩) (x := ⟨2, [], next, (L.length : Int) + ((xs.length : Int) + 1 + 1), 0⟩) ⟨rfl, SetRd.nil _ _, rfl, rfl, rfl⟩).app hh
    simpa [List.append_assoc] using h1
  · exact (forkW_kept (HFK.out) hgb hgt).trans (MkKept.of_below (by omega) (Below.refl (forkW w5 g L.length (next) ((L.length : Int) + ((xs.length : Int) + 1 + 1))).heap.size _).drew)
theorem round_any (base mk B b o c : Nat) (nodes : List Node) (v : Value) (L : List IV) (w0 w : World) (kid : Nat → Int → Int → Nat → List Inst × Int) (k0 : Nat) (next back level : Int) (op mn mx gr lk : Int) (lz : Bool) (sv : Value) (Ak : Option Addr) (ck : Nat)
    (hM : MArg base mk B b o c nodes v L w0 w) (hkd : ∀ W', Below B w0 W' → ∃ bk ok, Ak = some ⟨bk, ok, none⟩ ∧ W'.cell? ⟨bk, ok, none⟩ = some (.int .i64 k0)) (hsv : sv.oneCell' = true) (hK : KidC base mk B b o c nodes w0 kid k0) (hlv : 0 ≤ level) (hlv2 : level + 1 + (k0 : Int) ≤ 4000)
    (hL : L.length + (roundF kid k0 lz next back level L.length).1.length + k0 * 400000000 ≤ 1000000000000) :
    Calls Tryd.prog 119 #[.pointer (some ⟨mk, 0, none⟩), .agg #[.int .i64 op, sv, .slice Ak 1 ck, .int .i64 mn, .int .i64 mx, .bool lz, .int .i64 gr, .int .i64 lk], .int .i64 next, .int .i64 back, .int .i64 level] w
      (Lays base mk (.slice (some ⟨b, o, none⟩) nodes.length c) L (roundF kid k0 lz next back level L.length).1 (roundF kid k0 lz next back level L.length).2 w) := by
  by_cases h : back < 0
  · cases lz
    · exact round_ng base mk B b o c nodes v L w0 w kid k0 next back level op mn mx gr lk sv Ak ck hM hkd hsv hK hlv hlv2 hL h
    · exact round_nl base mk B b o c nodes v L w0 w kid k0 next back level op mn mx gr lk sv Ak ck hM hkd hsv hK hlv hlv2 hL h
  · cases lz
    · exact round_pg base mk B b o c nodes v L w0 w kid k0 next back level op mn mx gr lk sv Ak ck hM hkd hsv hK hlv hlv2 hL (by omega)
    · exact round_pl base mk B b o c nodes v L w0 w kid k0 next back level op mn mx gr lk sv Ak ck hM hkd hsv hK hlv hlv2 hL (by omega)
end Go.Proofs.YtmbboianghbjkaaDoor

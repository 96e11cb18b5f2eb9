import Derived.Test.YtmbboianghbjkaaDoorComp
import Derived.Test.YtmbboianghbjkaaDoorShelf
namespace Go.Proofs.YtmbboianghbjkaaDoor
open Go.RowKit Go.Shelf
set_option linter.unusedVariables false
set_option linter.unusedSimpArgs false
attribute [local go_sem] bl_refl bl_alloc bl_a2 bl_a3 bl_a4 bl_a5 bl_set bl_drew bl_drewN le_add_r lt_add_r addr_add

/-! slices.Clone at []string -/
/-- Texts that the call made, or none. -/
def StrRd (base : Nat) (W : World) (v : Value) (xs : List ByteArray) : Prop :=
  ∃ A c, v = .slice A xs.length c ∧ xs.length ≤ c ∧ W.ownsRow base 9 1 v xs.length (xs.map Value.string)
theorem StrRd.below {base : Nat} {W W' : World} {v : Value} {xs : List ByteArray} (h : StrRd base W v xs) (k : Below W.heap.size W W') : StrRd base W' v xs := by
  obtain ⟨A, c, rfl, h1, h2⟩ := h
  exact ⟨A, c, rfl, h1, own_below h2 k⟩
theorem StrRd.one {base : Nat} {W : World} {v : Value} {xs : List ByteArray} (h : StrRd base W v xs) : v.oneCell' = true := by
  obtain ⟨A, c, rfl, _⟩ := h
  rfl
theorem cloneS_any (B : Nat) (w0 w : World) (v : Value) (xs : List ByteArray) (hb : Below B w0 w) (h : Sl (StrAt B w0) 1 v xs) (hl : xs.length ≤ 1000000) :
    Calls Tryd.prog 43 #[v] w fun e w' => ∃ v', e = .returned v' ∧ StrRd w.heap.size w' v' xs ∧ Below w.heap.size w w' := by
  obtain ⟨A, c, rfl, h1, h2, h3⟩ := h
  have own : ∀ (w' : World) (v' : Value), w'.ownsRow w.heap.size 9 1 v' xs.length (xs.map Value.string) → StrRd w.heap.size w' v' xs := by
    intro w' v' ho
    obtain ⟨A', c', rfl⟩ := own_form ho
    exact ⟨A', c', rfl, (own_cap ho).1, ho⟩
  cases A with
  | none =>
    have hx : xs.length = 0 := by
      rcases Nat.eq_zero_or_pos xs.length with h | h
      · exact h
      · obtain ⟨b, o, e, _⟩ := h3 h
        cases e
    obtain rfl : xs = [] := List.eq_nil_of_length_eq_zero hx
    refine (Tryd.slices_Clone_string_nil _ c w).mono ?_
    rintro e w' ⟨rfl, rfl⟩
    exact ⟨_, rfl, ⟨none, 0, rfl, Nat.le_refl _, World.ownsRow_nil _ _ _ _⟩, Below.refl _ _⟩
  | some ad =>
    rcases Nat.eq_zero_or_pos xs.length with h0 | hp
    · obtain rfl : xs = [] := List.eq_nil_of_length_eq_zero h0
      refine (Tryd.slices_Clone_string_zero ad c w).mono ?_
      rintro e w' ⟨v', rfl, hown, _, hbw⟩
      exact ⟨v', rfl, own _ _ hown, hbw⟩
    · obtain ⟨b, o, e, hR⟩ := h3 hp
      cases e
      refine (Tryd.slices_Clone_string b o xs.length c xs w (Nat.le_refl _) (by omega) (fun j hj => ?_)).mono ?_
      · have := (hR j hj).at_ w hb
        rw [Nat.mul_one] at this
        rw [this]
        simp [List.getD_eq_getElem?_getD, List.getElem?_eq_getElem hj]
      · rintro e w' ⟨v', rfl, hown, _, hbw⟩
        rw [List.take_length] at hown
        exact ⟨v', rfl, own _ _ hown, hbw⟩

/-- What Compile lays. -/
def compF (t : Tree) : List Inst :=
  let r := emitF t.nodes t.nodes.length (t.nodes.length - 1) 1 0 2
  ⟨9, [], r.2, 0, 0⟩ :: ⟨7, [], 0, 0, 0⟩ :: r.1
/-- A program that lies in memory of the call's own. -/
structure ProgOwn (base : Nat) (W : World) (iv sv : Value) (insts : List Inst) (names : List ByteArray) : Prop where
  insts : ∃ L, W.ownsRow base 47 5 iv L.length (L.flatMap IV.cells) ∧ IsRd base W L insts
  names : StrRd base W sv names

theorem own_base {W : World} {base base' : Nat} {e : TypeId} {size : Nat} {v : Value} {n : Nat} {xs : List Value} (h : W.ownsRow base e size v n xs) (hb : base' ≤ base) : W.ownsRow base' e size v n xs := by
  obtain ⟨h1, h2⟩ := h
  refine ⟨h1, ?_⟩
  rcases h2 with h2 | ⟨g, cap, cur, hv, hg, r⟩
  · exact .inl h2
  · exact .inr ⟨g, cap, cur, hv, Nat.le_trans hb hg, r⟩
theorem SetRd.base {base base' : Nat} {W : World} {v : Value} {xs : List (Int × Int)} (h : SetRd base W v xs) (hb : base' ≤ base) : SetRd base' W v xs := by
  obtain ⟨A, c, rfl, h1, h2⟩ := h
  refine ⟨A, c, rfl, h1, fun hp => ?_⟩
  obtain ⟨b, cs, fr, e, h3, h4, h5⟩ := h2 hp
  exact ⟨b, cs, fr, e, Nat.le_trans hb h3, h4, h5⟩
theorem SetRd.set {base : Nat} {W : World} {v : Value} {xs : List (Int × Int)} (h : SetRd base W v xs) {p : Addr} (hp : p.block < base) (u : Value) : SetRd base (W.setCell p u) v xs := by
  obtain ⟨A, c, rfl, h1, h2⟩ := h
  refine ⟨A, c, rfl, h1, fun hq => ?_⟩
  obtain ⟨b, cs, fr, e, h3, h4, h5⟩ := h2 hq
  exact ⟨b, cs, fr, e, h3, (Below.heap_setCell _ _ _ _ (by omega)).trans h4, h5⟩
theorem StrRd.base {base base' : Nat} {W : World} {v : Value} {xs : List ByteArray} (h : StrRd base W v xs) (hb : base' ≤ base) : StrRd base' W v xs := by
  obtain ⟨A, c, rfl, h1, h2⟩ := h
  exact ⟨A, c, rfl, h1, own_base h2 hb⟩
theorem StrRd.set {base : Nat} {W : World} {v : Value} {xs : List ByteArray} (h : StrRd base W v xs) {p : Addr} (hp : p.block < base) (u : Value) : StrRd base (W.setCell p u) v xs := by
  obtain ⟨A, c, rfl, h1, h2⟩ := h
  exact ⟨A, c, rfl, h1, ownsRow_setCell_below h2 hp u⟩
theorem ProgOwn.base {base base' : Nat} {W : World} {iv sv : Value} {is : List Inst} {ns : List ByteArray} (h : ProgOwn base W iv sv is ns) (hb : base' ≤ base) : ProgOwn base' W iv sv is ns := by
  obtain ⟨⟨L, h1, h2⟩, h3⟩ := h
  exact ⟨⟨L, own_base h1 hb, h2.1, fun k a b => ⟨(h2.2 k a b).op, (h2.2 k a b).set.base hb, (h2.2 k a b).x_, (h2.2 k a b).y, (h2.2 k a b).n⟩⟩, h3.base hb⟩
theorem ProgOwn.set {base : Nat} {W : World} {iv sv : Value} {is : List Inst} {ns : List ByteArray} (h : ProgOwn base W iv sv is ns) {p : Addr} (hp : p.block < base) (u : Value) : ProgOwn base (W.setCell p u) iv sv is ns := by
  obtain ⟨⟨L, h1, h2⟩, h3⟩ := h
  exact ⟨⟨L, ownsRow_setCell_below h1 hp u, h2.map fun _ _ h => h.set hp u⟩, h3.set hp u⟩

set_option maxRecDepth 100000 in
set_option maxHeartbeats 2000000 in
/-- Compile, the good case. -/
theorem compileOk_any (B : Nat) (w0 w : World) (nv sv : Value) (t : Tree) (hb : Below B w0 w) (hB : B ≤ w.heap.size) (ht : TreeV B w0 nv sv t) (hg : BandsAt B w0) (hok : treeOk t = true) (hlw : weightOf t ≤ 5000) (hsets : ∀ n ∈ t.nodes, n.set.length ≤ 17592186044416) (hnl : t.names.length ≤ 1000000) :
    Calls Tryd.prog 18 #[.agg #[nv, sv, .bool t.raw]] w fun e w' => ∃ iv sv', e = .returned (.tuple #[.agg #[iv, sv', .bool t.raw], .int .i64 0]) ∧ ProgOwn w.heap.size w' iv sv' (compF t) t.names ∧ Below w.heap.size w w' := by
  obtain ⟨hN0, hN2, _⟩ := treeOk_grown hok
  obtain ⟨A, c, rfl, h1, h2, h3⟩ := ht.nodes
  obtain ⟨b, o, rfl, h4⟩ := h3 hN0
  obtain ⟨As, cs, rfl, hs1, hs2, hs3⟩ := ht.names
  have H4 := Lib.hid h4
  have HT := Lib.hid ht
  have HG := Lib.hid hg
  have HOK := Lib.hid hok
  have HLW := Lib.hid hlw
  have HST := Lib.hid hsets
  have HN0 := Lib.hid hN0
  clear h3 h4 hs3 ht hg hok hlw hsets hN0
  go_enter Tryd.func18, Tryd.ntmps18
  go_wp2_with fail
  refine (weight_any B w0 _ _ _ t ((hb.alloc hB _).alloc (by simp; omega) _) (by simp; omega) HT.out HG.out).mono ?_
  rintro e w1 ⟨rfl, hb1⟩
  rw [HOK.out]
  have hw0 : wAns t = weightOf t := by unfold wAns; rw [HOK.out]; rfl
  rw [hw0]
  clear hw0
  rw [show errNo true = 0 from rfl]
  have hhv := HLW.out
  generalize weightOf t = wt at hhv ⊢
  obtain ⟨W2, hW2⟩ : ∃ W2, W2 = (w.alloc (.cells #[.slice (some ⟨b, o, none⟩) t.nodes.length c, .slice As t.names.length cs, .bool t.raw] 35)).alloc (.cells #[.slice none 0 0, .slice none 0 0, .bool false] 41) := ⟨_, rfl⟩
  have hs2' : W2.heap.size = w.heap.size + 2 := by rw [hW2]; simp
  have hb2 : Below w.heap.size w W2 := by rw [hW2]; exact ((Below.refl _ _).alloc (by simp) _).alloc (by simp) _
  have hT : W2.heap[w.heap.size]? = some (.cells #[.slice (some ⟨b, o, none⟩) t.nodes.length c, .slice As t.names.length cs, .bool t.raw] 35 (0, 0)) := by
    rw [hW2]
    exact (Below.heap_alloc _ _ _ (by simp)).trans (World.alloc_heap_new w _)
  have hP : W2.heap[w.heap.size + 1]? = some (.cells #[.slice none 0 0, .slice none 0 0, .bool false] 41 (0, 0)) := by
    rw [hW2]
    have := World.alloc_heap_new (w.alloc (.cells #[.slice (some ⟨b, o, none⟩) t.nodes.length c, .slice As t.names.length cs, .bool t.raw] 35)) (.cells #[.slice none 0 0, .slice none 0 0, .bool false] 41)
    rwa [World.size_alloc] at this
  rw [← hW2] at hb1
  clear hW2
  have hs1' := hb1.size
  have e0 : w1.cell? ⟨w.heap.size, 0, none⟩ = some (.slice (some ⟨b, o, none⟩) t.nodes.length c) := by simp [World.cell?, (hb1.block w.heap.size (by omega)).trans hT]
  have hs3 : w.heap.size < w1.heap.size := by omega
  go_wp2_with fail
  have hbm : Below w1.heap.size w1 (w1.alloc (.cells #[.slice (some ⟨b, o, none⟩) t.nodes.length c, .slice none 0 0] 91)) := (Below.refl _ _).alloc (Nat.le_refl _) _
  refine (put_any (w.heap.size + 2) w1.heap.size (.slice (some ⟨b, o, none⟩) t.nodes.length c) (.slice none 0 0) [] ⟨9, .slice none 0 0, 0, 0, 0⟩ _ ⟨World.alloc_heap_new w1 _, World.ownsRow_nil _ _ _ _, by omega⟩ (by simp) rfl).mono ?_
  rintro e w3 ⟨rfl, ⟨v1, hm1⟩, hk1⟩
  go_wp2_with fail
  refine (put_any (w.heap.size + 2) w1.heap.size (.slice (some ⟨b, o, none⟩) t.nodes.length c) v1 [⟨9, .slice none 0 0, 0, 0, 0⟩] ⟨7, .slice none 0 0, 0, 0, 0⟩ _ hm1 (by simp) rfl).mono ?_
  rintro e w4 ⟨rfl, ⟨v2, hm2⟩, hk2⟩
  have hk12 := hk1.trans hk2
  have hm4 : Below (w.heap.size + 2) w1 w4 := (hbm.mono (by omega)).trans hk12.below
  have hb4 : Below B w0 w4 := (hb.trans (hb2.mono hB)).trans ((hb1.mono (by omega)).trans (hm4.mono (by omega)))
  have hs4 := hm4.size
  have q0 : w4.cell? ⟨w.heap.size, 0, none⟩ = some (.slice (some ⟨b, o, none⟩) t.nodes.length c) := by simp [World.cell?, ((hb1.mono (by omega : w.heap.size + 2 ≤ W2.heap.size)).trans hm4).block w.heap.size (by omega), hT]
  clear hk1 hm1 hk2 hk12
  have hnode : Calls Tryd.prog 42 #[.pointer (some ⟨w1.heap.size, 0, none⟩), .int .i64 ((t.nodes.length - 1 : Nat) : Int), .int .i64 1, .int .i64 0] w4 (Lays (w.heap.size + 2) w1.heap.size (.slice (some ⟨b, o, none⟩) t.nodes.length c) [⟨9, .slice none 0 0, 0, 0, 0⟩, ⟨7, .slice none 0 0, 0, 0, 0⟩] (emitF t.nodes t.nodes.length (t.nodes.length - 1) 1 0 2).1 (emitF t.nodes t.nodes.length (t.nodes.length - 1) 1 0 2).2 w4) := by
    have hn0 := HN0.out
    have hwk : wGet t.nodes (t.nodes.length - 1) ≤ 5000 := HLW.out
    have hln := emit_len t.nodes (fits_of HOK.out) (wGet_pos HOK.out) t.nodes.length (t.nodes.length - 1) (by omega) hwk 1 0 2
    refine node_tree (w.heap.size + 2) w1.heap.size B b o c t w0 HOK.out t.nodes.length (t.nodes.length - 1) (by omega) (by omega) hwk v2 [⟨9, .slice none 0 0, 0, 0, 0⟩, ⟨7, .slice none 0 0, 0, 0, 0⟩] w4 1 0 ⟨by simpa using hm2, hb4, by omega, H4.out, hN2, HST.out⟩ (by omega) (by omega) ?_
    simp only [List.length_cons, List.length_nil, Nat.zero_add, Nat.reduceAdd]
    omega
  have HNO := Lib.hid hnode
  have hn1 : (t.nodes.length : Int) - 1 = ((t.nodes.length - 1 : Nat) : Int) := by have := HN0.out; omega
  clear hnode
  go_wp2_with fail
  refine HNO.out.mono ?_
  rintro e w5 ⟨rfl, v3, M, hm5, hi5, hk5⟩
  have hr5 := hm5.row
  obtain ⟨g, cap, rfl⟩ := ownsRow_succ hr5
  have ho5 := hm5.obj
  have r0 : w5.cell? ⟨w1.heap.size, 1, none⟩ = some (.slice (some ⟨g, 0, none⟩) (M.length + 1 + 1) cap) := by simp [World.cell?, ho5]; try omega
  have r1 : w5.cell? ⟨g, 2, none⟩ = some (.int .i64 0) := hr5.cellAt 2 (by simp [IV.cells]; omega)
  have r2 := hr5.frozenAt 2
  have r3 : (0 : Int) < ((M.length + 1 + 1 : Nat) : Int) := by omega
  obtain ⟨ems, hems⟩ : ∃ ems, ems = emitF t.nodes t.nodes.length (t.nodes.length - 1) 1 0 2 := ⟨_, rfl⟩
  have HCF := Lib.hid (show compF t = ⟨9, [], ems.2, 0, 0⟩ :: ⟨7, [], 0, 0, 0⟩ :: ems.1 by rw [hems]; rfl)
  rw [← hems] at hi5 ⊢
  clear hems HNO
  obtain ⟨ins, bgn⟩ := ems
  dsimp only at hi5 HCF ⊢
  go_wp2_with fail
  have hgb : w5.heap[w1.heap.size]? = some (.cells #[.slice (some ⟨b, o, none⟩) t.nodes.length c, .slice (some ⟨g, 0, none⟩) (M.length + 1 + 1) cap] 91 (0, 0)) := ho5
  have hgl : w.heap.size + 2 ≤ g := (hr5.lt g rfl).1
  have hml5 : w1.heap.size < w5.heap.size := (Array.getElem?_eq_some_iff.1 ho5).1
  have hne : w1.heap.size ≠ g := by
    rcases hr5.2 with ⟨e, _⟩ | ⟨g', cap', cur, e, _, hgb', _⟩
    · cases e
    · injection e with e1
      injection e1 with e1
      injection e1 with e1
      subst e1
      intro h
      rw [← h, hgb] at hgb'
      injection hgb' with hgb'
      injection hgb' with _ hgb'
      cases hgb'
  have hr6 : (w5.setCell ⟨g, 2, none⟩ (.int .i64 bgn)).ownsRow (w.heap.size + 2) 47 5 (.slice (some ⟨g, 0, none⟩) (M.length + 1 + 1) cap) (M.length + 1 + 1) ((⟨9, .slice none 0 0, bgn, 0, 0⟩ :: ⟨7, .slice none 0 0, 0, 0, 0⟩ :: M : List IV).flatMap IV.cells) := (hr5.stored 2 (.int .i64 bgn)).1
  have hk6 : MkKept (w.heap.size + 2) w1.heap.size w5 (w5.setCell ⟨g, 2, none⟩ (.int .i64 bgn)) := by
    refine ⟨(Below.refl _ _).setCell hgl _, fun k o h hk hno => ?_⟩
    refine (Below.heap_setCell _ _ _ _ (fun e => ?_)).trans h
    rcases hr5.2 with ⟨e, _⟩ | ⟨g', cap', cur, e, _, hgb', _⟩
    · cases e
    · injection e with e1
      injection e1 with e1
      injection e1 with e1
      subst e1
      simp only at e
      subst e
      rw [h] at hgb'
      injection hgb' with hgb'
      exact hno _ _ hgb'
  have hi6 : IsRd (w.heap.size + 2) (w5.setCell ⟨g, 2, none⟩ (.int .i64 bgn)) M ins := hi5.map fun v xs h => h.kept hk6 ⟨_, _, _, ho5⟩
  have hb5 : Below (w.heap.size + 2) w1 w5 := hm4.trans hk5.below
  have hT5 : w5.heap[w.heap.size]? = some (.cells #[.slice (some ⟨b, o, none⟩) t.nodes.length c, .slice As t.names.length cs, .bool t.raw] 35 (0, 0)) := (((hb1.mono (by omega : w.heap.size + 2 ≤ W2.heap.size)).trans hb5).block w.heap.size (by omega)).trans hT
  have hP5 : (w5.setCell ⟨g, 2, none⟩ (.int .i64 bgn)).heap[w.heap.size + 1]? = some (.cells #[.slice none 0 0, .slice none 0 0, .bool false] 41 (0, 0)) := (Below.heap_setCell w5 ⟨g, 2, none⟩ (.int .i64 bgn) _ (by simp; omega)).trans ((((hb1.mono (by omega : w.heap.size + 2 ≤ W2.heap.size)).trans hb5).block (w.heap.size + 1) (by omega)).trans hP)
  have k1 : (w5.setCell ⟨g, 2, none⟩ (.int .i64 bgn)).cell? ⟨w.heap.size, 1, none⟩ = some (.slice As t.names.length cs) := by simp [World.cell?, Below.heap_setCell w5 ⟨g, 2, none⟩ (.int .i64 bgn) w.heap.size (by simp; omega), hT5]
  have k2 : (w5.setCell ⟨g, 2, none⟩ (.int .i64 bgn)).cell? ⟨w.heap.size, 2, none⟩ = some (.bool t.raw) := by simp [World.cell?, Below.heap_setCell w5 ⟨g, 2, none⟩ (.int .i64 bgn) w.heap.size (by simp; omega), hT5]
  have k3 : (w5.setCell ⟨g, 2, none⟩ (.int .i64 bgn)).cell? ⟨w1.heap.size, 1, none⟩ = some (.slice (some ⟨g, 0, none⟩) (M.length + 1 + 1) cap) := by simp [World.cell?, Below.heap_setCell w5 ⟨g, 2, none⟩ (.int .i64 bgn) w1.heap.size (by simpa using hne), hgb]
  have hbe : Below w.heap.size w (w5.setCell ⟨g, 2, none⟩ (.int .i64 bgn)) := ((hb2.trans (hb1.mono (by omega))).trans (hb5.mono (by omega))).setCell (by simp; omega) _
  have hs6 : w5.heap.size = (w5.setCell ⟨g, 2, none⟩ (.int .i64 bgn)).heap.size := by simp
  have hs5 := hb5.size
  obtain ⟨W6, hW6⟩ : ∃ W6, W6 = w5.setCell ⟨g, 2, none⟩ (.int .i64 bgn) := ⟨_, rfl⟩
  rw [← hW6] at k1 k2 k3 hP5 hbe hs6 hr6 hi6 ⊢
  clear hW6 hgb hT5 ho5 hr5 r0 r1 r2 r3 q0 hk6 hi5 hm5 hk5
  have z1 : w.heap.size + 1 < W6.heap.size := by omega
  have z2 : w1.heap.size < W6.heap.size := by omega
  have K1 : ∀ W', Below W6.heap.size W6 W' → W'.cell? ⟨w.heap.size, 1, none⟩ = some (.slice As t.names.length cs) := fun W' h => (h.cell (p := ⟨w.heap.size, 1, none⟩) (by simp; omega)).trans k1
  have K2 : ∀ W', Below W6.heap.size W6 W' → W'.cell? ⟨w.heap.size, 2, none⟩ = some (.bool t.raw) := fun W' h => (h.cell (p := ⟨w.heap.size, 2, none⟩) (by simp; omega)).trans k2
  have K3 : ∀ W', Below W6.heap.size W6 W' → W'.cell? ⟨w1.heap.size, 1, none⟩ = some (.slice (some ⟨g, 0, none⟩) (M.length + 1 + 1) cap) := fun W' h => (h.cell (p := ⟨w1.heap.size, 1, none⟩) (by simp; omega)).trans k3
  have P0 : ∀ W', Below W6.heap.size W6 W' → W'.cell? ⟨w.heap.size + 1, 0, none⟩ = some (.slice none 0 0) ∧ W'.frozen? ⟨w.heap.size + 1, 0, none⟩ = false := fun W' h => by simp [World.cell?, World.frozen?, (h.block _ z1).trans hP5]
  have P1 : ∀ W', Below W6.heap.size W6 W' → W'.cell? ⟨w.heap.size + 1, 1, none⟩ = some (.slice none 0 0) ∧ W'.frozen? ⟨w.heap.size + 1, 1, none⟩ = false := fun W' h => by simp [World.cell?, World.frozen?, (h.block _ z1).trans hP5]
  have P2 : ∀ W', Below W6.heap.size W6 W' → W'.cell? ⟨w.heap.size + 1, 2, none⟩ = some (.bool false) ∧ W'.frozen? ⟨w.heap.size + 1, 2, none⟩ = false := fun W' h => by simp [World.cell?, World.frozen?, (h.block _ z1).trans hP5]
  have HP := Lib.hid hP5
  have HR6 := Lib.hid hr6
  have HI6 := Lib.hid hi6
  clear k1 k2 k3 hP5 hr6 hi6
  have HE := Lib.hid hbe
  have HNM := Lib.hid HT.out.names
  have HNL := Lib.hid hnl
  clear hbe hnl
  have ne1 : w1.heap.size ≠ w.heap.size + 1 := by omega
  have ne2 : w.heap.size + 1 ≠ w1.heap.size := by omega
  have kd1 := K1 _ (Below.refl W6.heap.size W6).drew
  have kd2 := K2 _ (Below.refl W6.heap.size W6).drew
  have kd3 := K3 _ (Below.refl W6.heap.size W6).drew
  go_region_held3 (fun W' => W'.cell? ⟨w1.heap.size, 1, none⟩ = some (.slice (some ⟨g, 0, none⟩) (M.length + 1 + 1) cap) ∧ W'.cell? ⟨w.heap.size, 1, none⟩ = some (.slice As t.names.length cs) ∧ W'.cell? ⟨w.heap.size, 2, none⟩ = some (.bool t.raw)) (go_keep)
    ((go_at_call 43; refine (cloneS_any B w0 _ _ t.names ((hb.trans (HE.out.mono hB)).trans ((Below.refl W6.heap.size W6).drew.mono (by omega))) HNM.out HNL.out).mono ?_; rintro e wc ⟨v', rfl, hsr, hbc⟩; have HSR := Lib.hid hsr; obtain ⟨A', c', rfl, _, _⟩ := hsr; have hbc' : Below W6.heap.size W6 wc := (Below.refl W6.heap.size W6).drew.trans hbc; clear hbc; have ke1 := K1 _ hbc'; have ke2 := K2 _ hbc'; have ke3 := K3 _ hbc'))
  go_wp2
  have c0 := (hbc'.block _ z1).trans HP.out
  have c1 := cells_set (cells_set (cells_set c0 0 (.slice (some ⟨g, 0, none⟩) (M.length + 1 + 1) cap)) 1 (.slice A' t.names.length c')) 2 (.bool t.raw)
  refine bodyPost_ret (results_box rfl _ _ (w.heap.size + 1) 41 #[.slice (some ⟨g, 0, none⟩) (M.length + 1 + 1) cap, .slice A' t.names.length c', .bool t.raw] (0, 0) _ rfl c1 Tryd.underlying41 rfl (by kernel_rfl)) rfl ⟨_, _, rfl, ?_, ?_⟩
  · have p0 : ProgOwn (w.heap.size + 2) wc (.slice (some ⟨g, 0, none⟩) (M.length + 1 + 1) cap) (.slice A' t.names.length c') (compF t) t.names := by
      refine ⟨⟨⟨9, .slice none 0 0, bgn, 0, 0⟩ :: ⟨7, .slice none 0 0, 0, 0, 0⟩ :: M, own_below HR6.out hbc', ?_⟩, (HSR.out.base (by simp; omega))⟩
      rw [HCF.out]
      exact (((IsRd.one (i := ⟨9, .slice none 0 0, bgn, 0, 0⟩) (x := ⟨9, [], bgn, 0, 0⟩) ⟨rfl, SetRd.nil _ _, rfl, rfl, rfl⟩).app (IsRd.one (i := ⟨7, .slice none 0 0, 0, 0, 0⟩) (x := ⟨7, [], 0, 0, 0⟩) ⟨rfl, SetRd.nil _ _, rfl, rfl, rfl⟩)).app HI6.out).map fun _ _ h => h.below hbc'
    exact (((p0.set (by simp) _).set (by simp) _).set (by simp) _).base (by omega)
  · exact (((HE.out.trans (hbc'.mono (by omega))).setCell (by simp) _).setCell (by simp) _).setCell (by simp) _
end Go.Proofs.YtmbboianghbjkaaDoor

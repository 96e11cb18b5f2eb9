import Derived.Test.YtmbboianghbjkaaDoorRefG
namespace Go.Proofs.YtmbboianghbjkaaDoor
open Go.RowKit Go.Shelf
set_option linter.unusedVariables false
set_option linter.unusedSimpArgs false

/-! plain: what is compiled is sound -/
def EmOk (N G : Nat) (raw : Bool) (r : List Inst × Int) : Prop := (∀ x ∈ r.1, fitsX x N G raw = true) ∧ 0 ≤ r.2 ∧ r.2 < N
def KOk (N G : Nat) (raw : Bool) (kid : Nat → Int → Int → Nat → List Inst × Int) (level : Int) (q : Nat) : Prop :=
  ∀ next m, 0 ≤ next → next < (N : Int) → m + (kid q next level m).1.length ≤ N → EmOk N G raw (kid q next level m)
theorem fitsX_w (x : Inst) (N G : Nat) (raw : Bool) : fitsX x N G raw = fitsW x.op x.set.length (setOk x.set raw) x.x x.y x.n N G raw := fitsV_eq _ _ _ _ _ _ _ _
theorem fit_fork {N G : Nat} {raw : Bool} {x y : Int} (h1 : 0 ≤ x) (h2 : x < N) (h3 : 0 ≤ y) (h4 : y < N) : fitsX ⟨2, [], x, y, 0⟩ N G raw = true := by
  rw [fitsX_w]; simp [fitsW, h1, h2, h3, h4]
theorem fit_mark {N G : Nat} {raw : Bool} {x n : Int} (h1 : 0 ≤ x) (h2 : x < N) (h3 : 0 ≤ n) (h4 : n ≤ 63) : fitsX ⟨5, [], x, 0, n⟩ N G raw = true := by
  rw [fitsX_w]; simp [fitsW, numR, h1, h2, h3, h4]
theorem fit_probe {N G : Nat} {raw : Bool} {x n : Int} (h1 : 0 ≤ x) (h2 : x < N) (h3 : 0 ≤ n) (h4 : n ≤ 63) : fitsX ⟨6, [], x, 0, n⟩ N G raw = true := by
  rw [fitsX_w]; simp [fitsW, numR, h1, h2, h3, h4]
theorem fit_save {N G : Nat} {raw : Bool} {x n : Int} (hG : G ≤ 40) (h1 : 0 ≤ x) (h2 : x < N) (h3 : 2 ≤ n) (h4 : n ≤ 2 * G + 1) : fitsX ⟨3, [], x, 0, n⟩ N G raw = true := by
  have hw : wrap64 (wrap64 (2 * (G : Int)) + 1) = 2 * G + 1 := by unfold wrap64; omega
  rw [fitsX_w]; simp [fitsW, numR, h1, h2, h3, hw, h4]
theorem fit_look {N G : Nat} {raw : Bool} {x n : Int} (h1 : 0 ≤ x) (h2 : x < N) (h3 : 1 ≤ n) (h4 : n ≤ 6) : fitsX ⟨4, [], x, 0, n⟩ N G raw = true := by
  rw [fitsX_w]; simp [fitsW, numR, h1, h2, h3, h4]
theorem fit_unit {N G : Nat} {raw : Bool} {s : List (Int × Int)} {x : Int} (h1 : 0 ≤ x) (h2 : x < N) (h3 : setOk s raw = true) : fitsX ⟨1, s, x, 0, 0⟩ N G raw = true := by
  rw [fitsX_w]; simp [fitsW, h1, h2, h3]
theorem catF_ok {N G : Nat} {raw : Bool} {kid : Nat → Int → Int → Nat → List Inst × Int} {level : Int} : ∀ (ks : List Nat), (∀ q ∈ ks, KOk N G raw kid level q) → ∀ next m, 0 ≤ next → next < (N : Int) → m + (catF kid level ks next m).1.length ≤ N → EmOk N G raw (catF kid level ks next m)
  | [], _, next, m, h0, h1, _ => ⟨fun x hx => by simp [catF] at hx, h0, h1⟩
  | k :: ks, hk, next, m, h0, h1, hl => by
    simp only [catF, List.length_append] at hl ⊢
    have a := hk k (by simp) next m h0 h1 (by omega)
    have b := catF_ok ks (fun q hq => hk q (by simp [hq])) (kid k next level m).2 (m + (kid k next level m).1.length) a.2.1 a.2.2 (by omega)
    exact ⟨fun x hx => by rcases List.mem_append.1 hx with h | h; exact a.1 x h; exact b.1 x h, b.2⟩
theorem altF_ok {N G : Nat} {raw : Bool} {kid : Nat → Int → Int → Nat → List Inst × Int} {level next : Int} (h0 : 0 ≤ next) (h1 : next < (N : Int)) : ∀ (ks : List Nat), (∀ q ∈ ks, KOk N G raw kid level q) → ∀ bg m, 0 ≤ bg → bg < (N : Int) → m + (altF kid next level ks bg m).1.length ≤ N → EmOk N G raw (altF kid next level ks bg m)
  | [], _, bg, m, g0, g1, _ => ⟨fun x hx => by simp [altF] at hx, g0, g1⟩
  | k :: ks, hk, bg, m, g0, g1, hl => by
    simp only [altF, List.length_append, List.length_cons] at hl ⊢
    have a := hk k (by simp) next m h0 h1 (by omega)
    have b := altF_ok h0 h1 ks (fun q hq => hk q (by simp [hq])) ((m + (kid k next level m).1.length : Nat) : Int) (m + (kid k next level m).1.length + 1) (by omega) (by omega) (by omega)
    refine ⟨fun x hx => ?_, b.2⟩
    rcases List.mem_append.1 hx with h | h
    · exact a.1 x h
    · rcases List.mem_cons.1 h with rfl | h
      · exact fit_fork a.2.1 a.2.2 g0 g1
      · exact b.1 x h
theorem roundF_ok {N G : Nat} {raw : Bool} {kid : Nat → Int → Int → Nat → List Inst × Int} {level next back : Int} {k m : Nat} {lz : Bool} (hk : KOk N G raw kid (level + 1) k) (h0 : 0 ≤ next) (h1 : next < (N : Int)) (hb : back < (N : Int)) (hv0 : 0 ≤ level) (hv : level ≤ 63)
    (hl : m + (roundF kid k lz next back level m).1.length ≤ N) : EmOk N G raw (roundF kid k lz next back level m) := by
  simp only [roundF, List.length_append, List.length_cons, List.length_nil] at hl ⊢
  have a := hk ((m + 1 : Nat) : Int) (m + 2) (by omega) (by omega) (by omega)
  refine ⟨fun x hx => ?_, by omega, by omega⟩
  rcases List.mem_cons.1 hx with rfl | hx
  · cases lz
    · exact fit_fork (by omega) (by omega) h0 h1
    · exact fit_fork h0 h1 (by omega) (by omega)
  rcases List.mem_cons.1 hx with rfl | hx
  · split
    · exact fit_probe (by omega) (by omega) hv0 hv
    · exact fit_probe (by omega) hb hv0 hv
  rcases List.mem_append.1 hx with hx | hx
  · exact a.1 x hx
  · rw [List.mem_singleton] at hx
    subst hx
    exact fit_mark a.2.1 a.2.2 hv0 hv
theorem timesR_ok {N G : Nat} {raw : Bool} {kid : Nat → Int → Int → Nat → List Inst × Int} {level next : Int} {k : Nat} {lz : Bool} (hk : KOk N G raw kid (level + 1) k) (h0 : 0 ≤ next) (h1 : next < (N : Int)) (hv0 : 0 ≤ level) (hv : level ≤ 63) : ∀ c b m, 0 ≤ b → b < (N : Int) →
    m + (timesR kid k lz next level c b m).1.length ≤ N → EmOk N G raw (timesR kid k lz next level c b m)
  | 0, b, m, g0, g1, _ => ⟨fun x hx => by simp [timesR] at hx, g0, g1⟩
  | c + 1, b, m, g0, g1, hl => by
    simp only [timesR, List.length_append] at hl ⊢
    have a := roundF_ok (lz := lz) hk h0 h1 g1 hv0 hv (m := m) (back := b) (by omega)
    have r := timesR_ok (lz := lz) hk h0 h1 hv0 hv c (roundF kid k lz next b level m).2 (m + (roundF kid k lz next b level m).1.length) a.2.1 a.2.2 (by omega)
    exact ⟨fun x hx => by rcases List.mem_append.1 hx with h | h; exact a.1 x h; exact r.1 x h, r.2⟩
theorem timesN_ok {N G : Nat} {raw : Bool} {kid : Nat → Int → Int → Nat → List Inst × Int} {level : Int} {k : Nat} (hk : KOk N G raw kid (level + 1) k) : ∀ c b m, 0 ≤ b → b < (N : Int) → m + (timesN kid k level c b m).1.length ≤ N → EmOk N G raw (timesN kid k level c b m)
  | 0, b, m, g0, g1, _ => ⟨fun x hx => by simp [timesN] at hx, g0, g1⟩
  | c + 1, b, m, g0, g1, hl => by
    simp only [timesN, List.length_append] at hl ⊢
    have a := hk b m g0 g1 (by omega)
    have r := timesN_ok hk c (kid k b (level + 1) m).2 (m + (kid k b (level + 1) m).1.length) a.2.1 a.2.2 (by omega)
    exact ⟨fun x hx => by rcases List.mem_append.1 hx with h | h; exact a.1 x h; exact r.1 x h, r.2⟩
theorem repF_ok {N G : Nat} {raw : Bool} {kid : Nat → Int → Int → Nat → List Inst × Int} {level next : Int} {k m : Nat} {n : Node} (hk : KOk N G raw kid (level + 1) k) (h0 : 0 ≤ next) (h1 : next < (N : Int)) (hv0 : 0 ≤ level) (hv : level ≤ 63)
    (hl : m + (repF kid k n next level m).1.length ≤ N) : EmOk N G raw (repF kid k n next level m) := by
  simp only [repF, List.length_append] at hl ⊢
  have a : EmOk N G raw (if n.max < 0 then roundF kid k n.lzy next (-1) level m else ([], next)) := by
    by_cases hm : n.max < 0
    · rw [if_pos hm] at hl ⊢
      exact roundF_ok hk h0 h1 (by omega) hv0 hv (by omega)
    · rw [if_neg hm]
      exact ⟨fun x hx => by simp at hx, h0, h1⟩
  generalize (if n.max < 0 then roundF kid k n.lzy next (-1) level m else ([], next)) = ra at *
  have b := timesR_ok (lz := n.lzy) hk h0 h1 hv0 hv (n.max - n.min).toNat ra.2 (m + ra.1.length) a.2.1 a.2.2 (by omega)
  generalize timesR kid k n.lzy next level (n.max - n.min).toNat ra.2 (m + ra.1.length) = rb at *
  have c := timesN_ok hk n.min.toNat rb.2 (m + ra.1.length + rb.1.length) b.2.1 b.2.2 (by omega)
  refine ⟨fun x hx => ?_, c.2⟩
  rcases List.mem_append.1 hx with hx | hx
  · rcases List.mem_append.1 hx with hx | hx
    · exact a.1 x hx
    · exact b.1 x hx
  · exact c.1 x hx

/-! depths -/
theorem growTo_dp {raw : Bool} {nodes : List Node} : ∀ (k : Nat) (fr dp : List Int), growTo raw nodes k = some (fr, dp) → ∀ j fr' dp', j ≤ k → growTo raw nodes j = some (fr', dp') → dp' = dp.take j := by
  intro k
  induction k with
  | zero =>
    intro fr dp h j fr' dp' hj h'
    obtain rfl : j = 0 := by omega
    simp [growTo] at h'
    rw [h'.2]
    rfl
  | succ k ih =>
    intro fr dp h j fr' dp' hj h'
    have hlen := (growTo_inv raw nodes (k + 1) fr dp h).1
    by_cases e : j = k + 1
    · subst e
      rw [h] at h'
      injection h' with h'
      injection h' with _ h'
      rw [← h', List.take_of_length_le (by omega)]
    · rw [growTo, Option.bind_eq_some_iff] at h
      obtain ⟨⟨fr0, dp0⟩, h0, h1⟩ := h
      obtain ⟨_, _, _, _, _, h6, _⟩ := growStep_some h1
      have hl0 := (growTo_inv raw nodes k fr0 dp0 h0).1
      rw [ih fr0 dp0 h0 j fr' dp' (by omega) h', h6, List.take_append_of_le_length (by omega)]
theorem foldl_mx_le (f : Int → Int) : ∀ (l : List Int) (a : Int), a ≤ l.foldl (fun m q => mxI m (f q)) a ∧ ∀ q ∈ l, f q ≤ l.foldl (fun m q => mxI m (f q)) a
  | [], a => ⟨by simp, fun q hq => by cases hq⟩
  | x :: l, a => by
    have ih := foldl_mx_le f l (mxI a (f x))
    have h1 : a ≤ mxI a (f x) := by unfold mxI; split <;> omega
    have h2 : f x ≤ mxI a (f x) := by unfold mxI; split <;> omega
    refine ⟨by simp only [List.foldl_cons]; omega, fun q hq => ?_⟩
    simp only [List.foldl_cons]
    rcases List.mem_cons.1 hq with rfl | hq
    · have := ih.1; omega
    · exact ih.2 q hq
theorem depth_kid {raw : Bool} {nodes : List Node} {fr dp : List Int} (h : growTo raw nodes nodes.length = some (fr, dp)) (k : Nat) (hk : k < nodes.length) : 0 ≤ dp.getD k 0 ∧ dp.getD k 0 ≤ 63 ∧ ∀ q ∈ (nodes.getD k default).kids, dp.getD q.toNat 0 + (if (nodes.getD k default).op = 4 then 1 else 0) ≤ dp.getD k 0 := by
  obtain ⟨hl, _, _, hd⟩ := growTo_inv raw nodes _ fr dp h
  have hmem : dp.getD k 0 ∈ dp := by rw [← getD_at dp k 0 (by omega)]; exact List.getElem_mem _
  refine ⟨(hd _ hmem).1, (hd _ hmem).2, fun q hq => ?_⟩
  obtain ⟨⟨fr1, dp1⟩, h1⟩ := growTo_pre _ _ h (k + 1) (by omega)
  have e1 := growTo_dp _ _ _ h (k + 1) fr1 dp1 (by omega) h1
  rw [growTo, Option.bind_eq_some_iff] at h1
  obtain ⟨⟨fr0, dp0⟩, h0, h2⟩ := h1
  obtain ⟨_, _, _, _, _, h6, _⟩ := growStep_some h2
  have e0 := growTo_dp _ _ _ h k fr0 dp0 (by omega) h0
  have hl0 : dp0.length = k := (growTo_inv raw nodes k fr0 dp0 h0).1
  obtain ⟨g0, g1⟩ := grown_kids h k hk q hq
  have eq1 : dp.getD k 0 = (if (nodes.getD k default).op = 4 then kmax dp0 (nodes.getD k default).kids (nodes.getD k default).kids.length + 1 else kmax dp0 (nodes.getD k default).kids (nodes.getD k default).kids.length) := by
    have : dp1.getD k 0 = dp.getD k 0 := by rw [e1]; simp [List.getD_eq_getElem?_getD, List.getElem?_take]
    rw [← this, h6]
    simp [List.getD_eq_getElem?_getD, hl0]
  have eq2 : dp0.getD q.toNat 0 = dp.getD q.toNat 0 := by rw [e0]; simp [List.getD_eq_getElem?_getD, List.getElem?_take, show q.toNat < k by omega]
  have hm := (foldl_mx_le (fun q => dp0.getD q.toNat 0) (nodes.getD k default).kids 0).2 q hq
  rw [← kmax_all] at hm
  rw [eq2] at hm
  rw [eq1]
  split <;> omega
/-- What a node lays is sound. -/
theorem emit_ok {t : Tree} (h : treeOk t = true) (N G : Nat) (hG : G ≤ 40) {fr dp : List Int} (hg : growTo t.raw t.nodes t.nodes.length = some (fr, dp)) :
    ∀ f k, k < f → k < t.nodes.length → (∀ q ∈ preI t.nodes k, (t.nodes.getD q default).op = 5 → 1 ≤ (t.nodes.getD q default).group ∧ (t.nodes.getD q default).group ≤ G) →
      ∀ level, 0 ≤ level → level + dp.getD k 0 ≤ 63 → KOk N G t.raw (emitF t.nodes f) level k := by
  intro f
  induction f with
  | zero => intro k hf; omega
  | succ f ih =>
    intro k hf hk hgr level hv0 hv next m h0 h1 hl
    have hfit := fits_of h k hk
    have hkl := grown_kids hg
    obtain ⟨d0, d1, d2⟩ := depth_kid hg k hk
    obtain ⟨ks, hks, hlt, _⟩ := hfit.kids
    have hpre := preI_eq hkl k hk
    have hn : numOk (t.nodes.getD k default) = true ∧ fldOk (t.nodes.getD k default) t.raw = true := by
      obtain ⟨⟨fr1, dp1⟩, hh⟩ := growTo_pre _ _ hg (k + 1) (by omega)
      rw [growTo, Option.bind_eq_some_iff] at hh
      obtain ⟨⟨fr0, dp0⟩, _, h2⟩ := hh
      obtain ⟨a, b, _⟩ := growStep_some h2
      exact ⟨a, b⟩
    have hself := hgr k (by rw [hpre]; simp)
    have hkid : ∀ q ∈ ks, ∀ lv, 0 ≤ lv → lv + dp.getD q 0 ≤ 63 → KOk N G t.raw (emitF t.nodes f) lv q := fun q hq lv h0 h1 => ih q (by have := hlt q hq; omega) (by have := hlt q hq; omega) (fun q' hq' => hgr q' (by
      rw [hpre]
      refine List.mem_cons_of_mem _ (List.mem_flatMap.2 ⟨(q : Int), ?_, by simpa using hq'⟩)
      rw [hks]
      exact List.mem_map.2 ⟨q, hq, rfl⟩)) lv h0 h1
    have hdk : ∀ q ∈ ks, dp.getD q 0 + (if (t.nodes.getD k default).op = 4 then 1 else 0) ≤ dp.getD k 0 := fun q hq => by
      have := d2 (q : Int) (by rw [hks]; exact List.mem_map.2 ⟨q, hq, rfl⟩)
      simpa using this
    have hd0 : ∀ q ∈ ks, 0 ≤ dp.getD q 0 := fun q hq => (depth_kid hg q (by have := hlt q hq; omega)).1
    have hkB : kidsB (t.nodes.getD k default) = ks.reverse := by
      unfold kidsB
      rw [hks, List.map_map]
      congr 1
      conv => rhs; rw [← List.map_id ks]
      exact List.map_congr_left fun q _ => by simp
    rw [emitF] at hl ⊢
    unfold opF at hl ⊢
    obtain ⟨p1, p2⟩ := hfit.op
    generalize t.nodes.getD k default = n at *
    have hfl := hn.2
    have hnn := hn.1
    unfold fldOk at hfl
    unfold numOk at hnn
    by_cases o1 : n.op = 1
    · simp only [if_pos o1] at hl ⊢
      refine ⟨fun x hx => ?_, by omega, by simp at hl; omega⟩
      rw [List.mem_singleton] at hx
      subst hx
      refine fit_unit h0 h1 ?_
      rw [if_pos o1] at hfl
      unfold setOk
      simp only [Bool.and_eq_true] at hfl
      obtain ⟨⟨⟨⟨q1, q2⟩, _⟩, _⟩, _⟩ := hfl
      rw [q1, Bool.true_and]
      generalize n.set.length = L at *
      generalize (n.set.getD (L - 1) (0, 0)).2 = u at *
      cases hr : t.raw
      · rfl
      · rw [hr] at q2
        simp at q2 ⊢
        exact q2
    by_cases o6 : n.op = 6
    · simp only [if_neg o1, if_pos o6] at hl ⊢
      refine ⟨fun x hx => ?_, by omega, by simp at hl; omega⟩
      rw [List.mem_singleton] at hx
      subst hx
      simp only [Bool.and_eq_true, if_pos o6, decide_eq_true_eq] at hfl
      exact fit_look h0 h1 hfl.2.1 hfl.2.2
    by_cases o2 : n.op = 2
    · simp only [if_neg o1, if_neg o6, if_pos o2] at hl ⊢
      rw [hkB] at hl ⊢
      refine catF_ok ks.reverse (fun q hq => hkid q (by simpa using hq) level hv0 ?_) next m h0 h1 hl
      have := hdk q (by simpa using hq)
      rw [if_neg (by omega)] at this
      omega
    by_cases o3 : n.op = 3
    · simp only [if_neg o1, if_neg o6, if_neg o2, if_pos o3, List.length_append] at hl ⊢
      rw [hkB] at hl ⊢
      have hne : 0 < ks.reverse.length := by
        rw [if_neg (by omega), if_neg o2, if_pos o3] at hnn
        simp only [decide_eq_true_eq] at hnn
        rw [hks, List.length_map] at hnn
        rw [List.length_reverse]
        omega
      have hkk : ∀ q ∈ ks.reverse, KOk N G t.raw (emitF t.nodes f) level q := fun q hq => hkid q (by simpa using hq) level hv0 (by
        have := hdk q (by simpa using hq)
        rw [if_neg (by omega)] at this
        omega)
      have a := hkk (ks.reverse.getD 0 0) (by rw [← getD_at _ 0 0 hne]; exact List.getElem_mem _) next m h0 h1 (by omega)
      have b := altF_ok h0 h1 (ks.reverse.drop 1) (fun q hq => hkk q (List.mem_of_mem_drop hq)) (emitF t.nodes f (ks.reverse.getD 0 0) next level m).2 (m + (emitF t.nodes f (ks.reverse.getD 0 0) next level m).1.length) a.2.1 a.2.2 (by omega)
      exact ⟨fun x hx => by rcases List.mem_append.1 hx with h | h; exact a.1 x h; exact b.1 x h, b.2⟩
    have hk0 : kid0 n ∈ ks := by
      have hkl1 : n.kids.length = 1 := by
        rw [if_neg (by omega), if_neg o2, if_neg o3] at hnn
        split at hnn
        · simpa using hnn
        · split at hnn
          · simp only [Bool.and_eq_true, decide_eq_true_eq] at hnn
            exact hnn.1.1.1.1
          · cases hnn
      have hksl : ks.length = 1 := by rw [hks, List.length_map] at hkl1; exact hkl1
      unfold kid0
      rw [hks]
      match ks, hksl with
      | [a], _ => simp
    by_cases o5 : n.op = 5
    · simp only [if_neg o1, if_neg o6, if_neg o2, if_neg o3, if_pos o5, List.length_cons, List.length_append, List.length_nil] at hl ⊢
      obtain ⟨e1, e2⟩ := hself o5
      have a := hkid (kid0 n) hk0 level hv0 (by have := hdk _ hk0; rw [if_neg (by omega)] at this; omega) (m : Int) (m + 1) (by omega) (by omega) (by omega)
      have w1 : wrap64 (2 * n.group) = 2 * n.group := by unfold wrap64; omega
      have w2 : wrap64 (2 * n.group + 1) = 2 * n.group + 1 := by unfold wrap64; omega
      refine ⟨fun x hx => ?_, by omega, by omega⟩
      rw [w1, w2] at hx
      rcases List.mem_cons.1 hx with rfl | hx
      · exact fit_save hG h0 h1 (by omega) (by omega)
      rcases List.mem_append.1 hx with hx | hx
      · exact a.1 x hx
      · rw [List.mem_singleton] at hx
        subst hx
        exact fit_save hG a.2.1 a.2.2 (by omega) (by omega)
    · simp only [if_neg o1, if_neg o6, if_neg o2, if_neg o3, if_neg o5] at hl ⊢
      have o4 : n.op = 4 := by omega
      have hd := hdk _ hk0
      rw [if_pos o4] at hd
      have := hd0 _ hk0
      exact repF_ok (hkid (kid0 n) hk0 (level + 1) (by omega) (by omega)) h0 h1 hv0 (by omega) hl
theorem compF_ok {t : Tree} (h : treeOk t = true) (hw : weightOf t ≤ 5000) : prgOk (compF t) t.names t.raw = true ∧ ((compF t).length : Int) ≤ weightOf t + 2 := by
  obtain ⟨h1, h2, fr, dp, hg, hf⟩ := treeOk_grown h
  have hwk : wGet t.nodes (t.nodes.length - 1) ≤ 5000 := hw
  have hln := emit_len t.nodes (fits_of h) (wGet_pos h) t.nodes.length (t.nodes.length - 1) (by omega) hwk 1 0 2
  have hww : weightOf t = wGet t.nodes (t.nodes.length - 1) := rfl
  have hfit : fitOk t.names = true ∧ openedOk t = true := by
    unfold treeOk at h
    simp only [Bool.and_eq_true] at h
    exact ⟨h.1.1.2, h.2⟩
  have hG : t.names.length ≤ 40 := by
    have := hfit.1
    unfold fitOk at this
    simp only [Bool.and_eq_true, decide_eq_true_eq] at this
    exact this.1
  have hop := hfit.2
  rw [opened_grps, Bool.and_eq_true, decide_eq_true_eq, List.all_eq_true] at hop
  have hgrp : ∀ q ∈ preI t.nodes (t.nodes.length - 1), (t.nodes.getD q default).op = 5 → 1 ≤ (t.nodes.getD q default).group ∧ (t.nodes.getD q default).group ≤ t.names.length := by
    intro q hq h5
    have hm : q ∈ grps t.nodes := List.mem_filter.2 ⟨hq, by unfold isGrp; simpa using h5⟩
    obtain ⟨i, hi, rfl⟩ := List.mem_iff_getElem.1 hm
    have := hop.2 i (by simpa using hi)
    rw [decide_eq_true_eq, ← getD_at _ i 0 hi] at this
    rw [this]
    omega
  have hlen : (compF t).length = 2 + (emitF t.nodes t.nodes.length (t.nodes.length - 1) 1 0 2).1.length := by unfold compF; simp; omega
  obtain ⟨d0, d1, _⟩ := depth_kid hg (t.nodes.length - 1) (by omega)
  have e := emit_ok h (compF t).length t.names.length hG hg t.nodes.length (t.nodes.length - 1) (by omega) (by omega) hgrp 0 (by omega) (by omega) 1 2 (by omega) (by omega) (by omega)
  refine ⟨?_, by omega⟩
  unfold prgOk
  rw [hfit.1, decide_eq_true (show 1 ≤ (compF t).length by omega), decide_eq_true (show (compF t).length ≤ 20000 by omega)]
  simp only [Bool.true_and]
  rw [List.all_eq_true]
  intro i hi
  have hi' : i < (compF t).length := by simpa using hi
  rw [← getD_at _ i default hi']
  have hmem := List.getElem_mem hi'
  generalize (compF t)[i] = x at *
  unfold compF at hmem
  dsimp only at hmem
  rcases List.mem_cons.1 hmem with rfl | hmem
  · rw [fitsX_w]
    simp [fitsW, e.2.1, e.2.2]
  rcases List.mem_cons.1 hmem with rfl | hmem
  · rw [fitsX_w]
    simp [fitsW]
  · exact e.1 x hmem
end Go.Proofs.YtmbboianghbjkaaDoor

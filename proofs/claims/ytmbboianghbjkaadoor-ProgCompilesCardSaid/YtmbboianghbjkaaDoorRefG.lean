import Derived.Test.YtmbboianghbjkaaDoorRefF
import Derived.Test.YtmbboianghbjkaaDoorCompG
namespace Go.Proofs.YtmbboianghbjkaaDoor
open Go.RowKit Go.Shelf
set_option linter.unusedVariables false
set_option linter.unusedSimpArgs false
attribute [local go_sem] bl_refl bl_alloc bl_a2 bl_a3 bl_a4 bl_a5 bl_set bl_drew bl_drewN le_add_r lt_add_r Go.Proofs.YtmbboianghbjkaaDoor.addr_add Ex.old

/-! the places of the nodes, the whole ahead of its parts -/
def preIF (nodes : List Node) : Nat → Nat → List Nat
  | 0, _ => []
  | f + 1, i => i :: (nodes.getD i default).kids.flatMap (fun q => preIF nodes f q.toNat)
def preI (nodes : List Node) (i : Nat) : List Nat := preIF nodes (i + 1) i
theorem preF_map (nodes : List Node) : ∀ f i, preF nodes f i = (preIF nodes f i).map (fun k => nodes.getD k default)
  | 0, _ => rfl
  | f + 1, i => by
    rw [preF, preIF, List.map_cons, List.map_flatMap]
    congr 1
    exact flatMap_congr' fun q _ => preF_map nodes f q.toNat
theorem pre_map (nodes : List Node) (i : Nat) : pre nodes i = (preI nodes i).map (fun k => nodes.getD k default) := preF_map nodes _ _
theorem preI_len (nodes : List Node) (i : Nat) : (preI nodes i).length = (pre nodes i).length := by rw [pre_map, List.length_map]
theorem preIF_pre {nodes : List Node} (h : KidsLt nodes) : ∀ (i f : Nat), i < nodes.length → i < f → preIF nodes f i = preI nodes i := by
  intro i
  induction i using Nat.strongRecOn with
  | _ i ih =>
    intro f hi hf
    obtain ⟨f, rfl⟩ : ∃ m, f = m + 1 := ⟨f - 1, by omega⟩
    show _ = preIF nodes (i + 1) i
    rw [preIF, preIF]
    congr 1
    refine flatMap_congr' fun q hq => ?_
    obtain ⟨h0, h1⟩ := h i hi q hq
    rw [ih q.toNat (by omega) f (by omega) (by omega), ih q.toNat (by omega) i (by omega) (by omega)]
theorem preI_eq {nodes : List Node} (h : KidsLt nodes) (i : Nat) (hi : i < nodes.length) : preI nodes i = i :: (nodes.getD i default).kids.flatMap (fun q => preI nodes q.toNat) := by
  show preIF nodes (i + 1) i = _
  rw [preIF]
  congr 1
  refine flatMap_congr' fun q hq => ?_
  obtain ⟨h0, h1⟩ := h i hi q hq
  exact preIF_pre h _ _ (by omega) (by omega)
def isGrp (nodes : List Node) (i : Nat) : Bool := decide ((nodes.getD i default).op = 5)
/-- The groups as they open. -/
def grps (nodes : List Node) : List Nat := (preI nodes (nodes.length - 1)).filter (isGrp nodes)
theorem opn_filter : ∀ (l : List Node) (w : Int), opn l w = opn (l.filter fun n => decide (n.op = 5)) w
  | [], _ => rfl
  | n :: r, w => by
    by_cases h : n.op = 5
    · rw [List.filter_cons_of_pos (by simpa using h), opn, opn, if_pos h, if_pos h]
      split
      · exact opn_filter r _
      · rfl
    · rw [List.filter_cons_of_neg (by simpa using h), opn, if_neg h]
      exact opn_filter r w
theorem opn_iff : ∀ (l : List Node) (w v : Int), (∀ n ∈ l, n.op = 5) → (opn l w = some v ↔ v = w + l.length ∧ ∀ i (h : i < l.length), l[i].group = w + i + 1)
  | [], w, v, _ => by simp [opn]; exact ⟨fun h => h.symm, fun h => h.symm⟩
  | n :: r, w, v, h5 => by
    rw [opn, if_pos (h5 n (by simp))]
    by_cases hg : n.group = w + 1
    · rw [if_pos hg, opn_iff r (w + 1) v fun m hm => h5 m (by simp [hm])]
      constructor
      · rintro ⟨h1, h2⟩
        refine ⟨by rw [h1, List.length_cons]; omega, fun i hi => ?_⟩
        cases i with
        | zero => simpa using hg
        | succ i =>
          have := h2 i (by simpa using hi)
          simp only [List.getElem_cons_succ, this]
          omega
      · rintro ⟨h1, h2⟩
        refine ⟨by rw [h1, List.length_cons]; omega, fun i hi => ?_⟩
        have := h2 (i + 1) (by simpa using hi)
        simp only [List.getElem_cons_succ] at this
        omega
    · rw [if_neg hg]
      constructor
      · intro h; cases h
      · rintro ⟨_, h2⟩
        have := h2 0 (by simp)
        simp at this
        exact absurd this hg
/-- The order of the groups, by their places. -/
theorem opened_grps (t : Tree) : openedOk t = (decide ((grps t.nodes).length = t.names.length) && (List.range (grps t.nodes).length).all fun i => decide ((t.nodes.getD ((grps t.nodes).getD i 0) default).group = (i : Int) + 1)) := by
  unfold openedOk
  rw [opn_filter, pre_map, List.filter_map]
  have e : ((fun n : Node => decide (n.op = 5)) ∘ fun k => t.nodes.getD k default) = isGrp t.nodes := rfl
  rw [e]
  change decide (opn ((grps t.nodes).map fun k => t.nodes.getD k default) 0 = some (t.names.length : Int)) = _
  rw [Bool.eq_iff_iff, decide_eq_true_eq, opn_iff _ _ _ (by
    intro n hn
    obtain ⟨k, hk, rfl⟩ := List.mem_map.1 hn
    have := (List.mem_filter.1 hk).2
    simpa [isGrp] using this)]
  rw [Bool.and_eq_true, decide_eq_true_eq, List.all_eq_true]
  have hlm : ((grps t.nodes).map fun k => t.nodes.getD k default).length = (grps t.nodes).length := List.length_map ..
  constructor
  · rintro ⟨h1, h2⟩
    refine ⟨by omega, fun i hi => ?_⟩
    have hi' : i < (grps t.nodes).length := by simpa using hi
    have := h2 i (by omega)
    rw [List.getElem_map] at this
    rw [decide_eq_true_eq, ← getD_at _ i 0 hi', this]
    omega
  · rintro ⟨h1, h2⟩
    refine ⟨by omega, fun i hi => ?_⟩
    have hi' : i < (grps t.nodes).length := by omega
    have := h2 i (by simpa using hi')
    rw [decide_eq_true_eq, ← getD_at _ i 0 hi'] at this
    rw [List.getElem_map, this]
    omega

theorem ownsRow_popI {W : World} {base : Nat} {A : Option Addr} {c : Nat} {L : List Nat} {q : Nat} (h : W.ownsRow base 3 1 (.slice A (L.length + 1) c) (L.length + 1) ((L ++ [q]).map (fun q : Nat => Value.int .i64 q))) :
    W.ownsRow base 3 1 (.slice A L.length c) L.length (L.map (fun q : Nat => Value.int .i64 q)) := by
  have := own_take h (m := L.length) (by omega)
  rwa [List.map_append, List.take_left' (by simp)] at this

set_option maxRecDepth 100000 in
set_option maxHeartbeats 4000000 in
theorem ropening_any (B : Nat) (w0 w : World) (nv sv : Value) (t : Tree) (fr dp : List Int) (hb : Below B w0 w) (hB : B ≤ w.heap.size) (ht : TreeV B w0 nv sv t) (hN : t.nodes.length ≤ 2000) (hN0 : 0 < t.nodes.length)
    (hgr : growTo t.raw t.nodes t.nodes.length = some (fr, dp)) (hfr : fr.length = 1) :
    Calls Tryd.prog 83 #[.agg #[nv, sv, .bool t.raw]] w fun e w' => ∃ v', e = .returned v' ∧ w'.ownsRow w.heap.size 3 1 v' (grps t.nodes).length ((grps t.nodes).map (fun q : Nat => Value.int .i64 q)) ∧ Below w.heap.size w w' := by
  obtain ⟨i0, hi, hz0, hz1, hz2⟩ := info_parts info_tInt
  obtain ⟨A, c, rfl, h1, h2, h3⟩ := ht.nodes
  obtain ⟨As, cs, rfl, hs1, hs2, hs3⟩ := ht.names
  obtain ⟨nodes, names, raw⟩ := t
  dsimp only at *
  have HN := Lib.hid h3
  have HGR := Lib.hid hgr
  have HFR := Lib.hid hfr
  clear h3 ht h1 h2 hgr hfr hs1 hs2 hs3
  have hN0' : (1 : Int) ≤ nodes.length := by omega
  go_enter Tryd.func83, Tryd.ntmps83
  go_wp2
  have hbw : Below w.heap.size w (w.alloc (.cells #[.slice A nodes.length c, .slice As names.length cs, .bool raw] 35)) := (Below.refl _ _).alloc (Nat.le_refl _) _
  have hcell : ((w.alloc (.cells #[.slice A nodes.length c, .slice As names.length cs, .bool raw] 35))).heap[w.heap.size]? = some (.cells #[.slice A nodes.length c, .slice As names.length cs, .bool raw] 35 (0, 0)) := World.alloc_heap_new w _
  have hsz0 : (w.alloc (.cells #[.slice A nodes.length c, .slice As names.length cs, .bool raw] 35)).heap.size = w.heap.size + 1 := by simp
  obtain ⟨W1, hW1⟩ : ∃ W1, W1 = w.alloc (.cells #[.slice A nodes.length c, .slice As names.length cs, .bool raw] 35) := ⟨_, rfl⟩
  rw [← hW1] at hbw hcell hsz0 ⊢
  clear hW1
  have HC := Lib.hid hcell
  clear hcell
  go_loopg [3, 4, 5, 6, 7] nodes.length (fun n v3 v4 _ _ _ wr => ∃ (O L : List Nat), n = (L.reverse.flatMap (pre nodes)).length ∧ (∀ q ∈ L, q < nodes.length) ∧ O ++ (L.reverse.flatMap (preI nodes)).filter (isGrp nodes) = grps nodes ∧ O.length + n ≤ nodes.length ∧
     wr.ownsRow (w.heap.size + 1) 3 1 v3 O.length (O.map (fun q : Nat => Value.int .i64 q)) ∧ wr.ownsRow (w.heap.size + 1) 3 1 v4 L.length (L.map (fun q : Nat => Value.int .i64 q)) ∧
     (∀ g, v3.ownBlock = some g → v4.ownBlock ≠ some g) ∧ Below (w.heap.size + 1) W1 wr)
  case atStart =>
    have hk := grown_kids HGR.out
    have hsz := grown_size HGR.out HFR.out
    have eN : ((nodes.length : Int) - 1) = ((nodes.length - 1 : Nat) : Int) := by omega
    refine ⟨[], [nodes.length - 1], by simp [hsz], by simp; omega, by simp [grps], by simp, World.ownsRow_nil _ _ _ _, ?_, by simp [Value.ownBlock], (Below.refl _ _).alloc (by omega) _⟩
    rw [eN]
    have h := World.ownsRow_lit W1 #[.int .i64 ((nodes.length - 1 : Nat) : Int)] 1 (base := w.heap.size + 1) (e := 3) (size := 1) (by omega) (by unfold maxLen; omega) rfl
    rw [hsz0] at h
    exact h
  case round =>
    obtain ⟨O, L, hn, hL, ho, hon, hO, hrow, hne, hbr⟩ := hrel
    have hszr : w.heap.size + 1 ≤ wr.heap.size := by have := hbr.size; omega
    have hb2 : Below B w0 wr := hb.trans ((hbw.trans (hbr.mono (by omega))).mono hB)
    have q0 : wr.cell? ⟨w.heap.size, 0, none⟩ = some (.slice A nodes.length c) := by rw [cell_of_row _ _ _ _ _ _ ((hbr.block w.heap.size (by omega)).trans HC.out)]; rfl
    rcases List.eq_nil_or_concat L with rfl | ⟨L', q, hLq⟩
    · obtain ⟨Av, cv, rfl⟩ := own_form hrow
      have hO' : O = grps nodes := by simpa using ho
      subst hO'
      have HO := Lib.hid hO
      clear hn hL ho hO hrow hne hon
      go_wp2
      go_ret
      exact ⟨_, rfl, own_base HO.out (by omega), hbw.trans (hbr.mono (by omega))⟩
    · rw [List.concat_eq_append] at hLq
      subst hLq
      have hq : q < nodes.length := hL q (by simp)
      have hk := grown_kids HGR.out
      have hpq := pre_eq hk q hq
      have hpi := preI_eq hk q hq
      rw [List.reverse_append, List.flatMap_append, List.reverse_singleton, List.flatMap_cons, List.flatMap_nil, List.append_nil] at hn ho
      rw [hpq] at hn
      rw [hpi] at ho
      obtain ⟨b, o, rfl, hNd⟩ := HN.out (by omega)
      have hnk := hNd q hq
      have hkq := hk q hq
      have hgq : isGrp nodes q = decide ((nodes.getD q default).op = 5) := rfl
      rw [getD_at nodes q default hq] at hnk
      generalize nodes.getD q default = nd at *
      obtain ⟨op, set, kids, mn, mx, lz, gr, lk⟩ := nd
      obtain ⟨g0, ⟨kv, g1, hset⟩, ⟨vk, g2, hkids⟩, g3, g4, g5, g6, g7⟩ := hnk
      dsimp only at *
      have HK := Lib.hid hkids
      obtain ⟨Ak, ck, rfl, hk1, hk2, hk3⟩ := hkids
      obtain ⟨As2, cs2, rfl, hs1, hs2, hs3⟩ := hset
      rw [List.length_append, List.length_singleton] at hrow
      obtain ⟨g, cap, rfl⟩ := ownsRow_succ hrow
      have hce : wr.cell? ⟨g, L'.length, none⟩ = some (.int .i64 (q : Int)) := by rw [hrow.cellAt L'.length (by omega)]; simp
      have hgl : g < wr.heap.size := (hrow.lt g rfl).2
      have hlen : L'.length + 1 ≤ 9223372036854775807 := by have := (own_cap hrow); omega
      have hbd : L'.length + kids.length + 1 ≤ nodes.length := by
        have e1 := flat_len nodes (fun q : Int => q.toNat) kids
        have e2 := flat_len nodes id L'.reverse
        simp only [id, List.length_reverse] at e2
        rw [List.cons_append, List.length_cons, List.length_append] at hn
        have e3 : (L'.reverse.flatMap (pre nodes)).length = (L'.reverse.flatMap (fun q => pre nodes q)).length := rfl
        omega
      obtain ⟨ks, hks0, hksb0, hksl0⟩ := nat_list_lt kids q hkq
      have hks := Lib.hid hks0
      have hksb := Lib.hid hksb0
      have hksl := Lib.hid hksl0
      have HPOP := Lib.hid (ownsRow_popI hrow)
      have HOR := Lib.hid hO
      have HLQ := Lib.hid hL
      have HGQ := Lib.hid hgq
      obtain ⟨AO, cO, hv3⟩ := own_form hO
      have hv3c := own_cap (hv3 ▸ hO)
      have hcap2 : (L'.length : Int) ≤ (cap : Int) := by have := own_cap hrow; omega
      clear hL hrow hks0 hksb0 hksl0 hkq hs3 hk3 hs1 hs2 hNd hpq hpi hO hk
      subst hv3
      by_cases o5 : op = 5
      · subst o5
        have ho5 : (O ++ [q]) ++ (kids.flatMap (fun q => preI nodes q.toNat) ++ L'.reverse.flatMap (preI nodes)).filter (isGrp nodes) = grps nodes := by
          rw [← ho, List.cons_append, List.filter_cons_of_pos (by rw [hgq]; rfl)]
          simp
        have HO := Lib.hid ho5
        clear ho5 ho
        go_wp2_with (first | (at_builtin; go_must (refine wpList_append_own_at _ rfl _ _ 74 rfl (w.heap.size + 1) 3 i0 (.int .i64 0) 1 8 Tryd.underlying74 hi hz0 hz1 hz2 rfl (by decide) _ O.length (O.map (fun q : Nat => Value.int .i64 q)) rfl ((HOR.out.alloc _).alloc _) ⟨wr.heap.size + 1, 0, none⟩ 1 1 [.int .i64 (q : Int)] rfl rfl (by have := cell_one_new (wr.alloc (.cells #[.int .i64 5, .slice As2 set.length cs2, .slice Ak kids.length ck, .int .i64 mn, .int .i64 mx, .bool lz, .int .i64 gr, .int .i64 lk] 80)) (.int .i64 (q : Int)) 3; simpa using this) (by simp [Value.oneCell']) (by unfold maxLen; omega) (by omega) (by simp; omega) ?_); intro v3' W3 hown3 hgrow3 _ hat3; have nb2 : W3.cell? ⟨wr.heap.size, 2, none⟩ = some (.slice Ak kids.length ck) := hgrow3.cell ((Below.cell ((Below.refl (wr.heap.size + 1) (wr.alloc (.cells #[.int .i64 5, .slice As2 set.length cs2, .slice Ak kids.length ck, .int .i64 mn, .int .i64 mx, .bool lz, .int .i64 gr, .int .i64 lk] 80))).alloc (by simp) _) (p := ⟨wr.heap.size, 2, none⟩) (by simp)).trans (by rw [cell_of_row _ _ _ _ _ _ (World.alloc_heap_new wr _)]; rfl)) (fun e => by have := (HOR.out.lt _ e.symm).2; simp at this)))
        have hmx : 0 ≤ (kids.length : Int) := by omega
        have hr4 : W3.ownsRow (w.heap.size + 1) 3 1 (.slice (some ⟨g, 0, none⟩) L'.length cap) L'.length (L'.map (fun q : Nat => Value.int .i64 q)) := by
          refine ((HPOP.out.alloc _).alloc _).kept hgrow3 (Or.inr (fun e => ?_))
          exact hne g e.symm rfl
        have hne4 : ∀ g', v3'.ownBlock = some g' → (Value.slice (some ⟨g, 0, none⟩) L'.length cap).ownBlock ≠ some g' := by
          intro g' e
          rcases hat3 with h | h
          · exact hne g' (h.symm.trans e)
          · rw [h] at e
            injection e with e
            subst e
            first | (simp [Value.ownBlock]; done) | (simp [Value.ownBlock]; omega) | (simp [Value.ownBlock]; simp at hgl ⊢; omega)
        have hbr3 : Below (w.heap.size + 1) W1 W3 := ((hbr.alloc (by omega) _).alloc (by simp; omega) _).grown hgrow3 (by simp; omega) (fun k e => (HOR.out.lt k e).1)
        have hs3 : wr.heap.size < W3.heap.size := by have := hgrow3.size; simp at this; omega
        have h3 : W3.ownsRow (w.heap.size + 1) 3 1 v3' (O ++ [q]).length ((O ++ [q]).map (fun q : Nat => Value.int .i64 q)) := by simpa using hown3
        have hO3 : (O ++ [q]).length + (kids.flatMap (fun q => pre nodes q.toNat) ++ L'.reverse.flatMap (pre nodes)).length ≤ nodes.length := by
          rw [List.length_append, List.length_singleton]
          rw [List.cons_append, List.length_cons] at hn
          omega
        generalize O ++ [q] = O3 at *
        generalize v3' = vO at *
        have HH3 := Lib.hid h3
        clear hown3 hat3 h3
        have HNE4 := Lib.hid hne4
        have HR4 := Lib.hid hr4
        have HO3 := Lib.hid hO3
        have HNN := Lib.hid hn
        clear hne4 hr4 hO3 hn hne
        have hb3 : Below B w0 W3 := hb.trans ((hbw.trans (hbr3.mono (by omega))).mono hB)
        obtain ⟨wo, rfl⟩ : ∃ wo : World, wo = wr := ⟨_, rfl⟩
        go_loopg [4, 7] kids.length (fun n2 v4 v7 wr => ∃ m : Nat, m + n2 = kids.length ∧ v7 = .int .i64 ((n2 : Int) - 1) ∧ wr.ownsRow (w.heap.size + 1) 3 1 v4 (L' ++ ks.reverse.take m).length ((L' ++ ks.reverse.take m).map (fun q : Nat => Value.int .i64 q)) ∧
           wr.ownsRow (w.heap.size + 1) 3 1 vO O3.length (O3.map (fun q : Nat => Value.int .i64 q)) ∧ (∀ g', vO.ownBlock = some g' → v4.ownBlock ≠ some g') ∧ Below (w.heap.size + 1) W3 wr ∧ wr.cell? ⟨wo.heap.size, 2, none⟩ = some (.slice Ak kids.length ck) ∧ (∀ g', v4.ownBlock = some g' → g' ≠ wo.heap.size))
        case atStart =>
          refine ⟨0, by omega, rfl, by simpa using HR4.out, HH3.out, HNE4.out, Below.refl _ _, nb2, fun g' e => ?_⟩
          simp [Value.ownBlock] at e
          omega
        case round =>
          obtain ⟨m, hm, rfl, hrw, hro, hnw, hbi, nbi, hnx⟩ := hrel
          have hszi : wo.heap.size < wr.heap.size := by have := hbi.size; omega
          by_cases hlt : 0 < gk
          · have HRW := Lib.hid hrw
            obtain ⟨Aw, cw, rfl⟩ := own_form hrw
            have hjm : gk - 1 < kids.length := by omega
            obtain ⟨A', c', e', _, _, h3'⟩ := HK.out
            obtain ⟨bk, ok, e2, hRk⟩ := h3' (by omega)
            rw [e2] at e'
            injection e' with e3 e4 e5
            subst e3
            clear e4 e5 e2
            have cq := (hRk (gk - 1) hjm).at_ wr (hb3.trans (hbi.mono (by omega)))
            have hks' := hks.out
            have hkl : ks.length = kids.length := by have := hksl.out; omega
            have eqk : kids[gk - 1] = ((ks[gk - 1]'(by omega) : Nat) : Int) := by
              have : kids[gk - 1]? = some (((ks[gk - 1]'(by omega) : Nat) : Int)) := (congrArg (fun l : List Int => l[gk - 1]?) hks').trans (by simp [List.getElem?_map, List.getElem?_eq_getElem (show gk - 1 < ks.length by omega)])
              rw [List.getElem?_eq_getElem hjm] at this
              exact Option.some.inj this
            rw [eqk] at cq
            rw [Nat.mul_one] at cq
            have etk : ks.reverse.take (m + 1) = ks.reverse.take m ++ [ks[gk - 1]'(by omega)] := by
              rw [List.take_succ_eq_append_getElem (by rw [List.length_reverse]; omega), List.getElem_reverse]
              congr 3
              omega
            have HTK := Lib.hid etk
            clear etk eqk hks' hRk h3'
            generalize ks[gk - 1]'(by omega) = kq at *
            have hg1 : ((gk : Int) - 1) = ((gk - 1 : Nat) : Int) := by omega
            have hg2 : 0 ≤ (gk : Int) - 1 := by omega
            have hg3 : (gk : Int) - 1 < (kids.length : Int) := by omega
            have hlw : (L' ++ ks.reverse.take m).length ≤ nodes.length := by rw [List.length_append, List.length_take, List.length_reverse]; omega
            clear hrw
            go_wp2_with (first | (at_builtin; go_must (refine wpList_append_own_at _ rfl _ _ 74 rfl (w.heap.size + 1) 3 i0 (.int .i64 0) 1 8 Tryd.underlying74 hi hz0 hz1 hz2 rfl (by decide) _ (L' ++ ks.reverse.take m).length ((L' ++ ks.reverse.take m).map (fun q : Nat => Value.int .i64 q)) rfl (HRW.out.alloc _) ⟨wr.heap.size, 0, none⟩ 1 1 [.int .i64 (kq : Int)] rfl rfl (cell_one_new _ _ _) (by simp [Value.oneCell']) (by unfold maxLen; omega) (by omega) (by simp; omega) ?_); intro v4' W4 hown4 hgrow4 _ hat4))
            go_roundg (gk - 1)
            case measure => omega
            case rel =>
              have hne5 : ∀ g', vO.ownBlock = some g' → v4'.ownBlock ≠ some g' := by
                intro g' e e'
                rcases hat4 with h | h
                · exact hnw g' e (h.symm.trans e')
                · rw [h] at e'
                  injection e' with e'
                  have := (hro.lt g' e).2
                  try simp at e'
                  omega
              refine ⟨m + 1, by omega, by congr 1 <;> omega, ?_, (hro.alloc _).kept hgrow4 ?_, hne5, (hbi.alloc (by omega) _).grown hgrow4 (by simp; omega) (fun k e => (HRW.out.lt k e).1), ?_, ?_⟩
              · rw [HTK.out, ← List.append_assoc, List.length_append, List.map_append]; exact hown4
              · cases hv : vO.ownBlock with
                | none => exact Or.inl rfl
                | some g' => exact Or.inr (fun e => hnw g' hv e.symm)
              · refine hgrow4.cell ?_ (fun e => ?_)
                · rw [← nbi]
                  exact (Below.cell ((Below.refl wr.heap.size wr).alloc (Nat.le_refl _) _) (p := ⟨wo.heap.size, 2, none⟩) hszi)
                · exact hnx _ e.symm rfl
              · intro g' e e'
                rcases hat4 with h | h
                · exact hnx g' (h.symm.trans e) e'
                · rw [h] at e
                  injection e with e
                  simp at e
                  omega
          · obtain rfl : gk = 0 := by omega
            have hg1 : ((0 : Nat) : Int) - 1 < 0 := by omega
            have HRW := Lib.hid hrw
            have HRO := Lib.hid hro
            have HNW := Lib.hid hnw
            clear hrw hro hnw hnx
            go_wp2
            have hkl : ks.length = kids.length := by have := hksl.out; omega
            have hfm : ks.reverse.take m = ks.reverse := List.take_of_length_le (by rw [List.length_reverse]; omega)
            have ekp : kids.flatMap (fun q => pre nodes q.toNat) = ks.flatMap (pre nodes) := by rw [hks.out, List.flatMap_map]; rfl
            have eki : kids.flatMap (fun q => preI nodes q.toNat) = ks.flatMap (preI nodes) := by rw [hks.out, List.flatMap_map]; rfl
            go_roundg ((L' ++ ks.reverse).reverse.flatMap (pre nodes)).length
            case measure =>
              have := HNN.out
              rw [List.cons_append, List.length_cons, ekp] at this
              rw [List.reverse_append, List.reverse_reverse, List.flatMap_append]
              omega
            case rel =>
              refine ⟨O3, L' ++ ks.reverse, rfl, ?_, ?_, ?_, HRO.out, ?_, HNW.out, hbr3.trans hbi⟩
              · intro q' hq'
                rcases List.mem_append.1 hq' with h | h
                · exact HLQ.out q' (by simp [h])
                · have := hksb.out q' (by simpa using h); omega
              · rw [List.reverse_append, List.reverse_reverse, List.flatMap_append, ← eki]; exact HO.out
              · rw [List.reverse_append, List.reverse_reverse, List.flatMap_append, ← ekp]; exact HO3.out
              · have := HRW.out
                rwa [hfm] at this
      · have o5' : (op == 5) = false := by simpa using o5
        have ho5 : O ++ (kids.flatMap (fun q => preI nodes q.toNat) ++ L'.reverse.flatMap (preI nodes)).filter (isGrp nodes) = grps nodes := by
          rw [← ho, List.cons_append, List.filter_cons_of_neg (by rw [hgq]; simpa using o5)]
        have HO := Lib.hid ho5
        clear ho5 ho
        go_wp2
        have hr4 : (wr.alloc (.cells #[.int .i64 op, .slice As2 set.length cs2, .slice Ak kids.length ck, .int .i64 mn, .int .i64 mx, .bool lz, .int .i64 gr, .int .i64 lk] 80)).ownsRow (w.heap.size + 1) 3 1 (.slice (some ⟨g, 0, none⟩) L'.length cap) L'.length (L'.map (fun q : Nat => Value.int .i64 q)) := HPOP.out.alloc _
        have hne4 : ∀ g', (Value.slice AO O.length cO).ownBlock = some g' → (Value.slice (some ⟨g, 0, none⟩) L'.length cap).ownBlock ≠ some g' := fun g' e => hne g' e
        have hbr3 : Below (w.heap.size + 1) W1 (wr.alloc (.cells #[.int .i64 op, .slice As2 set.length cs2, .slice Ak kids.length ck, .int .i64 mn, .int .i64 mx, .bool lz, .int .i64 gr, .int .i64 lk] 80)) := hbr.alloc (by omega) _
        have nb2 : (wr.alloc (.cells #[.int .i64 op, .slice As2 set.length cs2, .slice Ak kids.length ck, .int .i64 mn, .int .i64 mx, .bool lz, .int .i64 gr, .int .i64 lk] 80)).cell? ⟨wr.heap.size, 2, none⟩ = some (.slice Ak kids.length ck) := by rw [cell_of_row _ _ _ _ _ _ (World.alloc_heap_new wr _)]; rfl
        have hs3 : wr.heap.size < (wr.alloc (.cells #[.int .i64 op, .slice As2 set.length cs2, .slice Ak kids.length ck, .int .i64 mn, .int .i64 mx, .bool lz, .int .i64 gr, .int .i64 lk] 80)).heap.size := by simp
        have h3 : (wr.alloc (.cells #[.int .i64 op, .slice As2 set.length cs2, .slice Ak kids.length ck, .int .i64 mn, .int .i64 mx, .bool lz, .int .i64 gr, .int .i64 lk] 80)).ownsRow (w.heap.size + 1) 3 1 (.slice AO O.length cO) O.length (O.map (fun q : Nat => Value.int .i64 q)) := HOR.out.alloc _
        have hO3 : O.length + (kids.flatMap (fun q => pre nodes q.toNat) ++ L'.reverse.flatMap (pre nodes)).length ≤ nodes.length := by
          rw [List.cons_append, List.length_cons] at hn
          omega
        generalize hW3 : wr.alloc (.cells #[.int .i64 op, .slice As2 set.length cs2, .slice Ak kids.length ck, .int .i64 mn, .int .i64 mx, .bool lz, .int .i64 gr, .int .i64 lk] 80) = W3 at *
        clear hW3
        generalize (Value.slice AO O.length cO) = vO at *
        generalize O = O3 at *
        have HH3 := Lib.hid h3
        clear h3
        have HNE4 := Lib.hid hne4
        have HR4 := Lib.hid hr4
        have HO3 := Lib.hid hO3
        have HNN := Lib.hid hn
        clear hne4 hr4 hO3 hn hne
        have hb3 : Below B w0 W3 := hb.trans ((hbw.trans (hbr3.mono (by omega))).mono hB)
        obtain ⟨wo, rfl⟩ : ∃ wo : World, wo = wr := ⟨_, rfl⟩
        go_loopg [4, 7] kids.length (fun n2 v4 v7 wr => ∃ m : Nat, m + n2 = kids.length ∧ v7 = .int .i64 ((n2 : Int) - 1) ∧ wr.ownsRow (w.heap.size + 1) 3 1 v4 (L' ++ ks.reverse.take m).length ((L' ++ ks.reverse.take m).map (fun q : Nat => Value.int .i64 q)) ∧
           wr.ownsRow (w.heap.size + 1) 3 1 vO O3.length (O3.map (fun q : Nat => Value.int .i64 q)) ∧ (∀ g', vO.ownBlock = some g' → v4.ownBlock ≠ some g') ∧ Below (w.heap.size + 1) W3 wr ∧ wr.cell? ⟨wo.heap.size, 2, none⟩ = some (.slice Ak kids.length ck) ∧ (∀ g', v4.ownBlock = some g' → g' ≠ wo.heap.size))
        case atStart =>
          refine ⟨0, by omega, rfl, by simpa using HR4.out, HH3.out, HNE4.out, Below.refl _ _, nb2, fun g' e => ?_⟩
          simp [Value.ownBlock] at e
          omega
        case round =>
          obtain ⟨m, hm, rfl, hrw, hro, hnw, hbi, nbi, hnx⟩ := hrel
          have hszi : wo.heap.size < wr.heap.size := by have := hbi.size; omega
          by_cases hlt : 0 < gk
          · have HRW := Lib.hid hrw
            obtain ⟨Aw, cw, rfl⟩ := own_form hrw
            have hjm : gk - 1 < kids.length := by omega
            obtain ⟨A', c', e', _, _, h3'⟩ := HK.out
            obtain ⟨bk, ok, e2, hRk⟩ := h3' (by omega)
            rw [e2] at e'
            injection e' with e3 e4 e5
            subst e3
            clear e4 e5 e2
            have cq := (hRk (gk - 1) hjm).at_ wr (hb3.trans (hbi.mono (by omega)))
            have hks' := hks.out
            have hkl : ks.length = kids.length := by have := hksl.out; omega
            have eqk : kids[gk - 1] = ((ks[gk - 1]'(by omega) : Nat) : Int) := by
              have : kids[gk - 1]? = some (((ks[gk - 1]'(by omega) : Nat) : Int)) := (congrArg (fun l : List Int => l[gk - 1]?) hks').trans (by simp [List.getElem?_map, List.getElem?_eq_getElem (show gk - 1 < ks.length by omega)])
              rw [List.getElem?_eq_getElem hjm] at this
              exact Option.some.inj this
            rw [eqk] at cq
            rw [Nat.mul_one] at cq
            have etk : ks.reverse.take (m + 1) = ks.reverse.take m ++ [ks[gk - 1]'(by omega)] := by
              rw [List.take_succ_eq_append_getElem (by rw [List.length_reverse]; omega), List.getElem_reverse]
              congr 3
              omega
            have HTK := Lib.hid etk
            clear etk eqk hks' hRk h3'
            generalize ks[gk - 1]'(by omega) = kq at *
            have hg1 : ((gk : Int) - 1) = ((gk - 1 : Nat) : Int) := by omega
            have hg2 : 0 ≤ (gk : Int) - 1 := by omega
            have hg3 : (gk : Int) - 1 < (kids.length : Int) := by omega
            have hlw : (L' ++ ks.reverse.take m).length ≤ nodes.length := by rw [List.length_append, List.length_take, List.length_reverse]; omega
            clear hrw
            go_wp2_with (first | (at_builtin; go_must (refine wpList_append_own_at _ rfl _ _ 74 rfl (w.heap.size + 1) 3 i0 (.int .i64 0) 1 8 Tryd.underlying74 hi hz0 hz1 hz2 rfl (by decide) _ (L' ++ ks.reverse.take m).length ((L' ++ ks.reverse.take m).map (fun q : Nat => Value.int .i64 q)) rfl (HRW.out.alloc _) ⟨wr.heap.size, 0, none⟩ 1 1 [.int .i64 (kq : Int)] rfl rfl (cell_one_new _ _ _) (by simp [Value.oneCell']) (by unfold maxLen; omega) (by omega) (by simp; omega) ?_); intro v4' W4 hown4 hgrow4 _ hat4))
            go_roundg (gk - 1)
            case measure => omega
            case rel =>
              have hne5 : ∀ g', vO.ownBlock = some g' → v4'.ownBlock ≠ some g' := by
                intro g' e e'
                rcases hat4 with h | h
                · exact hnw g' e (h.symm.trans e')
                · rw [h] at e'
                  injection e' with e'
                  have := (hro.lt g' e).2
                  try simp at e'
                  omega
              refine ⟨m + 1, by omega, by congr 1 <;> omega, ?_, (hro.alloc _).kept hgrow4 ?_, hne5, (hbi.alloc (by omega) _).grown hgrow4 (by simp; omega) (fun k e => (HRW.out.lt k e).1), ?_, ?_⟩
              · rw [HTK.out, ← List.append_assoc, List.length_append, List.map_append]; exact hown4
              · cases hv : vO.ownBlock with
                | none => exact Or.inl rfl
                | some g' => exact Or.inr (fun e => hnw g' hv e.symm)
              · refine hgrow4.cell ?_ (fun e => ?_)
                · rw [← nbi]
                  exact (Below.cell ((Below.refl wr.heap.size wr).alloc (Nat.le_refl _) _) (p := ⟨wo.heap.size, 2, none⟩) hszi)
                · exact hnx _ e.symm rfl
              · intro g' e e'
                rcases hat4 with h | h
                · exact hnx g' (h.symm.trans e) e'
                · rw [h] at e
                  injection e with e
                  simp at e
                  omega
          · obtain rfl : gk = 0 := by omega
            have hg1 : ((0 : Nat) : Int) - 1 < 0 := by omega
            have HRW := Lib.hid hrw
            have HRO := Lib.hid hro
            have HNW := Lib.hid hnw
            clear hrw hro hnw hnx
            go_wp2
            have hkl : ks.length = kids.length := by have := hksl.out; omega
            have hfm : ks.reverse.take m = ks.reverse := List.take_of_length_le (by rw [List.length_reverse]; omega)
            have ekp : kids.flatMap (fun q => pre nodes q.toNat) = ks.flatMap (pre nodes) := by rw [hks.out, List.flatMap_map]; rfl
            have eki : kids.flatMap (fun q => preI nodes q.toNat) = ks.flatMap (preI nodes) := by rw [hks.out, List.flatMap_map]; rfl
            go_roundg ((L' ++ ks.reverse).reverse.flatMap (pre nodes)).length
            case measure =>
              have := HNN.out
              rw [List.cons_append, List.length_cons, ekp] at this
              rw [List.reverse_append, List.reverse_reverse, List.flatMap_append]
              omega
            case rel =>
              refine ⟨O3, L' ++ ks.reverse, rfl, ?_, ?_, ?_, HRO.out, ?_, HNW.out, hbr3.trans hbi⟩
              · intro q' hq'
                rcases List.mem_append.1 hq' with h | h
                · exact HLQ.out q' (by simp [h])
                · have := hksb.out q' (by simpa using h); omega
              · rw [List.reverse_append, List.reverse_reverse, List.flatMap_append, ← eki]; exact HO.out
              · rw [List.reverse_append, List.reverse_reverse, List.flatMap_append, ← ekp]; exact HO3.out
              · have := HRW.out
                rwa [hfm] at this
end Go.Proofs.YtmbboianghbjkaaDoor

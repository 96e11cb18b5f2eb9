import Derived.Test.YtmbboianghbjkaaDoorTCheck
namespace Go.Proofs.YtmbboianghbjkaaDoor
open Go.RowKit
set_option linter.unusedVariables false
set_option linter.unusedSimpArgs false
attribute [local go_sem] bl_refl bl_alloc bl_a2 bl_a3 bl_a4 bl_a5 bl_set bl_drew bl_drewN le_add_r lt_add_r addr_add max2_i min2_i max_2 min_2

def copies (n : Node) : Int := if n.max = -1 then n.min + 1 else n.max
def wRaw (n : Node) (s : Int) : Int :=
  if n.op = 1 ∨ n.op = 6 ∨ n.op = 2 then s + 1
  else if n.op = 3 then s + n.kids.length
  else if n.op = 5 then s + 2
  else if n.op = 4 then copies n * (s + 3) + 1
  else s
def wSum (ws kids : List Int) (j : Nat) : Int := (kids.take j).foldl (fun (m q : Int) => m + ws.getD q.toNat 0) 0
def wTo (nodes : List Node) : Nat → List Int
  | 0 => []
  | k + 1 => wTo nodes k ++ [mnI (wRaw (nodes.getD k default) (wSum (wTo nodes k) (nodes.getD k default).kids (nodes.getD k default).kids.length)) 1000000]
def weightOf (t : Tree) : Int := (wTo t.nodes t.nodes.length).getD (t.nodes.length - 1) 0
def wAns (t : Tree) : Int := if treeOk t then weightOf t else 0
theorem wSum_succ {dp kids : List Int} {j : Nat} (h : j < kids.length) : wSum dp kids (j + 1) = wSum dp kids j + dp.getD (kids[j]).toNat 0 := by
  unfold wSum
  rw [List.take_succ_eq_append_getElem h, List.foldl_append]
  rfl
theorem wSum_inv {dp : List Int} (h : ∀ d ∈ dp, 0 ≤ d ∧ d ≤ 1000000) (kids : List Int) : ∀ j, j ≤ kids.length → 0 ≤ wSum dp kids j ∧ wSum dp kids j ≤ j * 1000000
  | 0, _ => by simp [wSum]
  | j + 1, hj => by
    have ih := wSum_inv h kids j (by omega)
    rw [wSum_succ (by omega)]
    have : 0 ≤ dp.getD (kids[j]).toNat 0 ∧ dp.getD (kids[j]).toNat 0 ≤ 1000000 := by
      rw [List.getD_eq_getElem?_getD]
      cases hh : dp[(kids[j]).toNat]? with
      | none => simp
      | some v => simpa using h v (List.mem_of_getElem? hh)
    push_cast
    omega
theorem grown_num {raw : Bool} {nodes : List Node} {st : List Int × List Int} (h : growTo raw nodes nodes.length = some st) (i : Nat) (hi : i < nodes.length) : numOk (nodes.getD i default) = true := by
  obtain ⟨⟨fr', dp'⟩, h1⟩ := growTo_pre _ _ h (i + 1) (by omega)
  rw [growTo, Option.bind_eq_some_iff] at h1
  obtain ⟨⟨fr, dp⟩, h0, h1⟩ := h1
  exact (growStep_some h1).1
theorem num_copies {n : Node} (h : numOk n = true) (o : n.op = 4) : 0 ≤ copies n ∧ copies n ≤ 201 ∧ 0 ≤ n.min ∧ n.min ≤ 200 ∧ n.max ≤ 200 := by
  unfold numOk at h
  simp [o] at h
  unfold copies
  split <;> omega
theorem wRaw_inv {n : Node} {s : Int} (h : numOk n = true) (h0 : 0 ≤ s) (h1 : s ≤ 2000000000) (hk : n.kids.length ≤ 2000) : 0 ≤ wRaw n s ∧ wRaw n s ≤ 500000000000 := by
  unfold wRaw
  split
  · omega
  split
  · omega
  split
  · omega
  split
  · rename_i o
    obtain ⟨a, b, _⟩ := num_copies h o
    have e1 : 0 ≤ copies n * (s + 3) := Int.mul_nonneg a (by omega)
    have e2 : copies n * (s + 3) ≤ 201 * (s + 3) := Int.mul_le_mul_of_nonneg_right b (by omega)
    omega
  · omega
theorem wTo_len (nodes : List Node) : ∀ k, (wTo nodes k).length = k
  | 0 => rfl
  | k + 1 => by rw [wTo, List.length_append, wTo_len nodes k]; rfl
theorem wTo_inv {raw : Bool} {nodes : List Node} {st : List Int × List Int} (h : growTo raw nodes nodes.length = some st) (hk : ∀ i, i < nodes.length → (nodes.getD i default).kids.length ≤ 2000) : ∀ k, k ≤ nodes.length → ∀ d ∈ wTo nodes k, 0 ≤ d ∧ d ≤ 1000000
  | 0, _, d, hd => by simp [wTo] at hd
  | k + 1, hkk, d, hd => by
    have ih := wTo_inv h hk k (by omega)
    rw [wTo, List.mem_append] at hd
    rcases hd with hd | hd
    · exact ih d hd
    · rw [List.mem_singleton] at hd
      subst hd
      have hs := wSum_inv ih (nodes.getD k default).kids _ (Nat.le_refl _)
      have hl := hk k (by omega)
      have hr := wRaw_inv (grown_num h k (by omega)) hs.1 (by omega) hl
      unfold mnI
      split <;> omega
theorem grown_klen {raw : Bool} {nodes : List Node} {st : List Int × List Int} (h : growTo raw nodes nodes.length = some st) (hN : nodes.length ≤ 2000) (i : Nat) (hi : i < nodes.length) : (nodes.getD i default).kids.length ≤ 2000 := by
  obtain ⟨⟨fr', dp'⟩, h1⟩ := growTo_pre _ _ h (i + 1) (by omega)
  rw [growTo, Option.bind_eq_some_iff] at h1
  obtain ⟨⟨fr, dp⟩, h0, h1⟩ := h1
  have := (growStep_some h1).2.2.1
  have h2 := (growTo_inv raw nodes i fr dp h0).2.1
  omega
theorem treeOk_grown {t : Tree} (h : treeOk t = true) : 0 < t.nodes.length ∧ t.nodes.length ≤ 2000 ∧ ∃ fr dp, growTo t.raw t.nodes t.nodes.length = some (fr, dp) ∧ fr.length = 1 := by
  unfold treeOk at h
  simp only [Bool.and_eq_true, decide_eq_true_eq] at h
  obtain ⟨⟨⟨⟨h1, h2⟩, _⟩, h4⟩, _⟩ := h
  refine ⟨h1, h2, ?_⟩
  unfold grownOk at h4
  split at h4
  · rename_i st hst
    exact ⟨st.1, st.2, hst, by simpa using h4⟩
  · cases h4

set_option maxRecDepth 100000 in
set_option maxHeartbeats 2000000 in
theorem weight_any (B : Nat) (w0 w : World) (nv sv : Value) (t : Tree) (hb : Below B w0 w) (hB : B ≤ w.heap.size) (ht : TreeV B w0 nv sv t) (hg : BandsAt B w0) :
    Calls Tryd.prog 32 #[.agg #[nv, sv, .bool t.raw]] w fun e w' => e = .returned (.tuple #[.int .i64 (wAns t), .int .i64 (errNo (treeOk t))]) ∧ Below w.heap.size w w' := by
  obtain ⟨i0, hi, hz0, hz1, hz2⟩ := info_parts info_tInt
  obtain ⟨A, c, rfl, h1, h2, h3⟩ := ht.nodes
  obtain ⟨nodes, names, raw⟩ := t
  dsimp only at *
  have HN := Lib.hid h3
  have HT := Lib.hid ht
  have HG := Lib.hid hg
  clear h3 ht hg h1
  go_enter Tryd.func32, Tryd.ntmps32
  go_wp2_with fail
  have d0 := box_cell w #[.slice A nodes.length c, sv, .bool raw] 35 0 _ rfl
  have d1 := box_cell w #[.slice A nodes.length c, sv, .bool raw] 35 1 _ rfl
  have d2 := box_cell w #[.slice A nodes.length c, sv, .bool raw] 35 2 _ rfl
  obtain ⟨W0, hW0⟩ : ∃ W0, W0 = w.alloc (.cells #[.slice A nodes.length c, sv, .bool raw] 35) := ⟨_, rfl⟩
  have hs0 : W0.heap.size = w.heap.size + 1 := by rw [hW0]; simp
  have hb0 : Below w.heap.size w W0 := by rw [hW0]; exact (Below.refl _ _).alloc (Nat.le_refl _) _
  have hbB : Below B w0 W0 := by rw [hW0]; exact hb.alloc hB _
  rw [← hW0] at d0 d1 d2 ⊢
  clear hW0
  refine (treeCheck_any B w0 W0 _ _ ⟨nodes, names, raw⟩ hbB (by omega) HT.out HG.out).mono ?_
  rintro e w1 ⟨rfl, hb1⟩
  have hs1 := hb1.size
  by_cases q : treeOk ⟨nodes, names, raw⟩ = true
  · have HQ := Lib.hid q
    rw [q]
    obtain ⟨q1, q2, fr, dp, q3, q4⟩ := treeOk_grown q
    have HGR := Lib.hid q3
    have e1 := d0 w1 (hb1.mono (by omega))
    dsimp only at q1 q2
    clear q q3 q4
    have hbw1 : Below (w.heap.size + 1) W0 w1 := hb1.mono (by omega)
    have hs0' : w.heap.size + 1 ≤ w1.heap.size := by omega
    go_wp2_with (first | (at_make; refine wpList_make_full _ rfl _ _ 74 rfl (w.heap.size + 1) 3 i0 (.int .i64 0) 1 Tryd.underlying74 hi hz0 hz1 _ _ _ _ nodes.length rfl rfl rfl rfl (by rw [hz2]; omega) (by unfold maxLen; omega) (by omega) ?_; intro w2 hd hg1; have hb2 := grown_none hg1; have hbw2 := hbw1.trans (hb2.mono hs0'); have e2 := d0 w2 hbw2))
    clear hg1 e1 e2
    go_loopw [24] (fun v24 wr => ∃ (k : Nat), k ≤ nodes.length ∧ v24 = .int .i64 k ∧
       wr.ownsRow (w.heap.size + 1) 3 1 (.slice (some ⟨w1.heap.size, 0, none⟩) nodes.length nodes.length) nodes.length ((wTo nodes k ++ List.replicate (nodes.length - k) 0).map (Value.int .i64)) ∧
       Below (w.heap.size + 1) W0 wr) (fun v24 _ => nodes.length - (intOf v24).toNat)
    case atStart =>
      refine ⟨0, by omega, rfl, ?_, hbw2⟩
      have e1 : (madeCells (Value.int .i64 0).cells (nodes.length * 1)).toList = (([] : List Int) ++ List.replicate (nodes.length - 0) 0).map (Value.int .i64) := by
        rw [show (Value.int .i64 0).cells = #[Value.int .i64 0] from rfl, toList_madeCells_one]; simp
      rw [e1] at hd
      exact hd
    case round =>
      obtain ⟨k, hk, rfl, hdp, hbr⟩ := hrel
      have hgs : w1.heap.size < wr.heap.size := (hdp.lt _ rfl).2
      by_cases hlt : k < nodes.length
      · obtain ⟨b, o, rfl, hNd⟩ := HN.out (by omega)
        have hnk := hNd k hlt
        rw [getD_at nodes k default hlt] at hnk
        have hb2 : Below B w0 wr := hb.trans ((hb0.trans (hbr.mono (by omega))).mono hB)
        have NUM := Lib.hid (grown_num HGR.out k hlt)
        have KL := grown_klen HGR.out q2 k hlt
        have KLT := Lib.hid (grown_kids HGR.out k hlt)
        have WI := Lib.hid (wTo_inv HGR.out (fun i hi => grown_klen HGR.out q2 i hi) k hk)
        have WS : Hid (wTo nodes (k + 1) = wTo nodes k ++ [mnI (wRaw (nodes.getD k default) (wSum (wTo nodes k) (nodes.getD k default).kids (nodes.getD k default).kids.length)) 1000000]) := rfl
        have WL := wTo_len nodes k
        clear hNd
        generalize wTo nodes k = ws at *
        generalize nodes.getD k default = n at *
        obtain ⟨op, set, kids, mn, mx, lz, gr, lk⟩ := n
        obtain ⟨g0, ⟨kv, g1, hset⟩, ⟨vk, g2, hkids⟩, g3, g4, g5, g6, g7⟩ := hnk
        dsimp only at *
        have HK := Lib.hid hkids
        obtain ⟨Ak, ck, rfl, hk1, hk2, hk3⟩ := hkids
        have HSET := Lib.hid hset
        obtain ⟨As, cs, rfl, _, _, hs3⟩ := hset
        have HDP := Lib.hid hdp
        clear hs3 hk3 hdp
        go_wp2_with fail
        have hnb := World.alloc_heap_new wr (.cells #[.int .i64 op, .slice As set.length cs, .slice Ak kids.length ck, .int .i64 mn, .int .i64 mx, .bool lz, .int .i64 gr, .int .i64 lk] 80)
        have hbW : Below wr.heap.size wr (wr.alloc (.cells #[.int .i64 op, .slice As set.length cs, .slice Ak kids.length ck, .int .i64 mn, .int .i64 mx, .bool lz, .int .i64 gr, .int .i64 lk] 80)) := (Below.refl _ _).alloc (Nat.le_refl _) _
        have hsw : wr.heap.size < (wr.alloc (.cells #[.int .i64 op, .slice As set.length cs, .slice Ak kids.length ck, .int .i64 mn, .int .i64 mx, .bool lz, .int .i64 gr, .int .i64 lk] 80)).heap.size := by simp
        obtain ⟨Wn, hWn⟩ : ∃ Wn, Wn = wr.alloc (.cells #[.int .i64 op, .slice As set.length cs, .slice Ak kids.length ck, .int .i64 mn, .int .i64 mx, .bool lz, .int .i64 gr, .int .i64 lk] 80) := ⟨_, rfl⟩
        rw [← hWn] at hnb hbW hsw ⊢
        clear hWn
        have hwN := own_below HDP.out hbW
        have HWN := Lib.hid hwN
        clear hwN
        obtain ⟨wo, rfl⟩ : ∃ wo : World, wo = wr := ⟨_, rfl⟩
        go_loopw [8, 32] (fun v8 v32 wi => ∃ j : Nat, j ≤ kids.length ∧ v32 = .int .i64 j ∧ v8 = .int .i64 (wSum ws kids j) ∧ ∃ nn, wi = Wn.drewN nn) (fun _ v32 _ => kids.length - (intOf v32).toNat)
        case atStart => exact ⟨0, by omega, rfl, rfl, 0, rfl⟩
        case round =>
          obtain ⟨j, hj, rfl, rfl, nn, rfl⟩ := hrel
          have hsi := wSum_inv WI.out kids j hj
          by_cases hjl : j < kids.length
          · obtain ⟨A', c', e', _, _, h3'⟩ := HK.out
            obtain ⟨bk, ok, e2, hRk⟩ := h3' (by omega)
            rw [e2] at e'
            injection e' with e3 e4 e5
            subst e3
            clear e4 e5
            have cq := (hRk j hjl).at_ Wn (hb2.trans (hbW.mono (by omega)))
            obtain ⟨p1, p2⟩ := KLT.out _ (List.getElem_mem hjl)
            obtain ⟨qn, hqn⟩ := Int.eq_ofNat_of_zero_le p1
            have KS := Lib.hid (wSum_succ (dp := ws) hjl)
            rw [hqn] at cq KS p2
            have hqk : qn < k := by omega
            have cd := own_int_cell HWN.out qn (by omega)
            have egd : (ws ++ List.replicate (nodes.length - k) 0).getD qn 0 = ws.getD qn 0 := by simp [List.getD_eq_getElem?_getD, List.getElem?_append, show qn < ws.length by omega]
            rw [egd] at cd
            rw [Int.toNat_natCast] at KS
            rw [Nat.mul_one] at cq
            have hsq := wSum_inv WI.out kids (j + 1) (by omega)
            rw [KS.out] at hsq
            generalize ws.getD qn 0 = dq at *
            generalize wSum ws kids j = m at *
            have p3 : qn < nodes.length := by omega
            clear hRk h3' hqn e2 egd p1
            go_wp2
            go_roundw
            case rel => exact ⟨j + 1, by omega, by go_num, by rw [KS.out], _, rfl⟩
            case measure => simp [intOf]; omega
          · obtain rfl : j = kids.length := by omega
            have hkl2 := KL
            have hri := wRaw_inv NUM.out hsi.1 (by omega) KL
            have n0 : Wn.cell? ⟨wo.heap.size, 0, none⟩ = some (.int .i64 op) := by simp [World.cell?, hnb]
            have n2 : Wn.cell? ⟨wo.heap.size, 2, none⟩ = some (.slice Ak kids.length ck) := by simp [World.cell?, hnb]
            have n3 : Wn.cell? ⟨wo.heap.size, 3, none⟩ = some (.int .i64 mn) := by simp [World.cell?, hnb]
            have n4 : Wn.cell? ⟨wo.heap.size, 4, none⟩ = some (.int .i64 mx) := by simp [World.cell?, hnb]
            have RI := Lib.hid hri
            have fz := HWN.out.frozenAt k
            have ci := own_int_cell HWN.out k hlt
            have FIN : Hid (∀ (x : Int) (m : Nat), x = mnI (wRaw ⟨op, set, kids, mn, mx, lz, gr, lk⟩ (wSum ws kids kids.length)) 1000000 → ∃ k_1, k_1 ≤ nodes.length ∧ Value.int .i64 ((k : Int) + 1) = Value.int .i64 k_1 ∧
               ((Wn.drewN m).setCell ⟨w1.heap.size, k, none⟩ (.int .i64 x)).ownsRow (w.heap.size + 1) 3 1 (.slice (some ⟨w1.heap.size, 0, none⟩) nodes.length nodes.length) nodes.length ((wTo nodes k_1 ++ List.replicate (nodes.length - k_1) 0).map (Value.int .i64)) ∧
               Below (w.heap.size + 1) W0 ((Wn.drewN m).setCell ⟨w1.heap.size, k, none⟩ (.int .i64 x))) := by
              refine Lib.hid fun x m hx => ⟨k + 1, by omega, by go_num, ?_, ?_⟩
              · have h := (own_int_set (own_drewN HWN.out m) k x).1
                have e1 : (ws ++ List.replicate (nodes.length - k) 0).set k x = wTo nodes (k + 1) ++ List.replicate (nodes.length - (k + 1)) 0 := by
                  rw [WS.out, ← hx, show nodes.length - k = (nodes.length - (k + 1)) + 1 by omega, List.replicate_succ]
                  simp [WL]
                rw [e1] at h
                exact h
              · exact ((hbr.trans (hbW.mono (by omega))).trans (below_drewN (Below.refl _ _) m)).setCell (by simp; omega) _
            clear hnb hri
            generalize wSum ws kids kids.length = sm at *
            by_cases o1 : op = 1
            · subst o1
              go_wp2
              go_roundw
              case rel => exact FIN.out _ _ (by simp [wRaw])
              case measure => simp [intOf]; omega
            have o1' : (op == 1) = false := by simpa using o1
            by_cases o6 : op = 6
            · subst o6
              go_wp2
              go_roundw
              case rel => exact FIN.out _ _ (by simp [wRaw])
              case measure => simp [intOf]; omega
            have o6' : (op == 6) = false := by simpa using o6
            by_cases o2 : op = 2
            · subst o2
              go_wp2
              go_roundw
              case rel => exact FIN.out _ _ (by simp [wRaw])
              case measure => simp [intOf]; omega
            have o2' : (op == 2) = false := by simpa using o2
            by_cases o3 : op = 3
            · subst o3
              go_wp2
              go_roundw
              case rel => exact FIN.out _ _ (by simp [wRaw])
              case measure => simp [intOf]; omega
            have o3' : (op == 3) = false := by simpa using o3
            by_cases o5 : op = 5
            · subst o5
              go_wp2
              go_roundw
              case rel => exact FIN.out _ _ (by simp [wRaw])
              case measure => simp [intOf]; omega
            have o5' : (op == 5) = false := by simpa using o5
            obtain rfl : op = 4 := by
              have := NUM.out
              unfold numOk at this
              simp [o1, o6, o2, o3, o5] at this
              exact this.1
            obtain ⟨c1, c2, c3, c4, c5⟩ := num_copies NUM.out rfl
            dsimp only at c3 c4 c5
            by_cases om : mx = -1
            · subst om
              have hmul : wrap64 ((mn + 1) * (sm + 3)) = (mn + 1) * (sm + 3) := by
                have e1 : 0 ≤ (mn + 1) * (sm + 3) := Int.mul_nonneg (by omega) (by omega)
                have e2 : (mn + 1) * (sm + 3) ≤ 201 * (sm + 3) := Int.mul_le_mul_of_nonneg_right (by omega) (by omega)
                unfold wrap64; omega
              have hm1 : wrap64 (mn + 1) = mn + 1 := by unfold wrap64; omega
              have hwr := RI.out
              simp only [wRaw, copies] at hwr
              simp at hwr
              go_wp2
              go_roundw
              case rel => exact FIN.out _ _ (by
                try simp only [hm1, hmul]
                try rw [show wrap64 ((mn + 1) * (sm + 3) + 1) = (mn + 1) * (sm + 3) + 1 by unfold wrap64; omega]
                simp [wRaw, copies])
              case measure => simp [intOf]; omega
            · have om' : (mx == -1) = false := by simpa using om
              have hwr := RI.out
              simp only [wRaw, copies] at hwr
              simp [om] at hwr
              have hmul : wrap64 (mx * (sm + 3)) = mx * (sm + 3) := by
                unfold wrap64; omega
              go_wp2
              go_roundw
              case rel => exact FIN.out _ _ (by simp [wRaw, copies, om])
              case measure => simp [intOf]; omega
      · obtain rfl : k = nodes.length := by omega
        have hlast := own_int_cell hdp (nodes.length - 1) (by omega)
        have eN : ((nodes.length : Int) - 1).toNat = nodes.length - 1 := by omega
        have HL := Lib.hid hlast
        go_wp2
        go_ret2
        refine ⟨?_, hb0.trans (hbr.mono (by omega))⟩
        unfold wAns
        rw [if_pos HQ.out]
        unfold weightOf
        have e1 : errNo true = 0 := rfl
        simp [HQ.out, e1]
  · rw [show treeOk ⟨nodes, names, raw⟩ = false by simpa using q]
    go_wp2
    go_ret2
    refine ⟨?_, hb0.trans (hb1.mono (by omega))⟩
    unfold wAns
    rw [if_neg q]
    simp [q]
end Go.Proofs.YtmbboianghbjkaaDoor

import Derived.Test.YtmbboianghbjkaaDoorRefH
namespace Go.Proofs.YtmbboianghbjkaaDoor
open Go.RowKit Go.Shelf
set_option linter.unusedVariables false
set_option linter.unusedSimpArgs false
attribute [local go_sem] bl_refl bl_alloc bl_a2 bl_a3 bl_a4 bl_a5 bl_set bl_drew bl_drewN le_add_r lt_add_r Go.Proofs.YtmbboianghbjkaaDoor.addr_add

set_option maxRecDepth 100000 in
set_option maxHeartbeats 4000000 in
theorem rweight_any (B : Nat) (w0 w : World) (nv sv : Value) (t : Tree) (hb : Below B w0 w) (hB : B ≤ w.heap.size) (ht : TreeV B w0 nv sv t) (hz : ∀ x ∈ t.names, x.size ≤ 140737488351232) (hr : ∀ n ∈ t.nodes, rngsOk' n.set) :
    Calls Tryd.prog 23 #[.agg #[nv, sv, .bool t.raw]] w fun e w' => e = .returned (.tuple #[.int .i64 (wAns t), .int .i64 (errNo (treeOk t))]) ∧ Below w.heap.size w w' := by
  obtain ⟨i0, hi, hz0, hz1, hz2⟩ := info_parts info_tInt
  have HT := Lib.hid ht
  have HZ := Lib.hid hz
  have HR := Lib.hid hr
  obtain ⟨A, c, rfl, h1, h2, h3⟩ := ht.nodes
  obtain ⟨As, cs, rfl, hs1, hs2, hs3⟩ := ht.names
  obtain ⟨nodes, names, raw⟩ := t
  dsimp only at *
  have HN := Lib.hid h3
  clear h3 ht h1 hz hr hs1 hs2 hs3
  go_enter Tryd.func23, Tryd.ntmps23
  go_wp2_with fail
  have d0 := box_cell w #[.slice A nodes.length c, .slice As names.length cs, .bool raw] 35 0 _ rfl
  have d1 := box_cell w #[.slice A nodes.length c, .slice As names.length cs, .bool raw] 35 1 _ rfl
  have d2 := box_cell w #[.slice A nodes.length c, .slice As names.length cs, .bool raw] 35 2 _ rfl
  obtain ⟨W0, hW0⟩ : ∃ W0, W0 = w.alloc (.cells #[.slice A nodes.length c, .slice As names.length cs, .bool raw] 35) := ⟨_, rfl⟩
  have hs0 : W0.heap.size = w.heap.size + 1 := by rw [hW0]; simp
  have hb0 : Below w.heap.size w W0 := by rw [hW0]; exact (Below.refl _ _).alloc (Nat.le_refl _) _
  have hbB : Below B w0 W0 := by rw [hW0]; exact hb.alloc hB _
  rw [← hW0] at d0 d1 d2 ⊢
  clear hW0
  refine (rtcheck_any B w0 W0 _ _ ⟨nodes, names, raw⟩ hbB (by omega) HT.out HZ.out HR.out).mono ?_
  rintro e w1 ⟨rfl, hb1⟩
  have hs1 := hb1.size
  by_cases q : treeOk ⟨nodes, names, raw⟩ = true
  · have HQ := Lib.hid q
    rw [q]
    obtain ⟨q1, q2, fr, dp, q3, q4⟩ := treeOk_grown q
    have HGR := Lib.hid q3
    have e1 := d0 w1 (hb1.mono (by omega))
    dsimp only at q1 q2
    clear q q3 q4
    have hbw1 : Below (w.heap.size + 1) W0 w1 := hb1.mono (by omega)
    have hs0' : w.heap.size + 1 ≤ w1.heap.size := by omega
    go_wp2_with (first | (at_make; refine wpList_make_full _ rfl _ _ 74 rfl (w.heap.size + 1) 3 i0 (.int .i64 0) 1 Tryd.underlying74 hi hz0 hz1 _ _ _ _ nodes.length rfl rfl rfl rfl (by rw [hz2]; omega) (by unfold maxLen; omega) (by omega) ?_; intro w2 hd hg1; have hb2 := grown_none hg1; have hbw2 := hbw1.trans (hb2.mono hs0'); have e2 := d0 w2 hbw2))
    clear hg1 e1 e2
    go_loopw [5, 6, 7, 8, 9] (fun v5 _ _ _ _ wr => ∃ (k : Nat), k ≤ nodes.length ∧ v5 = .int .i64 k ∧
       wr.ownsRow (w.heap.size + 1) 3 1 (.slice (some ⟨w1.heap.size, 0, none⟩) nodes.length nodes.length) nodes.length ((wTo nodes k ++ List.replicate (nodes.length - k) 0).map (Value.int .i64)) ∧
       Below (w.heap.size + 1) W0 wr) (fun v5 _ _ _ _ _ => nodes.length - (intOf v5).toNat)
    case atStart =>
      refine ⟨0, by omega, rfl, ?_, hbw2⟩
      have e1 : (madeCells (Value.int .i64 0).cells (nodes.length * 1)).toList = (([] : List Int) ++ List.replicate (nodes.length - 0) 0).map (Value.int .i64) := by
        rw [show (Value.int .i64 0).cells = #[Value.int .i64 0] from rfl, toList_madeCells_one]; simp
      rw [e1] at hd
      exact hd
    case round =>
      obtain ⟨k, hk, rfl, hdp, hbr⟩ := hrel
      have hgs : w1.heap.size < wr.heap.size := (hdp.lt _ rfl).2
      have q0 : wr.cell? ⟨w.heap.size, 0, none⟩ = some (.slice A nodes.length c) := d0 wr hbr
      by_cases hlt : k < nodes.length
      · obtain ⟨b, o, rfl, hNd⟩ := HN.out (by omega)
        have hnk := hNd k hlt
        rw [getD_at nodes k default hlt] at hnk
        have hb2 : Below B w0 wr := hb.trans ((hb0.trans (hbr.mono (by omega))).mono hB)
        have NUM := Lib.hid (grown_num HGR.out k hlt)
        have KL := grown_klen HGR.out q2 k hlt
        have KLT := Lib.hid (grown_kids HGR.out k hlt)
        have WI := Lib.hid (wTo_inv HGR.out (fun i hi => grown_klen HGR.out q2 i hi) k hk)
        have WS : Hid (wTo nodes (k + 1) = wTo nodes k ++ [mnI (wRaw (nodes.getD k default) (wSum (wTo nodes k) (nodes.getD k default).kids (nodes.getD k default).kids.length)) 1000000]) := rfl
        have WL := wTo_len nodes k
        clear hNd
        generalize wTo nodes k = ws at *
        generalize nodes.getD k default = n at *
        obtain ⟨op, set, kids, mn, mx, lz, gr, lk⟩ := n
        obtain ⟨g0, ⟨kv, g1, hset⟩, ⟨vk, g2, hkids⟩, g3, g4, g5, g6, g7⟩ := hnk
        dsimp only at *
        have HK := Lib.hid hkids
        obtain ⟨Ak, ck, rfl, hk1, hk2, hk3⟩ := hkids
        have HSET := Lib.hid hset
        obtain ⟨As2, cs2, rfl, _, _, hs3⟩ := hset
        have HDP := Lib.hid hdp
        clear hs3 hk3 hdp
        go_wp2_with fail
        have hnb := World.alloc_heap_new wr (.cells #[.int .i64 op, .slice As2 set.length cs2, .slice Ak kids.length ck, .int .i64 mn, .int .i64 mx, .bool lz, .int .i64 gr, .int .i64 lk] 80)
        have hbW : Below wr.heap.size wr (wr.alloc (.cells #[.int .i64 op, .slice As2 set.length cs2, .slice Ak kids.length ck, .int .i64 mn, .int .i64 mx, .bool lz, .int .i64 gr, .int .i64 lk] 80)) := (Below.refl _ _).alloc (Nat.le_refl _) _
        have hsw : wr.heap.size < (wr.alloc (.cells #[.int .i64 op, .slice As2 set.length cs2, .slice Ak kids.length ck, .int .i64 mn, .int .i64 mx, .bool lz, .int .i64 gr, .int .i64 lk] 80)).heap.size := by simp
        obtain ⟨Wn, hWn⟩ : ∃ Wn, Wn = wr.alloc (.cells #[.int .i64 op, .slice As2 set.length cs2, .slice Ak kids.length ck, .int .i64 mn, .int .i64 mx, .bool lz, .int .i64 gr, .int .i64 lk] 80) := ⟨_, rfl⟩
        rw [← hWn] at hnb hbW hsw ⊢
        clear hWn
        have hwN := own_below HDP.out hbW
        have HWN := Lib.hid hwN
        clear hwN
        obtain ⟨wo, rfl⟩ : ∃ wo : World, wo = wr := ⟨_, rfl⟩
        have n0 : Wn.cell? ⟨wo.heap.size, 0, none⟩ = some (.int .i64 op) := by simp [World.cell?, hnb]
        have n2 : Wn.cell? ⟨wo.heap.size, 2, none⟩ = some (.slice Ak kids.length ck) := by simp [World.cell?, hnb]
        have n3 : Wn.cell? ⟨wo.heap.size, 3, none⟩ = some (.int .i64 mn) := by simp [World.cell?, hnb]
        have n4 : Wn.cell? ⟨wo.heap.size, 4, none⟩ = some (.int .i64 mx) := by simp [World.cell?, hnb]
        go_loopw [7, 8] (fun v7 v8 wi => ∃ j : Nat, j ≤ kids.length ∧ v8 = .int .i64 j ∧ v7 = .int .i64 (wSum ws kids j) ∧ wi = Wn) (fun _ v8 _ => kids.length - (intOf v8).toNat)
        case atStart => exact ⟨0, by omega, rfl, rfl, rfl⟩
        case round =>
          obtain ⟨j, hj, rfl, rfl, rfl⟩ := hrel
          have hsi := wSum_inv WI.out kids j hj
          by_cases hjl : j < kids.length
          · obtain ⟨A', c', e', _, _, h3'⟩ := HK.out
            obtain ⟨bk, ok, e2, hRk⟩ := h3' (by omega)
            rw [e2] at e'
            injection e' with e3 e4 e5
            subst e3
            clear e4 e5
            have cq := (hRk j hjl).at_ wr (hb2.trans (hbW.mono (by omega)))
            obtain ⟨p1, p2⟩ := KLT.out _ (List.getElem_mem hjl)
            obtain ⟨qn, hqn⟩ := Int.eq_ofNat_of_zero_le p1
            have KS := Lib.hid (wSum_succ (dp := ws) hjl)
            rw [hqn] at cq KS p2
            have hqk : qn < k := by omega
            have cd := own_int_cell HWN.out qn (by omega)
            have egd : (ws ++ List.replicate (nodes.length - k) 0).getD qn 0 = ws.getD qn 0 := by simp [List.getD_eq_getElem?_getD, List.getElem?_append, show qn < ws.length by omega]
            rw [egd] at cd
            rw [Int.toNat_natCast] at KS
            rw [Nat.mul_one] at cq
            have hsq := wSum_inv WI.out kids (j + 1) (by omega)
            rw [KS.out] at hsq
            generalize ws.getD qn 0 = dq at *
            generalize wSum ws kids j = m at *
            have p3 : qn < nodes.length := by omega
            clear hRk h3' hqn e2 egd p1
            go_wp2
            go_roundw
            case rel => exact ⟨j + 1, by omega, by go_num, by rw [KS.out], by first | rfl | trivial⟩
            case measure => simp [intOf]; omega
          · obtain rfl : j = kids.length := by omega
            have hkl2 := KL
            have hri := wRaw_inv NUM.out hsi.1 (by omega) KL
            have RI := Lib.hid hri
            have fz := HWN.out.frozenAt k
            have ci := own_int_cell HWN.out k hlt
            have cset : ∀ x, (wr.setCell ⟨w1.heap.size, k, none⟩ (.int .i64 x)).cell? ⟨w1.heap.size, k, none⟩ = some (.int .i64 x) := fun x => by
              have h := own_int_cell (own_int_set HWN.out k x).1 k hlt
              have hl : k < (ws ++ List.replicate (nodes.length - k) 0).length := by rw [List.length_append, List.length_replicate, WL]; omega
              rw [h, List.getD_eq_getElem?_getD, List.getElem?_set_self hl]
              rfl
            have fset : ∀ x, (wr.setCell ⟨w1.heap.size, k, none⟩ (.int .i64 x)).frozen? ⟨w1.heap.size, k, none⟩ = false := fun x => (own_int_set HWN.out k x).1.frozenAt k
            have hfin : ∀ x : Int, x = mnI (wRaw ⟨op, set, kids, mn, mx, lz, gr, lk⟩ (wSum ws kids kids.length)) 1000000 → (ws ++ List.replicate (nodes.length - k) 0).set k x = wTo nodes (k + 1) ++ List.replicate (nodes.length - (k + 1)) 0 := fun x hx => by
              rw [WS.out, ← hx, show nodes.length - k = (nodes.length - (k + 1)) + 1 by omega, List.replicate_succ]
              simp [WL]
            have FIN1 : Hid (∀ x : Int, x ≤ 1000000 → x = wRaw ⟨op, set, kids, mn, mx, lz, gr, lk⟩ (wSum ws kids kids.length) → ∃ k_1, k_1 ≤ nodes.length ∧ Value.int .i64 ((k : Int) + 1) = Value.int .i64 k_1 ∧
               (wr.setCell ⟨w1.heap.size, k, none⟩ (.int .i64 x)).ownsRow (w.heap.size + 1) 3 1 (.slice (some ⟨w1.heap.size, 0, none⟩) nodes.length nodes.length) nodes.length ((wTo nodes k_1 ++ List.replicate (nodes.length - k_1) 0).map (Value.int .i64)) ∧
               Below (w.heap.size + 1) W0 (wr.setCell ⟨w1.heap.size, k, none⟩ (.int .i64 x))) := by
              refine Lib.hid fun x hx hw => ⟨k + 1, by omega, by go_num, ?_, ?_⟩
              · have h := (own_int_set HWN.out k x).1
                rw [hfin x (by rw [← hw]; unfold mnI; rw [if_neg (by omega)])] at h
                exact h
              · exact (hbr.trans (hbW.mono (by omega))).setCell (by simp; omega) _
            have FIN2 : Hid (∀ x : Int, 1000000 < x → x = wRaw ⟨op, set, kids, mn, mx, lz, gr, lk⟩ (wSum ws kids kids.length) → ∃ k_1, k_1 ≤ nodes.length ∧ Value.int .i64 ((k : Int) + 1) = Value.int .i64 k_1 ∧
               ((wr.setCell ⟨w1.heap.size, k, none⟩ (.int .i64 x)).setCell ⟨w1.heap.size, k, none⟩ (.int .i64 1000000)).ownsRow (w.heap.size + 1) 3 1 (.slice (some ⟨w1.heap.size, 0, none⟩) nodes.length nodes.length) nodes.length ((wTo nodes k_1 ++ List.replicate (nodes.length - k_1) 0).map (Value.int .i64)) ∧
               Below (w.heap.size + 1) W0 ((wr.setCell ⟨w1.heap.size, k, none⟩ (.int .i64 x)).setCell ⟨w1.heap.size, k, none⟩ (.int .i64 1000000))) := by
              refine Lib.hid fun x hx hw => ⟨k + 1, by omega, by go_num, ?_, ?_⟩
              · have h := (own_int_set (own_int_set HWN.out k x).1 k 1000000).1
                rw [List.set_set, hfin 1000000 (by rw [← hw]; unfold mnI; rw [if_pos hx])] at h
                exact h
              · exact ((hbr.trans (hbW.mono (by omega))).setCell (by simp; omega) _).setCell (by simp; omega) _
            clear hnb hri hfin
            generalize wSum ws kids kids.length = sm at *
            by_cases o1 : op = 1
            · subst o1
              by_cases hx : sm + 1 ≤ 1000000
              · go_wp2
                go_roundw
                case rel => exact FIN1.out _ hx (by simp [wRaw])
                case measure => simp [intOf]; omega
              · have hx' : 1000000 < sm + 1 := by omega
                clear hx
                go_wp2
                go_roundw
                case rel => exact FIN2.out _ hx' (by simp [wRaw])
                case measure => simp [intOf]; omega
            have o1' : (op == 1) = false := by simpa using o1
            by_cases o6 : op = 6
            · subst o6
              by_cases hx : sm + 1 ≤ 1000000
              · go_wp2
                go_roundw
                case rel => exact FIN1.out _ hx (by simp [wRaw])
                case measure => simp [intOf]; omega
              · have hx' : 1000000 < sm + 1 := by omega
                clear hx
                go_wp2
                go_roundw
                case rel => exact FIN2.out _ hx' (by simp [wRaw])
                case measure => simp [intOf]; omega
            have o6' : (op == 6) = false := by simpa using o6
            by_cases o2 : op = 2
            · subst o2
              by_cases hx : sm + 1 ≤ 1000000
              · go_wp2
                go_roundw
                case rel => exact FIN1.out _ hx (by simp [wRaw])
                case measure => simp [intOf]; omega
              · have hx' : 1000000 < sm + 1 := by omega
                clear hx
                go_wp2
                go_roundw
                case rel => exact FIN2.out _ hx' (by simp [wRaw])
                case measure => simp [intOf]; omega
            have o2' : (op == 2) = false := by simpa using o2
            by_cases o3 : op = 3
            · subst o3
              by_cases hx : sm + (kids.length : Int) ≤ 1000000
              · go_wp2
                go_roundw
                case rel => exact FIN1.out _ hx (by simp [wRaw])
                case measure => simp [intOf]; omega
              · have hx' : 1000000 < sm + (kids.length : Int) := by omega
                clear hx
                go_wp2
                go_roundw
                case rel => exact FIN2.out _ hx' (by simp [wRaw])
                case measure => simp [intOf]; omega
            have o3' : (op == 3) = false := by simpa using o3
            by_cases o5 : op = 5
            · subst o5
              by_cases hx : sm + 2 ≤ 1000000
              · go_wp2
                go_roundw
                case rel => exact FIN1.out _ hx (by simp [wRaw])
                case measure => simp [intOf]; omega
              · have hx' : 1000000 < sm + 2 := by omega
                clear hx
                go_wp2
                go_roundw
                case rel => exact FIN2.out _ hx' (by simp [wRaw])
                case measure => simp [intOf]; omega
            have o5' : (op == 5) = false := by simpa using o5
            obtain rfl : op = 4 := by
              have := NUM.out
              unfold numOk at this
              simp [o1, o6, o2, o3, o5] at this
              exact this.1
            obtain ⟨c1, c2, c3, c4, c5⟩ := num_copies NUM.out rfl
            have hmm : mx = -1 ∨ mn ≤ mx := by
              have := NUM.out
              unfold numOk at this
              simp at this
              omega
            dsimp only at c3 c4 c5
            have hwr := RI.out
            simp only [wRaw] at hwr
            have e0 : 0 ≤ mn * (sm + 3) := Int.mul_nonneg (by omega) (by omega)
            have e2 : mn * (sm + 3) ≤ 200 * (sm + 3) := Int.mul_le_mul_of_nonneg_right (by omega) (by omega)
            have hsb : sm ≤ 2000000000 := by omega
            have hs0 : 0 ≤ sm := by omega
            by_cases om : mx = -1
            · subst om
              have hmul : wrap64 (mn * (sm + 3)) = mn * (sm + 3) := by unfold wrap64; omega
              have hE : mn * (sm + 3) + (sm + 3) + 1 = wRaw ⟨4, set, kids, mn, -1, lz, gr, lk⟩ sm := by
                simp only [wRaw, copies]
                simp
                rw [Int.add_mul, Int.one_mul]
              have HE := Lib.hid hE
              clear hE hwr c1 c2 RI
              have hadd1 : wrap64 (mn * (sm + 3) + (sm + 3)) = mn * (sm + 3) + (sm + 3) := by unfold wrap64; omega
              have hadd2 : wrap64 (mn * (sm + 3) + (sm + 3) + 1) = mn * (sm + 3) + (sm + 3) + 1 := by unfold wrap64; omega
              by_cases hx : mn * (sm + 3) + (sm + 3) + 1 ≤ 1000000
              · go_wp2
                go_roundw
                case rel => exact FIN1.out _ hx (by first | exact HE.out | simpa using HE.out)
                case measure => simp [intOf]; omega
              · have hx' : 1000000 < mn * (sm + 3) + (sm + 3) + 1 := by omega
                clear hx
                go_wp2
                go_roundw
                case rel => exact FIN2.out _ hx' (by first | exact HE.out | simpa using HE.out)
                case measure => simp [intOf]; omega
            · have hmx : mn ≤ mx := by omega
              have e3 : 0 ≤ (mx - mn) * (sm + 3) := Int.mul_nonneg (by omega) (by omega)
              have e4 : (mx - mn) * (sm + 3) ≤ 200 * (sm + 3) := Int.mul_le_mul_of_nonneg_right (by omega) (by omega)
              have hmul : wrap64 (mn * (sm + 3)) = mn * (sm + 3) := by unfold wrap64; omega
              have hmul2 : wrap64 ((mx - mn) * (sm + 3)) = (mx - mn) * (sm + 3) := by unfold wrap64; omega
              have hmx0 : 0 ≤ mx := by omega
              have hE : mn * (sm + 3) + (mx - mn) * (sm + 3) + 1 = wRaw ⟨4, set, kids, mn, mx, lz, gr, lk⟩ sm := by
                simp only [wRaw, copies]
                simp [om]
                rw [Int.sub_mul]
                omega
              have HE := Lib.hid hE
              clear hE hwr c1 c2 RI om
              have hadd1 : wrap64 (mn * (sm + 3) + (mx - mn) * (sm + 3)) = mn * (sm + 3) + (mx - mn) * (sm + 3) := by unfold wrap64; omega
              have hadd2 : wrap64 (mn * (sm + 3) + (mx - mn) * (sm + 3) + 1) = mn * (sm + 3) + (mx - mn) * (sm + 3) + 1 := by unfold wrap64; omega
              by_cases hx : mn * (sm + 3) + (mx - mn) * (sm + 3) + 1 ≤ 1000000
              · go_wp2
                go_roundw
                case rel => exact FIN1.out _ hx (by first | exact HE.out | simpa using HE.out)
                case measure => simp [intOf]; omega
              · have hx' : 1000000 < mn * (sm + 3) + (mx - mn) * (sm + 3) + 1 := by omega
                clear hx
                go_wp2
                go_roundw
                case rel => exact FIN2.out _ hx' (by first | exact HE.out | simpa using HE.out)
                case measure => simp [intOf]; omega
      · obtain rfl : k = nodes.length := by omega
        have hlast := own_int_cell hdp (nodes.length - 1) (by omega)
        have eN : ((nodes.length : Int) - 1).toNat = nodes.length - 1 := by omega
        have HL := Lib.hid hlast
        go_wp2
        go_ret2
        refine ⟨?_, hb0.trans (hbr.mono (by omega))⟩
        unfold wAns
        rw [if_pos HQ.out]
        unfold weightOf
        have e1 : errNo true = 0 := rfl
        simp [HQ.out, e1]
  · rw [show treeOk ⟨nodes, names, raw⟩ = false by simpa using q]
    rw [show errNo false = 1 from rfl]
    go_wp2
    go_ret2
    refine ⟨?_, hb0.trans (hb1.mono (by omega))⟩
    unfold wAns
    rw [if_neg q]
    simp [q, errNo]
end Go.Proofs.YtmbboianghbjkaaDoor

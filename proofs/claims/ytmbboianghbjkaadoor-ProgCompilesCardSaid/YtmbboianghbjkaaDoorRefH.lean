import Derived.Test.YtmbboianghbjkaaDoorRefG
namespace Go.Proofs.YtmbboianghbjkaaDoor
open Go.RowKit Go.Shelf
set_option linter.unusedVariables false
set_option linter.unusedSimpArgs false
attribute [local go_sem] bl_refl bl_alloc bl_a2 bl_a3 bl_a4 bl_a5 bl_set bl_drew bl_drewN le_add_r lt_add_r Go.Proofs.YtmbboianghbjkaaDoor.addr_add Ex.old

theorem preIF_lt {nodes : List Node} (h : KidsLt nodes) : ∀ (f i : Nat), i < nodes.length → ∀ q ∈ preIF nodes f i, q < nodes.length
  | 0, _, _, q, hq => by cases hq
  | f + 1, i, hi, q, hq => by
    rw [preIF] at hq
    rcases List.mem_cons.1 hq with rfl | hq
    · exact hi
    · obtain ⟨x, hx, hq⟩ := List.mem_flatMap.1 hq
      obtain ⟨h0, h1⟩ := h i hi x hx
      exact preIF_lt h f x.toNat (by omega) q hq
theorem grps_lt {raw : Bool} {nodes : List Node} {st : List Int × List Int} (h : growTo raw nodes nodes.length = some st) (h0 : 0 < nodes.length) : ∀ q ∈ grps nodes, q < nodes.length := fun q hq =>
  preIF_lt (grown_kids h) _ (nodes.length - 1) (by omega) q (List.mem_filter.1 hq).1

set_option maxRecDepth 100000 in
set_option maxHeartbeats 4000000 in
theorem rtcheck_any (B : Nat) (w0 w : World) (nv sv : Value) (t : Tree) (hb : Below B w0 w) (hB : B ≤ w.heap.size) (ht : TreeV B w0 nv sv t) (hz : ∀ x ∈ t.names, x.size ≤ 140737488351232) (hr : ∀ n ∈ t.nodes, rngsOk' n.set) :
    Calls Tryd.prog 46 #[.agg #[nv, sv, .bool t.raw]] w fun e w' => e = .returned (.int .i64 (errNo (treeOk t))) ∧ Below w.heap.size w w' := by
  obtain ⟨i0, hi, hz0, hz1, hz2⟩ := info_parts info_tInt
  have HTV := Lib.hid ht
  obtain ⟨A, c, rfl, h1, h2, h3⟩ := ht.nodes
  obtain ⟨As, cs, rfl, hs1, hs2, hs3⟩ := ht.names
  obtain ⟨nodes, names, raw⟩ := t
  dsimp only at *
  have HN := Lib.hid h3
  have HR := Lib.hid hr
  have HNM := Lib.hid (fun W (hb2 : Below w.heap.size w W) => rnames_any W _ names (Sl.rdS HTV.out.names (hb.trans (hb2.mono hB))) hz)
  clear h3 ht hs3 hr hz
  by_cases g1 : nodes.length < 1
  · have g1' : (nodes.length : Int) < 1 := by omega
    have HP : Hid (treeOk ⟨nodes, names, raw⟩ = false) := Lib.hid (by unfold treeOk; dsimp only; rw [decide_eq_false (show ¬ 0 < nodes.length by omega)]; rfl)
    go_enter Tryd.func46, Tryd.ntmps46
    go_wp2
    go_ret
    exact ⟨ret_int (by rw [HP.out]; rfl), (by repeat' (first | exact Below.refl _ _ | (refine below_drewN ?_ _) | (refine Below.alloc ?_ ?_ _) | (refine below_set ?_ ?_) | omega | (simp; done) | (simp; omega)))⟩
  by_cases g2 : 2000 < nodes.length
  · have g2' : 2000 < (nodes.length : Int) := by omega
    have g1' : 1 ≤ (nodes.length : Int) := by omega
    have HP : Hid (treeOk ⟨nodes, names, raw⟩ = false) := Lib.hid (by unfold treeOk; dsimp only; rw [decide_eq_false (show ¬ nodes.length ≤ 2000 by omega)]; simp)
    clear g1 g2
    go_enter Tryd.func46, Tryd.ntmps46
    go_wp2
    go_ret
    exact ⟨ret_int (by rw [HP.out]; rfl), (by repeat' (first | exact Below.refl _ _ | (refine below_drewN ?_ _) | (refine Below.alloc ?_ ?_ _) | (refine below_set ?_ ?_) | omega | (simp; done) | (simp; omega)))⟩
  have g1' : 1 ≤ (nodes.length : Int) := by omega
  have g2' : (nodes.length : Int) ≤ 2000 := by omega
  go_enter Tryd.func46, Tryd.ntmps46
  go_wp2_with fail
  refine (HNM.out _ ?_).mono ?_
  · (repeat' (first | exact Below.refl _ _ | (refine below_drewN ?_ _) | (refine Below.alloc ?_ ?_ _) | (refine below_set ?_ ?_) | omega | (simp; done) | (simp; omega)))
  rintro e w1 ⟨rfl, nd, rfl⟩
  have hbx : ((w.alloc (.cells #[.slice A nodes.length c, .slice As names.length cs, .bool raw] 35)).drewN nd).heap[w.heap.size]? = some (.cells #[.slice A nodes.length c, .slice As names.length cs, .bool raw] 35 (0, 0)) := World.alloc_heap_new w _
  have hbw : Below w.heap.size w ((w.alloc (.cells #[.slice A nodes.length c, .slice As names.length cs, .bool raw] 35)).drewN nd) := below_drewN ((Below.refl _ _).alloc (Nat.le_refl _) _) _
  have hsz0 : ((w.alloc (.cells #[.slice A nodes.length c, .slice As names.length cs, .bool raw] 35)).drewN nd).heap.size = w.heap.size + 1 := by simp
  obtain ⟨W0, hW0⟩ : ∃ W0, W0 = (w.alloc (.cells #[.slice A nodes.length c, .slice As names.length cs, .bool raw] 35)).drewN nd := ⟨_, rfl⟩
  rw [← hW0] at hbx hbw hsz0 ⊢
  clear hW0
  by_cases nm : fitOk names = true
  case neg =>
    rw [show fitOk names = false by simpa using nm]
    have HP : Hid (treeOk ⟨nodes, names, raw⟩ = false) := Lib.hid (by unfold treeOk; dsimp only; rw [show fitOk names = false by simpa using nm]; simp)
    clear nm
    go_wp2
    go_ret
    exact ⟨ret_int (by rw [HP.out]; rfl), hbw⟩
  rw [nm]
  have HP : Hid (treeOk ⟨nodes, names, raw⟩ = (grownOk ⟨nodes, names, raw⟩ && openedOk ⟨nodes, names, raw⟩)) := Lib.hid (by
    unfold treeOk
    dsimp only
    rw [nm, decide_eq_true (show 0 < nodes.length by omega), decide_eq_true (show nodes.length ≤ 2000 by omega)]
    rfl)
  clear nm
  have q0 : W0.cell? ⟨w.heap.size, 0, none⟩ = some (.slice A nodes.length c) := by rw [cell_of_row _ _ _ _ _ _ hbx]; rfl
  have HBX := Lib.hid hbx
  clear hbx
  go_wp2_with (first | (at_make; refine wpList_make_full _ rfl _ _ 74 rfl (w.heap.size + 1) 3 i0 (.int .i64 0) 1 Tryd.underlying74 hi hz0 hz1 _ _ _ _ nodes.length rfl rfl rfl rfl (by rw [hz2]; omega) (by unfold maxLen; omega) (by omega) ?_; intro w1 hd hg1; have hb1 := grown_none hg1))
  clear hg1
  rw [hsz0] at hd hb1
  go_loopw [3, 5, 6, 7, 8, 9] (fun v3 v5 _ _ _ _ wr => ∃ (k : Nat) (fr dp : List Int), k ≤ nodes.length ∧ v5 = .int .i64 k ∧ growTo raw nodes k = some (fr, dp) ∧
     wr.ownsRow (w.heap.size + 1) 3 1 v3 fr.length (fr.map (Value.int .i64)) ∧
     wr.ownsRow (w.heap.size + 1) 3 1 (.slice (some ⟨w.heap.size + 1, 0, none⟩) nodes.length nodes.length) nodes.length ((dp ++ List.replicate (nodes.length - k) 0).map (Value.int .i64)) ∧
     v3.ownBlock ≠ some (w.heap.size + 1) ∧ Below (w.heap.size + 1) W0 wr) (fun _ v5 _ _ _ _ _ => nodes.length - (intOf v5).toNat)
  case atStart =>
    refine ⟨0, [], [], by omega, rfl, rfl, World.ownsRow_nil _ _ _ _, ?_, by simp [Value.ownBlock], hb1⟩
    have e1 : (madeCells (Value.int .i64 0).cells (nodes.length * 1)).toList = (([] : List Int) ++ List.replicate (nodes.length - 0) 0).map (Value.int .i64) := by
      rw [show (Value.int .i64 0).cells = #[Value.int .i64 0] from rfl, toList_madeCells_one]; simp
    rwa [e1] at hd
  case round =>
    obtain ⟨k, fr, dp, hk, rfl, hgr, hfr, hdp, hne, hbr⟩ := hrel
    clear hd hb1 q0
    have hsz : w.heap.size + 1 < wr.heap.size := by
      have h := hdp.lt (w.heap.size + 1) rfl
      omega
    have hsz1 : w.heap.size < wr.heap.size := by omega
    have q0 : wr.cell? ⟨w.heap.size, 0, none⟩ = some (.slice A nodes.length c) := by rw [cell_of_row _ _ _ _ _ _ ((hbr.block w.heap.size (by omega)).trans HBX.out)]; rfl
    have q1 : wr.cell? ⟨w.heap.size, 1, none⟩ = some (.slice As names.length cs) := by rw [cell_of_row _ _ _ _ _ _ ((hbr.block w.heap.size (by omega)).trans HBX.out)]; rfl
    have q2 : wr.cell? ⟨w.heap.size, 2, none⟩ = some (.bool raw) := by rw [cell_of_row _ _ _ _ _ _ ((hbr.block w.heap.size (by omega)).trans HBX.out)]; rfl
    have hb2 : Below B w0 wr := hb.trans ((hbw.trans (hbr.mono (by omega))).mono hB)
    by_cases hlt : k < nodes.length
    · obtain ⟨b, o, rfl, hNd⟩ := HN.out (by omega)
      have hnk := hNd k hlt
      have hrk := HR.out _ (List.getElem_mem hlt)
      rw [getD_at nodes k default hlt] at hnk hrk
      have HGS : Hid (growTo raw nodes (k + 1) = growStep raw (nodes.getD k default) k (fr, dp)) := by show growTo raw nodes (k + 1) = _; rw [growTo, hgr]; rfl
      have HINV := Lib.hid (growTo_inv raw nodes k fr dp hgr)
      clear hNd hgr
      generalize nodes.getD k default = n at *
      obtain ⟨op, set, kids, mn, mx, lz, gr, lk⟩ := n
      obtain ⟨g0, ⟨kv, g1, hset⟩, ⟨vk, g2, hkids⟩, g3, g4, g5, g6, g7⟩ := hnk
      dsimp only at *
      have HK := Lib.hid hkids
      obtain ⟨Ak, ck, rfl, hk1, hk2, hk3⟩ := hkids
      have HSET := Lib.hid hset
      obtain ⟨As2, cs2, rfl, _, _, hs3⟩ := hset
      have HFR := Lib.hid hfr
      have HDP := Lib.hid hdp
      have HRK := Lib.hid hrk
      obtain ⟨Af, cf, rfl⟩ := own_form hfr
      clear hs3 hk3 hfr hdp hrk
      have FE := Lib.hid (fld7_eq ⟨op, set, kids, mn, mx, lz, gr, lk⟩ raw)
      have hbad : growStep raw ⟨op, set, kids, mn, mx, lz, gr, lk⟩ k (fr, dp) = none → treeOk ⟨nodes, names, raw⟩ = false := fun h => by
        rw [HP.out]
        unfold grownOk
        dsimp only
        rw [growTo_none raw nodes (k + 1) (HGS.out.trans h) nodes.length (by omega)]
        rfl
      have HBAD := Lib.hid hbad
      clear hbad
      have hbwr : Below w.heap.size w wr := hbw.trans (hbr.mono (by omega))
      have hfl : fr.length ≤ 2000 := by have := HINV.out.2.1; omega
      by_cases q3 : kids.length ≤ fr.length
      case neg =>
        have q3' : (fr.length : Int) < (kids.length : Int) := by omega
        have q3d : decide ((fr.length : Int) < (kids.length : Int)) = true := by simpa using q3'
        have hb0 : growStep raw ⟨op, set, kids, mn, mx, lz, gr, lk⟩ k (fr, dp) = none := by rw [growStep, if_neg]; simp [q3]
        have HB0 := Lib.hid (HBAD.out hb0)
        clear hb0
        go_wp2
        go_ret
        exact ⟨ret_int (by rw [HB0.out]; rfl), hbwr.alloc (by omega) _⟩
      have q3' : (kids.length : Int) ≤ (fr.length : Int) := by omega
      have q3n : decide (fr.length < kids.length) = false := by simp; omega
      go_wp2_with fail
      refine (rparts_any op kids.length _ (by omega)).mono ?_
      rintro e w2 ⟨rfl, rfl⟩
      by_cases qp : partsOk op kids.length = true
      case neg =>
        rw [show partsOk op kids.length = false by simpa using qp]
        have hb0 : growStep raw ⟨op, set, kids, mn, mx, lz, gr, lk⟩ k (fr, dp) = none := by
          have fe := FE.out
          try dsimp only at fe
          rw [show partsOk op kids.length = false by simpa using qp, Bool.false_and] at fe
          rw [growStep, if_neg]
          simp only [← fe]
          simp
        have HB0 := Lib.hid (HBAD.out hb0)
        clear hb0 qp
        go_wp2
        go_ret
        exact ⟨ret_int (by rw [HB0.out]; rfl), hbwr.alloc (by omega) _⟩
      rw [qp]
      have QP := Lib.hid qp
      clear qp
      go_wp2_with fail
      refine (rfields_any B w0 _ ⟨op, set, kids, mn, mx, lz, gr, lk⟩ As2 Ak cs2 ck raw (hb2.alloc (by omega) _) (by simp; omega) HSET.out HRK.out).mono ?_
      rintro e w2 ⟨rfl, hb3⟩
      have hx1 : Below wr.heap.size wr w2 := ((Below.refl _ _).alloc (Nat.le_refl _) _).trans (hb3.mono (by simp))
      have hnb := (hb3.block wr.heap.size (by simp)).trans (World.alloc_heap_new wr _)
      have hx2 : wr.heap.size + 1 ≤ w2.heap.size := by have := hb3.size; simpa using this
      clear hb3
      by_cases qf : fld7 ⟨op, set, kids, mn, mx, lz, gr, lk⟩ raw = true
      case neg =>
        rw [show fld7 ⟨op, set, kids, mn, mx, lz, gr, lk⟩ raw = false by simpa using qf]
        have hb0 : growStep raw ⟨op, set, kids, mn, mx, lz, gr, lk⟩ k (fr, dp) = none := by
          have fe := FE.out
          rw [show fld7 ⟨op, set, kids, mn, mx, lz, gr, lk⟩ raw = false by simpa using qf, Bool.and_false] at fe
          rw [growStep, if_neg]
          simp only [← fe]
          simp
        have HB0 := Lib.hid (HBAD.out hb0)
        clear hb0 qf
        go_wp2
        go_ret
        exact ⟨ret_int (by rw [HB0.out]; rfl), hbwr.trans (hx1.mono hbwr.size)⟩
      rw [qf]
      have QQ : Hid (numOk ⟨op, set, kids, mn, mx, lz, gr, lk⟩ = true ∧ fldOk ⟨op, set, kids, mn, mx, lz, gr, lk⟩ raw = true) := Lib.hid (by
        have fe := FE.out
        try dsimp only at fe
        rw [QP.out, qf] at fe
        have fe := fe.symm
        simpa using fe)
      clear qf
      have hx3 : Below (w.heap.size + 1) W0 w2 := hbr.trans (hx1.mono (by omega))
      have FX := Lib.hid (own_below HFR.out hx1)
      have DX := Lib.hid (own_below HDP.out hx1)
      have BX := Lib.hid (hb2.trans (hx1.mono (by omega : B ≤ wr.heap.size)))
      have EX := Lib.hid (hbwr.trans (hx1.mono hbwr.size))
      have nb0 : w2.cell? ⟨wr.heap.size, 0, none⟩ = some (.int .i64 op) := by rw [cell_of_row _ _ _ _ _ _ hnb]; rfl
      have nb2 : w2.cell? ⟨wr.heap.size, 2, none⟩ = some (.slice Ak kids.length ck) := by rw [cell_of_row _ _ _ _ _ _ hnb]; rfl
      have hwr : wrap64 ((fr.length : Int) - (kids.length : Int)) = ((fr.length - kids.length : Nat) : Int) := by unfold wrap64; omega
      have hwr2 : ((fr.length : Int) - (kids.length : Int)) = ((fr.length - kids.length : Nat) : Int) := by omega
      have HWR2 := Lib.hid hwr2
      clear hnb g0 g1 g2 g3 g4 g5 g6 g7 hwr2
      go_wp2_with fail
      obtain ⟨hdl, hfl2, hfrb, hdb⟩ := HINV.out
      have hND : dp ++ List.replicate (nodes.length - k) 0 = dp ++ [0] ++ List.replicate (nodes.length - k - 1) 0 := by
        rw [List.append_assoc, show nodes.length - k = (nodes.length - k - 1) + 1 by omega]; simp [List.replicate_succ]
      have DX2 := DX.out
      rw [hND] at DX2
      have DX3 := Lib.hid DX2
      clear DX2 hND DX q0 q1 q2
      obtain ⟨wo, rfl⟩ : ∃ wo : World, wo = wr := ⟨_, rfl⟩
      go_loopw [9] (fun v9 wi => ∃ j : Nat, j ≤ kids.length ∧ v9 = .int .i64 j ∧ (∀ q, q < j → kids.getD q 0 = fr.getD (fr.length - kids.length + q) 0) ∧
         wi.ownsRow (w.heap.size + 1) 3 1 (.slice (some ⟨w.heap.size + 1, 0, none⟩) nodes.length nodes.length) nodes.length ((dp ++ [kmax dp kids j] ++ List.replicate (nodes.length - k - 1) 0).map (Value.int .i64)) ∧
         w2.grownBy wi (some (w.heap.size + 1))) (fun v9 _ => kids.length - (intOf v9).toNat)
      case atStart => exact ⟨0, by omega, rfl, by omega, DX3.out, World.grownBy.refl _ _⟩
      case round =>
        obtain ⟨j, hj, rfl, hqs, hdw, hgw⟩ := hrel
        have HQS := Lib.hid hqs
        have HDW := Lib.hid hdw
        have hbi := below_grown BX.out hgw (by omega) (by omega)
        have hbi2 := below_grown hx3 hgw (by omega) (by omega)
        have HBI2 := Lib.hid hbi2
        have HEI := Lib.hid (below_grown EX.out hgw (by have := EX.out.size; omega) (by omega))
        have fz := hdw.frozenAt k
        have ci := own_int_cell hdw k hlt
        rw [getD_mid hdl] at ci
        have nc2 : wr.cell? ⟨wo.heap.size, 2, none⟩ = some (.slice Ak kids.length ck) := hgw.cell nb2 (by simp; omega)
        have nc0 : wr.cell? ⟨wo.heap.size, 0, none⟩ = some (.int .i64 op) := hgw.cell nb0 (by simp; omega)
        clear hqs
        by_cases hjl : j < kids.length
        · obtain ⟨A', c', e', _, _, h3'⟩ := HK.out
          obtain ⟨bk, ok, e2, hRk⟩ := h3' (by omega)
          rw [e2] at e'
          injection e' with e3 e4 e5
          subst e3
          clear e4 e5 e2
          have cq := (hRk j hjl).at_ wr hbi
          rw [Nat.mul_one, getD_at kids j 0 hjl] at cq
          have fkept := FX.out.kept hgw (Or.inr hne)
          obtain ⟨gf, cf', hgf⟩ : ∃ gf cf', Value.slice Af fr.length cf = .slice (some ⟨gf, 0, none⟩) fr.length cf' := by
            rcases fkept.2 with ⟨_, h'⟩ | ⟨gf, cap, cur, h, _⟩
            · omega
            · exact ⟨gf, cap, h⟩
          injection hgf with hgf1 _ hgf2
          subst hgf1 hgf2
          have cf2 := own_int_cell fkept (fr.length - kids.length + j) (by omega)
          have hidx : ((fr.length - kids.length : Nat) : Int) + (j : Int) = ((fr.length - kids.length + j : Nat) : Int) := by omega
          have hfcap : (fr.length : Int) ≤ (cf : Int) := by have := own_cap fkept; omega
          have hfr1 : ((fr.length - kids.length : Nat) : Int) + (j : Int) < (fr.length : Int) := by omega
          have hfr2 : (0 : Int) ≤ ((fr.length - kids.length : Nat) : Int) + (j : Int) := by omega
          have hfbig : ((fr.length - kids.length : Nat) : Int) + (j : Int) ≤ 2000 := by omega
          have hfm : fr.length - kids.length + j < fr.length := by omega
          have hmem : fr.getD (fr.length - kids.length + j) 0 ∈ fr := by rw [← getD_at _ _ _ hfm]; exact List.getElem_mem hfm
          clear h3' hRk
          by_cases hkf : kids.getD j 0 = fr.getD (fr.length - kids.length + j) 0
          case neg =>
            have hb0 : growStep raw ⟨op, set, kids, mn, mx, lz, gr, lk⟩ k (fr, dp) = none := by
              rw [growStep, if_neg]
              intro hc
              simp only [Bool.and_eq_true, decide_eq_true_eq] at hc
              have e := congrArg (fun l : List Int => l.getD j 0) hc.2
              try dsimp only at e
              rw [List.getD_eq_getElem?_getD (l := List.drop _ _), List.getElem?_drop, ← List.getD_eq_getElem?_getD] at e
              exact hkf e
            have HB0 := Lib.hid (HBAD.out hb0)
            have hkb : (kids.getD j 0 != fr.getD (fr.length - kids.length + j) 0) = true := by simpa using hkf
            clear hb0 hkf
            generalize kids.getD j 0 = kq at *
            generalize fr.getD (fr.length - kids.length + j) 0 = fq at *
            go_wp2
            go_quiet (fail)
            go_wp2
            go_ret
            exact ⟨ret_int (by rw [HB0.out]; rfl), below_drewN HEI.out _⟩
          have hqs2 : ∀ q, q < j + 1 → kids.getD q 0 = fr.getD (fr.length - kids.length + q) 0 := fun q hq => by
            by_cases e : q = j
            · rw [e]; exact hkf
            · exact HQS.out q (by omega)
          have HQ2 := Lib.hid hqs2
          rw [← hkf] at cf2 hmem
          obtain ⟨p1, p2⟩ := hfrb _ hmem
          have KS := Lib.hid (kmax_succ (dp := dp) hjl)
          have kqe := getD_at kids j 0 hjl
          obtain ⟨qn, hqn⟩ := Int.eq_ofNat_of_zero_le p1
          rw [kqe, hqn, Int.toNat_natCast] at KS
          rw [hqn] at cq cf2
          have hqk : qn < k := by omega
          have cd := own_int_cell hdw qn (by omega)
          rw [getD_low (by omega)] at cd
          generalize dp.getD qn 0 = dq at *
          generalize hkm : kmax dp kids j = m at *
          clear hkm hqs2 hkf hmem kqe p1 p2 hqn hdw hdb hfrb
          by_cases hmd : m < dq
          · have hmx : mxI m dq = dq := by unfold mxI; rw [if_pos hmd]
            rw [hmx] at KS
            have hmdd : decide (m < dq) = true := by simpa using hmd
            clear hmx
            go_wp2
            go_quiet (fail)
            go_wp2
            go_quiet (fail)
            go_wp2
            go_roundw
            case rel =>
              have hset := fun nn => own_int_set (own_drewN HDW.out nn) k dq
              simp only [set_mid hdl] at hset
              exact ⟨j + 1, by omega, by go_num, HQ2.out, by rw [KS.out]; exact (hset _).1, grown_trans (grown_drewN hgw _) (hset _).2⟩
            case measure => simp [intOf]; omega
          · have hmx : mxI m dq = m := by unfold mxI; rw [if_neg hmd]
            rw [hmx] at KS
            have hmdd : decide (m < dq) = false := by simpa using hmd
            clear hmx
            go_wp2
            go_quiet (fail)
            go_wp2
            go_quiet (fail)
            go_wp2
            go_roundw
            case rel => exact ⟨j + 1, by omega, by go_num, HQ2.out, by rw [KS.out]; exact own_drewN HDW.out _, by first | exact grown_drewN hgw _ | exact hgw⟩
            case measure => simp [intOf]; omega
        · obtain rfl : j = kids.length := by omega
          have hkn := kmax_inv hdb kids
          have hq4 : kids = fr.drop (fr.length - kids.length) := by
            apply List.ext_getElem
            · rw [List.length_drop]; omega
            · intro i h1 h2
              have := HQS.out i h1
              rw [← getD_at kids i 0 h1] at this
              rw [this, List.getElem_drop, getD_at]
          have HQ4 := Lib.hid hq4
          clear hq4
          generalize hkm : kmax dp kids kids.length = m at *
          have HKM := Lib.hid hkm
          clear hkm hfrb hdb hdw
          go_upto_if 112 with (fail)
          go_cut [] (fun wc => wc.ownsRow (w.heap.size + 1) 3 1 (.slice (some ⟨w.heap.size + 1, 0, none⟩) nodes.length nodes.length) nodes.length ((dp ++ [if op = 4 then m + 1 else m] ++ List.replicate (nodes.length - k - 1) 0).map (Value.int .i64)) ∧ w2.grownBy wc (some (w.heap.size + 1)))
          case first =>
            by_cases o4 : op = 4
            · subst o4
              go_wp2
              go_meet
              case rel =>
                have hset := own_int_set HDW.out k (m + 1)
                rw [set_mid hdl] at hset
                exact ⟨by first | exact hset.1 | (rw [if_pos rfl]; exact hset.1), grown_trans hgw hset.2⟩
            · have o4' : (op == 4) = false := by simpa using o4
              go_wp2
              go_meet
              case rel => exact ⟨by first | exact HDW.out | (rw [if_neg o4]; exact HDW.out), hgw⟩
          case rest =>
            obtain ⟨hdc, hgc⟩ := hcut
            generalize hdd : (if op = 4 then m + 1 else m) = d at *
            have HDD := Lib.hid hdd
            clear hdd
            have ci2 := own_int_cell hdc k hlt
            rw [getD_mid hdl] at ci2
            by_cases hd63 : d ≤ 63
            · have hfc := own_take (FX.out.kept hgc (Or.inr hne)) (m := fr.length - kids.length) (by omega)
              rw [← List.map_take] at hfc
              have HFC := Lib.hid hfc
              have hkk : (fr.take (fr.length - kids.length)).length = fr.length - kids.length := by rw [List.length_take]; omega
              have HGSt : Hid (growTo raw nodes (k + 1) = some (fr.take (fr.length - kids.length) ++ [(k : Int)], dp ++ [d])) := by
                refine HGS.out.trans ?_
                exact growStep_ok QQ.out.1 QQ.out.2 q3 HQ4.out (by rw [HKM.out]; exact HDD.out) hd63
              have hfcap := own_cap FX.out
              have hton : ((fr.length : Int) - (kids.length : Int)).toNat = fr.length - kids.length := by omega
              have hton2 : (0 : Int) ≤ (fr.length : Int) - (kids.length : Int) := by omega
              have hton3 : (fr.length : Int) - (kids.length : Int) ≤ (cf : Int) := by omega
              clear hfc
              go_wp2_with (first | (at_builtin; go_must (refine wpList_append_own_at _ rfl _ _ 74 rfl (w.heap.size + 1) 3 i0 (.int .i64 0) 1 8 Tryd.underlying74 hi hz0 hz1 hz2 rfl (by decide) _ (fr.length - kids.length) ((fr.take (fr.length - kids.length)).map (Value.int .i64)) rfl (HFC.out.alloc _) ⟨wc.heap.size, 0, none⟩ 1 1 [.int .i64 (k : Int)] rfl rfl (cell_one_new _ _ _) (by simp [Value.oneCell']) (by unfold maxLen; omega) (by omega) (by have := hgc.size; simp; omega) ?_); intro v' w4 hown' hgrow' _ hat))
              go_roundw
              case rel =>
                have hobk : (Value.slice Af (fr.length - kids.length) cf).ownBlock = (Value.slice Af fr.length cf).ownBlock := by cases Af <;> rfl
                have e1 : (fr.take (fr.length - kids.length) ++ [(k : Int)]).length = fr.length - kids.length + 1 := by simp [hkk]
                have hs2 := hgc.size
                refine ⟨k + 1, _, _, by omega, by go_num, HGSt.out, ?_, ?_, ?_, ?_⟩
                · rw [e1, List.map_append]; exact hown'
                · have := (hdc.alloc (.cells #[.int .i64 (k : Int)] 3)).kept hgrow' (Or.inr (fun e => hne (hobk.symm.trans e.symm)))
                  rwa [Nat.sub_sub] at this
                · rcases hat with h | h
                  · exact fun e => hne (hobk.symm.trans (h.symm.trans e))
                  · rw [h]; simp; omega
                · refine ((below_grown hx3 hgc (by omega) (by omega)).alloc (by omega) _).grown hgrow' (by simp; omega) (fun q hq => (HFC.out.lt q hq).1)
              case measure => simp [intOf]; omega
            · have hb0 : growStep raw ⟨op, set, kids, mn, mx, lz, gr, lk⟩ k (fr, dp) = none := growStep_deep (by rw [HKM.out]; exact HDD.out) hd63
              have HB0 := Lib.hid (HBAD.out hb0)
              have hd63' : 63 < d := by omega
              clear hb0 hd63
              go_wp2
              go_ret
              exact ⟨ret_int (by rw [HB0.out]; rfl), below_grown EX.out hgc (by have := EX.out.size; omega) (by omega)⟩
    · obtain rfl : k = nodes.length := by omega
      obtain ⟨Af, cf, rfl⟩ := own_form hfr
      have hbwr : Below w.heap.size w wr := hbw.trans (hbr.mono (by omega))
      have hge : grownOk ⟨nodes, names, raw⟩ = decide (fr.length = 1) := by unfold grownOk; dsimp only; rw [hgr]
      have HGR := Lib.hid hgr
      clear hfr hdp hgr
      by_cases f1 : fr.length = 1
      case neg =>
        have f1' : ((fr.length : Int) != 1) = true := by simp; omega
        have HT0 : Hid (treeOk ⟨nodes, names, raw⟩ = false) := Lib.hid (by rw [HP.out, hge, decide_eq_false f1]; rfl)
        clear hge f1
        go_wp2
        go_ret
        exact ⟨ret_int (by rw [HT0.out]; rfl), hbwr⟩
      have f1' : ((fr.length : Int) != 1) = false := by simp; omega
      have HT1 : Hid (treeOk ⟨nodes, names, raw⟩ = openedOk ⟨nodes, names, raw⟩) := Lib.hid (by rw [HP.out, hge, decide_eq_true f1]; rfl)
      have F1 := Lib.hid f1
      clear hge f1
      go_wp2_with fail
      refine (ropening_any B w0 wr _ _ ⟨nodes, names, raw⟩ fr dp hb2 (by omega) HTV.out (by show nodes.length ≤ 2000; omega) (by show 0 < nodes.length; omega) HGR.out F1.out).mono ?_
      rintro e w2 ⟨v', rfl, hrow, hb3⟩
      dsimp only at hrow
      obtain ⟨Ao, co, rfl⟩ := own_form hrow
      have hbw2 : Below w.heap.size w w2 := hbwr.trans (hb3.mono hbwr.size)
      have hb4 : Below B w0 w2 := hb.trans (hbw2.mono hB)
      have hq2 := (hb3.block w.heap.size (by omega)).trans ((hbr.block w.heap.size (by omega)).trans HBX.out)
      have p0 : w2.cell? ⟨w.heap.size, 0, none⟩ = some (.slice A nodes.length c) := by rw [cell_of_row _ _ _ _ _ _ hq2]; rfl
      have p1 : w2.cell? ⟨w.heap.size, 1, none⟩ = some (.slice As names.length cs) := by rw [cell_of_row _ _ _ _ _ _ hq2]; rfl
      have hlim : ∀ q ∈ grps nodes, q < nodes.length := grps_lt HGR.out (by omega)
      have hgl := own_cap hrow
      have hgc : (grps nodes).length ≤ 9223372036854775807 := by omega
      have HOG := Lib.hid (opened_grps ⟨nodes, names, raw⟩)
      dsimp only at HOG
      have HRW := Lib.hid hrow
      have HLM := Lib.hid hlim
      clear hq2 q0 q1 q2 hrow hlim hgl
      by_cases l1 : (grps nodes).length = names.length
      case neg =>
        have l1' : (((grps nodes).length : Int) != (names.length : Int)) = true := by simp; omega
        have HT0 : Hid (treeOk ⟨nodes, names, raw⟩ = false) := Lib.hid (by rw [HT1.out, HOG.out, decide_eq_false l1]; rfl)
        clear l1
        generalize (grps nodes).length = GL at *
        go_wp2
        go_ret
        exact ⟨ret_int (by rw [HT0.out]; rfl), hbw2⟩
      have l1' : (((grps nodes).length : Int) != (names.length : Int)) = false := by simp; omega
      have HT2 : Hid (treeOk ⟨nodes, names, raw⟩ = (List.range (grps nodes).length).all fun i => decide ((nodes.getD ((grps nodes).getD i 0) default).group = (i : Int) + 1)) := Lib.hid (by rw [HT1.out, HOG.out, decide_eq_true l1]; rfl)
      clear l1
      generalize hgs : grps nodes = gs at *
      go_wp2
      go_loopw [11] (fun v11 wi => ∃ i : Nat, i ≤ gs.length ∧ v11 = .int .i64 i ∧ (∀ q, q < i → (nodes.getD (gs.getD q 0) default).group = (q : Int) + 1) ∧ ∃ m, wi = w2.drewN m) (fun v11 _ => gs.length - (intOf v11).toNat)
      case atStart => exact ⟨0, by omega, rfl, by omega, 0, rfl⟩
      case round =>
        obtain ⟨i, hi2, rfl, hall, nd2, rfl⟩ := hrel
        have HALL := Lib.hid hall
        clear hall
        by_cases hlt2 : i < gs.length
        · have hgi := getD_at gs i 0 hlt2
          have hlm := HLM.out _ (List.getElem_mem hlt2)
          obtain ⟨go_, capo, hso⟩ : ∃ go_ capo, Value.slice Ao gs.length co = .slice (some ⟨go_, 0, none⟩) gs.length capo := by
            rcases HRW.out.2 with ⟨_, h'⟩ | ⟨gf, cap, cur, h, _⟩
            · omega
            · exact ⟨gf, cap, h⟩
          injection hso with hso1 _ hso2
          subst hso1 hso2
          have co1 : w2.cell? ⟨go_, i, none⟩ = some (.int .i64 ((gs.getD i 0 : Nat) : Int)) := by
            rw [HRW.out.cellAt i (by omega), List.getElem?_map, List.getElem?_eq_getElem hlt2, ← hgi]
            rfl
          rw [hgi] at hlm
          obtain ⟨b, o, rfl, hNd⟩ := HN.out (by omega)
          have hnk := (hNd (gs.getD i 0) hlm).group w2 hb4
          rw [getD_at nodes (gs.getD i 0) default hlm] at hnk
          have HX : Hid (∀ x, x = (nodes.getD (gs.getD i 0) default).group → x ≠ (i : Int) + 1 → treeOk ⟨nodes, names, raw⟩ = false) := Lib.hid (fun x hx hne2 => by
            rw [HT2.out, List.all_eq_false]
            exact ⟨i, by simpa using hlt2, by rw [← hx]; simpa using hne2⟩)
          have HY : Hid (∀ x, x = (nodes.getD (gs.getD i 0) default).group → x = (i : Int) + 1 → ∀ q, q < i + 1 → (nodes.getD (gs.getD q 0) default).group = (q : Int) + 1) := Lib.hid (fun x hx hee q hq => by
            by_cases e : q = i
            · rw [e, ← hx, hee]
            · exact HALL.out q (by omega))
          generalize hgx : (nodes.getD (gs.getD i 0) default).group = gx at *
          have HGX := Lib.hid hgx.symm
          clear hgx hNd hgi
          generalize gs.getD i 0 = gq at *
          by_cases hne2 : gx = (i : Int) + 1
          · have hneb : (gx != (i : Int) + 1) = false := by simp [hne2]
            have HZ := Lib.hid (HY.out gx rfl hne2)
            clear hne2
            go_wp2
            go_quiet (fail)
            go_wp2
            go_roundw
            case rel => exact ⟨i + 1, by omega, by go_num, HZ.out, by first | exact ⟨_, rfl⟩ | exact ⟨_, World.drewN_drewN ..⟩⟩
            case measure => simp [intOf]; omega
          · have hneb : (gx != (i : Int) + 1) = true := by simp [hne2]
            have HZ := Lib.hid (HX.out gx rfl hne2)
            clear hne2
            go_wp2
            go_quiet (fail)
            go_wp2
            go_ret
            exact ⟨ret_int (by rw [HZ.out]; rfl), by first | exact below_drewN hbw2 _ | exact below_drewN (below_drewN hbw2 _) _⟩
        · obtain rfl : i = gs.length := by omega
          have HZ : Hid (treeOk ⟨nodes, names, raw⟩ = true) := Lib.hid (by
            rw [HT2.out, List.all_eq_true]
            intro q hq
            rw [decide_eq_true_eq]
            exact HALL.out q (by simpa using hq))
          go_wp2
          go_ret
          exact ⟨ret_int (by rw [HZ.out]; rfl), below_drewN hbw2 _⟩
end Go.Proofs.YtmbboianghbjkaaDoor

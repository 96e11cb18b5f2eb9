import Derived.Test.YtmbboianghbjkaaDoorPlainTree
import Derived.Test.YtmbboianghbjkaaDoorMarks
import Derived.Test.YtmbboianghbjkaaDoorBack2
import Derived.Test.YtmbboianghbjkaaDoorRows2
import Derived.Maps.OwnIn
namespace Go.Proofs.YtmbboianghbjkaaDoor
open Go.RowKit Go.Shelf
set_option linter.unusedVariables false
set_option linter.unusedSimpArgs false
attribute [local go_sem] bl_refl bl_alloc bl_a2 bl_a3 bl_a4 bl_a5 bl_set bl_drew bl_drewN le_add_r lt_add_r addr_add Ex.old Oper.semAt_some

set_option maxRecDepth 100000 in
set_option maxHeartbeats 2000000 in
theorem opened_any (B : Nat) (w0 w : World) (nv sv : Value) (t : Tree) (fr dp : List Int) (hb : Below B w0 w) (hB : B ≤ w.heap.size) (ht : TreeV B w0 nv sv t) (hN : t.nodes.length ≤ 2000) (hN0 : 0 < t.nodes.length)
    (hgr : growTo t.raw t.nodes t.nodes.length = some (fr, dp)) (hfr : fr.length = 1) (hnm : t.names.length ≤ 40) :
    Calls Tryd.prog 96 #[.agg #[nv, sv, .bool t.raw]] w fun e w' => e = .returned (.bool (openedOk t)) ∧ Below w.heap.size w w' := by
  obtain ⟨i0, hi, hz0, hz1, hz2⟩ := info_parts info_tInt
  obtain ⟨A, c, rfl, h1, h2, h3⟩ := ht.nodes
  obtain ⟨As, cs, rfl, hs1, hs2, hs3⟩ := ht.names
  obtain ⟨nodes, names, raw⟩ := t
  dsimp only at *
  have HN := Lib.hid h3
  have HT := Lib.hid ht
  have HGR := Lib.hid hgr
  have HFR := Lib.hid hfr
  clear h3 ht h1 h2 hgr hfr hs1 hs2 hs3
  have d0 := box_cell w #[.slice A nodes.length c, .slice As names.length cs, .bool raw] 35 0 _ rfl
  have d1 := box_cell w #[.slice A nodes.length c, .slice As names.length cs, .bool raw] 35 1 _ rfl
  refine calls_of_wp_marks Tryd.func96 rfl ?_
  simp only [Tryd.ntmps96, List.size_toArray, List.length_cons, List.length_nil, Nat.reduceAdd, Nat.reduceSub, Array.replicate_succ, Array.replicate_zero, List.push_toArray, List.append_toArray, List.nil_append, List.cons_append]
  go_wp2
  refine wp_loop_ghost_k (fun n a wr => ∃ (want : Int) (L : List Nat) (v : Value) (ds : List Nat) (u2 u5 u6 u7 u13 u14 u15 u16 u17 u18 u19 u20 u21 u22 u23 u24 u25 u26 u27 u28 u29 u30 u31 u32 u33 u34 u35 u36 u37 u38 u39 u40 u41 u42 u43 u44 u45 u46 u47 u48 u49 u50 u51 u52 u53 : Value), a = { tmps := #[.agg #[.slice A nodes.length c, .slice As names.length cs, .bool raw], .pointer (some ⟨w.heap.size, 0, none⟩), u2, .int .i64 want, .pointer (some ⟨w.heap.size + 1 + 1, 0, none⟩), u5, u6, u7, .pointer (some ⟨w.heap.size, 0, none⟩), .slice A nodes.length c, .int .i64 nodes.length, .int .i64 ((nodes.length : Int) - 1), .slice (some ⟨w.heap.size + 1, 0, none⟩) 1 1, u13, u14, u15, u16, u17, u18, u19, u20, u21, u22, u23, u24, u25, u26, u27, u28, u29, u30, u31, u32, u33, u34, u35, u36, u37, u38, u39, u40, u41, u42, u43, u44, u45, u46, u47, u48, u49, u50, u51, u52, u53], defers := ds.map mark } ∧
     n = ((L.reverse).flatMap (pre nodes)).length ∧ (∀ q ∈ L, q < nodes.length) ∧ opn (pre nodes (nodes.length - 1)) 0 = opn ((L.reverse).flatMap (pre nodes)) want ∧ 0 ≤ want ∧ want + n ≤ nodes.length ∧
     Boxed wr (w.heap.size + 1 + 1) 74 v ∧ wr.ownsRow (w.heap.size + 1) 3 1 v L.length (L.map (fun q : Nat => Value.int .i64 q)) ∧
     Below (w.heap.size + 1) (w.alloc (.cells #[.slice A nodes.length c, .slice As names.length cs, .bool raw] 35)) wr ∧ MarksAt ds wr ∧ ds.Nodup ∧ (∀ D ∈ ds, w.heap.size + 1 + 1 < D)) nodes.length ?atStart ?round
  case atStart =>
    have hk := grown_kids HGR.out
    have hsz := grown_size HGR.out HFR.out
    have eN : ((nodes.length : Int) - 1) = ((nodes.length - 1 : Nat) : Int) := by omega
    refine ⟨0, [nodes.length - 1], .slice (some ⟨w.heap.size + 1, 0, none⟩) 1 1, ([] : List Nat), _, _, _, _, _, _, _, _, _, _, _, _, _, _, _, _, _, _, _, _, _, _, _, _, _, _, _, _, _, _, _, _, _, _, _, _, _, _, _, _, _, _, _, _, _, rfl, by simp [hsz], by simp; omega, by simp, by omega, by omega, ?_, ?_, ?_, fun D h => by simp at h, by simp, fun D h => by simp at h⟩
    · have h := Boxed.new ((w.alloc (.cells #[.slice A nodes.length c, .slice As names.length cs, .bool raw] 35)).alloc (.cells #[.int .i64 ((nodes.length : Int) - 1)] 3)) 74 (.slice (some ⟨w.heap.size + 1, 0, none⟩) 1 1)
      simpa using h
    · refine World.ownsRow.alloc ?_ _
      rw [eN]
      have h := World.ownsRow_lit (w.alloc (.cells #[.slice A nodes.length c, .slice As names.length cs, .bool raw] 35)) #[.int .i64 ((nodes.length - 1 : Nat) : Int)] 1 (base := w.heap.size + 1) (e := 3) (size := 1) (by simp) (by unfold maxLen; omega) rfl
      simpa using h
    · exact ((Below.refl _ _).alloc (by simp) _).alloc (by simp) _
  case round =>
    rintro n _ wr ⟨want, L, v, ds, u2, u5, u6, u7, u13, u14, u15, u16, u17, u18, u19, u20, u21, u22, u23, u24, u25, u26, u27, u28, u29, u30, u31, u32, u33, u34, u35, u36, u37, u38, u39, u40, u41, u42, u43, u44, u45, u46, u47, u48, u49, u50, u51, u52, u53, rfl, hn, hL, ho, hw0, hw1, hbx, hrow, hbr, hmk, hnd, hds⟩ J K hJ hK
    have hbw : Below w.heap.size w (w.alloc (.cells #[.slice A nodes.length c, .slice As names.length cs, .bool raw] 35)) := (Below.refl _ _).alloc (Nat.le_refl _) _
    have hsz : w.heap.size + 1 + 1 < wr.heap.size := hbx.lt
    have hb2 : Below B w0 wr := hb.trans ((hbw.trans (hbr.mono (by omega))).mono hB)
    have hbc := hbx.cell
    have hbf := hbx.frozen
    rcases List.eq_nil_or_concat L with rfl | ⟨L', q, hLq⟩
    · obtain ⟨Av, cv, rfl⟩ := own_form hrow
      have HO := Lib.hid ho
      have HB := Lib.hid hbx
      have HMK := Lib.hid hmk
      clear hn hL ho hJ hK hbx hrow hmk
      go_wp2
      refine post_marks1 (v := .bool (want == (names.length : Int))) rfl rfl ds (w.heap.size + 1) rfl HMK.out hnd (fun D h => by have := hds D h; omega) (fun W' h => ⟨ret_bool ?_, (hbw.trans (hbr.mono (by omega))).trans (h.mono (by omega))⟩)
      unfold openedOk
      dsimp only
      rw [HO.out, Bool.eq_iff_iff]
      simp [opn]
    · rw [List.concat_eq_append] at hLq
      subst hLq
      have hq : q < nodes.length := hL q (by simp)
      have hk := grown_kids HGR.out
      have hpq := pre_eq hk q hq
      rw [List.reverse_append, List.flatMap_append, List.reverse_singleton, List.flatMap_cons, List.flatMap_nil, List.append_nil, hpq] at hn ho
      obtain ⟨b, o, rfl, hNd⟩ := HN.out (by omega)
      have hnk := hNd q hq
      have hkq := hk q hq
      rw [getD_at nodes q default hq] at hnk
      generalize nodes.getD q default = nd at *
      obtain ⟨op, set, kids, mn, mx, lz, gr, lk⟩ := nd
      obtain ⟨g0, ⟨kv, g1, hset⟩, ⟨vk, g2, hkids⟩, g3, g4, g5, g6, g7⟩ := hnk
      dsimp only at *
      have HK := Lib.hid hkids
      obtain ⟨Ak, ck, rfl, hk1, hk2, hk3⟩ := hkids
      obtain ⟨As2, cs2, rfl, hs1, hs2, hs3⟩ := hset
      rw [List.length_append, List.length_singleton] at hrow
      obtain ⟨g, cap, rfl⟩ := ownsRow_succ hrow
      have hce : wr.cell? ⟨g, L'.length, none⟩ = some (.int .i64 (q : Int)) := by rw [hrow.cellAt L'.length (by omega)]; simp
      have hgl : g < wr.heap.size := (hrow.lt g rfl).2
      have hzz1 : w.heap.size + 1 ≤ wr.heap.size := by omega
      have hz2' : w.heap.size < wr.heap.size := by omega
      have hz4 : B ≤ wr.heap.size := by omega
      have HROW := Lib.hid hrow
      have HO := Lib.hid ho
      have HN2 := Lib.hid hn
      have hbd : L'.length + kids.length + 1 ≤ nodes.length := by
        have e1 := flat_len nodes (fun q : Int => q.toNat) kids
        have e2 := flat_len nodes id L'.reverse
        simp only [id, List.length_reverse] at e2
        rw [List.cons_append, List.length_cons, List.length_append] at hn
        have e3 : (L'.reverse.flatMap (pre nodes)).length = (L'.reverse.flatMap (fun q => pre nodes q)).length := rfl
        omega
      have HBX := Lib.hid hbx
      have HMK := Lib.hid hmk
      have HKQ := Lib.hid hkq
      have HL := Lib.hid hL
      have HJ := Lib.hid hJ
      have hlen : L'.length + 1 ≤ 9223372036854775807 := by have := (own_cap hrow); omega
      clear hs3 hk3 hs1 hs2 hNd hpq hk hn ho hbx hrow hmk hkq hL
      go_upto_region 4 with (fail)
      go_cut [5] from 13 to 48 (fun v5 wc => v5 = .pointer (some ⟨wr.heap.size, 0, none⟩) ∧ wc.heap[wr.heap.size]? = some (.cells #[.int .i64 op, .slice As2 set.length cs2, .slice Ak kids.length ck, .int .i64 mn, .int .i64 mx, .bool lz, .int .i64 gr, .int .i64 lk] 80 (0, 0)) ∧ Below wr.heap.size wr wc)
      case first =>
        go_region
        all_goals
          go_wp2
          go_meet
          case rel => exact ⟨rfl, World.alloc_heap_new wr _, ((Below.refl _ _).alloc (Nat.le_refl _) _).drew⟩
      case rest =>
        obtain ⟨rfl, hnb, hbc2⟩ := hcut
        have hbX : Boxed wc (w.heap.size + 1 + 1) 74 (.slice (some ⟨g, 0, none⟩) (L'.length + 1) cap) := (hbc2.block _ (by omega)).trans HBX.out
        have hrX := own_below HROW.out hbc2
        have hmX : MarksAt ds wc := HMK.out.below fun D h => hbc2.block D (Array.getElem?_eq_some_iff.1 (HMK.out D h)).1
        have hbrX := hbr.trans (hbc2.mono (by omega))
        have hb2X := hb2.trans (hbc2.mono (by omega))
        have hgt : ∀ D ∈ ds, D < wr.heap.size := fun D h => (Array.getElem?_eq_some_iff.1 (HMK.out D h)).1
        have hszX : wr.heap.size < wc.heap.size := (Array.getElem?_eq_some_iff.1 hnb).1
        have n0 : wc.cell? ⟨wr.heap.size, 0, none⟩ = some (.int .i64 op) := by simp [World.cell?, hnb]
        have n2 : wc.cell? ⟨wr.heap.size, 2, none⟩ = some (.slice Ak kids.length ck) := by simp [World.cell?, hnb]
        have n6 : wc.cell? ⟨wr.heap.size, 6, none⟩ = some (.int .i64 gr) := by simp [World.cell?, hnb]
        have hbcX := hbX.cell
        have hbfX := hbX.frozen
        have HB3 := Lib.hid hbX
        have HR3 := Lib.hid hrX
        have HM3 := Lib.hid hmX
        have HD3 := Lib.hid hgt
        clear hbX hrX hmX hgt hnb hbc hbf hce g0 g1 g2 g3 g4 g5 g6 g7 HBX HROW HMK
        have hcap2 : (L'.length : Int) ≤ (cap : Int) := by have := own_cap HR3.out; omega
        go_upto_if 33 with (fail)
        go_cut [3] from 34 to 39 (fun v3 wx => v3 = .int .i64 (if op = 5 then want + 1 else want) ∧ (op = 5 → gr = want + 1) ∧ wx = wc.setCell ⟨w.heap.size + 1 + 1, 0, none⟩ (.slice (some ⟨g, 0, none⟩) L'.length cap))
        case first =>
          by_cases o5 : op = 5
          · subst o5
            have hwn : want ≤ 2000 := by omega
            by_cases hgw : gr = want + 1
            · subst hgw
              go_wp2
              go_meet
              case rel => exact ⟨by simp, by simp, rfl⟩
            · have hgw' : (gr != want + 1) = true := by simp [hgw]
              have HW := Lib.hid hgw
              clear hgw
              go_wp2
              refine post_marks1 (v := .bool false) rfl rfl ds (w.heap.size + 1) rfl ?_ hnd (fun D h => by have := hds D h; omega) (fun W' h => ⟨ret_bool ?_, ?_⟩)
              · exact HM3.out.below fun D h => Below.heap_setCell _ _ _ D (by have := hds D h; simp; omega)
              · unfold openedOk
                dsimp only
                rw [HO.out]
                simp [opn, HW.out]
              · exact (hbw.trans (hbrX.mono (by omega))).trans (((Below.refl w.heap.size wc).setCell (p := ⟨w.heap.size + 1 + 1, 0, none⟩) (by simp; omega) _).trans (h.mono (by omega)))
          · have o5' : (op == 5) = false := by simpa using o5
            go_wp2
            go_meet
            case rel => exact ⟨by simp [o5], fun h => absurd h o5, rfl⟩
        case rest =>
          obtain ⟨rfl, hg5, rfl⟩ := hcut
          have hpop : wc.ownsRow (w.heap.size + 1) 3 1 (.slice (some ⟨g, 0, none⟩) L'.length cap) L'.length (L'.map (fun q : Nat => Value.int .i64 q)) := ownsRow_pop (by simp) (by have := HR3.out; rwa [List.map_append] at this)
          have hne : some (w.heap.size + 1 + 1) ≠ (Value.slice (some ⟨g, 0, none⟩) L'.length cap).ownBlock := HB3.out.not_row (by decide) hpop
          have hb3 : Boxed (wc.setCell ⟨w.heap.size + 1 + 1, 0, none⟩ (.slice (some ⟨g, 0, none⟩) L'.length cap)) (w.heap.size + 1 + 1) 74 (.slice (some ⟨g, 0, none⟩) L'.length cap) := HB3.out.set _
          have hr3 : (wc.setCell ⟨w.heap.size + 1 + 1, 0, none⟩ (.slice (some ⟨g, 0, none⟩) L'.length cap)).ownsRow (w.heap.size + 1) 3 1 (.slice (some ⟨g, 0, none⟩) L'.length cap) L'.length (L'.map (fun q : Nat => Value.int .i64 q)) :=
            hpop.kept (grownBy_setCell' _ _ _) (Or.inr hne.symm)
          have n3 : (wc.setCell ⟨w.heap.size + 1 + 1, 0, none⟩ (.slice (some ⟨g, 0, none⟩) L'.length cap)).cell? ⟨wr.heap.size, 2, none⟩ = some (.slice Ak kids.length ck) := (grownBy_setCell' _ _ _).cell n2 (by simp; omega)
          have hm3 : MarksAt ds (wc.setCell ⟨w.heap.size + 1 + 1, 0, none⟩ (.slice (some ⟨g, 0, none⟩) L'.length cap)) := HM3.out.below fun D h => Below.heap_setCell _ _ _ D (by have := hds D h; simp; omega)
          have hbr3 := hbrX.setCell (p := ⟨w.heap.size + 1 + 1, 0, none⟩) (by simp) (.slice (some ⟨g, 0, none⟩) L'.length cap)
          have hb23 := hb2X.setCell (p := ⟨w.heap.size + 1 + 1, 0, none⟩) (by simp; omega) (.slice (some ⟨g, 0, none⟩) L'.length cap)
          have hs3 : wc.heap.size = (wc.setCell ⟨w.heap.size + 1 + 1, 0, none⟩ (.slice (some ⟨g, 0, none⟩) L'.length cap)).heap.size := by simp
          have HB4 := Lib.hid hb3
          have HR4 := Lib.hid hr3
          have HM4 := Lib.hid hm3
          have HS4 := Lib.hid hs3
          clear hb3 hr3 hm3 hs3 hne n0 n2 n6 HB3 HR3 HM3 hbcX hbfX hbc2
          generalize wc.setCell ⟨w.heap.size + 1 + 1, 0, none⟩ (.slice (some ⟨g, 0, none⟩) L'.length cap) = W3 at *
          rw [HS4.out] at hszX
          obtain ⟨want', hw'⟩ : ∃ x : Int, x = (if op = 5 then want + 1 else want) := ⟨_, rfl⟩
          rw [← hw']
          have HW' := Lib.hid hw'
          clear hw' hpop
          go_wp2_with (go_at_call 77; refine (back_any _ _ _ _).mono ?_; rintro e w' ⟨rfl, rfl⟩)
          obtain ⟨b2, o2, hA2, hI2⟩ : ∃ b2 o2, (0 < kids.length → Ak = some ⟨b2, o2, none⟩) ∧ ∀ k (h : k < kids.length), IntAt B w0 b2 (o2 + k) kids[k] := by
            obtain ⟨A', c', e, _, _, h⟩ := HK.out
            injection e with e1 e2 e3
            subst e1
            rcases Nat.eq_zero_or_pos kids.length with h0 | hp
            · exact ⟨0, 0, fun h => absurd h (by omega), fun k h => absurd h (by omega)⟩
            · obtain ⟨b2, o2, e, h⟩ := h hp
              exact ⟨b2, o2, fun _ => e, fun k hk => by simpa using h k hk⟩
          have hkl : kids.length ≤ 9223372036854775807 := by
            obtain ⟨A', c', e, h1, h2, _⟩ := HK.out
            omega
          have hRdOf : ∀ W, Below B w0 W → Boxed W W3.heap.size 74 (.slice Ak kids.length ck) → BackRd W3.heap.size (.slice Ak kids.length ck) b2 o2 kids W := by
            intro W hW hbk
            refine ⟨hbk.cell, fun k hk => ?_⟩
            rw [(hI2 k hk).at_ W hW]
            simp [hk]
          refine wp_range_back (α := Nat) W3.heap.size b2 o2 ck Ak kids hA2 hkl rfl id (fun k => #[.int .i64 ((kids.length : Int) - 1 - k), .int .i64 (kids[kids.length - 1 - k]?.getD 0)]) (fun _ => rfl) (fun _ _ => rfl) ?hRd
            (fun pr W => ∃ v', Boxed W (w.heap.size + 1 + 1) 74 v' ∧ W.ownsRow (w.heap.size + 1) 3 1 v' (L'.length + pr.length) (L'.map (fun q : Nat => Value.int .i64 q) ++ pr.map (fun k => Value.int .i64 (kids[kids.length - 1 - k]?.getD 0))) ∧
              Below (w.heap.size + 1) W3 W ∧ Boxed W W3.heap.size 74 (.slice Ak kids.length ck) ∧ MarksAt ds W) ?hI ?h0 ?a1 ?hassign ?hbody ?hdone
          case hRd =>
            intro W hW
            exact hRdOf W (hb23.trans (((Below.refl B W3).alloc (by omega) _).trans (hW.mono (by simp; omega)))) ((hW.block _ (by simp)).trans (Boxed.new W3 _ _))
          case hI =>
            rintro pr W W' row ⟨v', h1, h2, h3, h4, h5⟩ hg hr
            have hr' := fun r e => (hr r e).2
            refine ⟨v', boxed_other h1 hg hr', row_other h2 hg hr', h3.grown hg (by have := h1.lt; omega) (fun r e => by have := (hr r e).1; simp at this; omega), boxed_other h4 hg hr', h5.grown hg (fun r e hm => ?_)⟩
            have h6 := (hr r e).1
            have h7 := HD3.out r hm
            simp at h6
            omega
          case h0 =>
            exact ⟨_, HB4.out.alloc _, by simpa using HR4.out.alloc _, (Below.refl _ _).alloc (by omega) _, Boxed.new _ _ _, HM4.out.others (KeepsOthers.alloc _ _)⟩
          case hassign =>
            intro l x W K hK
            gi_wp2
            exact hK
          case hbody =>
            rintro l pr x W ⟨v', h1, h2, h3, h4, h5⟩ hlt
            obtain ⟨A', c', rfl⟩ := own_form h2
            have k1 := h1.cell
            have k2 := h1.frozen
            gi_wp2_with (gi_at_builtin; go_must (refine wpListIn_append_own (W.alloc (.cells #[.int .i64 (kids[kids.length - 1 - x]?.getD 0)] 3)) rfl _ _ 74 rfl (w.heap.size + 1) 3 i0 (.int .i64 0) 1 8 Tryd.underlying74 hi hz0 hz1 hz2 rfl (by decide) _ (L'.length + pr.length) (L'.map (fun q : Nat => Value.int .i64 q) ++ pr.map (fun k => Value.int .i64 (kids[kids.length - 1 - k]?.getD 0))) rfl (h2.alloc _) ⟨W.heap.size, 0, none⟩ 1 1 [.int .i64 (kids[kids.length - 1 - x]?.getD 0)] rfl rfl (cell_one_new _ _ _) (by simp [Value.oneCell']) (by unfold maxLen; omega) (by omega) (by have := h1.lt; simp; omega) ?_); intro v' w4 hown' hgrow' _; obtain ⟨g', cap', rfl⟩ := ownsRow_succ hown'; obtain ⟨p1, p2, p3, p4, p5⟩ := Boxed.appended h1 (by decide) h2 (by have := h1.lt; omega) (by omega) hown' hgrow'; have p6 := p1.cell; have p7 := p1.frozen)
            have hg4 := (h4.alloc _).kept hgrow' (h4.not_row (by decide) h2)
            have hg5 := hg4.other (by omega : W3.heap.size ≠ w.heap.size + 1 + 1) (.slice (some ⟨g', 0, none⟩) (L'.length + pr.length + 1) cap')
            have hl2 := h1.lt
            have h3' := h3.trans p5
            refine ⟨p4.from _, fun _ => hRdOf _ (hb23.trans (h3'.mono (by omega))) hg5, _, p2, ?_, h3', hg5, h5.others p4⟩
            simpa [List.append_assoc, Nat.add_assoc] using p3
          case hdone =>
            rintro D W hD ⟨v', h1, h2, h3, h4, h5⟩ hD2
            rw [back_list] at h2
            have hkn : ∀ q ∈ kids, 0 ≤ q := fun q h => (HKQ.out q h).1
            have hrv : (L' ++ kids.reverse.map Int.toNat).reverse.flatMap (pre nodes) = kids.flatMap (fun q => pre nodes q.toNat) ++ L'.reverse.flatMap (pre nodes) := by
              rw [List.reverse_append, ← List.map_reverse, List.reverse_reverse, List.flatMap_append, List.flatMap_map]
            have hn3 : n = ((L' ++ kids.reverse.map Int.toNat).reverse.flatMap (pre nodes)).length + 1 := by
              rw [hrv, HN2.out, List.cons_append, List.length_cons]
            have hw5 : want ≤ want' ∧ want' ≤ want + 1 := by
              have := HW'.out
              split at this <;> omega
            have hop := HO.out
            rw [List.cons_append, opn_step _ _ want want' HW'.out hg5, ← hrv] at hop
            have hlD := h1.lt
            simp at hD
            refine hK _ _ ⟨_, (by omega : ((L' ++ kids.reverse.map Int.toNat).reverse.flatMap (pre nodes)).length < n), HJ.out _ _ _ ⟨want', L' ++ kids.reverse.map Int.toNat, v', D :: ds, _, _, _, _, _, _, _, _, _, _, _, _, _, _, _, _, _, _, _, _, _, _, _, _, _, _, _, _, _, _, _, _, _, _, _, _, _, _, _, _, _, _, _, _, _, rfl, rfl, ?_, hop, by omega, by omega, h1, ?_, hbr3.trans h3, ?_, ?_, ?_⟩⟩
            · intro q' hq'
              rcases List.mem_append.1 hq' with h | h
              · exact HL.out q' (by simp [h])
              · obtain ⟨x, hx, rfl⟩ := List.mem_map.1 h
                have := HKQ.out x (by simpa using hx)
                omega
            · have e1 : L'.length + (upto id kids.length).length = (L' ++ kids.reverse.map Int.toNat).length := by simp [upto_length]
              rw [e1] at h2
              rw [nat_list _ (fun q h => hkn q (by simpa using h)), ← List.map_append] at h2
              exact h2
            · intro E hE
              rcases List.mem_cons.1 hE with rfl | hE
              · exact hD2
              · exact h5 E hE
            · refine List.nodup_cons.2 ⟨fun h => ?_, hnd⟩
              have := HD3.out D h
              omega
            · intro E hE
              rcases List.mem_cons.1 hE with rfl | hE
              · omega
              · exact hds E hE
end Go.Proofs.YtmbboianghbjkaaDoor

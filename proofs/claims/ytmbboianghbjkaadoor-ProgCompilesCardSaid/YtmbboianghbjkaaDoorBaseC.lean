import Derived.Test.YtmbboianghbjkaaDoorBaseA
import Derived.Test.YtmbboianghbjkaaDoorBaseB
import Derived.Maps.OwnIn
import Derived.Maps.AppendAt
import Derived.Deep.RegionHeld3
import Derived.Deep.AppendLies
import Derived.Deep.RegionLaw
import Derived.Deep.DeepMust
import Derived.Laws.Rows
-- part Rows2
namespace Go.Proofs.YtmbboianghbjkaaDoor
open Go.RowKit Go.Shelf

theorem boxed_other {X Y : World} {row : Option Nat} {B : Nat} {t : TypeId} {v : Value} (hv : Boxed X B t v) (hg : X.grownBy Y row) (hrow : ∀ r, row = some r → ∃ o : Obj, X.heap[r]? = some o ∧ o.isCells = false) : Boxed Y B t v :=
  hv.kept hg (fun e' => by
    obtain ⟨o, ho, hc⟩ := hrow B e'.symm
    rw [show X.heap[B]? = _ from hv] at ho; cases ho; cases hc)
theorem row_other {X Y : World} {row : Option Nat} {base k : Nat} {e : TypeId} {size : Nat} {v : Value} {xs : List Value} (hr : X.ownsRow base e size v k xs) (hg : X.grownBy Y row) (hrow : ∀ r, row = some r → ∃ o : Obj, X.heap[r]? = some o ∧ o.isCells = false) : Y.ownsRow base e size v k xs := by
  refine hr.kept hg ?_
  rcases hr.2 with ⟨rfl, _⟩ | ⟨g, cap, cur, rfl, _, hgb, _⟩
  · exact .inl rfl
  · refine .inr fun e' => ?_
    obtain ⟨o, ho, hc⟩ := hrow g (by simpa [Value.ownBlock] using e'.symm)
    rw [hgb] at ho; cases ho; cases hc
theorem MarksAt.others {ds : List Nat} {W W' : World} (h : MarksAt ds W) (k : KeepsOthers W W') : MarksAt ds W' := fun D hD => k.same D _ (h D hD) rfl
theorem MarksAt.lt {ds : List Nat} {W : World} (h : MarksAt ds W) : ∀ D ∈ ds, D < W.heap.size := fun D h' => (Array.getElem?_eq_some_iff.1 (h D h')).1
theorem MarksAt.grown {ds : List Nat} {W W' : World} {row : Option Nat} (h : MarksAt ds W) (hg : W.grownBy W' row) (hrow : ∀ r, row = some r → r ∉ ds) : MarksAt ds W' :=
  fun D hD => (hg.block D (h.lt D hD) (fun e => hrow D e.symm hD)).trans (h D hD)
theorem pre_pos (nodes : List Node) (i : Nat) : 1 ≤ (pre nodes i).length := by unfold pre; rw [preF, List.length_cons]; omega
theorem flat_len {α : Type} (nodes : List Node) (f : α → Nat) (l : List α) : l.length ≤ (l.flatMap (fun q => pre nodes (f q))).length := by
  induction l with
  | nil => simp
  | cons x l ih => rw [List.flatMap_cons, List.length_append, List.length_cons]; have := pre_pos nodes (f x); omega
theorem back_list (kids : List Int) : (upto id kids.length).map (fun k => Value.int .i64 (kids[kids.length - 1 - k]?.getD 0)) = kids.reverse.map (Value.int .i64) := by
  apply List.ext_getElem
  · simp [upto]
  · intro i h1 h2
    simp only [List.length_map, List.length_reverse] at h2
    simp [upto, List.getElem?_eq_getElem (show kids.length - 1 - i < kids.length by omega)]
theorem nat_list (kids : List Int) (h : ∀ q ∈ kids, 0 ≤ q) : kids.map (Value.int .i64) = (kids.map Int.toNat).map (fun q : Nat => Value.int .i64 q) := by
  rw [List.map_map]
  refine List.map_congr_left fun q hq => ?_
  simp only [Function.comp]
  rw [Int.toNat_of_nonneg (h q hq)]
theorem opn_step (nd : Node) (r : List Node) (want want' : Int) (hw : want' = if nd.op = 5 then want + 1 else want) (hg : nd.op = 5 → nd.group = want + 1) : opn (nd :: r) want = opn r want' := by
  rw [opn]
  by_cases h : nd.op = 5
  · rw [if_pos h] at hw
    rw [if_pos h, if_pos (hg h), hw]
  · rw [if_neg h] at hw
    rw [if_neg h, hw]
end Go.Proofs.YtmbboianghbjkaaDoor

-- part Opened
namespace Go.Proofs.YtmbboianghbjkaaDoor
open Go.RowKit Go.Shelf
set_option linter.unusedVariables false
set_option linter.unusedSimpArgs false
attribute [local go_sem] bl_refl bl_alloc bl_a2 bl_a3 bl_a4 bl_a5 bl_set bl_drew bl_drewN le_add_r lt_add_r addr_add Ex.old Oper.semAt_some

set_option maxRecDepth 100000 in
set_option maxHeartbeats 2000000 in
theorem opened_any (B : Nat) (w0 w : World) (nv sv : Value) (t : Tree) (fr dp : List Int) (hb : Below B w0 w) (hB : B ≤ w.heap.size) (ht : TreeV B w0 nv sv t) (hN : t.nodes.length ≤ 2000) (hN0 : 0 < t.nodes.length)
    (hgr : growTo t.raw t.nodes t.nodes.length = some (fr, dp)) (hfr : fr.length = 1) (hnm : t.names.length ≤ 40) :
    Calls Tryd.prog 96 #[.agg #[nv, sv, .bool t.raw]] w fun e w' => e = .returned (.bool (openedOk t)) ∧ Below w.heap.size w w' := by
  obtain ⟨i0, hi, hz0, hz1, hz2⟩ := info_parts info_tInt
  obtain ⟨A, c, rfl, h1, h2, h3⟩ := ht.nodes
  obtain ⟨As, cs, rfl, hs1, hs2, hs3⟩ := ht.names
  obtain ⟨nodes, names, raw⟩ := t
  dsimp only at *
  have HN := Lib.hid h3
  have HT := Lib.hid ht
  have HGR := Lib.hid hgr
  have HFR := Lib.hid hfr
  clear h3 ht h1 h2 hgr hfr hs1 hs2 hs3
  have d0 := box_cell w #[.slice A nodes.length c, .slice As names.length cs, .bool raw] 35 0 _ rfl
  have d1 := box_cell w #[.slice A nodes.length c, .slice As names.length cs, .bool raw] 35 1 _ rfl
  refine calls_of_wp_marks Tryd.func96 rfl ?_
  simp only [Tryd.ntmps96, List.size_toArray, List.length_cons, List.length_nil, Nat.reduceAdd, Nat.reduceSub, Array.replicate_succ, Array.replicate_zero, List.push_toArray, List.append_toArray, List.nil_append, List.cons_append]
  go_wp2
  refine wp_loop_ghost_k (fun n a wr => ∃ (want : Int) (L : List Nat) (v : Value) (ds : List Nat) (u2 u5 u6 u7 u13 u14 u15 u16 u17 u18 u19 u20 u21 u22 u23 u24 u25 u26 u27 u28 u29 u30 u31 u32 u33 u34 u35 u36 u37 u38 u39 u40 u41 u42 u43 u44 u45 u46 u47 u48 u49 u50 u51 u52 u53 : Value), a = { tmps := #[.agg #[.slice A nodes.length c, .slice As names.length cs, .bool raw], .pointer (some ⟨w.heap.size, 0, none⟩), u2, .int .i64 want, .pointer (some ⟨w.heap.size + 1 + 1, 0, none⟩), u5, u6, u7, .pointer (some ⟨w.heap.size, 0, none⟩), .slice A nodes.length c, .int .i64 nodes.length, .int .i64 ((nodes.length : Int) - 1), .slice (some ⟨w.heap.size + 1, 0, none⟩) 1 1, u13, u14, u15, u16, u17, u18, u19, u20, u21, u22, u23, u24, u25, u26, u27, u28, u29, u30, u31, u32, u33, u34, u35, u36, u37, u38, u39, u40, u41, u42, u43, u44, u45, u46, u47, u48, u49, u50, u51, u52, u53], defers := ds.map mark } ∧
     n = ((L.reverse).flatMap (pre nodes)).length ∧ (∀ q ∈ L, q < nodes.length) ∧ opn (pre nodes (nodes.length - 1)) 0 = opn ((L.reverse).flatMap (pre nodes)) want ∧ 0 ≤ want ∧ want + n ≤ nodes.length ∧
     Boxed wr (w.heap.size + 1 + 1) 74 v ∧ wr.ownsRow (w.heap.size + 1) 3 1 v L.length (L.map (fun q : Nat => Value.int .i64 q)) ∧
     Below (w.heap.size + 1) (w.alloc (.cells #[.slice A nodes.length c, .slice As names.length cs, .bool raw] 35)) wr ∧ MarksAt ds wr ∧ ds.Nodup ∧ (∀ D ∈ ds, w.heap.size + 1 + 1 < D)) nodes.length ?atStart ?round
  case atStart =>
    have hk := grown_kids HGR.out
    have hsz := grown_size HGR.out HFR.out
    have eN : ((nodes.length : Int) - 1) = ((nodes.length - 1 : Nat) : Int) := by omega
    refine ⟨0, [nodes.length - 1], .slice (some ⟨w.heap.size + 1, 0, none⟩) 1 1, ([] : List Nat), _, _, _, _, _, _, _, _, _, _, _, _, _, _, _, _, _, _, _, _, _, _, _, _, _, _, _, _, _, _, _, _, _, _, _, _, _, _, _, _, _, _, _, _, _, rfl, by simp [hsz], by simp; omega, by simp, by omega, by omega, ?_, ?_, ?_, fun D h => by simp at h, by simp, fun D h => by simp at h⟩
    · have h := Boxed.new ((w.alloc (.cells #[.slice A nodes.length c, .slice As names.length cs, .bool raw] 35)).alloc (.cells #[.int .i64 ((nodes.length : Int) - 1)] 3)) 74 (.slice (some ⟨w.heap.size + 1, 0, none⟩) 1 1)
      simpa using h
    · refine World.ownsRow.alloc ?_ _
      rw [eN]
      have h := World.ownsRow_lit (w.alloc (.cells #[.slice A nodes.length c, .slice As names.length cs, .bool raw] 35)) #[.int .i64 ((nodes.length - 1 : Nat) : Int)] 1 (base := w.heap.size + 1) (e := 3) (size := 1) (by simp) (by unfold maxLen; omega) rfl
      simpa using h
    · exact ((Below.refl _ _).alloc (by simp) _).alloc (by simp) _
  case round =>
    rintro n _ wr ⟨want, L, v, ds, u2, u5, u6, u7, u13, u14, u15, u16, u17, u18, u19, u20, u21, u22, u23, u24, u25, u26, u27, u28, u29, u30, u31, u32, u33, u34, u35, u36, u37, u38, u39, u40, u41, u42, u43, u44, u45, u46, u47, u48, u49, u50, u51, u52, u53, rfl, hn, hL, ho, hw0, hw1, hbx, hrow, hbr, hmk, hnd, hds⟩ J K hJ hK
    have hbw : Below w.heap.size w (w.alloc (.cells #[.slice A nodes.length c, .slice As names.length cs, .bool raw] 35)) := (Below.refl _ _).alloc (Nat.le_refl _) _
    have hsz : w.heap.size + 1 + 1 < wr.heap.size := hbx.lt
    have hb2 : Below B w0 wr := hb.trans ((hbw.trans (hbr.mono (by omega))).mono hB)
    have hbc := hbx.cell
    have hbf := hbx.frozen
    rcases List.eq_nil_or_concat L with rfl | ⟨L', q, hLq⟩
    · obtain ⟨Av, cv, rfl⟩ := own_form hrow
      have HO := Lib.hid ho
      have HB := Lib.hid hbx
      have HMK := Lib.hid hmk
      clear hn hL ho hJ hK hbx hrow hmk
      go_wp2
      refine post_marks1 (v := .bool (want == (names.length : Int))) rfl rfl ds (w.heap.size + 1) rfl HMK.out hnd (fun D h => by have := hds D h; omega) (fun W' h => ⟨ret_bool ?_, (hbw.trans (hbr.mono (by omega))).trans (h.mono (by omega))⟩)
      unfold openedOk
      dsimp only
      rw [HO.out, Bool.eq_iff_iff]
      simp [opn]
    · rw [List.concat_eq_append] at hLq
      subst hLq
      have hq : q < nodes.length := hL q (by simp)
      have hk := grown_kids HGR.out
      have hpq := pre_eq hk q hq
      rw [List.reverse_append, List.flatMap_append, List.reverse_singleton, List.flatMap_cons, List.flatMap_nil, List.append_nil, hpq] at hn ho
      obtain ⟨b, o, rfl, hNd⟩ := HN.out (by omega)
      have hnk := hNd q hq
      have hkq := hk q hq
      rw [getD_at nodes q default hq] at hnk
      generalize nodes.getD q default = nd at *
      obtain ⟨op, set, kids, mn, mx, lz, gr, lk⟩ := nd
      obtain ⟨g0, ⟨kv, g1, hset⟩, ⟨vk, g2, hkids⟩, g3, g4, g5, g6, g7⟩ := hnk
      dsimp only at *
      have HK := Lib.hid hkids
      obtain ⟨Ak, ck, rfl, hk1, hk2, hk3⟩ := hkids
      obtain ⟨As2, cs2, rfl, hs1, hs2, hs3⟩ := hset
      rw [List.length_append, List.length_singleton] at hrow
      obtain ⟨g, cap, rfl⟩ := ownsRow_succ hrow
      have hce : wr.cell? ⟨g, L'.length, none⟩ = some (.int .i64 (q : Int)) := by rw [hrow.cellAt L'.length (by omega)]; simp
      have hgl : g < wr.heap.size := (hrow.lt g rfl).2
      have hzz1 : w.heap.size + 1 ≤ wr.heap.size := by omega
      have hz2' : w.heap.size < wr.heap.size := by omega
      have hz4 : B ≤ wr.heap.size := by omega
      have HROW := Lib.hid hrow
      have HO := Lib.hid ho
      have HN2 := Lib.hid hn
      have hbd : L'.length + kids.length + 1 ≤ nodes.length := by
        have e1 := flat_len nodes (fun q : Int => q.toNat) kids
        have e2 := flat_len nodes id L'.reverse
        simp only [id, List.length_reverse] at e2
        rw [List.cons_append, List.length_cons, List.length_append] at hn
        have e3 : (L'.reverse.flatMap (pre nodes)).length = (L'.reverse.flatMap (fun q => pre nodes q)).length := rfl
        omega
      have HBX := Lib.hid hbx
      have HMK := Lib.hid hmk
      have HKQ := Lib.hid hkq
      have HL := Lib.hid hL
      have HJ := Lib.hid hJ
      have hlen : L'.length + 1 ≤ 9223372036854775807 := by have := (own_cap hrow); omega
      clear hs3 hk3 hs1 hs2 hNd hpq hk hn ho hbx hrow hmk hkq hL
      go_upto_region 4 with (fail)
      go_cut [5] from 13 to 48 (fun v5 wc => v5 = .pointer (some ⟨wr.heap.size, 0, none⟩) ∧ wc.heap[wr.heap.size]? = some (.cells #[.int .i64 op, .slice As2 set.length cs2, .slice Ak kids.length ck, .int .i64 mn, .int .i64 mx, .bool lz, .int .i64 gr, .int .i64 lk] 80 (0, 0)) ∧ Below wr.heap.size wr wc)
      case first =>
        go_region
        all_goals
          go_wp2
          go_meet
          case rel => exact ⟨rfl, World.alloc_heap_new wr _, ((Below.refl _ _).alloc (Nat.le_refl _) _).drew⟩
      case rest =>
        obtain ⟨rfl, hnb, hbc2⟩ := hcut
        have hbX : Boxed wc (w.heap.size + 1 + 1) 74 (.slice (some ⟨g, 0, none⟩) (L'.length + 1) cap) := (hbc2.block _ (by omega)).trans HBX.out
        have hrX := own_below HROW.out hbc2
        have hmX : MarksAt ds wc := HMK.out.below fun D h => hbc2.block D (Array.getElem?_eq_some_iff.1 (HMK.out D h)).1
        have hbrX := hbr.trans (hbc2.mono (by omega))
        have hb2X := hb2.trans (hbc2.mono (by omega))
        have hgt : ∀ D ∈ ds, D < wr.heap.size := fun D h => (Array.getElem?_eq_some_iff.1 (HMK.out D h)).1
        have hszX : wr.heap.size < wc.heap.size := (Array.getElem?_eq_some_iff.1 hnb).1
        have n0 : wc.cell? ⟨wr.heap.size, 0, none⟩ = some (.int .i64 op) := by simp [World.cell?, hnb]
        have n2 : wc.cell? ⟨wr.heap.size, 2, none⟩ = some (.slice Ak kids.length ck) := by simp [World.cell?, hnb]
        have n6 : wc.cell? ⟨wr.heap.size, 6, none⟩ = some (.int .i64 gr) := by simp [World.cell?, hnb]
        have hbcX := hbX.cell
        have hbfX := hbX.frozen
        have HB3 := Lib.hid hbX
        have HR3 := Lib.hid hrX
        have HM3 := Lib.hid hmX
        have HD3 := Lib.hid hgt
        clear hbX hrX hmX hgt hnb hbc hbf hce g0 g1 g2 g3 g4 g5 g6 g7 HBX HROW HMK
        have hcap2 : (L'.length : Int) ≤ (cap : Int) := by have := own_cap HR3.out; omega
        go_upto_if 33 with (fail)
        go_cut [3] from 34 to 39 (fun v3 wx => v3 = .int .i64 (if op = 5 then want + 1 else want) ∧ (op = 5 → gr = want + 1) ∧ wx = wc.setCell ⟨w.heap.size + 1 + 1, 0, none⟩ (.slice (some ⟨g, 0, none⟩) L'.length cap))
        case first =>
          by_cases o5 : op = 5
          · subst o5
            have hwn : want ≤ 2000 := by omega
            by_cases hgw : gr = want + 1
            · subst hgw
              go_wp2
              go_meet
              case rel => exact ⟨by simp, by simp, rfl⟩
            · have hgw' : (gr != want + 1) = true := by simp [hgw]
              have HW := Lib.hid hgw
              clear hgw
              go_wp2
              refine post_marks1 (v := .bool false) rfl rfl ds (w.heap.size + 1) rfl ?_ hnd (fun D h => by have := hds D h; omega) (fun W' h => ⟨ret_bool ?_, ?_⟩)
              · exact HM3.out.below fun D h => Below.heap_setCell _ _ _ D (by have := hds D h; simp; omega)
              · unfold openedOk
                dsimp only
                rw [HO.out]
                simp [opn, HW.out]
              · exact (hbw.trans (hbrX.mono (by omega))).trans (((Below.refl w.heap.size wc).setCell (p := ⟨w.heap.size + 1 + 1, 0, none⟩) (by simp; omega) _).trans (h.mono (by omega)))
          · have o5' : (op == 5) = false := by simpa using o5
            go_wp2
            go_meet
            case rel => exact ⟨by simp [o5], fun h => absurd h o5, rfl⟩
        case rest =>
          obtain ⟨rfl, hg5, rfl⟩ := hcut
          have hpop : wc.ownsRow (w.heap.size + 1) 3 1 (.slice (some ⟨g, 0, none⟩) L'.length cap) L'.length (L'.map (fun q : Nat => Value.int .i64 q)) := ownsRow_pop (by simp) (by have := HR3.out; rwa [List.map_append] at this)
          have hne : some (w.heap.size + 1 + 1) ≠ (Value.slice (some ⟨g, 0, none⟩) L'.length cap).ownBlock := HB3.out.not_row (by decide) hpop
          have hb3 : Boxed (wc.setCell ⟨w.heap.size + 1 + 1, 0, none⟩ (.slice (some ⟨g, 0, none⟩) L'.length cap)) (w.heap.size + 1 + 1) 74 (.slice (some ⟨g, 0, none⟩) L'.length cap) := HB3.out.set _
          have hr3 : (wc.setCell ⟨w.heap.size + 1 + 1, 0, none⟩ (.slice (some ⟨g, 0, none⟩) L'.length cap)).ownsRow (w.heap.size + 1) 3 1 (.slice (some ⟨g, 0, none⟩) L'.length cap) L'.length (L'.map (fun q : Nat => Value.int .i64 q)) :=
            hpop.kept (grownBy_setCell' _ _ _) (Or.inr hne.symm)
          have n3 : (wc.setCell ⟨w.heap.size + 1 + 1, 0, none⟩ (.slice (some ⟨g, 0, none⟩) L'.length cap)).cell? ⟨wr.heap.size, 2, none⟩ = some (.slice Ak kids.length ck) := (grownBy_setCell' _ _ _).cell n2 (by simp; omega)
          have hm3 : MarksAt ds (wc.setCell ⟨w.heap.size + 1 + 1, 0, none⟩ (.slice (some ⟨g, 0, none⟩) L'.length cap)) := HM3.out.below fun D h => Below.heap_setCell _ _ _ D (by have := hds D h; simp; omega)
          have hbr3 := hbrX.setCell (p := ⟨w.heap.size + 1 + 1, 0, none⟩) (by simp) (.slice (some ⟨g, 0, none⟩) L'.length cap)
          have hb23 := hb2X.setCell (p := ⟨w.heap.size + 1 + 1, 0, none⟩) (by simp; omega) (.slice (some ⟨g, 0, none⟩) L'.length cap)
          have hs3 : wc.heap.size = (wc.setCell ⟨w.heap.size + 1 + 1, 0, none⟩ (.slice (some ⟨g, 0, none⟩) L'.length cap)).heap.size := by simp
          have HB4 := Lib.hid hb3
          have HR4 := Lib.hid hr3
          have HM4 := Lib.hid hm3
          have HS4 := Lib.hid hs3
          clear hb3 hr3 hm3 hs3 hne n0 n2 n6 HB3 HR3 HM3 hbcX hbfX hbc2
          generalize wc.setCell ⟨w.heap.size + 1 + 1, 0, none⟩ (.slice (some ⟨g, 0, none⟩) L'.length cap) = W3 at *
          rw [HS4.out] at hszX
          obtain ⟨want', hw'⟩ : ∃ x : Int, x = (if op = 5 then want + 1 else want) := ⟨_, rfl⟩
          rw [← hw']
          have HW' := Lib.hid hw'
          clear hw' hpop
          go_wp2_with (go_at_call 77; refine (back_any _ _ _ _).mono ?_; rintro e w' ⟨rfl, rfl⟩)
          obtain ⟨b2, o2, hA2, hI2⟩ : ∃ b2 o2, (0 < kids.length → Ak = some ⟨b2, o2, none⟩) ∧ ∀ k (h : k < kids.length), IntAt B w0 b2 (o2 + k) kids[k] := by
            obtain ⟨A', c', e, _, _, h⟩ := HK.out
            injection e with e1 e2 e3
            subst e1
            rcases Nat.eq_zero_or_pos kids.length with h0 | hp
            · exact ⟨0, 0, fun h => absurd h (by omega), fun k h => absurd h (by omega)⟩
            · obtain ⟨b2, o2, e, h⟩ := h hp
              exact ⟨b2, o2, fun _ => e, fun k hk => by simpa using h k hk⟩
          have hkl : kids.length ≤ 9223372036854775807 := by
            obtain ⟨A', c', e, h1, h2, _⟩ := HK.out
            omega
          have hRdOf : ∀ W, Below B w0 W → Boxed W W3.heap.size 74 (.slice Ak kids.length ck) → BackRd W3.heap.size (.slice Ak kids.length ck) b2 o2 kids W := by
            intro W hW hbk
            refine ⟨hbk.cell, fun k hk => ?_⟩
            rw [(hI2 k hk).at_ W hW]
            simp [hk]
          refine wp_range_back (α := Nat) W3.heap.size b2 o2 ck Ak kids hA2 hkl rfl id (fun k => #[.int .i64 ((kids.length : Int) - 1 - k), .int .i64 (kids[kids.length - 1 - k]?.getD 0)]) (fun _ => rfl) (fun _ _ => rfl) ?hRd
            (fun pr W => ∃ v', Boxed W (w.heap.size + 1 + 1) 74 v' ∧ W.ownsRow (w.heap.size + 1) 3 1 v' (L'.length + pr.length) (L'.map (fun q : Nat => Value.int .i64 q) ++ pr.map (fun k => Value.int .i64 (kids[kids.length - 1 - k]?.getD 0))) ∧
              Below (w.heap.size + 1) W3 W ∧ Boxed W W3.heap.size 74 (.slice Ak kids.length ck) ∧ MarksAt ds W) ?hI ?h0 ?a1 ?hassign ?hbody ?hdone
          case hRd =>
            intro W hW
            exact hRdOf W (hb23.trans (((Below.refl B W3).alloc (by omega) _).trans (hW.mono (by simp; omega)))) ((hW.block _ (by simp)).trans (Boxed.new W3 _ _))
          case hI =>
            rintro pr W W' row ⟨v', h1, h2, h3, h4, h5⟩ hg hr
            have hr' := fun r e => (hr r e).2
            refine ⟨v', boxed_other h1 hg hr', row_other h2 hg hr', h3.grown hg (by have := h1.lt; omega) (fun r e => by have := (hr r e).1; simp at this; omega), boxed_other h4 hg hr', h5.grown hg (fun r e hm => ?_)⟩
            have h6 := (hr r e).1
            have h7 := HD3.out r hm
            simp at h6
            omega
          case h0 =>
            exact ⟨_, HB4.out.alloc _, by simpa using HR4.out.alloc _, (Below.refl _ _).alloc (by omega) _, Boxed.new _ _ _, HM4.out.others (KeepsOthers.alloc _ _)⟩
          case hassign =>
            intro l x W K hK
            gi_wp2
            exact hK
          case hbody =>
            rintro l pr x W ⟨v', h1, h2, h3, h4, h5⟩ hlt
            obtain ⟨A', c', rfl⟩ := own_form h2
            have k1 := h1.cell
            have k2 := h1.frozen
            gi_wp2_with (gi_at_builtin; go_must (refine wpListIn_append_own (W.alloc (.cells #[.int .i64 (kids[kids.length - 1 - x]?.getD 0)] 3)) rfl _ _ 74 rfl (w.heap.size + 1) 3 i0 (.int .i64 0) 1 8 Tryd.underlying74 hi hz0 hz1 hz2 rfl (by decide) _ (L'.length + pr.length) (L'.map (fun q : Nat => Value.int .i64 q) ++ pr.map (fun k => Value.int .i64 (kids[kids.length - 1 - k]?.getD 0))) rfl (h2.alloc _) ⟨W.heap.size, 0, none⟩ 1 1 [.int .i64 (kids[kids.length - 1 - x]?.getD 0)] rfl rfl (cell_one_new _ _ _) (by simp [Value.oneCell']) (by unfold maxLen; omega) (by omega) (by have := h1.lt; simp; omega) ?_); intro v' w4 hown' hgrow' _; obtain ⟨g', cap', rfl⟩ := ownsRow_succ hown'; obtain ⟨p1, p2, p3, p4, p5⟩ := Boxed.appended h1 (by decide) h2 (by have := h1.lt; omega) (by omega) hown' hgrow'; have p6 := p1.cell; have p7 := p1.frozen)
            have hg4 := (h4.alloc _).kept hgrow' (h4.not_row (by decide) h2)
            have hg5 := hg4.other (by omega : W3.heap.size ≠ w.heap.size + 1 + 1) (.slice (some ⟨g', 0, none⟩) (L'.length + pr.length + 1) cap')
            have hl2 := h1.lt
            have h3' := h3.trans p5
            refine ⟨p4.from _, fun _ => hRdOf _ (hb23.trans (h3'.mono (by omega))) hg5, _, p2, ?_, h3', hg5, h5.others p4⟩
            simpa [List.append_assoc, Nat.add_assoc] using p3
          case hdone =>
            rintro D W hD ⟨v', h1, h2, h3, h4, h5⟩ hD2
            rw [back_list] at h2
            have hkn : ∀ q ∈ kids, 0 ≤ q := fun q h => (HKQ.out q h).1
            have hrv : (L' ++ kids.reverse.map Int.toNat).reverse.flatMap (pre nodes) = kids.flatMap (fun q => pre nodes q.toNat) ++ L'.reverse.flatMap (pre nodes) := by
              rw [List.reverse_append, ← List.map_reverse, List.reverse_reverse, List.flatMap_append, List.flatMap_map]
            have hn3 : n = ((L' ++ kids.reverse.map Int.toNat).reverse.flatMap (pre nodes)).length + 1 := by
              rw [hrv, HN2.out, List.cons_append, List.length_cons]
            have hw5 : want ≤ want' ∧ want' ≤ want + 1 := by
              have := HW'.out
              split at this <;> omega
            have hop := HO.out
            rw [List.cons_append, opn_step _ _ want want' HW'.out hg5, ← hrv] at hop
            have hlD := h1.lt
            simp at hD
            refine hK _ _ ⟨_, (by omega : ((L' ++ kids.reverse.map Int.toNat).reverse.flatMap (pre nodes)).length < n), HJ.out _ _ _ ⟨want', L' ++ kids.reverse.map Int.toNat, v', D :: ds, _, _, _, _, _, _, _, _, _, _, _, _, _, _, _, _, _, _, _, _, _, _, _, _, _, _, _, _, _, _, _, _, _, _, _, _, _, _, _, _, _, _, _, _, _, rfl, rfl, ?_, hop, by omega, by omega, h1, ?_, hbr3.trans h3, ?_, ?_, ?_⟩⟩
            · intro q' hq'
              rcases List.mem_append.1 hq' with h | h
              · exact HL.out q' (by simp [h])
              · obtain ⟨x, hx, rfl⟩ := List.mem_map.1 h
                have := HKQ.out x (by simpa using hx)
                omega
            · have e1 : L'.length + (upto id kids.length).length = (L' ++ kids.reverse.map Int.toNat).length := by simp [upto_length]
              rw [e1] at h2
              rw [nat_list _ (fun q h => hkn q (by simpa using h)), ← List.map_append] at h2
              exact h2
            · intro E hE
              rcases List.mem_cons.1 hE with rfl | hE
              · exact hD2
              · exact h5 E hE
            · refine List.nodup_cons.2 ⟨fun h => ?_, hnd⟩
              have := HD3.out D h
              omega
            · intro E hE
              rcases List.mem_cons.1 hE with rfl | hE
              · omega
              · exact hds E hE
end Go.Proofs.YtmbboianghbjkaaDoor

-- part TCheck
namespace Go.Proofs.YtmbboianghbjkaaDoor
open Go.RowKit
set_option linter.unusedVariables false
set_option linter.unusedSimpArgs false
attribute [local go_sem] bl_refl bl_alloc bl_a2 bl_a3 bl_a4 bl_a5 bl_set bl_drew bl_drewN le_add_r lt_add_r addr_add

def treeOk (t : Tree) : Bool := decide (0 < t.nodes.length) && decide (t.nodes.length ≤ 2000) && fitOk t.names && grownOk t && openedOk t

set_option maxHeartbeats 1000000 in
theorem treeCheck_any (B : Nat) (w0 w : World) (nv sv : Value) (t : Tree) (hb : Below B w0 w) (hB : B ≤ w.heap.size) (ht : TreeV B w0 nv sv t) (hg : BandsAt B w0) :
    Calls Tryd.prog 63 #[.agg #[nv, sv, .bool t.raw]] w fun e w' => e = .returned (.int .i64 (errNo (treeOk t))) ∧ Below w.heap.size w w' := by
  have HT := Lib.hid ht
  obtain ⟨A, c, rfl, h1, h2, h3⟩ := ht.nodes
  obtain ⟨As, cs, rfl, hs1, hs2, hs3⟩ := ht.names
  obtain ⟨nodes, names, raw⟩ := t
  dsimp only at *
  clear h3 hs3 ht
  go_enter Tryd.func63, Tryd.ntmps63
  by_cases n0 : nodes.length = 0
  · have n0' : ((nodes.length : Int) == 0) = true := by simp [n0]
    go_wp2
    go_ret
    refine ⟨?_, (Below.refl _ _).alloc (Nat.le_refl _) _⟩
    unfold treeOk
    simp [n0, errNo]
  have n0' : ((nodes.length : Int) == 0) = false := by simp [n0]
  by_cases n1 : nodes.length ≤ 2000
  · have HN0 := Lib.hid n0
    clear n0
    go_wp2_with fail
    obtain ⟨W0, hW0⟩ : ∃ W0, W0 = w.alloc (.cells #[.slice A nodes.length c, .slice As names.length cs, .bool raw] 35) := ⟨_, rfl⟩
    have d0 := box_cell w #[.slice A nodes.length c, .slice As names.length cs, .bool raw] 35 0 _ rfl
    have d1 := box_cell w #[.slice A nodes.length c, .slice As names.length cs, .bool raw] 35 1 _ rfl
    have d2 := box_cell w #[.slice A nodes.length c, .slice As names.length cs, .bool raw] 35 2 _ rfl
    have hs0 : W0.heap.size = w.heap.size + 1 := by rw [hW0]; simp
    have hb0 : Below w.heap.size w W0 := by rw [hW0]; exact (Below.refl _ _).alloc (Nat.le_refl _) _
    have hbB : Below B w0 W0 := by rw [hW0]; exact hb.alloc hB _
    rw [← hW0] at d0 d1 d2 ⊢
    clear hW0
    refine (fitting_any B w0 W0 _ names hbB (by omega) HT.out.names).mono ?_
    rintro e w1 ⟨rfl, hb1⟩
    have hs1' := hb1.size
    by_cases q1 : fitOk names = true
    · rw [q1]
      have HQ1 := Lib.hid q1
      have c0 := d0 w1 (hb1.mono (by omega))
      have c1 := d1 w1 (hb1.mono (by omega))
      have c2 := d2 w1 (hb1.mono (by omega))
      clear q1
      go_wp2_with fail
      refine (grown_any B w0 w1 _ _ ⟨nodes, names, raw⟩ (hbB.trans (hb1.mono (by omega))) (by omega) HT.out hg n1).mono ?_
      rintro e w2 ⟨rfl, hb2⟩
      clear c0 c1 c2
      have hb12 : Below W0.heap.size W0 w2 := hb1.trans (hb2.mono (by omega))
      have hs2 := hb2.size
      by_cases q2 : grownOk ⟨nodes, names, raw⟩ = true
      · rw [q2]
        have HQ2 := Lib.hid q2
        have c0 := d0 w2 (hb12.mono (by omega))
        have c1 := d1 w2 (hb12.mono (by omega))
        have c2 := d2 w2 (hb12.mono (by omega))
        have hgr : ∃ fr dp, growTo raw nodes nodes.length = some (fr, dp) ∧ fr.length = 1 := by
          unfold grownOk at q2
          dsimp only at q2
          split at q2
          · rename_i st hst
            exact ⟨st.1, st.2, hst, by simpa using q2⟩
          · cases q2
        have HGR := Lib.hid hgr
        have HNM : names.length ≤ 40 := by
          have := HQ1.out
          unfold fitOk at this
          rw [Bool.and_eq_true] at this
          simpa using this.1
        clear q2 hgr
        go_wp2_with fail
        obtain ⟨fr, dp, hg1, hg2⟩ := HGR.out
        refine (opened_any B w0 w2 _ _ ⟨nodes, names, raw⟩ fr dp (hbB.trans (hb12.mono (by omega))) (by omega) HT.out n1 (by have := HN0.out; dsimp only; omega) hg1 hg2 HNM).mono ?_
        rintro e w3 ⟨rfl, hb3⟩
        clear c0 c1 c2 hg1 hg2
        have hbe : Below w.heap.size w w3 := hb0.trans ((hb12.trans (hb3.mono (by omega))).mono (by omega))
        by_cases q3 : openedOk ⟨nodes, names, raw⟩ = true
        · rw [q3]
          have HQ3 := Lib.hid q3
          clear q3
          go_wp2
          go_ret
          refine ⟨?_, hbe⟩
          unfold treeOk
          have := HN0.out
          simp [HQ1.out, HQ2.out, HQ3.out, n1, errNo, Nat.pos_of_ne_zero this]
        · rw [show openedOk ⟨nodes, names, raw⟩ = false by simpa using q3]
          have HQ3 := Lib.hid q3
          clear q3
          go_wp2
          go_ret
          refine ⟨?_, hbe⟩
          unfold treeOk
          simp [show openedOk ⟨nodes, names, raw⟩ = false by simpa using HQ3.out, errNo]
      · rw [show grownOk ⟨nodes, names, raw⟩ = false by simpa using q2]
        have HQ2 := Lib.hid q2
        clear q2
        go_wp2
        go_ret
        refine ⟨?_, hb0.trans (hb12.mono (by omega))⟩
        unfold treeOk
        simp [show grownOk ⟨nodes, names, raw⟩ = false by simpa using HQ2.out, errNo]
    · rw [show fitOk names = false by simpa using q1]
      have HQ1 := Lib.hid q1
      clear q1
      go_wp2
      go_ret
      refine ⟨?_, hb0.trans (hb1.mono (by omega))⟩
      unfold treeOk
      simp [show fitOk names = false by simpa using HQ1.out, errNo]
  · go_wp2
    go_ret
    refine ⟨?_, (Below.refl _ _).alloc (Nat.le_refl _) _⟩
    unfold treeOk
    simp [n1, errNo]
end Go.Proofs.YtmbboianghbjkaaDoor

-- part Weight
namespace Go.Proofs.YtmbboianghbjkaaDoor
open Go.RowKit
set_option linter.unusedVariables false
set_option linter.unusedSimpArgs false
attribute [local go_sem] bl_refl bl_alloc bl_a2 bl_a3 bl_a4 bl_a5 bl_set bl_drew bl_drewN le_add_r lt_add_r addr_add max2_i min2_i max_2 min_2

def copies (n : Node) : Int := if n.max = -1 then n.min + 1 else n.max
def wRaw (n : Node) (s : Int) : Int :=
  if n.op = 1 ∨ n.op = 6 ∨ n.op = 2 then s + 1
  else if n.op = 3 then s + n.kids.length
  else if n.op = 5 then s + 2
  else if n.op = 4 then copies n * (s + 3) + 1
  else s
def wSum (ws kids : List Int) (j : Nat) : Int := (kids.take j).foldl (fun (m q : Int) => m + ws.getD q.toNat 0) 0
def wTo (nodes : List Node) : Nat → List Int
  | 0 => []
  | k + 1 => wTo nodes k ++ [mnI (wRaw (nodes.getD k default) (wSum (wTo nodes k) (nodes.getD k default).kids (nodes.getD k default).kids.length)) 1000000]
def weightOf (t : Tree) : Int := (wTo t.nodes t.nodes.length).getD (t.nodes.length - 1) 0
def wAns (t : Tree) : Int := if treeOk t then weightOf t else 0
theorem wSum_succ {dp kids : List Int} {j : Nat} (h : j < kids.length) : wSum dp kids (j + 1) = wSum dp kids j + dp.getD (kids[j]).toNat 0 := by
  unfold wSum
  rw [List.take_succ_eq_append_getElem h, List.foldl_append]
  rfl
theorem wSum_inv {dp : List Int} (h : ∀ d ∈ dp, 0 ≤ d ∧ d ≤ 1000000) (kids : List Int) : ∀ j, j ≤ kids.length → 0 ≤ wSum dp kids j ∧ wSum dp kids j ≤ j * 1000000
  | 0, _ => by simp [wSum]
  | j + 1, hj => by
    have ih := wSum_inv h kids j (by omega)
    rw [wSum_succ (by omega)]
    have : 0 ≤ dp.getD (kids[j]).toNat 0 ∧ dp.getD (kids[j]).toNat 0 ≤ 1000000 := by
      rw [List.getD_eq_getElem?_getD]
      cases hh : dp[(kids[j]).toNat]? with
      | none => simp
      | some v => simpa using h v (List.mem_of_getElem? hh)
    push_cast
    omega
theorem grown_num {raw : Bool} {nodes : List Node} {st : List Int × List Int} (h : growTo raw nodes nodes.length = some st) (i : Nat) (hi : i < nodes.length) : numOk (nodes.getD i default) = true := by
  obtain ⟨⟨fr', dp'⟩, h1⟩ := growTo_pre _ _ h (i + 1) (by omega)
  rw [growTo, Option.bind_eq_some_iff] at h1
  obtain ⟨⟨fr, dp⟩, h0, h1⟩ := h1
  exact (growStep_some h1).1
theorem num_copies {n : Node} (h : numOk n = true) (o : n.op = 4) : 0 ≤ copies n ∧ copies n ≤ 201 ∧ 0 ≤ n.min ∧ n.min ≤ 200 ∧ n.max ≤ 200 := by
  unfold numOk at h
  simp [o] at h
  unfold copies
  split <;> omega
theorem wRaw_inv {n : Node} {s : Int} (h : numOk n = true) (h0 : 0 ≤ s) (h1 : s ≤ 2000000000) (hk : n.kids.length ≤ 2000) : 0 ≤ wRaw n s ∧ wRaw n s ≤ 500000000000 := by
  unfold wRaw
  split
  · omega
  split
  · omega
  split
  · omega
  split
  · rename_i o
    obtain ⟨a, b, _⟩ := num_copies h o
    have e1 : 0 ≤ copies n * (s + 3) := Int.mul_nonneg a (by omega)
    have e2 : copies n * (s + 3) ≤ 201 * (s + 3) := Int.mul_le_mul_of_nonneg_right b (by omega)
    omega
  · omega
theorem wTo_len (nodes : List Node) : ∀ k, (wTo nodes k).length = k
  | 0 => rfl
  | k + 1 => by rw [wTo, List.length_append, wTo_len nodes k]; rfl
theorem wTo_inv {raw : Bool} {nodes : List Node} {st : List Int × List Int} (h : growTo raw nodes nodes.length = some st) (hk : ∀ i, i < nodes.length → (nodes.getD i default).kids.length ≤ 2000) : ∀ k, k ≤ nodes.length → ∀ d ∈ wTo nodes k, 0 ≤ d ∧ d ≤ 1000000
  | 0, _, d, hd => by simp [wTo] at hd
  | k + 1, hkk, d, hd => by
    have ih := wTo_inv h hk k (by omega)
    rw [wTo, List.mem_append] at hd
    rcases hd with hd | hd
    · exact ih d hd
    · rw [List.mem_singleton] at hd
      subst hd
      have hs := wSum_inv ih (nodes.getD k default).kids _ (Nat.le_refl _)
      have hl := hk k (by omega)
      have hr := wRaw_inv (grown_num h k (by omega)) hs.1 (by omega) hl
      unfold mnI
      split <;> omega
theorem grown_klen {raw : Bool} {nodes : List Node} {st : List Int × List Int} (h : growTo raw nodes nodes.length = some st) (hN : nodes.length ≤ 2000) (i : Nat) (hi : i < nodes.length) : (nodes.getD i default).kids.length ≤ 2000 := by
  obtain ⟨⟨fr', dp'⟩, h1⟩ := growTo_pre _ _ h (i + 1) (by omega)
  rw [growTo, Option.bind_eq_some_iff] at h1
  obtain ⟨⟨fr, dp⟩, h0, h1⟩ := h1
  have := (growStep_some h1).2.2.1
  have h2 := (growTo_inv raw nodes i fr dp h0).2.1
  omega
theorem treeOk_grown {t : Tree} (h : treeOk t = true) : 0 < t.nodes.length ∧ t.nodes.length ≤ 2000 ∧ ∃ fr dp, growTo t.raw t.nodes t.nodes.length = some (fr, dp) ∧ fr.length = 1 := by
  unfold treeOk at h
  simp only [Bool.and_eq_true, decide_eq_true_eq] at h
  obtain ⟨⟨⟨⟨h1, h2⟩, _⟩, h4⟩, _⟩ := h
  refine ⟨h1, h2, ?_⟩
  unfold grownOk at h4
  split at h4
  · rename_i st hst
    exact ⟨st.1, st.2, hst, by simpa using h4⟩
  · cases h4

set_option maxRecDepth 100000 in
set_option maxHeartbeats 2000000 in
theorem weight_any (B : Nat) (w0 w : World) (nv sv : Value) (t : Tree) (hb : Below B w0 w) (hB : B ≤ w.heap.size) (ht : TreeV B w0 nv sv t) (hg : BandsAt B w0) :
    Calls Tryd.prog 32 #[.agg #[nv, sv, .bool t.raw]] w fun e w' => e = .returned (.tuple #[.int .i64 (wAns t), .int .i64 (errNo (treeOk t))]) ∧ Below w.heap.size w w' := by
  obtain ⟨i0, hi, hz0, hz1, hz2⟩ := info_parts info_tInt
  obtain ⟨A, c, rfl, h1, h2, h3⟩ := ht.nodes
  obtain ⟨nodes, names, raw⟩ := t
  dsimp only at *
  have HN := Lib.hid h3
  have HT := Lib.hid ht
  have HG := Lib.hid hg
  clear h3 ht hg h1
  go_enter Tryd.func32, Tryd.ntmps32
  go_wp2_with fail
  have d0 := box_cell w #[.slice A nodes.length c, sv, .bool raw] 35 0 _ rfl
  have d1 := box_cell w #[.slice A nodes.length c, sv, .bool raw] 35 1 _ rfl
  have d2 := box_cell w #[.slice A nodes.length c, sv, .bool raw] 35 2 _ rfl
  obtain ⟨W0, hW0⟩ : ∃ W0, W0 = w.alloc (.cells #[.slice A nodes.length c, sv, .bool raw] 35) := ⟨_, rfl⟩
  have hs0 : W0.heap.size = w.heap.size + 1 := by rw [hW0]; simp
  have hb0 : Below w.heap.size w W0 := by rw [hW0]; exact (Below.refl _ _).alloc (Nat.le_refl _) _
  have hbB : Below B w0 W0 := by rw [hW0]; exact hb.alloc hB _
  rw [← hW0] at d0 d1 d2 ⊢
  clear hW0
  refine (treeCheck_any B w0 W0 _ _ ⟨nodes, names, raw⟩ hbB (by omega) HT.out HG.out).mono ?_
  rintro e w1 ⟨rfl, hb1⟩
  have hs1 := hb1.size
  by_cases q : treeOk ⟨nodes, names, raw⟩ = true
  · have HQ := Lib.hid q
    rw [q]
    obtain ⟨q1, q2, fr, dp, q3, q4⟩ := treeOk_grown q
    have HGR := Lib.hid q3
    have e1 := d0 w1 (hb1.mono (by omega))
    dsimp only at q1 q2
    clear q q3 q4
    have hbw1 : Below (w.heap.size + 1) W0 w1 := hb1.mono (by omega)
    have hs0' : w.heap.size + 1 ≤ w1.heap.size := by omega
    go_wp2_with (first | (at_make; refine wpList_make_full _ rfl _ _ 74 rfl (w.heap.size + 1) 3 i0 (.int .i64 0) 1 Tryd.underlying74 hi hz0 hz1 _ _ _ _ nodes.length rfl rfl rfl rfl (by rw [hz2]; omega) (by unfold maxLen; omega) (by omega) ?_; intro w2 hd hg1; have hb2 := grown_none hg1; have hbw2 := hbw1.trans (hb2.mono hs0'); have e2 := d0 w2 hbw2))
    clear hg1 e1 e2
    go_loopw [24] (fun v24 wr => ∃ (k : Nat), k ≤ nodes.length ∧ v24 = .int .i64 k ∧
       wr.ownsRow (w.heap.size + 1) 3 1 (.slice (some ⟨w1.heap.size, 0, none⟩) nodes.length nodes.length) nodes.length ((wTo nodes k ++ List.replicate (nodes.length - k) 0).map (Value.int .i64)) ∧
       Below (w.heap.size + 1) W0 wr) (fun v24 _ => nodes.length - (intOf v24).toNat)
    case atStart =>
      refine ⟨0, by omega, rfl, ?_, hbw2⟩
      have e1 : (madeCells (Value.int .i64 0).cells (nodes.length * 1)).toList = (([] : List Int) ++ List.replicate (nodes.length - 0) 0).map (Value.int .i64) := by
        rw [show (Value.int .i64 0).cells = #[Value.int .i64 0] from rfl, toList_madeCells_one]; simp
      rw [e1] at hd
      exact hd
    case round =>
      obtain ⟨k, hk, rfl, hdp, hbr⟩ := hrel
      have hgs : w1.heap.size < wr.heap.size := (hdp.lt _ rfl).2
      by_cases hlt : k < nodes.length
      · obtain ⟨b, o, rfl, hNd⟩ := HN.out (by omega)
        have hnk := hNd k hlt
        rw [getD_at nodes k default hlt] at hnk
        have hb2 : Below B w0 wr := hb.trans ((hb0.trans (hbr.mono (by omega))).mono hB)
        have NUM := Lib.hid (grown_num HGR.out k hlt)
        have KL := grown_klen HGR.out q2 k hlt
        have KLT := Lib.hid (grown_kids HGR.out k hlt)
        have WI := Lib.hid (wTo_inv HGR.out (fun i hi => grown_klen HGR.out q2 i hi) k hk)
        have WS : Hid (wTo nodes (k + 1) = wTo nodes k ++ [mnI (wRaw (nodes.getD k default) (wSum (wTo nodes k) (nodes.getD k default).kids (nodes.getD k default).kids.length)) 1000000]) := rfl
        have WL := wTo_len nodes k
        clear hNd
        generalize wTo nodes k = ws at *
        generalize nodes.getD k default = n at *
        obtain ⟨op, set, kids, mn, mx, lz, gr, lk⟩ := n
        obtain ⟨g0, ⟨kv, g1, hset⟩, ⟨vk, g2, hkids⟩, g3, g4, g5, g6, g7⟩ := hnk
        dsimp only at *
        have HK := Lib.hid hkids
        obtain ⟨Ak, ck, rfl, hk1, hk2, hk3⟩ := hkids
        have HSET := Lib.hid hset
        obtain ⟨As, cs, rfl, _, _, hs3⟩ := hset
        have HDP := Lib.hid hdp
        clear hs3 hk3 hdp
        go_wp2_with fail
        have hnb := World.alloc_heap_new wr (.cells #[.int .i64 op, .slice As set.length cs, .slice Ak kids.length ck, .int .i64 mn, .int .i64 mx, .bool lz, .int .i64 gr, .int .i64 lk] 80)
        have hbW : Below wr.heap.size wr (wr.alloc (.cells #[.int .i64 op, .slice As set.length cs, .slice Ak kids.length ck, .int .i64 mn, .int .i64 mx, .bool lz, .int .i64 gr, .int .i64 lk] 80)) := (Below.refl _ _).alloc (Nat.le_refl _) _
        have hsw : wr.heap.size < (wr.alloc (.cells #[.int .i64 op, .slice As set.length cs, .slice Ak kids.length ck, .int .i64 mn, .int .i64 mx, .bool lz, .int .i64 gr, .int .i64 lk] 80)).heap.size := by simp
        obtain ⟨Wn, hWn⟩ : ∃ Wn, Wn = wr.alloc (.cells #[.int .i64 op, .slice As set.length cs, .slice Ak kids.length ck, .int .i64 mn, .int .i64 mx, .bool lz, .int .i64 gr, .int .i64 lk] 80) := ⟨_, rfl⟩
        rw [← hWn] at hnb hbW hsw ⊢
        clear hWn
        have hwN := own_below HDP.out hbW
        have HWN := Lib.hid hwN
        clear hwN
        obtain ⟨wo, rfl⟩ : ∃ wo : World, wo = wr := ⟨_, rfl⟩
        go_loopw [8, 32] (fun v8 v32 wi => ∃ j : Nat, j ≤ kids.length ∧ v32 = .int .i64 j ∧ v8 = .int .i64 (wSum ws kids j) ∧ ∃ nn, wi = Wn.drewN nn) (fun _ v32 _ => kids.length - (intOf v32).toNat)
        case atStart => exact ⟨0, by omega, rfl, rfl, 0, rfl⟩
        case round =>
          obtain ⟨j, hj, rfl, rfl, nn, rfl⟩ := hrel
          have hsi := wSum_inv WI.out kids j hj
          by_cases hjl : j < kids.length
          · obtain ⟨A', c', e', _, _, h3'⟩ := HK.out
            obtain ⟨bk, ok, e2, hRk⟩ := h3' (by omega)
            rw [e2] at e'
            injection e' with e3 e4 e5
            subst e3
            clear e4 e5
            have cq := (hRk j hjl).at_ Wn (hb2.trans (hbW.mono (by omega)))
            obtain ⟨p1, p2⟩ := KLT.out _ (List.getElem_mem hjl)
            obtain ⟨qn, hqn⟩ := Int.eq_ofNat_of_zero_le p1
            have KS := Lib.hid (wSum_succ (dp := ws) hjl)
            rw [hqn] at cq KS p2
            have hqk : qn < k := by omega
            have cd := own_int_cell HWN.out qn (by omega)
            have egd : (ws ++ List.replicate (nodes.length - k) 0).getD qn 0 = ws.getD qn 0 := by simp [List.getD_eq_getElem?_getD, List.getElem?_append, show qn < ws.length by omega]
            rw [egd] at cd
            rw [Int.toNat_natCast] at KS
            rw [Nat.mul_one] at cq
            have hsq := wSum_inv WI.out kids (j + 1) (by omega)
            rw [KS.out] at hsq
            generalize ws.getD qn 0 = dq at *
            generalize wSum ws kids j = m at *
            have p3 : qn < nodes.length := by omega
            clear hRk h3' hqn e2 egd p1
            go_wp2
            go_roundw
            case rel => exact ⟨j + 1, by omega, by go_num, by rw [KS.out], _, rfl⟩
            case measure => simp [intOf]; omega
          · obtain rfl : j = kids.length := by omega
            have hkl2 := KL
            have hri := wRaw_inv NUM.out hsi.1 (by omega) KL
            have n0 : Wn.cell? ⟨wo.heap.size, 0, none⟩ = some (.int .i64 op) := by simp [World.cell?, hnb]
            have n2 : Wn.cell? ⟨wo.heap.size, 2, none⟩ = some (.slice Ak kids.length ck) := by simp [World.cell?, hnb]
            have n3 : Wn.cell? ⟨wo.heap.size, 3, none⟩ = some (.int .i64 mn) := by simp [World.cell?, hnb]
            have n4 : Wn.cell? ⟨wo.heap.size, 4, none⟩ = some (.int .i64 mx) := by simp [World.cell?, hnb]
            have RI := Lib.hid hri
            have fz := HWN.out.frozenAt k
            have ci := own_int_cell HWN.out k hlt
            have FIN : Hid (∀ (x : Int) (m : Nat), x = mnI (wRaw ⟨op, set, kids, mn, mx, lz, gr, lk⟩ (wSum ws kids kids.length)) 1000000 → ∃ k_1, k_1 ≤ nodes.length ∧ Value.int .i64 ((k : Int) + 1) = Value.int .i64 k_1 ∧
               ((Wn.drewN m).setCell ⟨w1.heap.size, k, none⟩ (.int .i64 x)).ownsRow (w.heap.size + 1) 3 1 (.slice (some ⟨w1.heap.size, 0, none⟩) nodes.length nodes.length) nodes.length ((wTo nodes k_1 ++ List.replicate (nodes.length - k_1) 0).map (Value.int .i64)) ∧
               Below (w.heap.size + 1) W0 ((Wn.drewN m).setCell ⟨w1.heap.size, k, none⟩ (.int .i64 x))) := by
              refine Lib.hid fun x m hx => ⟨k + 1, by omega, by go_num, ?_, ?_⟩
              · have h := (own_int_set (own_drewN HWN.out m) k x).1
                have e1 : (ws ++ List.replicate (nodes.length - k) 0).set k x = wTo nodes (k + 1) ++ List.replicate (nodes.length - (k + 1)) 0 := by
                  rw [WS.out, ← hx, show nodes.length - k = (nodes.length - (k + 1)) + 1 by omega, List.replicate_succ]
                  simp [WL]
                rw [e1] at h
                exact h
              · exact ((hbr.trans (hbW.mono (by omega))).trans (below_drewN (Below.refl _ _) m)).setCell (by simp; omega) _
            clear hnb hri
            generalize wSum ws kids kids.length = sm at *
            by_cases o1 : op = 1
            · subst o1
              go_wp2
              go_roundw
              case rel => exact FIN.out _ _ (by simp [wRaw])
              case measure => simp [intOf]; omega
            have o1' : (op == 1) = false := by simpa using o1
            by_cases o6 : op = 6
            · subst o6
              go_wp2
              go_roundw
              case rel => exact FIN.out _ _ (by simp [wRaw])
              case measure => simp [intOf]; omega
            have o6' : (op == 6) = false := by simpa using o6
            by_cases o2 : op = 2
            · subst o2
              go_wp2
              go_roundw
              case rel => exact FIN.out _ _ (by simp [wRaw])
              case measure => simp [intOf]; omega
            have o2' : (op == 2) = false := by simpa using o2
            by_cases o3 : op = 3
            · subst o3
              go_wp2
              go_roundw
              case rel => exact FIN.out _ _ (by simp [wRaw])
              case measure => simp [intOf]; omega
            have o3' : (op == 3) = false := by simpa using o3
            by_cases o5 : op = 5
            · subst o5
              go_wp2
              go_roundw
              case rel => exact FIN.out _ _ (by simp [wRaw])
              case measure => simp [intOf]; omega
            have o5' : (op == 5) = false := by simpa using o5
            obtain rfl : op = 4 := by
              have := NUM.out
              unfold numOk at this
              simp [o1, o6, o2, o3, o5] at this
              exact this.1
            obtain ⟨c1, c2, c3, c4, c5⟩ := num_copies NUM.out rfl
            dsimp only at c3 c4 c5
            by_cases om : mx = -1
            · subst om
              have hmul : wrap64 ((mn + 1) * (sm + 3)) = (mn + 1) * (sm + 3) := by
                have e1 : 0 ≤ (mn + 1) * (sm + 3) := Int.mul_nonneg (by omega) (by omega)
                have e2 : (mn + 1) * (sm + 3) ≤ 201 * (sm + 3) := Int.mul_le_mul_of_nonneg_right (by omega) (by omega)
                unfold wrap64; omega
              have hm1 : wrap64 (mn + 1) = mn + 1 := by unfold wrap64; omega
              have hwr := RI.out
              simp only [wRaw, copies] at hwr
              simp at hwr
              go_wp2
              go_roundw
              case rel => exact FIN.out _ _ (by
                try simp only [hm1, hmul]
                try rw [show wrap64 ((mn + 1) * (sm + 3) + 1) = (mn + 1) * (sm + 3) + 1 by unfold wrap64; omega]
                simp [wRaw, copies])
              case measure => simp [intOf]; omega
            · have om' : (mx == -1) = false := by simpa using om
              have hwr := RI.out
              simp only [wRaw, copies] at hwr
              simp [om] at hwr
              have hmul : wrap64 (mx * (sm + 3)) = mx * (sm + 3) := by
                unfold wrap64; omega
              go_wp2
              go_roundw
              case rel => exact FIN.out _ _ (by simp [wRaw, copies, om])
              case measure => simp [intOf]; omega
      · obtain rfl : k = nodes.length := by omega
        have hlast := own_int_cell hdp (nodes.length - 1) (by omega)
        have eN : ((nodes.length : Int) - 1).toNat = nodes.length - 1 := by omega
        have HL := Lib.hid hlast
        go_wp2
        go_ret2
        refine ⟨?_, hb0.trans (hbr.mono (by omega))⟩
        unfold wAns
        rw [if_pos HQ.out]
        unfold weightOf
        have e1 : errNo true = 0 := rfl
        simp [HQ.out, e1]
  · rw [show treeOk ⟨nodes, names, raw⟩ = false by simpa using q]
    go_wp2
    go_ret2
    refine ⟨?_, hb0.trans (hb1.mono (by omega))⟩
    unfold wAns
    rw [if_neg q]
    simp [q]
end Go.Proofs.YtmbboianghbjkaaDoor

-- part Put
namespace Go.Proofs.YtmbboianghbjkaaDoor
open Go.RowKit Go.Shelf
set_option linter.unusedVariables false
set_option linter.unusedSimpArgs false
attribute [local go_sem] bl_refl bl_alloc bl_a2 bl_a3 bl_a4 bl_a5 bl_set bl_drew bl_drewN le_add_r lt_add_r addr_add

/-- An instruction as it lies: its set is a value. -/
structure IV where
  op : Int
  set : Value
  x : Int
  y : Int
  n : Int
def IV.cells (i : IV) : List Value := [.int .i64 i.op, i.set, .int .i64 i.x, .int .i64 i.y, .int .i64 i.n]
/-- A maker in a world. -/
structure MkAt (base mk : Nat) (tv v : Value) (L : List IV) (W : World) : Prop where
  obj : W.heap[mk]? = some (.cells #[tv, v] 91 (0, 0))
  row : W.ownsRow base 47 5 v L.length (L.flatMap IV.cells)
  le : base ≤ mk
/-- Whatever else lies stays. -/
structure MkKept (base mk : Nat) (W W' : World) : Prop where
  below : Below base W W'
  other : ∀ k o, W.heap[k]? = some o → k ≠ mk → (∀ cs r, o ≠ .cells cs 47 r) → W'.heap[k]? = some o
theorem MkKept.refl (base mk : Nat) (W : World) : MkKept base mk W W := ⟨Below.refl _ _, fun _ _ h _ _ => h⟩
theorem MkKept.trans {base mk : Nat} {A B C : World} (h : MkKept base mk A B) (k : MkKept base mk B C) : MkKept base mk A C :=
  ⟨h.below.trans k.below, fun i o h1 h2 h3 => k.other i o (h.other i o h1 h2 h3) h2 h3⟩
theorem cells_set {W : World} {b : Nat} {cs : Array Value} {t : TypeId} {r : Nat × Nat} (h : W.heap[b]? = some (.cells cs t r)) (o : Nat) (v : Value) : (W.setCell ⟨b, o, none⟩ v).heap[b]? = some (.cells (cs.setIfInBounds o v) t r) := by
  obtain ⟨hlt, hk⟩ := Array.getElem?_eq_some_iff.1 h
  show (W.heap.modify b _)[b]? = _
  rw [Array.getElem?_eq_getElem (by rw [Array.size_modify]; exact hlt), Array.getElem_modify_self, hk]
  rfl
theorem grownBy_setAt (w : World) (b i : Nat) (v : Value) : w.grownBy (w.setCell ⟨b, i, none⟩ v) (some b) :=
  ⟨rfl, rfl, rfl, by simp [World.setCell], fun k _ hk => Below.heap_setCell _ _ _ _ (fun e => hk (by simp [e]))⟩
theorem info_tInst : (Tryd.prog.info? 47).map (fun i => (i.zero, i.size, i.bytes)) = some (some (.agg #[.int .i64 0, .slice none 0 0, .int .i64 0, .int .i64 0, .int .i64 0]), 5, 56) := by kernel_rfl

set_option maxHeartbeats 2000000 in
theorem put_any (base mk : Nat) (tv v : Value) (L : List IV) (i : IV) (w : World) (h : MkAt base mk tv v L w) (hl : L.length ≤ 1000000000000) (hset : i.set.oneCell' = true) :
    Calls Tryd.prog 41 #[.pointer (some ⟨mk, 0, none⟩), .agg #[.int .i64 i.op, i.set, .int .i64 i.x, .int .i64 i.y, .int .i64 i.n]] w fun e w' => e = .returned (.int .i64 L.length) ∧ (∃ v', MkAt base mk tv v' (L ++ [i]) w') ∧ MkKept base mk w w' := by
  obtain ⟨h1, h2, h3⟩ := h
  obtain ⟨A, c, rfl⟩ := own_form h2
  have c0 : w.cell? ⟨mk, 1, none⟩ = some (.slice A L.length c) := by simp [World.cell?, h1]
  have f0 : w.frozen? ⟨mk, 1, none⟩ = false := by simp [World.frozen?, h1]
  go_enter Tryd.func41, Tryd.ntmps41
  go_wp2
  obtain ⟨i0, hi, hz0, hz1, hz2⟩ := info_parts info_tInst
  have hml : mk < w.heap.size := (Array.getElem?_eq_some_iff.1 h1).1
  have hb0 : Below w.heap.size w (w.alloc (.cells #[.int .i64 i.op, i.set, .int .i64 i.x, .int .i64 i.y, .int .i64 i.n] 47)) := (Below.refl _ _).alloc (Nat.le_refl _) _
  have hnb := World.alloc_heap_new w (.cells #[.int .i64 i.op, i.set, .int .i64 i.x, .int .i64 i.y, .int .i64 i.n] 47)
  have hsz : (w.alloc (.cells #[.int .i64 i.op, i.set, .int .i64 i.x, .int .i64 i.y, .int .i64 i.n] 47)).heap.size = w.heap.size + 1 := by simp
  obtain ⟨W0, hW0⟩ : ∃ W0, W0 = w.alloc (.cells #[.int .i64 i.op, i.set, .int .i64 i.x, .int .i64 i.y, .int .i64 i.n] 47) := ⟨_, rfl⟩
  rw [← hW0] at hnb hb0 hsz ⊢
  clear hW0
  have q0 : W0.cell? ⟨mk, 1, none⟩ = some (.slice A L.length c) := (hb0.cell (p := ⟨mk, 1, none⟩) hml).trans c0
  have n0 : W0.cell? ⟨w.heap.size, 0, none⟩ = some (.int .i64 i.op) := by simp [World.cell?, hnb]
  have n1 : W0.cell? ⟨w.heap.size, 1, none⟩ = some i.set := by simp [World.cell?, hnb]
  have n2 : W0.cell? ⟨w.heap.size, 2, none⟩ = some (.int .i64 i.x) := by simp [World.cell?, hnb]
  have n3 : W0.cell? ⟨w.heap.size, 3, none⟩ = some (.int .i64 i.y) := by simp [World.cell?, hnb]
  have n4 : W0.cell? ⟨w.heap.size, 4, none⟩ = some (.int .i64 i.n) := by simp [World.cell?, hnb]
  have g0 : W0.frozen? ⟨mk, 1, none⟩ = false := (hb0.frozen (p := ⟨mk, 1, none⟩) hml).trans f0
  have hown := own_below h2 hb0
  have hmr : some mk ≠ (Value.slice A L.length c).ownBlock := by
    rcases h2.2 with ⟨e, _⟩ | ⟨g, cap, cur, e, _, hgb, _⟩
    · rw [e]; simp [Value.ownBlock]
    · rw [e]
      intro e'
      injection e' with e'
      subst e'
      rw [h1] at hgb
      injection hgb with hgb
      injection hgb with _ hgb
      cases hgb
  have hm0 : W0.heap[mk]? = some (.cells #[tv, .slice A L.length c] 91 (0, 0)) := (hb0.block mk hml).trans h1
  have hone : ∀ u ∈ i.cells, u.oneCell' = true := by
    intro u hu
    simp only [IV.cells, List.mem_cons, List.not_mem_nil, or_false] at hu
    rcases hu with rfl | rfl | rfl | rfl | rfl
    · rfl
    · exact hset
    · rfl
    · rfl
    · rfl
  go_region_law ((refine step_append_lies _ (by rfl) _ _ 39 (by rfl) base 47 i0 _ 5 56 Tryd.underlying39 hi hz0 hz1 hz2 rfl (by decide) _ L.length (L.flatMap IV.cells) (by rfl) (hown.alloc _) ⟨w.heap.size + 1, 0, none⟩ 1 1 i.cells (by rfl) (by rfl) (by rw [← hsz]; exact World.news_of_block (World.alloc_heap_new _ _)) hone (by decide) (by unfold maxLen; omega) (by omega) (by simp; omega) (w.heap.size + 1 + 1) (by simp [hsz]) ?_; intro g cap w1 hown1 hgrow hat hlt; have pm : w1.heap[mk]? = some (.cells #[tv, .slice A L.length c] 91 (0, 0)) := (hgrow.block mk (by simp; omega) hmr).trans ((Below.heap_alloc _ _ mk (show mk < W0.heap.size by omega)).trans hm0); have pc : w1.cell? ⟨mk, 1, none⟩ = some (.slice A L.length c) := (by simp [World.cell?, pm]); have pf : w1.frozen? ⟨mk, 1, none⟩ = false := (by simp [World.frozen?, pm])))
  all_goals go_wp2
  all_goals
    go_ret
    have hgm : (Value.slice (some ⟨g, 0, none⟩) (L.length + 1) cap).ownBlock ≠ some mk := by
      rcases hat with e | e
      · exact fun e' => hmr (by rw [e]; exact e'.symm)
      · simp [Value.ownBlock]; omega
    have hbw : Below base w (w1.setCell ⟨mk, 1, none⟩ (.slice (some ⟨g, 0, none⟩) (L.length + 1) cap)) := by
      refine Below.setCell ?_ (by exact h3) _
      refine Below.grown ?_ hgrow (by simp; omega) (fun k e => (h2.lt k e).1)
      exact (hb0.mono (by omega)).drew.alloc (by simp; omega) _
    refine ⟨rfl, ⟨_, ⟨cells_set pm 1 _, ?_, h3⟩⟩, hbw, ?_⟩
    · have := hown1.kept (grownBy_setAt w1 mk 1 (.slice (some ⟨g, 0, none⟩) (L.length + 1) cap)) (Or.inr hgm)
      simpa [List.flatMap_append] using this
    · intro k o hk hne hno
      have hkl : k < w.heap.size := (Array.getElem?_eq_some_iff.1 hk).1
      rw [Below.heap_setCell _ _ _ k hne]
      refine (hgrow.block k (by simp; omega) (fun e => ?_)).trans ((Below.heap_alloc _ _ k (show k < W0.heap.size by omega)).trans ((hb0.block k hkl).trans hk))
      rcases h2.2 with ⟨e', _⟩ | ⟨g', cap', cur, e', _, hgb, _⟩
      · rw [e'] at e; simp [Value.ownBlock] at e
      · rw [e'] at e
        injection e with e
        subst e
        rw [hk] at hgb
        injection hgb with hgb
        exact hno _ _ hgb
end Go.Proofs.YtmbboianghbjkaaDoor

-- part NodeCat
namespace Go.Proofs.YtmbboianghbjkaaDoor
open Go.RowKit Go.Shelf
set_option linter.unusedVariables false
set_option linter.unusedSimpArgs false
attribute [local go_sem] bl_refl bl_alloc bl_a2 bl_a3 bl_a4 bl_a5 bl_set bl_drew bl_drewN le_add_r lt_add_r addr_add Oper.semAt_some

set_option maxRecDepth 100000 in
set_option maxHeartbeats 2000000 in
/-- An empty OpCat goes on at once. -/
theorem nodeCat0_any (base mk B b o N c : Nat) (v : Value) (L : List IV) (w0 w : World) (at_ : Nat) (next level : Int) (nd : Node) (h : MkAt base mk (.slice (some ⟨b, o, none⟩) N c) v L w) (hb : Below B w0 w) (hB : B ≤ w.heap.size)
    (hn : NodeAt B w0 b (o + at_ * 8) nd) (hat : at_ < N) (h2 : nd.op = 2) (hk : nd.kids = []) (hN : N ≤ 2000) :
    Calls Tryd.prog 42 #[.pointer (some ⟨mk, 0, none⟩), .int .i64 at_, .int .i64 next, .int .i64 level] w fun e w' => e = .returned (.int .i64 next) ∧ Below w.heap.size w w' := by
  obtain ⟨op, set, kids, mn, mx, lz, gr, lk⟩ := nd
  obtain ⟨g0, ⟨kv, g1, hset⟩, ⟨vk, g2, hkids⟩, g3, g4, g5, g6, g7⟩ := hn
  dsimp only at *
  subst h2 hk
  obtain ⟨Ak, ck, rfl, hk1, hk2, hk3⟩ := hkids
  obtain ⟨As, cs, rfl, _, _, hs3⟩ := hset
  clear hs3 hk3
  have hml : mk < w.heap.size := (Array.getElem?_eq_some_iff.1 h.obj).1
  have c0 : ∀ w', Below w.heap.size w w' → w'.cell? ⟨mk, 0, none⟩ = some (.slice (some ⟨b, o, none⟩) N c) := fun w' hw => (hw.cell (p := ⟨mk, 0, none⟩) hml).trans (by simp [World.cell?, h.obj])
  have H := Lib.hid h
  clear h
  refine calls_of_wp_marks Tryd.func42 rfl ?_
  simp only [Tryd.ntmps42, List.size_toArray, List.length_cons, List.length_nil, Nat.reduceAdd, Nat.reduceSub, Array.replicate_succ, Array.replicate_zero, List.push_toArray, List.append_toArray, List.nil_append, List.cons_append]
  go_wp2_with (go_at_call 77; refine (back_any _ _ _ _).mono ?_; rintro e w' ⟨rfl, rfl⟩)
  have hbW : Below w.heap.size w (((((w.alloc (.cells #[.pointer (some ⟨mk, 0, none⟩)] 89)).alloc (.cells #[.int .i64 next] 3)).alloc (.cells #[.int .i64 level] 3)).alloc (.cells #[.int .i64 2, .slice As set.length cs, .slice Ak 0 ck, .int .i64 mn, .int .i64 mx, .bool lz, .int .i64 gr, .int .i64 lk] 80)).alloc (.cells #[.slice Ak 0 ck] 74)) := ((((((Below.refl _ _).alloc (by simp) _).alloc (by simp <;> omega) _).alloc (by simp <;> omega) _).alloc (by simp <;> omega) _).alloc (by simp <;> omega) _)
  have hsz : (((((w.alloc (.cells #[.pointer (some ⟨mk, 0, none⟩)] 89)).alloc (.cells #[.int .i64 next] 3)).alloc (.cells #[.int .i64 level] 3)).alloc (.cells #[.int .i64 2, .slice As set.length cs, .slice Ak 0 ck, .int .i64 mn, .int .i64 mx, .bool lz, .int .i64 gr, .int .i64 lk] 80)).alloc (.cells #[.slice Ak 0 ck] 74)).heap.size = w.heap.size + 5 := by simp
  have hn1 : (((((w.alloc (.cells #[.pointer (some ⟨mk, 0, none⟩)] 89)).alloc (.cells #[.int .i64 next] 3)).alloc (.cells #[.int .i64 level] 3)).alloc (.cells #[.int .i64 2, .slice As set.length cs, .slice Ak 0 ck, .int .i64 mn, .int .i64 mx, .bool lz, .int .i64 gr, .int .i64 lk] 80)).alloc (.cells #[.slice Ak 0 ck] 74)).cell? ⟨w.heap.size + 1, 0, none⟩ = some (.int .i64 next) := by simp [go_sem]
  have hn2 : (((((w.alloc (.cells #[.pointer (some ⟨mk, 0, none⟩)] 89)).alloc (.cells #[.int .i64 next] 3)).alloc (.cells #[.int .i64 level] 3)).alloc (.cells #[.int .i64 2, .slice As set.length cs, .slice Ak 0 ck, .int .i64 mn, .int .i64 mx, .bool lz, .int .i64 gr, .int .i64 lk] 80)).alloc (.cells #[.slice Ak 0 ck] 74)).cell? ⟨w.heap.size + 4, 0, none⟩ = some (.slice Ak 0 ck) := by simp [go_sem]
  obtain ⟨W5, hW5⟩ : ∃ W5, W5 = (((((w.alloc (.cells #[.pointer (some ⟨mk, 0, none⟩)] 89)).alloc (.cells #[.int .i64 next] 3)).alloc (.cells #[.int .i64 level] 3)).alloc (.cells #[.int .i64 2, .slice As set.length cs, .slice Ak 0 ck, .int .i64 mn, .int .i64 mx, .bool lz, .int .i64 gr, .int .i64 lk] 80)).alloc (.cells #[.slice Ak 0 ck] 74)) := ⟨_, rfl⟩
  rw [← hW5] at hbW hsz hn1 hn2 ⊢
  clear hW5
  refine wp_range_back (α := Unit) (w.heap.size + 4) 0 0 ck Ak [] (by simp) (by simp) rfl (fun _ => ()) (fun _ => #[.int .i64 0, .int .i64 0]) (fun _ => rfl) (fun k hk => absurd hk (by simp)) ?hRd (fun pr W => Below W5.heap.size W5 W) ?hI (Below.refl _ _) ?a1 ?hassign ?hbody ?hdone
  case hRd =>
    intro W hW
    exact ⟨(hW.cell (p := ⟨w.heap.size + 4, 0, none⟩) (by simp; omega)).trans hn2, fun k hk => absurd hk (by simp)⟩
  case hI =>
    rintro pr W W' row h hg hr
    exact h.grown hg (h.size) (fun r e => (hr r e).1)
  case hassign =>
    intro l x W K hK
    gi_wp2

    exact hK
  case hbody =>
    intro l pr x W _ hlt
    exact absurd hlt (by simp)
  case hdone =>
    intro D W hD hW hD2
    have hn3 := (hW.cell (p := ⟨w.heap.size + 1, 0, none⟩) (by simp; omega)).trans hn1
    go_wp2
    refine post_marks1 (v := .int .i64 next) rfl rfl [D] (w.heap.size + 1) rfl ?_ (by simp) (fun D' h => by simp at h; omega) (fun W' h => ⟨rfl, (hbW.trans (hW.mono (by omega))).trans (h.mono (by omega))⟩)
    intro D' h
    simp at h
    subst h
    exact hD2
end Go.Proofs.YtmbboianghbjkaaDoor

-- part Comp0
namespace Go.Proofs.YtmbboianghbjkaaDoor
open Go.RowKit Go.Shelf
set_option linter.unusedVariables false
set_option linter.unusedSimpArgs false
attribute [local go_sem] bl_refl bl_alloc bl_a2 bl_a3 bl_a4 bl_a5 bl_set bl_drew bl_drewN le_add_r lt_add_r addr_add Ex.old

theorem results_box {P : Program} {fn : Func} {p u : Tmp} {ty : TypeId} (h : fn.results = #[.cell p ty, .tmp u]) (tmps : Array Value) (w : World) (g : Nat) (t : TypeId) (cs : Array Value) (fr : Nat × Nat) (d : TypeDesc)
    (hp : tmps.getD p undef = .pointer (some ⟨g, 0, none⟩)) (hg : w.heap[g]? = some (.cells cs t fr))
    (hu : P.underlying ty = some d) (hd : (match d with | .struct _ | .array _ _ => true | _ => false) = true) (hi : (P.info? ty).map (·.size) = some cs.size) :
    (results fn tmps).run P w = .ok (.tuple #[.agg cs, tmps.getD u undef]) w := by
  have hp' : tmps[p]?.getD undef = .pointer (some ⟨g, 0, none⟩) := by simpa using hp
  simp [results, h, hp', asAddr, run_loadVar_row w g t ty cs fr d hg hu hd hi]
theorem eql_nilS (w : World) : Sem.run Tryd.prog (binOp BinOp.eql 33 (.slice none 0 0) (.slice none 0 0)) w = .ok (.bool true) w := by kernel_rfl
set_option maxRecDepth 100000 in
theorem cloneSnil_any (w : World) : Calls Tryd.prog 43 #[.slice none 0 0] w fun e w' => e = .returned (.slice none 0 0) ∧ Below w.heap.size w w' := by
  go_enter Tryd.func43, Tryd.ntmps43
  have hu := eql_nilS w
  go_wp2
  go_ret
  exact ⟨rfl, Below.refl _ _⟩

def cat0 : Node := ⟨2, [], [], 0, 0, false, 0, 0⟩
def tree0 : Tree := ⟨[cat0], [], false⟩
theorem tree0_ok : treeOk tree0 = true := by decide
theorem tree0_w : wAns tree0 = 1 := by decide

set_option maxRecDepth 100000 in
set_option maxHeartbeats 2000000 in
/-- The program of the tree that awake hands in. -/
theorem compile0_any (B : Nat) (w0 w : World) (nv : Value) (hb : Below B w0 w) (hB : B ≤ w.heap.size) (ht : TreeV B w0 nv (.slice none 0 0) tree0) (hg : BandsAt B w0) :
    Calls Tryd.prog 18 #[.agg #[nv, .slice none 0 0, .bool false]] w fun e w' => (∃ A c, e = .returned (.tuple #[.agg #[.slice A 2 c, .slice none 0 0, .bool false], .int .i64 0])) ∧ Below w.heap.size w w' := by
  obtain ⟨A, c, rfl, h1, h2, h3⟩ := ht.nodes
  obtain ⟨b, o, rfl, h4⟩ := h3 (by decide)
  have hn := h4 0 (by decide)
  have HT := Lib.hid ht
  have HG := Lib.hid hg
  clear h3 h4 ht hg h1
  rw [show tree0.nodes.length = 1 from rfl] at *
  go_enter Tryd.func18, Tryd.ntmps18
  go_wp2_with fail
  refine (weight_any B w0 _ _ _ (⟨[cat0], [], false⟩ : Tree) ((hb.alloc hB _).alloc (by simp; omega) _) (by simp; omega) HT.out HG.out).mono ?_
  rintro e w1 ⟨rfl, hb1⟩
  rw [show treeOk (⟨[cat0], [], false⟩ : Tree) = true from tree0_ok, show wAns (⟨[cat0], [], false⟩ : Tree) = 1 from tree0_w]
  rw [show errNo true = 0 from rfl]
  obtain ⟨W2, hW2⟩ : ∃ W2, W2 = (w.alloc (.cells #[.slice (some ⟨b, o, none⟩) 1 c, .slice none 0 0, .bool false] 35)).alloc (.cells #[.slice none 0 0, .slice none 0 0, .bool false] 41) := ⟨_, rfl⟩
  have hs2 : W2.heap.size = w.heap.size + 2 := by rw [hW2]; simp
  have hb2 : Below w.heap.size w W2 := by rw [hW2]; exact ((Below.refl _ _).alloc (by simp) _).alloc (by simp) _
  have hT : W2.heap[w.heap.size]? = some (.cells #[.slice (some ⟨b, o, none⟩) 1 c, .slice none 0 0, .bool false] 35 (0, 0)) := by
    rw [hW2]
    exact (Below.heap_alloc _ _ _ (by simp)).trans (World.alloc_heap_new w _)
  have hP : W2.heap[w.heap.size + 1]? = some (.cells #[.slice none 0 0, .slice none 0 0, .bool false] 41 (0, 0)) := by
    rw [hW2]
    have := World.alloc_heap_new (w.alloc (.cells #[.slice (some ⟨b, o, none⟩) 1 c, .slice none 0 0, .bool false] 35)) (.cells #[.slice none 0 0, .slice none 0 0, .bool false] 41)
    rwa [World.size_alloc] at this
  rw [← hW2] at hb1
  clear hW2
  have hs1 := hb1.size
  have e0 : w1.cell? ⟨w.heap.size, 0, none⟩ = some (.slice (some ⟨b, o, none⟩) 1 c) := by simp [World.cell?, (hb1.block w.heap.size (by omega)).trans hT]
  have hs3 : w.heap.size < w1.heap.size := by omega
  go_wp2_with fail
  have hbm : Below w1.heap.size w1 (w1.alloc (.cells #[.slice (some ⟨b, o, none⟩) 1 c, .slice none 0 0] 91)) := (Below.refl _ _).alloc (Nat.le_refl _) _
  refine (put_any (w.heap.size + 2) w1.heap.size (.slice (some ⟨b, o, none⟩) 1 c) (.slice none 0 0) [] ⟨9, .slice none 0 0, 0, 0, 0⟩ _ ⟨World.alloc_heap_new w1 _, World.ownsRow_nil _ _ _ _, by omega⟩ (by simp) rfl).mono ?_
  rintro e w3 ⟨rfl, ⟨v1, hm1⟩, hk1⟩
  go_wp2_with fail
  refine (put_any (w.heap.size + 2) w1.heap.size (.slice (some ⟨b, o, none⟩) 1 c) v1 [⟨9, .slice none 0 0, 0, 0, 0⟩] ⟨7, .slice none 0 0, 0, 0, 0⟩ _ hm1 (by simp) rfl).mono ?_
  rintro e w4 ⟨rfl, ⟨v2, hm2⟩, hk2⟩
  have hk12 := hk1.trans hk2
  have hm4 : Below (w.heap.size + 2) w1 w4 := (hbm.mono (by omega)).trans hk12.below
  have hb4 : Below B w0 w4 := (hb.trans (hb2.mono hB)).trans ((hb1.mono (by omega)).trans (hm4.mono (by omega)))
  have hs4 := hm4.size
  have q0 : w4.cell? ⟨w.heap.size, 0, none⟩ = some (.slice (some ⟨b, o, none⟩) 1 c) := by simp [World.cell?, ((hb1.mono (by omega : w.heap.size + 2 ≤ W2.heap.size)).trans hm4).block w.heap.size (by omega), hT]
  clear hk1 hm1 hk2 hk12
  go_wp2_with fail
  refine (nodeCat0_any (w.heap.size + 2) w1.heap.size B b o 1 c v2 _ w0 _ 0 1 0 cat0 hm2 hb4 (by omega) hn (by omega) rfl rfl (by omega)).mono ?_
  rintro e w5 ⟨rfl, hb5⟩
  have hr5 := own_below hm2.row hb5
  obtain ⟨g, cap, rfl⟩ := ownsRow_succ hr5
  have hml : w1.heap.size < w4.heap.size := (Array.getElem?_eq_some_iff.1 hm2.obj).1
  have ho5 := (hb5.block _ hml).trans hm2.obj
  have r0 : w5.cell? ⟨w1.heap.size, 1, none⟩ = some (.slice (some ⟨g, 0, none⟩) 2 cap) := by simp [World.cell?, ho5]
  have r1 : w5.cell? ⟨g, 2, none⟩ = some (.int .i64 0) := hr5.cellAt 2 (by simp [IV.cells])
  have r2 := hr5.frozenAt 2
  go_wp2_with fail
  have hgb : w5.heap[w1.heap.size]? = some (.cells #[.slice (some ⟨b, o, none⟩) 1 c, .slice (some ⟨g, 0, none⟩) 2 cap] 91 (0, 0)) := ho5
  have hgl : w.heap.size + 2 ≤ g := (hr5.lt g rfl).1
  have hne : w1.heap.size ≠ g := by
    rcases hr5.2 with ⟨e, _⟩ | ⟨g', cap', cur, e, _, hgb', _⟩
    · cases e
    · injection e with e1
      injection e1 with e1
      injection e1 with e1
      subst e1
      intro h
      rw [← h, hgb] at hgb'
      injection hgb' with hgb'
      injection hgb' with _ hgb'
      cases hgb'
  have hT5 : w5.heap[w.heap.size]? = some (.cells #[.slice (some ⟨b, o, none⟩) 1 c, .slice none 0 0, .bool false] 35 (0, 0)) := ((((hb1.mono (by omega : w.heap.size + 2 ≤ W2.heap.size)).trans hm4).trans (hb5.mono (by omega))).block w.heap.size (by omega)).trans hT
  have hP5 : (w5.setCell ⟨g, 2, none⟩ (.int .i64 1)).heap[w.heap.size + 1]? = some (.cells #[.slice none 0 0, .slice none 0 0, .bool false] 41 (0, 0)) := (Below.heap_setCell w5 ⟨g, 2, none⟩ (.int .i64 1) _ (by simp; omega)).trans (((((hb1.mono (by omega : w.heap.size + 2 ≤ W2.heap.size)).trans hm4).trans (hb5.mono (by omega))).block (w.heap.size + 1) (by omega)).trans hP)
  have k1 : (w5.setCell ⟨g, 2, none⟩ (.int .i64 1)).cell? ⟨w.heap.size, 1, none⟩ = some (.slice none 0 0) := by simp [World.cell?, Below.heap_setCell w5 ⟨g, 2, none⟩ (.int .i64 1) w.heap.size (by simp; omega), hT5]
  have k2 : (w5.setCell ⟨g, 2, none⟩ (.int .i64 1)).cell? ⟨w.heap.size, 2, none⟩ = some (.bool false) := by simp [World.cell?, Below.heap_setCell w5 ⟨g, 2, none⟩ (.int .i64 1) w.heap.size (by simp; omega), hT5]
  have k3 : (w5.setCell ⟨g, 2, none⟩ (.int .i64 1)).cell? ⟨w1.heap.size, 1, none⟩ = some (.slice (some ⟨g, 0, none⟩) 2 cap) := by simp [World.cell?, Below.heap_setCell w5 ⟨g, 2, none⟩ (.int .i64 1) w1.heap.size (by simpa using hne), hgb]
  have hbe : Below w.heap.size w (w5.setCell ⟨g, 2, none⟩ (.int .i64 1)) := (((hb2.trans (hb1.mono (by omega))).trans (hm4.mono (by omega))).trans (hb5.mono (by omega))).setCell (by simp; omega) _
  have hs6 : w5.heap.size = (w5.setCell ⟨g, 2, none⟩ (.int .i64 1)).heap.size := by simp
  have hs5 := hb5.size
  obtain ⟨W6, hW6⟩ : ∃ W6, W6 = w5.setCell ⟨g, 2, none⟩ (.int .i64 1) := ⟨_, rfl⟩
  rw [← hW6] at k1 k2 k3 hP5 hbe hs6 ⊢
  clear hW6 hgb hT5 ho5 hr5 r0 r1 r2 q0
  have z1 : w.heap.size + 1 < W6.heap.size := by omega
  have z2 : w1.heap.size < W6.heap.size := by omega
  have K1 : ∀ W', Below W6.heap.size W6 W' → W'.cell? ⟨w.heap.size, 1, none⟩ = some (.slice none 0 0) := fun W' h => (h.cell (p := ⟨w.heap.size, 1, none⟩) (by simp; omega)).trans k1
  have K2 : ∀ W', Below W6.heap.size W6 W' → W'.cell? ⟨w.heap.size, 2, none⟩ = some (.bool false) := fun W' h => (h.cell (p := ⟨w.heap.size, 2, none⟩) (by simp; omega)).trans k2
  have K3 : ∀ W', Below W6.heap.size W6 W' → W'.cell? ⟨w1.heap.size, 1, none⟩ = some (.slice (some ⟨g, 0, none⟩) 2 cap) := fun W' h => (h.cell (p := ⟨w1.heap.size, 1, none⟩) (by simp; omega)).trans k3
  have P0 : ∀ W', Below W6.heap.size W6 W' → W'.cell? ⟨w.heap.size + 1, 0, none⟩ = some (.slice none 0 0) ∧ W'.frozen? ⟨w.heap.size + 1, 0, none⟩ = false := fun W' h => by simp [World.cell?, World.frozen?, (h.block _ z1).trans hP5]
  have P1 : ∀ W', Below W6.heap.size W6 W' → W'.cell? ⟨w.heap.size + 1, 1, none⟩ = some (.slice none 0 0) ∧ W'.frozen? ⟨w.heap.size + 1, 1, none⟩ = false := fun W' h => by simp [World.cell?, World.frozen?, (h.block _ z1).trans hP5]
  have P2 : ∀ W', Below W6.heap.size W6 W' → W'.cell? ⟨w.heap.size + 1, 2, none⟩ = some (.bool false) ∧ W'.frozen? ⟨w.heap.size + 1, 2, none⟩ = false := fun W' h => by simp [World.cell?, World.frozen?, (h.block _ z1).trans hP5]
  have HP := Lib.hid hP5
  clear k1 k2 k3 hP5
  have HE := Lib.hid hbe
  clear hbe
  have ne1 : w1.heap.size ≠ w.heap.size + 1 := by omega
  have ne2 : w.heap.size + 1 ≠ w1.heap.size := by omega
  have kd1 := K1 _ (Below.refl W6.heap.size W6).drew
  have kd2 := K2 _ (Below.refl W6.heap.size W6).drew
  have kd3 := K3 _ (Below.refl W6.heap.size W6).drew
  go_region_held3 (fun W' => W'.cell? ⟨w1.heap.size, 1, none⟩ = some (.slice (some ⟨g, 0, none⟩) 2 cap) ∧ W'.cell? ⟨w.heap.size, 1, none⟩ = some (.slice none 0 0) ∧ W'.cell? ⟨w.heap.size, 2, none⟩ = some (.bool false)) (go_keep)
    ((go_at_call 43; refine (cloneSnil_any _).mono ?_; rintro e wc ⟨rfl, hbc⟩; have hbc' : Below W6.heap.size W6 wc := (Below.refl W6.heap.size W6).drew.trans hbc; clear hbc; have ke1 := K1 _ hbc'; have ke2 := K2 _ hbc'; have ke3 := K3 _ hbc'))
  go_wp2
  have c0 := (hbc'.block _ z1).trans HP.out
  have c1 := cells_set (cells_set (cells_set c0 0 (.slice (some ⟨g, 0, none⟩) 2 cap)) 1 (.slice none 0 0)) 2 (.bool false)
  refine bodyPost_ret (results_box rfl _ _ (w.heap.size + 1) 41 #[.slice (some ⟨g, 0, none⟩) 2 cap, .slice none 0 0, .bool false] (0, 0) _ rfl c1 Tryd.underlying41 rfl (by kernel_rfl)) rfl ⟨⟨_, _, rfl⟩, ?_⟩
  exact (((HE.out.trans (hbc'.mono (by omega))).setCell (by simp) _).setCell (by simp) _).setCell (by simp) _
end Go.Proofs.YtmbboianghbjkaaDoor

import Derived.Test.YtmbboianghbjkaaDoorChkB
namespace Go.Proofs.YtmbboianghbjkaaDoor
open Go.RowKit Go.Shelf
set_option linter.unusedVariables false
set_option linter.unusedSimpArgs false
attribute [local go_sem] bl_refl bl_alloc bl_a2 bl_a3 bl_a4 bl_a5 bl_set bl_drew bl_drewN le_add_r lt_add_r Go.Proofs.YtmbboianghbjkaaDoor.addr_add

theorem fits_any (B : Nat) (w0 w : World) (A : Option Addr) (c : Nat) (l : List (Int × Int)) (op x y n count groups : Int) (raw : Bool) (hb : Below B w0 w) (hB : B ≤ w.heap.size) (h : Sl (RngAt B w0) 2 (.slice A l.length c) l) (hg : BandsAt B w0) :
    Calls Tryd.prog 62 #[.agg #[.int .i64 op, .slice A l.length c, .int .i64 x, .int .i64 y, .int .i64 n], .int .i64 count, .int .i64 groups, .bool raw] w fun e w' => e = .returned (.bool (fitsV op l x y n count groups raw)) ∧ Below w.heap.size w w' := by
  by_cases h1 : op = 1
  · subst h1; exact fits_1 B w0 w A c l x y n count groups raw hb hB h hg
  by_cases h2 : op = 2
  · subst h2; exact fits_2 B w0 w A c l x y n count groups raw hb hB h hg
  by_cases h3 : op = 3 ∨ op = 4 ∨ op = 5 ∨ op = 6
  · exact fits_5 B w0 w A c l op x y n count groups raw (by unfold hasV; rw [if_neg h1, if_neg h2, if_pos h3]) hb hB h hg
  by_cases h9 : op = 9
  · subst h9; exact fits_9 B w0 w A c l x y n count groups raw hb hB h hg
  by_cases h7 : op = 7 ∨ op = 8
  · exact fits_0 B w0 w A c l op x y n count groups raw (by unfold hasV; rw [if_neg h1, if_neg h2, if_neg h3, if_neg h9, if_pos h7]) hb hB h hg
  · exact fits_bad B w0 w A c l op x y n count groups raw (by unfold hasV; rw [if_neg h1, if_neg h2, if_neg h3, if_neg h9, if_neg h7]) hb hB h hg

def fitsX (x : Inst) (count groups : Nat) (raw : Bool) : Bool := fitsV x.op x.set x.x x.y x.n count groups raw
def prgOk (l : List Inst) (names : List ByteArray) (raw : Bool) : Bool :=
  decide (1 ≤ l.length) && decide (l.length ≤ 20000) && fitOk names && (List.range l.length).all fun i => fitsX (l.getD i default) l.length names.length raw
set_option maxHeartbeats 4000000 in
theorem pcheck_any (B : Nat) (w0 w : World) (A0 : Option Addr) (c0 : Nat) (l0 : List Inst) (A1 : Option Addr) (c1 : Nat) (l1 : List ByteArray) (raw : Bool) (hb : Below B w0 w) (hB : B ≤ w.heap.size) (h0 : Sl (InstAt B w0) 5 (.slice A0 l0.length c0) l0) (h1 : Sl (StrAt B w0) 1 (.slice A1 l1.length c1) l1) (hz : ∀ x ∈ l1, x.size ≤ 140737488351232) (hg : BandsAt B w0) :
    Calls Tryd.prog 29 #[.agg #[.slice A0 l0.length c0, .slice A1 l1.length c1, .bool raw]] w fun e w' => e = .returned (.int .i64 (errNo (prgOk l0 l1 raw))) ∧ Below w.heap.size w w' := by
  have HC := Lib.hid h0
  have HG := Lib.hid hg
  have hlen : l0.length ≤ 9223372036854775807 := by obtain ⟨_, _, _, _, q, _⟩ := h0; exact q
  have hlen1 : l1.length ≤ 9223372036854775807 := by obtain ⟨_, _, _, _, q, _⟩ := h1; exact q
  have HN := Lib.hid (fun W (hb2 : Below w.heap.size w W) => allNamed_any B w0 W A1 c1 l1 (hb.trans (hb2.mono hB)) (Nat.le_trans hB hb2.size) h1 hz)
  clear h0 h1 hz hg
  by_cases g1 : l0.length < 1
  · have g1' : (l0.length : Int) < 1 := by omega
    have HP : Hid (prgOk l0 l1 raw = false) := Lib.hid (by unfold prgOk; simp; omega)
    go_enter Tryd.func29, Tryd.ntmps29
    go_wp2
    go_ret
    exact ⟨ret_int (by rw [HP.out]; rfl), (by repeat' (first | exact Below.refl _ _ | (refine below_drewN ?_ _) | (refine Below.alloc ?_ ?_ _) | (refine below_set ?_ ?_) | omega | (simp; done) | (simp; omega)))⟩
  by_cases g2 : 20000 < l0.length
  · have g2' : 20000 < (l0.length : Int) := by omega
    have g1' : 1 ≤ (l0.length : Int) := by omega
    have HP : Hid (prgOk l0 l1 raw = false) := Lib.hid (by unfold prgOk; simp; omega)
    clear g1 g2
    go_enter Tryd.func29, Tryd.ntmps29
    go_wp2
    go_ret
    exact ⟨ret_int (by rw [HP.out]; rfl), (by repeat' (first | exact Below.refl _ _ | (refine below_drewN ?_ _) | (refine Below.alloc ?_ ?_ _) | (refine below_set ?_ ?_) | omega | (simp; done) | (simp; omega)))⟩
  have g1' : 1 ≤ (l0.length : Int) := by omega
  have g2' : (l0.length : Int) ≤ 20000 := by omega
  go_enter Tryd.func29, Tryd.ntmps29
  go_wp2_with fail
  refine (HN.out _ ?_).mono ?_
  · (repeat' (first | exact Below.refl _ _ | (refine below_drewN ?_ _) | (refine Below.alloc ?_ ?_ _) | (refine below_set ?_ ?_) | omega | (simp; done) | (simp; omega)))
  rintro e w1 ⟨rfl, hb1⟩
  have hb2 := Below.trans (show Below w.heap.size w _ from (by repeat' (first | exact Below.refl _ _ | (refine below_drewN ?_ _) | (refine Below.alloc ?_ ?_ _) | (refine below_set ?_ ?_) | omega | (simp; done) | (simp; omega)))) (hb1.mono (by simp; try omega))
  have hbx := (hb1.block w.heap.size (by simp)).trans (World.alloc_heap_new w _)
  have hzz := hb1.size
  simp at hzz
  clear hb1
  by_cases nm : fitOk l1 = true
  case neg =>
    rw [show fitOk l1 = false by simpa using nm]
    have HP : Hid (prgOk l0 l1 raw = false) := Lib.hid (by unfold prgOk; rw [show fitOk l1 = false by simpa using nm]; simp)
    clear nm
    go_wp2
    go_ret
    exact ⟨ret_int (by rw [HP.out]; rfl), hb2⟩
  rw [nm]
  have NM := Lib.hid nm
  have HP : Hid (prgOk l0 l1 raw = (List.range l0.length).all fun i => fitsX (l0.getD i default) l0.length l1.length raw) := Lib.hid (by
    unfold prgOk
    rw [nm, decide_eq_true (show 1 ≤ l0.length by omega), decide_eq_true (show l0.length ≤ 20000 by omega)]
    rfl)
  clear nm
  have q0 : w1.cell? ⟨w.heap.size, 0, none⟩ = some (.slice A0 l0.length c0) := by rw [cell_of_row _ _ _ _ _ _ hbx]; rfl
  have HBX := Lib.hid hbx
  clear hbx
  go_wp2
  clear q0
  go_loopw [4, 24] (fun _ v24 wr => ∃ k : Nat, k ≤ l0.length ∧ v24 = .int .i64 k ∧ (∀ j, j < k → fitsX (l0.getD j default) l0.length l1.length raw = true) ∧ Below w.heap.size w wr ∧ w1.heap.size ≤ wr.heap.size ∧ wr.heap[w.heap.size]? = some (.cells #[.slice A0 l0.length c0, .slice A1 l1.length c1, .bool raw] 41 (0, 0))) (fun _ v24 _ => l0.length - (intOf v24).toNat)
  case atStart => exact ⟨0, by omega, rfl, by omega, hb2, Nat.le_refl _, HBX.out⟩
  case round =>
    obtain ⟨k, hk, rfl, hn, hbr, hszr, hbxr⟩ := hrel
    have HN2 := Lib.hid hn
    clear hn
    have hszw : w.heap.size < wr.heap.size := by omega
    have q0 : wr.cell? ⟨w.heap.size, 0, none⟩ = some (.slice A0 l0.length c0) := by rw [cell_of_row _ _ _ _ _ _ hbxr]; rfl
    have q1 : wr.cell? ⟨w.heap.size, 1, none⟩ = some (.slice A1 l1.length c1) := by rw [cell_of_row _ _ _ _ _ _ hbxr]; rfl
    have q2 : wr.cell? ⟨w.heap.size, 2, none⟩ = some (.bool raw) := by rw [cell_of_row _ _ _ _ _ _ hbxr]; rfl
    have HBR := Lib.hid hbxr
    clear hbxr
    by_cases hlt : k < l0.length
    · obtain ⟨A', c', e', _, _, hcells⟩ := HC.out
      cases e'
      obtain ⟨b, o, rfl, hR⟩ := hcells (by omega)
      have hI := hR k hlt
      clear hcells hR
      have HD := Lib.hid (getD_at l0 k default hlt)
      have hbw := hb.trans (hbr.mono hB)
      obtain ⟨sv, e1', hC2⟩ := hI.set
      have HC2 := Lib.hid hC2
      obtain ⟨A2, c2, rfl, hc2, _⟩ := hC2
      have e0 := hI.op wr hbw
      have e1 := e1' wr hbw
      have e2 := hI.x wr hbw
      have e3 := hI.y wr hbw
      have e4 := hI.n wr hbw
      clear e1' hI
      generalize hx : l0[k] = x at *
      have HX := Lib.hid hx
      clear hx
      go_wp2_with fail
      refine (fits_any B w0 _ A2 c2 x.set x.op x.x x.y x.n l0.length l1.length raw (hb.trans (Below.mono (B := w.heap.size) ?_ hB)) ?_ HC2.out HG.out).mono ?_
      rotate_left 2
      rintro e w2 ⟨rfl, hb3⟩
      have hb4 := Below.trans (show Below w.heap.size w _ from (by repeat' (first | exact hbr | exact Below.refl _ _ | (refine below_drewN ?_ _) | (refine Below.alloc ?_ ?_ _) | (refine below_set ?_ ?_) | omega | (simp; done) | (simp; omega)))) (hb3.mono (by simp; try omega))
      have hzz2 := hb3.size
      simp at hzz2
      have hbx2 : w2.heap[w.heap.size]? = some (.cells #[.slice (some ⟨b, o, none⟩) l0.length c0, .slice A1 l1.length c1, .bool raw] 41 (0, 0)) := by
        rw [hb3.block w.heap.size (by simp; omega)]
        exact (Below.block (show Below wr.heap.size wr _ from (by repeat' (first | exact Below.refl _ _ | (refine below_drewN ?_ _) | (refine Below.alloc ?_ ?_ _) | (refine below_set ?_ ?_) | omega | (simp; done) | (simp; omega)))) _ hszw).trans HBR.out
      clear hb3
      have hkk : (fitsV x.op x.set x.x x.y x.n l0.length l1.length raw) = fitsX x l0.length l1.length raw := rfl
      rw [hkk]
      clear hkk
      by_cases fx : fitsX x l0.length l1.length raw = true
      · rw [fx]
        have FX := Lib.hid fx
        clear fx
        go_wp2
        go_roundw
        case rel => exact ⟨k + 1, by omega, by go_num, fun j hj => by
          by_cases e : j = k
          · rw [e, ← HD.out]; exact FX.out
          · exact HN2.out j (by omega), hb4, by omega, hbx2⟩
        case measure => simp [intOf]; omega
      · rw [show fitsX x l0.length l1.length raw = false by simpa using fx]
        have FX := Lib.hid fx
        clear fx
        go_wp2
        go_ret
        refine ⟨ret_int ?_, hb4⟩
        rw [HP.out, List.all_eq_false.2 ⟨k, by simpa using hlt, by rw [← HD.out]; exact FX.out⟩]
        rfl
      all_goals (repeat' (first | exact hbr | exact Below.refl _ _ | (refine below_drewN ?_ _) | (refine Below.alloc ?_ ?_ _) | (refine below_set ?_ ?_) | omega | (simp; done) | (simp; omega)))
    · obtain rfl : k = l0.length := by omega
      go_wp2
      go_ret
      refine ⟨ret_int ?_, hbr⟩
      rw [HP.out, List.all_eq_true.2 (fun j hj => HN2.out j (by simpa using hj))]
      rfl
end Go.Proofs.YtmbboianghbjkaaDoor

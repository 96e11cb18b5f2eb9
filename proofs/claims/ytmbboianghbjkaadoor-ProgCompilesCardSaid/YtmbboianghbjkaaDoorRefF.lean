import Derived.Test.YtmbboianghbjkaaDoorRefE
namespace Go.Proofs.YtmbboianghbjkaaDoor
open Go.RowKit Go.Shelf
set_option linter.unusedVariables false
set_option linter.unusedSimpArgs false
attribute [local go_sem] bl_refl bl_alloc bl_a2 bl_a3 bl_a4 bl_a5 bl_set bl_drew bl_drewN le_add_r lt_add_r Go.Proofs.YtmbboianghbjkaaDoor.addr_add Ex.old

def instsOk' (l : List Inst) : Prop := ∀ x ∈ l, rngsOk' x.set
set_option maxHeartbeats 4000000 in
theorem rcheck_any (B : Nat) (w0 w : World) (A0 : Option Addr) (c0 : Nat) (l0 : List Inst) (A1 : Option Addr) (c1 : Nat) (l1 : List ByteArray) (raw : Bool) (hb : Below B w0 w) (hB : B ≤ w.heap.size) (h0 : Sl (InstAt B w0) 5 (.slice A0 l0.length c0) l0) (h1 : Sl (StrAt B w0) 1 (.slice A1 l1.length c1) l1) (hz : ∀ x ∈ l1, x.size ≤ 140737488351232) (hr : instsOk' l0) :
    Calls Tryd.prog 24 #[.agg #[.slice A0 l0.length c0, .slice A1 l1.length c1, .bool raw]] w fun e w' => e = .returned (.int .i64 (errNo (prgOk l0 l1 raw))) ∧ Below w.heap.size w w' := by
  have HC := Lib.hid h0
  have HR := Lib.hid hr
  have hlen : l0.length ≤ 9223372036854775807 := by obtain ⟨_, _, _, _, q, _⟩ := h0; exact q
  have hlen1 : l1.length ≤ 9223372036854775807 := by obtain ⟨_, _, _, _, q, _⟩ := h1; exact q
  have HN := Lib.hid (fun W (hb2 : Below w.heap.size w W) => rpnames_any W _ l1 (Sl.rdS h1 (hb.trans (hb2.mono hB))) hz)
  clear h0 h1 hz hr
  by_cases g1 : l0.length < 1
  · have g1' : (l0.length : Int) < 1 := by omega
    have HP : Hid (prgOk l0 l1 raw = false) := Lib.hid (by unfold prgOk; simp; omega)
    go_enter Tryd.func24, Tryd.ntmps24
    go_wp2
    go_ret
    exact ⟨ret_int (by rw [HP.out]; rfl), (by repeat' (first | exact Below.refl _ _ | (refine below_drewN ?_ _) | (refine Below.alloc ?_ ?_ _) | (refine below_set ?_ ?_) | omega | (simp; done) | (simp; omega)))⟩
  by_cases g2 : 20000 < l0.length
  · have g2' : 20000 < (l0.length : Int) := by omega
    have g1' : 1 ≤ (l0.length : Int) := by omega
    have HP : Hid (prgOk l0 l1 raw = false) := Lib.hid (by unfold prgOk; simp; omega)
    clear g1 g2
    go_enter Tryd.func24, Tryd.ntmps24
    go_wp2
    go_ret
    exact ⟨ret_int (by rw [HP.out]; rfl), (by repeat' (first | exact Below.refl _ _ | (refine below_drewN ?_ _) | (refine Below.alloc ?_ ?_ _) | (refine below_set ?_ ?_) | omega | (simp; done) | (simp; omega)))⟩
  have g1' : 1 ≤ (l0.length : Int) := by omega
  have g2' : (l0.length : Int) ≤ 20000 := by omega
  go_enter Tryd.func24, Tryd.ntmps24
  go_wp2_with fail
  refine (HN.out _ ?_).mono ?_
  · (repeat' (first | exact Below.refl _ _ | (refine below_drewN ?_ _) | (refine Below.alloc ?_ ?_ _) | (refine below_set ?_ ?_) | omega | (simp; done) | (simp; omega)))
  rintro e w1 ⟨rfl, nd, rfl⟩
  have hbx : ((w.alloc (.cells #[.slice A0 l0.length c0, .slice A1 l1.length c1, .bool raw] 41)).drewN nd).heap[w.heap.size]? = some (.cells #[.slice A0 l0.length c0, .slice A1 l1.length c1, .bool raw] 41 (0, 0)) := World.alloc_heap_new w _
  have hb2 : Below w.heap.size w ((w.alloc (.cells #[.slice A0 l0.length c0, .slice A1 l1.length c1, .bool raw] 41)).drewN nd) := below_drewN ((Below.refl _ _).alloc (Nat.le_refl _) _) _
  have hzz : w.heap.size + 1 ≤ ((w.alloc (.cells #[.slice A0 l0.length c0, .slice A1 l1.length c1, .bool raw] 41)).drewN nd).heap.size := by simp
  generalize (w.alloc (.cells #[.slice A0 l0.length c0, .slice A1 l1.length c1, .bool raw] 41)).drewN nd = w1 at *
  by_cases nm : fitOk l1 = true
  case neg =>
    rw [show fitOk l1 = false by simpa using nm]
    have HP : Hid (prgOk l0 l1 raw = false) := Lib.hid (by unfold prgOk; rw [show fitOk l1 = false by simpa using nm]; simp)
    clear nm
    go_wp2
    go_ret
    exact ⟨ret_int (by rw [HP.out]; rfl), hb2⟩
  rw [nm]
  have hnm40 : l1.length ≤ 40 := by
    unfold fitOk at nm
    simp only [Bool.and_eq_true, decide_eq_true_eq] at nm
    exact nm.1
  have HP : Hid (prgOk l0 l1 raw = (List.range l0.length).all fun i => fitsX (l0.getD i default) l0.length l1.length raw) := Lib.hid (by
    unfold prgOk
    rw [nm, decide_eq_true (show 1 ≤ l0.length by omega), decide_eq_true (show l0.length ≤ 20000 by omega)]
    rfl)
  clear nm
  have q0 : w1.cell? ⟨w.heap.size, 0, none⟩ = some (.slice A0 l0.length c0) := by rw [cell_of_row _ _ _ _ _ _ hbx]; rfl
  have HBX := Lib.hid hbx
  clear hbx
  go_wp2
  clear q0
  go_loopw [4] (fun v4 wr => ∃ k : Nat, k ≤ l0.length ∧ v4 = .int .i64 k ∧ (∀ j, j < k → fitsX (l0.getD j default) l0.length l1.length raw = true) ∧ Below w.heap.size w wr ∧ w.heap.size + 1 ≤ wr.heap.size ∧ wr.heap[w.heap.size]? = some (.cells #[.slice A0 l0.length c0, .slice A1 l1.length c1, .bool raw] 41 (0, 0))) (fun v4 _ => l0.length - (intOf v4).toNat)
  case atStart => exact ⟨0, by omega, rfl, by omega, hb2, hzz, HBX.out⟩
  case round =>
    obtain ⟨k, hk, rfl, hn, hbr, hszr, hbxr⟩ := hrel
    have HN2 := Lib.hid hn
    clear hn
    have hszw : w.heap.size < wr.heap.size := by omega
    have q0 : wr.cell? ⟨w.heap.size, 0, none⟩ = some (.slice A0 l0.length c0) := by rw [cell_of_row _ _ _ _ _ _ hbxr]; rfl
    have q1 : wr.cell? ⟨w.heap.size, 1, none⟩ = some (.slice A1 l1.length c1) := by rw [cell_of_row _ _ _ _ _ _ hbxr]; rfl
    have q2 : wr.cell? ⟨w.heap.size, 2, none⟩ = some (.bool raw) := by rw [cell_of_row _ _ _ _ _ _ hbxr]; rfl
    have HBR := Lib.hid hbxr
    clear hbxr
    by_cases hlt : k < l0.length
    · obtain ⟨A', c', e', _, _, hcells⟩ := HC.out
      cases e'
      obtain ⟨b, o, rfl, hR⟩ := hcells (by omega)
      have hI := hR k hlt
      have hro := HR.out _ (List.getElem_mem hlt)
      clear hcells hR
      have HD := Lib.hid (getD_at l0 k default hlt)
      have hbw := hb.trans (hbr.mono hB)
      obtain ⟨sv, e1', hC2⟩ := hI.set
      have HC2 := Lib.hid hC2
      obtain ⟨A2, c2, rfl, hc2, _⟩ := hC2
      have e0 := hI.op wr hbw
      have e1 := e1' wr hbw
      have e2 := hI.x wr hbw
      have e3 := hI.y wr hbw
      have e4 := hI.n wr hbw
      clear e1' hI
      generalize hx : l0[k] = x at *
      have HX := Lib.hid hx
      have HRO := Lib.hid hro
      clear hx hro
      have hob : b < wr.heap.size := by
        obtain ⟨ob, ho, _⟩ := cells_of_cell e0
        exact (Array.getElem?_eq_some_iff.1 ho).1
      have CI := Lib.hid (fun y : Ex wr.heap.size wr => rinst_any B w0 y.val A2 c2 x.set x.op x.x x.y x.n l0.length l1.length raw (by omega) hnm40 (hbw.trans (y.prop.mono (Nat.le_trans hB hbr.size))) (Nat.le_trans (Nat.le_trans hB hbr.size) y.prop.size) HC2.out HRO.out)
      have HY1 := Lib.hid (fun y : Ex wr.heap.size wr => hbr.trans (y.prop.mono hbr.size))
      have HY2 := Lib.hid (fun y : Ex wr.heap.size wr => (y.prop.block w.heap.size hszw).trans HBR.out)
      have HY3 := Lib.hid (fun y : Ex wr.heap.size wr => y.prop.size)
      go_wp2
      refine wp_region_ex wr.heap.size (Nat.le_refl _) (by kernel_rfl) (by kernel_rfl) ?_
      repeat (go_big_quiet_step (first | with_reducible rfl | (go_at_call 48; exact quiet_call _ (CI.out _))))
      refine wpQuiet_nil ?_
      rintro _ ⟨y, rfl⟩
      have hb4 := HY1.out y
      have hbx2 := HY2.out y
      have hzz2 := HY3.out y
      clear e0 e1 e2 e3 e4 q0 q1 q2
      have hkk : (fitsV x.op x.set x.x x.y x.n l0.length l1.length raw) = fitsX x l0.length l1.length raw := rfl
      rw [hkk]
      clear hkk
      by_cases fx : fitsX x l0.length l1.length raw = true
      · rw [fx]
        have FX := Lib.hid fx
        clear fx
        go_wp2
        go_roundw
        case rel => exact ⟨k + 1, by omega, by go_num, fun j hj => by
          by_cases e : j = k
          · rw [e, ← HD.out]; exact FX.out
          · exact HN2.out j (by omega), hb4, by omega, hbx2⟩
        case measure => simp [intOf]; omega
      · rw [show fitsX x l0.length l1.length raw = false by simpa using fx]
        have FX := Lib.hid fx
        clear fx
        go_wp2
        go_ret
        refine ⟨ret_int ?_, hb4⟩
        rw [HP.out, List.all_eq_false.2 ⟨k, by simpa using hlt, by rw [← HD.out]; exact FX.out⟩]
        rfl
    · obtain rfl : k = l0.length := by omega
      go_wp2
      go_ret
      refine ⟨ret_int ?_, hbr⟩
      rw [HP.out, List.all_eq_true.2 (fun j hj => HN2.out j (by simpa using hj))]
      rfl

set_option maxHeartbeats 2000000 in
theorem sameTexts_any (w : World) (v1 v2 : Value) (xs : List ByteArray) (h1 : RdS w v1 xs) (h2 : RdS w v2 xs) :
    Calls Tryd.prog 25 #[v1, v2] w fun e w' => e = .returned (.bool true) ∧ ∃ m, w' = w.drewN m := by
  obtain ⟨A1, c1, rfl, l1, r1⟩ := h1
  obtain ⟨A2, c2, rfl, l2, r2⟩ := h2
  have R1 := Lib.hid r1
  have R2 := Lib.hid r2
  clear r1 r2
  go_enter Tryd.func25, Tryd.ntmps25
  go_wp2
  go_loopw [5] (fun v5 wr => ∃ k : Nat, k ≤ xs.length ∧ v5 = .int .i64 k ∧ ∃ m, wr = w.drewN m) (fun v5 _ => xs.length - (intOf v5).toNat)
  case atStart => exact ⟨0, by omega, rfl, 0, rfl⟩
  case round =>
    obtain ⟨k, hk, rfl, nd, rfl⟩ := hrel
    by_cases hlt : k < xs.length
    · obtain ⟨b, o, rfl, hR⟩ := R1.out (by omega)
      obtain ⟨b2, o2, rfl, hR2⟩ := R2.out (by omega)
      have c1' := hR k hlt
      have c2' := hR2 k hlt
      clear hR hR2
      generalize xs[k] = x at *
      have hxx : (x.toList == x.toList) = true := by simp
      go_wp2
      go_quiet (fail)
      go_wp2
      go_roundw
      case rel => exact ⟨k + 1, by omega, by go_num, by first | exact ⟨_, rfl⟩ | exact ⟨_, World.drewN_drewN ..⟩⟩
      case measure => simp [intOf]; omega
    · obtain rfl : k = xs.length := by omega
      go_wp2
      go_ret
      exact ⟨rfl, _, rfl⟩
end Go.Proofs.YtmbboianghbjkaaDoor

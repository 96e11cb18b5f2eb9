import Derived.Test.YtmbboianghbjkaaDoorPLawBProgChecks
import Derived.Test.YtmbboianghbjkaaDoorAwake
namespace Go.Proofs.YtmbboianghbjkaaDoor
namespace PProgChecks
open Go.RowKit Go.Shelf Go.Proofs.YtmbboianghbjkaaDoorW.PrintWords Go.Proofs.YtmbboianghbjkaaDoorW.PrintLast Go.Proofs.YtmbboianghbjkaaDoorW.PrintMore
set_option linter.unusedVariables false
set_option linter.unusedSimpArgs false
attribute [local go_sem] bl_refl bl_alloc bl_a2 bl_a3 bl_a4 bl_a5 bl_set bl_drew bl_drewN le_add_r lt_add_r Go.Proofs.YtmbboianghbjkaaDoor.addr_add

theorem bRange : Tryd.prog.bytesOf 96 = 8 := by kernel_rfl
theorem bInst : Tryd.prog.bytesOf 47 = 56 := by kernel_rfl
theorem bString : Tryd.prog.bytesOf 9 = 16 := by kernel_rfl
set_option maxHeartbeats 4000000 in
theorem checks_any (w : World) (A0 : Option Addr) (c0 : Nat) (l0 : List S47) (A1 : Option Addr) (c1 : Nat) (l1 : List ByteArray) (raw : Bool) (h0 : Kd.C k47 w A0 l0.length l0) (hc0 : l0.length ≤ c0) (h1 : Kd.C Kd.string w A1 l1.length l1) (hc1 : l1.length ≤ c1) (g0 : instsOk l0) (g1 : strsOk l1) (hg : BandsAt w.heap.size w) (hT : TabsAt w.heap.size w) :
    Calls Tryd.prog 6 #[.agg #[.slice A0 l0.length c0, .slice A1 l1.length c1, .bool raw]] w fun e w' => e = .returned (.bool true) ∧ Below w.heap.size w w' := by
  obtain ⟨m0, e0⟩ := g0
  obtain ⟨m1, e1⟩ := g1
  rw [bInst] at m0
  rw [bString] at m1
  unfold reachBytes at m0 m1
  have hz : ∀ x ∈ l1, x.size ≤ 140737488351232 := fun x hx => by have := e1 x hx; unfold reachBytes at this; omega
  have hs : ∀ x ∈ l0, x.f1.length < 17592186044416 ∧ ∀ r ∈ x.f1, rngOk r := fun x hx => by
    obtain ⟨_, ⟨q1, q2⟩, _⟩ := e0 x hx
    rw [bRange] at q1
    unfold reachBytes at q1
    exact ⟨by omega, q2⟩
  obtain ⟨k1, hk1⟩ := (rcheck_ev l0 l1 raw (by omega) (by omega) hz (fun x hx => ⟨by have := (hs x hx).1; omega, (hs x hx).2⟩)).rounds
  obtain ⟨k2, hk2⟩ := (copy_ev l0 l1 raw (by omega) (by omega) (fun x hx => (hs x hx).1)).rounds
  have HR := Lib.hid (fun W (hb : Below w.heap.size w W) => thistleref12_Check.calls k1 A0 c0 l0 A1 c1 l1 raw _ W (Kd.C_below h0 hb) hc0 (Kd.C_below h1 hb) hc1 hk1)
  have HCP := Lib.hid (fun W (hb : Below w.heap.size w W) => thistleref02_CopyProg.calls k2 A0 c0 l0 A1 c1 l1 raw l0 l1 raw W (Kd.C_below h0 hb) hc0 (Kd.C_below h1 hb) hc1 hk2)
  have AW := Lib.hid (fun W (hb : Below w.heap.size w W) => awake_any w.heap.size w W hb hb.size hg hT)
  have HPC := Lib.hid (fun W (hb : Below w.heap.size w W) A0' c0' A1' c1' h0' hc0' h1' hc1' => pcheck_any W A0' c0' l0 A1' c1' l1 raw h0' hc0' h1' hc1' hz (hg.up hb hb.size))
  clear h0 h1 hk1 hk2 hz hs e0 e1 hg hT
  go_enter Tryd.func6, Tryd.ntmps6
  go_wp2_with fail
  refine (HR.out _ ?_).mono ?_
  · (repeat' (first | exact Below.refl _ _ | (refine below_drewN ?_ _) | (refine Below.alloc ?_ ?_ _) | (refine below_set ?_ ?_) | omega | (simp; done) | (simp; omega)))
  rintro e w1 ⟨rfl, hb1⟩
  have hb2 := Below.trans (show Below w.heap.size w _ from (by repeat' (first | exact Below.refl _ _ | (refine below_drewN ?_ _) | (refine Below.alloc ?_ ?_ _) | (refine below_set ?_ ?_) | (simp; done) | (simp; omega)))) (hb1.mono (by simp; try omega))
  have hbx := (hb1.block w.heap.size (by simp)).trans (World.alloc_heap_new w _)
  have hzz := hb1.size
  simp at hzz
  clear hb1
  go_wp2_with fail
  refine (AW.out _ hb2).mono ?_
  rintro e w2 ⟨rfl, hb3⟩
  have hbx2 := (hb3.block w.heap.size (by omega)).trans hbx
  have hb4 := hb2.trans (hb3.mono hb2.size)
  have hzz2 := hb3.size
  clear hb3 hbx
  have q0 : w2.cell? ⟨w.heap.size, 0, none⟩ = some (.slice A0 l0.length c0) := by rw [cell_of_row _ _ _ _ _ _ hbx2]; rfl
  have q1 : w2.cell? ⟨w.heap.size, 1, none⟩ = some (.slice A1 l1.length c1) := by rw [cell_of_row _ _ _ _ _ _ hbx2]; rfl
  have q2 : w2.cell? ⟨w.heap.size, 2, none⟩ = some (.bool raw) := by rw [cell_of_row _ _ _ _ _ _ hbx2]; rfl
  clear hbx2
  go_wp2_with fail
  refine (HCP.out _ hb4).mono ?_
  rintro e w3 ⟨v0, v1, rfl, hS, hR, hb5⟩
  obtain ⟨A0', c0', rfl, hc0', hC0⟩ := Kd.S_reads hS
  obtain ⟨A1', c1', rfl, hc1', hC1⟩ := Kd.R_reads hR
  have hb6 := hb4.trans (hb5.mono hb4.size)
  have HPC2 := Lib.hid (HPC.out _ hb6 A0' c0' A1' c1' hC0 hc0' hC1 hc1')
  clear hS hR hC0 hC1 hb5 q0 q1 q2
  go_wp2_with fail
  refine (HPC2.out).mono ?_
  rintro e w4 ⟨rfl, hb7⟩
  have hb8 := hb6.trans (hb7.mono hb6.size)
  have heq : (errNo (progOk l0 l1 raw) == errNo (progOk l0 l1 raw)) = true := by simp
  generalize errNo (progOk l0 l1 raw) = q at *
  go_wp2
  go_ret
  exact ⟨rfl, hb8⟩
end PProgChecks
end Go.Proofs.YtmbboianghbjkaaDoor

import Derived.Test.YtmbboianghbjkaaDoorAwake
import Derived.Test.YtmbboianghbjkaaDoorRefUtf
namespace Go.Proofs.YtmbboianghbjkaaDoor
open Go.RowKit Go.Shelf Go.Proofs.YtmbboianghbjkaaDoor.PProgLooks
set_option linter.unusedVariables false
set_option linter.unusedSimpArgs false
attribute [local go_sem] bl_refl bl_alloc bl_a2 bl_a3 bl_a4 bl_a5 bl_set bl_drew bl_drewN le_add_r lt_add_r addr_add

set_option maxHeartbeats 4000000 in
theorem looks_any (B : Nat) (w0 w : World) (s : ByteArray) (hs : s.size ≤ 140737488351232) (hb : Below B w0 w) (hB : B ≤ w.heap.size) (hg : BandsAt B w0) (hT : TabsAt B w0) (n a : Int) :
    Calls Tryd.prog 3 #[.int .i64 n, .string s, .int .i64 a] w fun e w' => e = .returned (.bool true) ∧ Below w.heap.size w w' := by
  have HT := Lib.hid hT
  have AW := Lib.hid (awake_any B w0 w hb hB hg hT)
  have HS := Lib.hid hs
  clear hT hg hs
  go_enter Tryd.func3, Tryd.ntmps3
  go_wp2_with fail
  refine AW.out.mono ?_
  rintro e w1 ⟨rfl, hb1⟩
  go_wp2
  go_loopw [7] (fun v wr => ∃ i : Nat, i ≤ 2 ∧ v = .int .i64 i ∧ Below w.heap.size w wr) (fun v _ => 2 - (intOf v).toNat)
  case atStart => exact ⟨0, by omega, rfl, hb1⟩
  case round =>
    obtain ⟨i, hi, rfl, hbr⟩ := hrel
    have arm : ∀ raw : Bool, ∃ p : Bool, ∃ q : Int, lookB n s a raw = p ∧ lookE n s a raw = q ∧ (p != p) = false ∧ (q != q) = false := fun raw => ⟨_, _, rfl, rfl, by simp, by simp⟩
    have ARM := Lib.hid arm
    clear arm
    rcases (show i = 0 ∨ i = 1 ∨ i = 2 by omega) with rfl | rfl | rfl
    · obtain ⟨p, q, hp, hq, hpp, hqq⟩ := ARM.out false
      go_wp2_with fail
      refine (look_any B w0 wr s (by have := HS.out; omega) (hb.trans (hbr.mono hB)) (Nat.le_trans hB hbr.size) HT.out n a false).mono ?_
      rintro e w2 ⟨rfl, hb2⟩
      rw [hp, hq]
      have hb3 := hbr.trans (hb2.mono hbr.size)
      have RL := Lib.hid (rlook_f 0 n s a false HS.out)
      rw [hp, hq] at RL
      clear hp hq
      go_wp2_with fail
      refine (thistleref12_Look.calls 21 n s a false _ _ _ RL.out).mono ?_
      rintro e w3 ⟨rfl, hd⟩
      have hb4 := hb3.trans (hd.below.mono hb3.size)
      clear hd RL
      go_wp2
      go_roundw
      case rel => exact ⟨1, by omega, by go_num, hb4⟩
      case measure => simp [intOf]
    · obtain ⟨p, q, hp, hq, hpp, hqq⟩ := ARM.out true
      go_wp2_with fail
      refine (look_any B w0 wr s (by have := HS.out; omega) (hb.trans (hbr.mono hB)) (Nat.le_trans hB hbr.size) HT.out n a true).mono ?_
      rintro e w2 ⟨rfl, hb2⟩
      rw [hp, hq]
      have hb3 := hbr.trans (hb2.mono hbr.size)
      have RL := Lib.hid (rlook_f 0 n s a true HS.out)
      rw [hp, hq] at RL
      clear hp hq
      go_wp2_with fail
      refine (thistleref12_Look.calls 21 n s a true _ _ _ RL.out).mono ?_
      rintro e w3 ⟨rfl, hd⟩
      have hb4 := hb3.trans (hd.below.mono hb3.size)
      clear hd RL
      go_wp2
      go_roundw
      case rel => exact ⟨2, by omega, by go_num, hb4⟩
      case measure => simp [intOf]
    · go_wp2
      go_ret
      exact ⟨rfl, hbr⟩
end Go.Proofs.YtmbboianghbjkaaDoor

import Derived.Test.YtmbboianghbjkaaDoorShelf
import Derived.Shelf.Unicode.DecodeLastEight
import Derived.Test.YtmbboianghbjkaaDoorData
namespace Go.Proofs.YtmbboianghbjkaaDoor
open Go.RowKit Go.Shelf
set_option linter.unusedVariables false
set_option linter.unusedSimpArgs false
attribute [local go_sem] bl_refl bl_alloc bl_a2 bl_a3 bl_a4 bl_a5 bl_set bl_drew bl_drewN le_add_r lt_add_r addr_add max2_i min2_i max_2 min_2

structure TabsAt (B : Nat) (w0 : World) : Prop where
  at_ : ∀ w', Below B w0 w' → Lib.Utf8Tabs 0 1 w'
theorem TabsAt.up {B B1 : Nat} {w0 w1 : World} (h : TabsAt B w0) (hb : Below B w0 w1) (hB : B ≤ B1) : TabsAt B1 w1 := ⟨fun w' hw => h.at_ w' (hb.trans (hw.mono hB))⟩

/-- No character that begins at i goes on beyond at. -/
def bordAt (s : ByteArray) (at_ i : Nat) : Bool := decide ((i : Int) + (Lib.decodeGo (s.extract i s.size)).2 ≤ at_)
def bordOk (s : ByteArray) (at_ : Nat) : Bool := (List.range at_).all fun i => decide (i + 3 < at_) || bordAt s at_ i
def border (s : ByteArray) (at_ : Int) : Bool := decide (0 ≤ at_) && decide (at_ ≤ s.size) && bordOk s at_.toNat

set_option maxHeartbeats 1000000 in
theorem border_any (B : Nat) (w0 w : World) (s : ByteArray) (at_ : Int) (hs : s.size ≤ 9223372036854775807) (hb : Below B w0 w) (hB : B ≤ w.heap.size) (hT : TabsAt B w0) :
    Calls Tryd.prog 15 #[.string s, .int .i64 at_] w fun e w' => e = .returned (.bool (border s at_)) ∧ Below w.heap.size w w' := by
  by_cases h0 : 0 ≤ at_
  · by_cases h1 : at_ ≤ s.size
    · obtain ⟨n, rfl⟩ := Int.eq_ofNat_of_zero_le h0
      have h2 : n ≤ s.size := by omega
      have HT := Lib.hid hT
      clear hT
      have hmx : mxI 0 ((n : Int) - 3) = ((n - 3 : Nat) : Int) := by unfold mxI; split <;> omega
      have q1 : decide ((n : Int) < 0) = false := by simp
      have q2 : decide (s.size < n) = false := by simp; omega
      have q3 : decide ((s.size : Int) < (n : Int)) = false := by simp; omega
      go_enter Tryd.func15, Tryd.ntmps15
      go_wp2
      clear q1 q2 q3 hmx
      go_loopw [5] (fun v5 wr => ∃ i : Nat, n - 3 ≤ i ∧ i ≤ n ∧ v5 = .int .i64 i ∧ (∀ j, j < i → n ≤ j + 3 → bordAt s n j = true) ∧ Below w.heap.size w wr) (fun v5 _ => n - (intOf v5).toNat)
      case atStart => exact ⟨n - 3, by omega, by omega, rfl, fun j h1 h2 => by omega, Below.refl _ _⟩
      case round =>
        obtain ⟨i, hi1, hi2, rfl, hj, hbr⟩ := hrel
        have HJ := Lib.hid hj
        clear hj
        by_cases hlt : i < n
        · have hls : i ≤ s.size := by omega
          go_wp2_with fail
          refine (Tryd.utf8_DecodeRuneInString _ wr (HT.out.at_ wr (hb.trans (hbr.mono hB)))).mono ?_
          rintro e w1 ⟨rfl, hb1⟩
          have hb2 := hbr.trans (hb1.mono hbr.size)
          have hw4 : i + (Lib.decodeGo (s.extract i s.size)).2 ≤ s.size := by
            have h := Go.Lib.decodeGo_le_size (s.extract i s.size)
            rw [ByteArray.size_extract] at h
            omega
          have EB : Hid (bordAt s n i = decide ((i : Int) + (Lib.decodeGo (s.extract i s.size)).2 ≤ n)) := rfl
          generalize (Lib.decodeGo (s.extract i s.size)).2 = d at *
          generalize (Lib.decodeGo (s.extract i s.size)).1 = r at *
          by_cases hgt : (i : Int) + d ≤ n
          · go_wp2
            go_roundw
            case rel => exact ⟨i + 1, by omega, by omega, by go_num, fun j hj h3 => by
              by_cases e : j = i
              · rw [e, EB.out]; simpa using hgt
              · exact HJ.out j (by omega) h3, hb2⟩
            case measure => simp [intOf]; omega
          · have hgt' : (n : Int) < (i : Int) + d := by omega
            go_wp2
            go_ret
            refine ⟨ret_bool ?_, hb2⟩
            have e1 : bordOk s n = false := by
              unfold bordOk
              rw [List.all_eq_false]
              refine ⟨i, by simpa using hlt, ?_⟩
              rw [EB.out]
              simp
              omega
            simp [border, e1]
        · obtain rfl : i = n := by omega
          go_wp2
          go_ret
          refine ⟨ret_bool ?_, hbr⟩
          have e1 : bordOk s i = true := by
            unfold bordOk
            rw [List.all_eq_true]
            intro j hj
            have hj' : j < i := by simpa using hj
            by_cases h3 : j + 3 < i
            · simp [h3]
            · rw [HJ.out j hj' (by omega)]; simp
          simp [border, e1, h2]
    · go_enter Tryd.func15, Tryd.ntmps15
      go_wp2
      go_ret
      exact ⟨ret_bool (by simp [border]; intro a b; omega), Below.refl _ _⟩
  · go_enter Tryd.func15, Tryd.ntmps15
    go_wp2
    go_ret
    exact ⟨ret_bool (by simp [border]; intro a b; omega), Below.refl _ _⟩
end Go.Proofs.YtmbboianghbjkaaDoor

import Derived.Test.YtmbboianghbjkaaDoorBord
import Derived.Test.YtmbboianghbjkaaDoorFit
import Derived.Laws.RangeAny
import Derived.Laws.RangeString
import Derived.LoopTactic
import Derived.OwnWalk
namespace Go.Proofs.YtmbboianghbjkaaDoor
open Go.RowKit Go.Shelf
set_option linter.unusedVariables false
set_option linter.unusedSimpArgs false
attribute [local go_sem] bl_refl bl_alloc bl_a2 bl_a3 bl_a4 bl_a5 bl_set bl_drew bl_drewN le_add_r lt_add_r addr_add max2_i min2_i max_2 min_2

theorem below_iter (w : World) (s : ByteArray) (p : Nat) : Below w.heap.size w (w.iter s p) := (Below.refl _ _).alloc (Nat.le_refl _) _
def wordU (u : Int) : Bool := decide (u = 95) || (decide (48 ≤ u) && decide (u ≤ 57)) || (decide (65 ≤ u) && decide (u ≤ 90)) || (decide (97 ≤ u) && decide (u ≤ 122))
theorem isWord_any (w : World) (u : Int) :
    Calls Tryd.prog 69 #[.int .i32 u] w fun e w' => e = .returned (.bool (wordU u)) ∧ w' = w := by
  go_enter Tryd.func69, Tryd.ntmps69
  go_wp2
  all_goals
    go_ret
    refine ⟨ret_bool ?_, rfl⟩
    unfold wordU
    rw [Bool.eq_iff_iff]
    try simp only [beq_iff_eq, beq_eq_false_iff_ne, ne_eq] at *
    simp
    try omega
def wordAtS (s : ByteArray) (n : Int) : Bool := decide (0 ≤ n) && decide (n < s.size) && wordU (s.get! n.toNat).toNat
theorem word_any (w : World) (s : ByteArray) (n : Int) (hs : s.size ≤ 9223372036854775807) :
    Calls Tryd.prog 34 #[.string s, .int .i64 n] w fun e w' => e = .returned (.bool (wordAtS s n)) ∧ w' = w := by
  by_cases h0 : 0 ≤ n
  · by_cases h1 : n < s.size
    · obtain ⟨k, rfl⟩ := Int.eq_ofNat_of_zero_le h0
      have h2 : k < s.size := by omega
      have hg := get_at s k h2
      have hlt := (s[k]).toNat_lt
      have hwr : wrap32 ((s[k].toNat : Nat) : Int) = ((s[k].toNat : Nat) : Int) := by unfold wrap32; omega
      go_enter Tryd.func34, Tryd.ntmps34
      go_wp2_with fail
      refine (isWord_any _ _).mono ?_
      rintro e w1 ⟨rfl, rfl⟩
      go_wp2
      go_ret
      refine ⟨ret_bool ?_, rfl⟩
      unfold wordAtS
      simp only [Int.toNat_natCast]
      rw [hg]
      simp [h2]
    · go_enter Tryd.func34, Tryd.ntmps34
      go_wp2
      go_ret
      exact ⟨ret_bool (by simp [wordAtS]; intro a b; omega), rfl⟩
  · go_enter Tryd.func34, Tryd.ntmps34
    go_wp2
    go_ret
    exact ⟨ret_bool (by simp [wordAtS]; intro a b; omega), rfl⟩

theorem ext_all (t : ByteArray) : t.extract 0 t.size = t := by ext1; simp [ByteArray.extract, ByteArray.copySlice]
/-- The number of the unit that stands first in t, of rune r. -/
def numV (t : ByteArray) (r : Int) : Int := if r = 65533 ∧ Lib.hasPrefix t.data.toList [239, 191, 189] = false then 1114112 + (t.get! 0).toNat else r
theorem number_any (w : World) (t : ByteArray) (r : Int) (hs : t.size ≤ 9223372036854775807) (hn : 0 < t.size) :
    Calls Tryd.prog 37 #[.string t, .int .i64 0, .int .i32 r] w fun e w' => e = .returned (.int .i32 (numV t r)) ∧ w' = w := by
  have he := ext_all t
  have hg := get_at t 0 hn
  have hlt := (t[0]).toNat_lt
  have hwr : wrap32 (1114112 + ((t[0].toNat : Nat) : Int)) = 1114112 + ((t[0].toNat : Nat) : Int) := by unfold wrap32; omega
  have hwr2 : wrap32 ((t[0].toNat : Nat) : Int) = ((t[0].toNat : Nat) : Int) := by unfold wrap32; omega
  by_cases hr : r = 65533
  · subst hr
    go_enter Tryd.func37, Tryd.ntmps37
    go_wp2_with fail
    refine (Tryd.strings_HasPrefix _ _ _).mono ?_
    rintro e w1 ⟨rfl, rfl⟩
    by_cases hp : Lib.hasPrefix t.data.toList [239, 191, 189] = true
    · rw [show Lib.hasPrefix t.data.toList (ByteArray.mk #[239, 191, 189]).data.toList = true from hp]
      go_wp2
      go_ret
      exact ⟨ret_int (by simp [numV, hp]), rfl⟩
    · have hp' : Lib.hasPrefix t.data.toList [239, 191, 189] = false := by simpa using hp
      rw [show Lib.hasPrefix t.data.toList (ByteArray.mk #[239, 191, 189]).data.toList = false from hp']
      go_wp2
      go_ret
      exact ⟨ret_int (by simp [numV, hp', hg]), rfl⟩
  · have hr' : (r == 65533) = false := by simpa using hr
    go_enter Tryd.func37, Tryd.ntmps37
    go_wp2
    go_ret
    exact ⟨ret_int (by simp [numV, hr]), rfl⟩
def widthV (u : Int) : Int := if 1114111 < u then 1 else Lib.runeLen u
theorem width_any (w : World) (u : Int) :
    Calls Tryd.prog 38 #[.int .i32 u] w fun e w' => e = .returned (.int .i64 (widthV u)) ∧ w' = w := by
  by_cases h : 1114111 < u
  · go_enter Tryd.func38, Tryd.ntmps38
    go_wp2
    go_ret
    exact ⟨ret_int (by simp [widthV, h]), rfl⟩
  · go_enter Tryd.func38, Tryd.ntmps38
    go_wp2_with fail
    refine (Tryd.utf8_RuneLen _ _).mono ?_
    rintro e w1 ⟨rfl, rfl⟩
    go_wp2
    go_ret
    exact ⟨ret_int (by simp [widthV]; intro a; omega), rfl⟩

/-- utf.Next. -/
def nextU (s : ByteArray) (n : Nat) : Int := numV (s.extract n s.size) (Utf8.decode (s.extract n s.size) 0).1
set_option maxHeartbeats 1000000 in
theorem next_any (w : World) (s : ByteArray) (n : Nat) (hs : s.size ≤ 9223372036854775807) (hn : n < s.size) :
    Calls Tryd.prog 14 #[.string s, .int .i64 n] w fun e w' => e = .returned (.tuple #[.int .i32 (nextU s n), .int .i64 (widthV (nextU s n)), .int .i64 0]) ∧ Below w.heap.size w w' := by
  have q1 : decide ((n : Int) < 0) = false := by simp
  have q2 : decide (s.size < n) = false := by simp; omega
  have q3 : decide ((s.size : Int) < (n : Int)) = false := by simp; omega
  have hts : 0 < (s.extract n s.size).size := by rw [ByteArray.size_extract]; omega
  have hts2 : (s.extract n s.size).size ≤ 9223372036854775807 := by rw [ByteArray.size_extract]; omega
  have het : (s.extract n s.size).extract 0 (s.extract n s.size).size = s.extract n s.size := ext_all _
  have hnx := fun ty => run_next_any (P := Tryd.prog) w (s.extract n s.size) 0 ty hts
  have HU : Hid (nextU s n = numV (s.extract n s.size) (Utf8.decode (s.extract n s.size) 0).1) := rfl
  go_enter Tryd.func14, Tryd.ntmps14
  go_wp2
  clear q1 q2 q3
  go_loopw [] (fun wr => wr = w.iter (s.extract n s.size) 0) (fun _ => 0)
  case atStart => rfl
  case round =>
    subst hrel
    go_wp2_with fail
    refine (number_any _ _ _ hts2 hts).mono ?_
    rintro e w1 ⟨rfl, rfl⟩
    rw [← HU.out]
    go_wp2_with fail
    refine (width_any _ _).mono ?_
    rintro e w1 ⟨rfl, rfl⟩
    go_wp2
    go_ret3
    exact ⟨rfl, by first | exact Below.refl _ _ | exact below_iter _ _ _⟩
theorem next_end (w : World) (s : ByteArray) (hs : s.size ≤ 9223372036854775807) :
    Calls Tryd.prog 14 #[.string s, .int .i64 s.size] w fun e w' => e = .returned (.tuple #[.int .i32 0, .int .i64 0, .int .i64 7]) ∧ Below w.heap.size w w' := by
  have hnx := fun ty => run_next_end (P := Tryd.prog) w ByteArray.empty 0 ty (by decide)
  go_enter Tryd.func14, Tryd.ntmps14
  go_wp2
  go_loopw [] (fun wr => wr = w.iter ByteArray.empty 0) (fun _ => 0)
  case atStart => rfl
  case round =>
    subst hrel
    go_wp2
    go_ret3
    exact ⟨rfl, by first | exact Below.refl _ _ | exact below_iter _ _ _⟩
theorem next_bad (w : World) (s : ByteArray) (n : Int) (hs : s.size ≤ 9223372036854775807) (hn : n < 0 ∨ (s.size : Int) < n) :
    Calls Tryd.prog 14 #[.string s, .int .i64 n] w fun e w' => e = .returned (.tuple #[.int .i32 0, .int .i64 0, .int .i64 3]) ∧ Below w.heap.size w w' := by
  by_cases h0 : n < 0
  · go_enter Tryd.func14, Tryd.ntmps14
    go_wp2
    go_ret3
    exact ⟨rfl, by first | exact Below.refl _ _ | exact below_iter _ _ _⟩
  · have h1 : (s.size : Int) < n := by omega
    go_enter Tryd.func14, Tryd.ntmps14
    go_wp2
    go_ret3
    exact ⟨rfl, by first | exact Below.refl _ _ | exact below_iter _ _ _⟩
end Go.Proofs.YtmbboianghbjkaaDoor

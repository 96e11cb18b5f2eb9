import Derived.Lib.DecodeN
import Derived.Lib.Strings
import Derived.Test.YtmbboianghbjkaaDoorShelf
import Derived.Shelf.Unicode.DecodeLastEight
import Derived.Test.YtmbboianghbjkaaDoorBaseA
import Derived.Laws.RangeAny
import Derived.Laws.RangeString
import Derived.LoopTactic
import Derived.OwnWalk
-- part UtfN
namespace Go.Proofs.YtmbboianghbjkaaDoor
/-- The character that stands first in n bytes b0 b1 b2 b3 ..; width 0: none. -/
def charN (n b0 b1 b2 b3 : Nat) : Nat × Nat :=
  if b0 < 128 then (b0, 1)
  else if b0 < 192 ∨ 248 ≤ b0 then (0, 0)
  else if b0 < 224 then
    (if n < 2 ∨ b1 < 128 ∨ 191 < b1 ∨ (b0 - 192) * 64 + (b1 - 128) < 128 then (0, 0) else ((b0 - 192) * 64 + (b1 - 128), 2))
  else if b0 < 240 then
    (if n < 3 ∨ b1 < 128 ∨ 191 < b1 ∨ b2 < 128 ∨ 191 < b2 ∨ (b0 - 224) * 4096 + (b1 - 128) * 64 + (b2 - 128) < 2048 ∨ (55296 ≤ (b0 - 224) * 4096 + (b1 - 128) * 64 + (b2 - 128) ∧ (b0 - 224) * 4096 + (b1 - 128) * 64 + (b2 - 128) ≤ 57343) then (0, 0)
     else ((b0 - 224) * 4096 + (b1 - 128) * 64 + (b2 - 128), 3))
  else
    (if n < 4 ∨ b1 < 128 ∨ 191 < b1 ∨ b2 < 128 ∨ 191 < b2 ∨ b3 < 128 ∨ 191 < b3 ∨ (b0 - 240) * 262144 + (b1 - 128) * 4096 + (b2 - 128) * 64 + (b3 - 128) < 65536 ∨ 1114111 < (b0 - 240) * 262144 + (b1 - 128) * 4096 + (b2 - 128) * 64 + (b3 - 128) then (0, 0)
     else ((b0 - 240) * 262144 + (b1 - 128) * 4096 + (b2 - 128) * 64 + (b3 - 128), 4))
set_option maxHeartbeats 4000000 in
theorem char_decode (n b0 b1 b2 b3 : Nat) (hn : 1 ≤ n) (h0 : b0 < 256) (h1 : b1 < 256) (h2 : b2 < 256) (h3 : b3 < 256) :
    (charN n b0 b1 b2 b3 = (0, 0) ∧ Lib.decodeN n b0 b1 b2 b3 = (65533, 1) ∧ ¬ (3 ≤ n ∧ b0 = 239 ∧ b1 = 191 ∧ b2 = 189)) ∨
    (charN n b0 b1 b2 b3 = Lib.decodeN n b0 b1 b2 b3 ∧ 1 ≤ (charN n b0 b1 b2 b3).2 ∧ (charN n b0 b1 b2 b3).2 ≤ 4 ∧ (charN n b0 b1 b2 b3).2 ≤ n ∧ (charN n b0 b1 b2 b3).1 ≤ 1114111 ∧ ((charN n b0 b1 b2 b3).1 = 65533 → 3 ≤ n ∧ b0 = 239 ∧ b1 = 191 ∧ b2 = 189) ∧ (charN n b0 b1 b2 b3).2 = (if (charN n b0 b1 b2 b3).1 < 128 then 1 else if (charN n b0 b1 b2 b3).1 < 2048 then 2 else if (charN n b0 b1 b2 b3).1 < 65536 then 3 else 4) ∧ ((charN n b0 b1 b2 b3).1 < 55296 ∨ 57343 < (charN n b0 b1 b2 b3).1)) := by
  unfold charN Lib.decodeN
  by_cases a1 : b0 < 128
  · rw [if_pos a1, if_pos a1]
    right
    refine ⟨rfl, by simp, by simp, by simpa using hn, by simp only; omega, by simp only; omega, by simp only; rw [if_pos a1], by simp only; omega⟩
  rw [if_neg a1, if_neg a1]
  by_cases a2 : b0 < 192 ∨ 248 ≤ b0
  · rw [if_pos a2, if_neg (by omega), if_neg (by omega), if_neg (by omega)]
    exact .inl ⟨rfl, rfl, by omega⟩
  rw [if_neg a2]
  by_cases a3 : b0 < 224
  · rw [if_pos a3]
    by_cases c : n < 2 ∨ b1 < 128 ∨ 191 < b1 ∨ (b0 - 192) * 64 + (b1 - 128) < 128
    · rw [if_pos c]
      refine .inl ⟨rfl, ?_, by omega⟩
      by_cases d : b0 / 32 = 6 ∧ (1 < n ∧ b1 / 64 = 2)
      · rw [if_pos d, if_neg (by omega)]
      · rw [if_neg d, if_neg (by omega), if_neg (by omega)]
    · rw [if_neg c, if_pos (by omega), if_pos (by omega)]
      have e : b0 % 32 * 64 + b1 % 64 = (b0 - 192) * 64 + (b1 - 128) := by omega
      rw [e]
      right
      generalize hv : (b0 - 192) * 64 + (b1 - 128) = v at *
      refine ⟨rfl, by simp, by simp, by simp only; omega, by simp only; omega, by simp only; omega, by simp only; rw [if_neg (by omega), if_pos (by omega)], by simp only; omega⟩
  rw [if_neg a3]
  by_cases a4 : b0 < 240
  · rw [if_pos a4]
    by_cases c : n < 3 ∨ b1 < 128 ∨ 191 < b1 ∨ b2 < 128 ∨ 191 < b2 ∨ (b0 - 224) * 4096 + (b1 - 128) * 64 + (b2 - 128) < 2048 ∨ (55296 ≤ (b0 - 224) * 4096 + (b1 - 128) * 64 + (b2 - 128) ∧ (b0 - 224) * 4096 + (b1 - 128) * 64 + (b2 - 128) ≤ 57343)
    · rw [if_pos c]
      refine .inl ⟨rfl, ?_, by omega⟩
      rw [if_neg (by omega)]
      by_cases d : b0 / 16 = 14 ∧ (1 < n ∧ b1 / 64 = 2) ∧ (2 < n ∧ b2 / 64 = 2)
      · rw [if_pos d, if_neg (by omega)]
      · rw [if_neg d, if_neg (by omega)]
    · rw [if_neg c, if_neg (by omega), if_pos (by omega), if_pos (by omega)]
      have e : b0 % 16 * 4096 + b1 % 64 * 64 + b2 % 64 = (b0 - 224) * 4096 + (b1 - 128) * 64 + (b2 - 128) := by omega
      rw [e]
      right
      refine ⟨rfl, by simp, by simp, by simp only; omega, by simp only; omega, by simp only; omega, by simp only; rw [if_neg (by omega), if_neg (by omega), if_pos (by omega)], by simp only; omega⟩
  rw [if_neg a4]
  by_cases c : n < 4 ∨ b1 < 128 ∨ 191 < b1 ∨ b2 < 128 ∨ 191 < b2 ∨ b3 < 128 ∨ 191 < b3 ∨ (b0 - 240) * 262144 + (b1 - 128) * 4096 + (b2 - 128) * 64 + (b3 - 128) < 65536 ∨ 1114111 < (b0 - 240) * 262144 + (b1 - 128) * 4096 + (b2 - 128) * 64 + (b3 - 128)
  · rw [if_pos c]
    refine .inl ⟨rfl, ?_, by omega⟩
    rw [if_neg (by omega), if_neg (by omega)]
    by_cases d : b0 / 8 = 30 ∧ (1 < n ∧ b1 / 64 = 2) ∧ (2 < n ∧ b2 / 64 = 2) ∧ (3 < n ∧ b3 / 64 = 2)
    · rw [if_pos d, if_neg (by omega)]
    · rw [if_neg d]
  · rw [if_neg c, if_neg (by omega), if_neg (by omega), if_pos (by omega), if_pos (by omega)]
    have e : b0 % 8 * 262144 + b1 % 64 * 4096 + b2 % 64 * 64 + b3 % 64 = (b0 - 240) * 262144 + (b1 - 128) * 4096 + (b2 - 128) * 64 + (b3 - 128) := by omega
    rw [e]
    right
    refine ⟨rfl, by simp, by simp, by simp only; omega, by simp only; omega, by simp only; omega, by simp only; rw [if_neg (by omega), if_neg (by omega), if_neg (by omega)], by simp only; omega⟩

def byteN (s : ByteArray) (i : Nat) : Nat := (s.get! i).toNat
/-- The character that begins at a place. -/
def charS (s : ByteArray) (n : Nat) : Nat × Nat := charN (s.size - n) (byteN s n) (byteN s (n + 1)) (byteN s (n + 2)) (byteN s (n + 3))
/-- The unit that begins at a place, and its width. -/
def unitS (s : ByteArray) (n : Nat) : Nat × Nat := if (charS s n).2 = 0 then (1114112 + byteN s n, 1) else charS s n
theorem get!_extract (s : ByteArray) (n k : Nat) : (s.extract n s.size).get! k = s.get! (n + k) := by
  cases s with
  | mk d =>
    show (ByteArray.extract ⟨d⟩ n d.size).data[k]! = d[n+k]!
    have e : (ByteArray.extract ⟨d⟩ n d.size).data = d.extract n d.size := by
      simp [ByteArray.data_extract]
    rw [e]
    simp only [Array.getElem!_eq_getD, Array.getD_eq_getD_getElem?, Array.getElem?_extract]
    by_cases h : n + k < d.size
    · rw [if_pos (by omega)]
    · rw [if_neg (by omega), Array.getElem?_eq_none (by omega)]
theorem prefix_bad (t : ByteArray) : Lib.hasPrefix t.data.toList [239, 191, 189] = decide (3 ≤ t.size ∧ (t.get! 0).toNat = 239 ∧ (t.get! 1).toNat = 191 ∧ (t.get! 2).toNat = 189) := by
  cases t with
  | mk d =>
    cases d with
    | mk l =>
      have hs : ByteArray.size ⟨⟨l⟩⟩ = l.length := rfl
      have hg : ∀ k, ByteArray.get! ⟨⟨l⟩⟩ k = l.getD k 0 := fun k => by
        show (Array.mk l)[k]! = _
        simp [Array.getElem!_eq_getD, Array.getD_eq_getD_getElem?]
        rfl
      rw [hs, hg, hg, hg]
      show Lib.hasPrefix l _ = _
      rcases l with _ | ⟨a, _ | ⟨b, _ | ⟨c, l⟩⟩⟩
      · simp [Lib.hasPrefix, List.isPrefixOf]
      · simp [Lib.hasPrefix, List.isPrefixOf]
      · simp [Lib.hasPrefix, List.isPrefixOf]
      · rw [Bool.eq_iff_iff]
        simp only [Lib.hasPrefix, List.isPrefixOf, Bool.and_eq_true, beq_iff_eq, decide_eq_true_eq, ← UInt8.toNat_inj, List.getD_cons_zero, List.getD_cons_succ, List.length_cons]
        show (239 = a.toNat ∧ 191 = b.toNat ∧ 189 = c.toNat ∧ _) ↔ _
        constructor
        · rintro ⟨h1, h2, h3, _⟩; omega
        · rintro ⟨_, h1, h2, h3⟩; exact ⟨h1.symm, h2.symm, h3.symm, trivial⟩
end Go.Proofs.YtmbboianghbjkaaDoor

-- part Bord
namespace Go.Proofs.YtmbboianghbjkaaDoor
open Go.RowKit Go.Shelf
set_option linter.unusedVariables false
set_option linter.unusedSimpArgs false
attribute [local go_sem] bl_refl bl_alloc bl_a2 bl_a3 bl_a4 bl_a5 bl_set bl_drew bl_drewN le_add_r lt_add_r addr_add max2_i min2_i max_2 min_2

structure TabsAt (B : Nat) (w0 : World) : Prop where
  at_ : ∀ w', Below B w0 w' → Lib.Utf8Tabs 0 1 w'
theorem TabsAt.up {B B1 : Nat} {w0 w1 : World} (h : TabsAt B w0) (hb : Below B w0 w1) (hB : B ≤ B1) : TabsAt B1 w1 := ⟨fun w' hw => h.at_ w' (hb.trans (hw.mono hB))⟩

/-- No character that begins at i goes on beyond at. -/
def bordAt (s : ByteArray) (at_ i : Nat) : Bool := decide ((i : Int) + (Lib.decodeGo (s.extract i s.size)).2 ≤ at_)
def bordOk (s : ByteArray) (at_ : Nat) : Bool := (List.range at_).all fun i => decide (i + 3 < at_) || bordAt s at_ i
def border (s : ByteArray) (at_ : Int) : Bool := decide (0 ≤ at_) && decide (at_ ≤ s.size) && bordOk s at_.toNat

set_option maxHeartbeats 1000000 in
theorem border_any (B : Nat) (w0 w : World) (s : ByteArray) (at_ : Int) (hs : s.size ≤ 9223372036854775807) (hb : Below B w0 w) (hB : B ≤ w.heap.size) (hT : TabsAt B w0) :
    Calls Tryd.prog 15 #[.string s, .int .i64 at_] w fun e w' => e = .returned (.bool (border s at_)) ∧ Below w.heap.size w w' := by
  by_cases h0 : 0 ≤ at_
  · by_cases h1 : at_ ≤ s.size
    · obtain ⟨n, rfl⟩ := Int.eq_ofNat_of_zero_le h0
      have h2 : n ≤ s.size := by omega
      have HT := Lib.hid hT
      clear hT
      have hmx : mxI 0 ((n : Int) - 3) = ((n - 3 : Nat) : Int) := by unfold mxI; split <;> omega
      have q1 : decide ((n : Int) < 0) = false := by simp
      have q2 : decide (s.size < n) = false := by simp; omega
      have q3 : decide ((s.size : Int) < (n : Int)) = false := by simp; omega
      go_enter Tryd.func15, Tryd.ntmps15
      go_wp2
      clear q1 q2 q3 hmx
      go_loopw [5] (fun v5 wr => ∃ i : Nat, n - 3 ≤ i ∧ i ≤ n ∧ v5 = .int .i64 i ∧ (∀ j, j < i → n ≤ j + 3 → bordAt s n j = true) ∧ Below w.heap.size w wr) (fun v5 _ => n - (intOf v5).toNat)
      case atStart => exact ⟨n - 3, by omega, by omega, rfl, fun j h1 h2 => by omega, Below.refl _ _⟩
      case round =>
        obtain ⟨i, hi1, hi2, rfl, hj, hbr⟩ := hrel
        have HJ := Lib.hid hj
        clear hj
        by_cases hlt : i < n
        · have hls : i ≤ s.size := by omega
          go_wp2_with fail
          refine (Tryd.utf8_DecodeRuneInString _ wr (HT.out.at_ wr (hb.trans (hbr.mono hB)))).mono ?_
          rintro e w1 ⟨rfl, hb1⟩
          have hb2 := hbr.trans (hb1.mono hbr.size)
          have hw4 : i + (Lib.decodeGo (s.extract i s.size)).2 ≤ s.size := by
            have h := Go.Lib.decodeGo_le_size (s.extract i s.size)
            rw [ByteArray.size_extract] at h
            omega
          have EB : Hid (bordAt s n i = decide ((i : Int) + (Lib.decodeGo (s.extract i s.size)).2 ≤ n)) := rfl
          generalize (Lib.decodeGo (s.extract i s.size)).2 = d at *
          generalize (Lib.decodeGo (s.extract i s.size)).1 = r at *
          by_cases hgt : (i : Int) + d ≤ n
          · go_wp2
            go_roundw
            case rel => exact ⟨i + 1, by omega, by omega, by go_num, fun j hj h3 => by
              by_cases e : j = i
              · rw [e, EB.out]; simpa using hgt
              · exact HJ.out j (by omega) h3, hb2⟩
            case measure => simp [intOf]; omega
          · have hgt' : (n : Int) < (i : Int) + d := by omega
            go_wp2
            go_ret
            refine ⟨ret_bool ?_, hb2⟩
            have e1 : bordOk s n = false := by
              unfold bordOk
              rw [List.all_eq_false]
              refine ⟨i, by simpa using hlt, ?_⟩
              rw [EB.out]
              simp
              omega
            simp [border, e1]
        · obtain rfl : i = n := by omega
          go_wp2
          go_ret
          refine ⟨ret_bool ?_, hbr⟩
          have e1 : bordOk s i = true := by
            unfold bordOk
            rw [List.all_eq_true]
            intro j hj
            have hj' : j < i := by simpa using hj
            by_cases h3 : j + 3 < i
            · simp [h3]
            · rw [HJ.out j hj' (by omega)]; simp
          simp [border, e1, h2]
    · go_enter Tryd.func15, Tryd.ntmps15
      go_wp2
      go_ret
      exact ⟨ret_bool (by simp [border]; intro a b; omega), Below.refl _ _⟩
  · go_enter Tryd.func15, Tryd.ntmps15
    go_wp2
    go_ret
    exact ⟨ret_bool (by simp [border]; intro a b; omega), Below.refl _ _⟩
end Go.Proofs.YtmbboianghbjkaaDoor

-- part Next
namespace Go.Proofs.YtmbboianghbjkaaDoor
open Go.RowKit Go.Shelf
set_option linter.unusedVariables false
set_option linter.unusedSimpArgs false
attribute [local go_sem] bl_refl bl_alloc bl_a2 bl_a3 bl_a4 bl_a5 bl_set bl_drew bl_drewN le_add_r lt_add_r addr_add max2_i min2_i max_2 min_2

theorem below_iter (w : World) (s : ByteArray) (p : Nat) : Below w.heap.size w (w.iter s p) := (Below.refl _ _).alloc (Nat.le_refl _) _
def wordU (u : Int) : Bool := decide (u = 95) || (decide (48 ≤ u) && decide (u ≤ 57)) || (decide (65 ≤ u) && decide (u ≤ 90)) || (decide (97 ≤ u) && decide (u ≤ 122))
theorem isWord_any (w : World) (u : Int) :
    Calls Tryd.prog 69 #[.int .i32 u] w fun e w' => e = .returned (.bool (wordU u)) ∧ w' = w := by
  go_enter Tryd.func69, Tryd.ntmps69
  go_wp2
  all_goals
    go_ret
    refine ⟨ret_bool ?_, rfl⟩
    unfold wordU
    rw [Bool.eq_iff_iff]
    try simp only [beq_iff_eq, beq_eq_false_iff_ne, ne_eq] at *
    simp
    try omega
def wordAtS (s : ByteArray) (n : Int) : Bool := decide (0 ≤ n) && decide (n < s.size) && wordU (s.get! n.toNat).toNat
theorem word_any (w : World) (s : ByteArray) (n : Int) (hs : s.size ≤ 9223372036854775807) :
    Calls Tryd.prog 34 #[.string s, .int .i64 n] w fun e w' => e = .returned (.bool (wordAtS s n)) ∧ w' = w := by
  by_cases h0 : 0 ≤ n
  · by_cases h1 : n < s.size
    · obtain ⟨k, rfl⟩ := Int.eq_ofNat_of_zero_le h0
      have h2 : k < s.size := by omega
      have hg := get_at s k h2
      have hlt := (s[k]).toNat_lt
      have hwr : wrap32 ((s[k].toNat : Nat) : Int) = ((s[k].toNat : Nat) : Int) := by unfold wrap32; omega
      go_enter Tryd.func34, Tryd.ntmps34
      go_wp2_with fail
      refine (isWord_any _ _).mono ?_
      rintro e w1 ⟨rfl, rfl⟩
      go_wp2
      go_ret
      refine ⟨ret_bool ?_, rfl⟩
      unfold wordAtS
      simp only [Int.toNat_natCast]
      rw [hg]
      simp [h2]
    · go_enter Tryd.func34, Tryd.ntmps34
      go_wp2
      go_ret
      exact ⟨ret_bool (by simp [wordAtS]; intro a b; omega), rfl⟩
  · go_enter Tryd.func34, Tryd.ntmps34
    go_wp2
    go_ret
    exact ⟨ret_bool (by simp [wordAtS]; intro a b; omega), rfl⟩

theorem ext_all (t : ByteArray) : t.extract 0 t.size = t := by ext1; simp [ByteArray.extract, ByteArray.copySlice]
/-- The number of the unit that stands first in t, of rune r. -/
def numV (t : ByteArray) (r : Int) : Int := if r = 65533 ∧ Lib.hasPrefix t.data.toList [239, 191, 189] = false then 1114112 + (t.get! 0).toNat else r
theorem number_any (w : World) (t : ByteArray) (r : Int) (hs : t.size ≤ 9223372036854775807) (hn : 0 < t.size) :
    Calls Tryd.prog 37 #[.string t, .int .i64 0, .int .i32 r] w fun e w' => e = .returned (.int .i32 (numV t r)) ∧ w' = w := by
  have he := ext_all t
  have hg := get_at t 0 hn
  have hlt := (t[0]).toNat_lt
  have hwr : wrap32 (1114112 + ((t[0].toNat : Nat) : Int)) = 1114112 + ((t[0].toNat : Nat) : Int) := by unfold wrap32; omega
  have hwr2 : wrap32 ((t[0].toNat : Nat) : Int) = ((t[0].toNat : Nat) : Int) := by unfold wrap32; omega
  by_cases hr : r = 65533
  · subst hr
    go_enter Tryd.func37, Tryd.ntmps37
    go_wp2_with fail
    refine (Tryd.strings_HasPrefix _ _ _).mono ?_
    rintro e w1 ⟨rfl, rfl⟩
    by_cases hp : Lib.hasPrefix t.data.toList [239, 191, 189] = true
    · rw [show Lib.hasPrefix t.data.toList (ByteArray.mk #[239, 191, 189]).data.toList = true from hp]
      go_wp2
      go_ret
      exact ⟨ret_int (by simp [numV, hp]), rfl⟩
    · have hp' : Lib.hasPrefix t.data.toList [239, 191, 189] = false := by simpa using hp
      rw [show Lib.hasPrefix t.data.toList (ByteArray.mk #[239, 191, 189]).data.toList = false from hp']
      go_wp2
      go_ret
      exact ⟨ret_int (by simp [numV, hp', hg]), rfl⟩
  · have hr' : (r == 65533) = false := by simpa using hr
    go_enter Tryd.func37, Tryd.ntmps37
    go_wp2
    go_ret
    exact ⟨ret_int (by simp [numV, hr]), rfl⟩
def widthV (u : Int) : Int := if 1114111 < u then 1 else Lib.runeLen u
theorem width_any (w : World) (u : Int) :
    Calls Tryd.prog 38 #[.int .i32 u] w fun e w' => e = .returned (.int .i64 (widthV u)) ∧ w' = w := by
  by_cases h : 1114111 < u
  · go_enter Tryd.func38, Tryd.ntmps38
    go_wp2
    go_ret
    exact ⟨ret_int (by simp [widthV, h]), rfl⟩
  · go_enter Tryd.func38, Tryd.ntmps38
    go_wp2_with fail
    refine (Tryd.utf8_RuneLen _ _).mono ?_
    rintro e w1 ⟨rfl, rfl⟩
    go_wp2
    go_ret
    exact ⟨ret_int (by simp [widthV]; intro a; omega), rfl⟩

/-- utf.Next. -/
def nextU (s : ByteArray) (n : Nat) : Int := numV (s.extract n s.size) (Utf8.decode (s.extract n s.size) 0).1
set_option maxHeartbeats 1000000 in
theorem next_any (w : World) (s : ByteArray) (n : Nat) (hs : s.size ≤ 9223372036854775807) (hn : n < s.size) :
    Calls Tryd.prog 14 #[.string s, .int .i64 n] w fun e w' => e = .returned (.tuple #[.int .i32 (nextU s n), .int .i64 (widthV (nextU s n)), .int .i64 0]) ∧ Below w.heap.size w w' := by
  have q1 : decide ((n : Int) < 0) = false := by simp
  have q2 : decide (s.size < n) = false := by simp; omega
  have q3 : decide ((s.size : Int) < (n : Int)) = false := by simp; omega
  have hts : 0 < (s.extract n s.size).size := by rw [ByteArray.size_extract]; omega
  have hts2 : (s.extract n s.size).size ≤ 9223372036854775807 := by rw [ByteArray.size_extract]; omega
  have het : (s.extract n s.size).extract 0 (s.extract n s.size).size = s.extract n s.size := ext_all _
  have hnx := fun ty => run_next_any (P := Tryd.prog) w (s.extract n s.size) 0 ty hts
  have HU : Hid (nextU s n = numV (s.extract n s.size) (Utf8.decode (s.extract n s.size) 0).1) := rfl
  go_enter Tryd.func14, Tryd.ntmps14
  go_wp2
  clear q1 q2 q3
  go_loopw [] (fun wr => wr = w.iter (s.extract n s.size) 0) (fun _ => 0)
  case atStart => rfl
  case round =>
    subst hrel
    go_wp2_with fail
    refine (number_any _ _ _ hts2 hts).mono ?_
    rintro e w1 ⟨rfl, rfl⟩
    rw [← HU.out]
    go_wp2_with fail
    refine (width_any _ _).mono ?_
    rintro e w1 ⟨rfl, rfl⟩
    go_wp2
    go_ret3
    exact ⟨rfl, by first | exact Below.refl _ _ | exact below_iter _ _ _⟩
theorem next_end (w : World) (s : ByteArray) (hs : s.size ≤ 9223372036854775807) :
    Calls Tryd.prog 14 #[.string s, .int .i64 s.size] w fun e w' => e = .returned (.tuple #[.int .i32 0, .int .i64 0, .int .i64 7]) ∧ Below w.heap.size w w' := by
  have hnx := fun ty => run_next_end (P := Tryd.prog) w ByteArray.empty 0 ty (by decide)
  go_enter Tryd.func14, Tryd.ntmps14
  go_wp2
  go_loopw [] (fun wr => wr = w.iter ByteArray.empty 0) (fun _ => 0)
  case atStart => rfl
  case round =>
    subst hrel
    go_wp2
    go_ret3
    exact ⟨rfl, by first | exact Below.refl _ _ | exact below_iter _ _ _⟩
theorem next_bad (w : World) (s : ByteArray) (n : Int) (hs : s.size ≤ 9223372036854775807) (hn : n < 0 ∨ (s.size : Int) < n) :
    Calls Tryd.prog 14 #[.string s, .int .i64 n] w fun e w' => e = .returned (.tuple #[.int .i32 0, .int .i64 0, .int .i64 3]) ∧ Below w.heap.size w w' := by
  by_cases h0 : n < 0
  · go_enter Tryd.func14, Tryd.ntmps14
    go_wp2
    go_ret3
    exact ⟨rfl, by first | exact Below.refl _ _ | exact below_iter _ _ _⟩
  · have h1 : (s.size : Int) < n := by omega
    go_enter Tryd.func14, Tryd.ntmps14
    go_wp2
    go_ret3
    exact ⟨rfl, by first | exact Below.refl _ _ | exact below_iter _ _ _⟩
end Go.Proofs.YtmbboianghbjkaaDoor

-- part LookA
namespace Go.Proofs.YtmbboianghbjkaaDoor
open Go.RowKit Go.Shelf
set_option linter.unusedVariables false
set_option linter.unusedSimpArgs false
attribute [local go_sem] bl_refl bl_alloc bl_a2 bl_a3 bl_a4 bl_a5 bl_set bl_drew bl_drewN le_add_r lt_add_r addr_add max2_i min2_i max_2 min_2

def lookE (n : Int) (s : ByteArray) (a : Int) (raw : Bool) : Int :=
  if n < 1 ∨ 8 < n ∨ (6 < n ∧ raw = false) then 2 else if a < 0 ∨ (s.size : Int) < a ∨ (raw = false ∧ border s a = false) then 3 else 0
def holdV (n : Int) (s : ByteArray) (a : Nat) : Bool :=
  if n = 1 then decide (a = 0) else if n = 2 then decide (a = s.size) else if n = 3 then decide (a = 0) || decide ((s.get! (a - 1)).toNat = 10) else if n = 4 then decide (a = s.size) || decide ((s.get! a).toNat = 10)
  else if n = 8 then border s a else if n = 7 then decide (a = s.size) || decide (1114112 ≤ nextU s a) else ((wordAtS s ((a : Int) - 1) != wordAtS s a) == decide (n = 5))
def lookB (n : Int) (s : ByteArray) (a : Int) (raw : Bool) : Bool := if lookE n s a raw = 0 then holdV n s a.toNat else false
theorem lookE_arg {n : Int} {s : ByteArray} {a : Int} {raw : Bool} (h : n < 1 ∨ 8 < n ∨ (6 < n ∧ raw = false)) : lookE n s a raw = 2 := by unfold lookE; rw [if_pos h]
theorem lookE_rng {n : Int} {s : ByteArray} {a : Int} {raw : Bool} (h : ¬ (n < 1 ∨ 8 < n ∨ (6 < n ∧ raw = false))) (h2 : a < 0 ∨ (s.size : Int) < a ∨ (raw = false ∧ border s a = false)) : lookE n s a raw = 3 := by unfold lookE; rw [if_neg h, if_pos h2]
theorem lookE_ok {n : Int} {s : ByteArray} {a : Int} {raw : Bool} (h : ¬ (n < 1 ∨ 8 < n ∨ (6 < n ∧ raw = false))) (h2 : ¬ (a < 0 ∨ (s.size : Int) < a ∨ (raw = false ∧ border s a = false))) : lookE n s a raw = 0 := by unfold lookE; rw [if_neg h, if_neg h2]
theorem look_res {n : Int} {s : ByteArray} {a : Int} {raw b : Bool} {e : Int} (h : lookE n s a raw = e) (h2 : e = 0 → holdV n s a.toNat = b) (h3 : e ≠ 0 → b = false) : Ending.returned (.tuple #[.bool b, .int .i64 e]) = .returned (.tuple #[.bool (lookB n s a raw), .int .i64 (lookE n s a raw)]) := by
  unfold lookB
  rw [h]
  by_cases h0 : e = 0
  · rw [if_pos h0, h2 h0]
  · rw [if_neg h0, h3 h0]
theorem word_q {B : Nat} {W : World} (x : Ex B W) (s : ByteArray) (n : Int) (hs : s.size ≤ 9223372036854775807) :
    Calls Tryd.prog 34 #[.string s, .int .i64 n] x.val fun e w' => e = .returned (.bool (wordAtS s n)) ∧ ∃ y : Ex B W, w' = y.val := (word_any _ _ _ hs).mono fun _ _ ⟨h, k⟩ => ⟨h, x, k⟩
theorem beq10 (x : Nat) : (((x : Nat) : Int) == 10) = decide (x = 10) := by
  rw [Bool.eq_iff_iff]
  simp
  omega
set_option maxHeartbeats 2000000 in
theorem look_arg (w : World) (n : Int) (s : ByteArray) (a : Int) (raw : Bool) (c1 : n < 1 ∨ 8 < n ∨ (6 < n ∧ raw = false)) :
    Calls Tryd.prog 10 #[.int .i64 n, .string s, .int .i64 a, .bool raw] w fun e w' => e = .returned (.tuple #[.bool (lookB n s a raw), .int .i64 (lookE n s a raw)]) ∧ Below w.heap.size w w' := by
  have HE := Lib.hid (lookE_arg (s := s) (a := a) c1)
  by_cases d1 : n < 1
  · clear c1
    go_enter Tryd.func10, Tryd.ntmps10
    go_wp2
    go_ret2
    exact ⟨look_res HE.out (by simp) (by simp), Below.refl _ _⟩
  by_cases d2 : 8 < n
  · clear c1
    go_enter Tryd.func10, Tryd.ntmps10
    go_wp2
    go_ret2
    exact ⟨look_res HE.out (by simp) (by simp), Below.refl _ _⟩
  obtain ⟨d3, rfl⟩ : 6 < n ∧ raw = false := by rcases c1 with h | h | h <;> first | exact absurd h (by assumption) | exact h
  clear c1
  go_enter Tryd.func10, Tryd.ntmps10
  go_wp2
  go_ret2
  exact ⟨look_res HE.out (by simp) (by simp), Below.refl _ _⟩
set_option maxHeartbeats 2000000 in
theorem look_rng (w : World) (n : Int) (s : ByteArray) (a : Int) (raw : Bool) (d1 : 1 ≤ n) (d2 : n ≤ 8) (d3 : raw = false → n ≤ 6) (hr : a < 0 ∨ (s.size : Int) < a) :
    Calls Tryd.prog 10 #[.int .i64 n, .string s, .int .i64 a, .bool raw] w fun e w' => e = .returned (.tuple #[.bool (lookB n s a raw), .int .i64 (lookE n s a raw)]) ∧ Below w.heap.size w w' := by
  have HE : Hid (lookE n s a raw = 3) := Lib.hid (lookE_rng (by
    rintro (h | h | ⟨h, h'⟩)
    · omega
    · omega
    · have := d3 h'; omega) (by rcases hr with h | h <;> simp [h]))
  by_cases e1 : a < 0
  · clear hr
    cases raw
    · have d4 := d3 rfl
      clear d3
      go_enter Tryd.func10, Tryd.ntmps10
      go_wp2
      go_ret2
      exact ⟨look_res HE.out (by simp) (by simp), Below.refl _ _⟩
    · clear d3
      go_enter Tryd.func10, Tryd.ntmps10
      go_wp2
      all_goals
        go_ret2
        exact ⟨look_res HE.out (by simp) (by simp), Below.refl _ _⟩
  · have e2 : (s.size : Int) < a := by omega
    have e3 : 0 ≤ a := by omega
    clear hr e1
    cases raw
    · have d4 := d3 rfl
      clear d3
      go_enter Tryd.func10, Tryd.ntmps10
      go_wp2
      go_ret2
      exact ⟨look_res HE.out (by simp) (by simp), Below.refl _ _⟩
    · clear d3
      go_enter Tryd.func10, Tryd.ntmps10
      go_wp2
      all_goals
        go_ret2
        exact ⟨look_res HE.out (by simp) (by simp), Below.refl _ _⟩
end Go.Proofs.YtmbboianghbjkaaDoor

-- part LookF
namespace Go.Proofs.YtmbboianghbjkaaDoor
open Go.RowKit Go.Shelf
set_option linter.unusedVariables false
set_option linter.unusedSimpArgs false
attribute [local go_sem] bl_refl bl_alloc bl_a2 bl_a3 bl_a4 bl_a5 bl_set bl_drew bl_drewN le_add_r lt_add_r addr_add max2_i min2_i max_2 min_2

set_option maxHeartbeats 2000000 in
theorem lookFbad (B : Nat) (w0 w : World) (s : ByteArray) (hs : s.size ≤ 9223372036854775807) (hb : Below B w0 w) (hB : B ≤ w.heap.size) (hT : TabsAt B w0) (n : Int) (d1 : 1 ≤ n) (d2 : n ≤ 6) (m : Nat) (e3 : m ≤ s.size) (hbd : border s (m : Int) = false) :
    Calls Tryd.prog 10 #[.int .i64 n, .string s, .int .i64 (m : Int), .bool false] w fun e w' => e = .returned (.tuple #[.bool (lookB n s (m : Int) false), .int .i64 (lookE n s (m : Int) false)]) ∧ Below w.heap.size w w' := by
  have HE : Hid (lookE n s (m : Int) false = 3) := Lib.hid (lookE_rng (by simp; omega) (.inr (.inr ⟨rfl, hbd⟩)))
  go_enter Tryd.func10, Tryd.ntmps10
  go_wp2_with fail
  refine (border_any B w0 _ s m hs hb hB hT).mono ?_
  rintro e w1 ⟨rfl, hb1⟩
  rw [hbd]
  go_wp2
  go_ret2
  exact ⟨look_res HE.out (by simp) (by simp), hb1⟩
set_option maxHeartbeats 2000000 in
theorem lookF1 (B : Nat) (w0 w : World) (s : ByteArray) (hs : s.size ≤ 9223372036854775807) (hb : Below B w0 w) (hB : B ≤ w.heap.size) (hT : TabsAt B w0) (m : Nat) (e3 : m ≤ s.size) (hbd : border s (m : Int) = true) :
    Calls Tryd.prog 10 #[.int .i64 1, .string s, .int .i64 (m : Int), .bool false] w fun e w' => e = .returned (.tuple #[.bool (lookB 1 s (m : Int) false), .int .i64 (lookE 1 s (m : Int) false)]) ∧ Below w.heap.size w w' := by
  have HO : Hid (lookE 1 s (m : Int) false = 0) := Lib.hid (lookE_ok (by simp) (by simp [hbd]; omega))
  go_enter Tryd.func10, Tryd.ntmps10
  go_wp2_with fail
  refine (border_any B w0 _ s m hs hb hB hT).mono ?_
  rintro e w1 ⟨rfl, hb1⟩
  rw [hbd]
  by_cases z : m = 0
  · subst z
    go_wp2
    go_ret2
    exact ⟨look_res HO.out (fun _ => by simp [holdV]) (fun h => absurd rfl h), hb1⟩
  · have z' : ((m : Int) == 0) = false := by simp [z]
    go_wp2
    go_ret2
    exact ⟨look_res HO.out (fun _ => by simp [holdV, z]) (fun h => absurd rfl h), hb1⟩
set_option maxHeartbeats 2000000 in
theorem lookF2 (B : Nat) (w0 w : World) (s : ByteArray) (hs : s.size ≤ 9223372036854775807) (hb : Below B w0 w) (hB : B ≤ w.heap.size) (hT : TabsAt B w0) (m : Nat) (e3 : m ≤ s.size) (hbd : border s (m : Int) = true) :
    Calls Tryd.prog 10 #[.int .i64 2, .string s, .int .i64 (m : Int), .bool false] w fun e w' => e = .returned (.tuple #[.bool (lookB 2 s (m : Int) false), .int .i64 (lookE 2 s (m : Int) false)]) ∧ Below w.heap.size w w' := by
  have HO : Hid (lookE 2 s (m : Int) false = 0) := Lib.hid (lookE_ok (by simp) (by simp [hbd]; omega))
  go_enter Tryd.func10, Tryd.ntmps10
  go_wp2_with fail
  refine (border_any B w0 _ s m hs hb hB hT).mono ?_
  rintro e w1 ⟨rfl, hb1⟩
  rw [hbd]
  by_cases z : m = s.size
  · subst z
    go_wp2
    go_ret2
    exact ⟨look_res HO.out (fun _ => by simp [holdV]) (fun h => absurd rfl h), hb1⟩
  · have z' : ((m : Int) == (s.size : Int)) = false := by simp; omega
    go_wp2
    go_ret2
    exact ⟨look_res HO.out (fun _ => by simp [holdV, z]) (fun h => absurd rfl h), hb1⟩
set_option maxHeartbeats 2000000 in
theorem lookF3 (B : Nat) (w0 w : World) (s : ByteArray) (hs : s.size ≤ 9223372036854775807) (hb : Below B w0 w) (hB : B ≤ w.heap.size) (hT : TabsAt B w0) (m : Nat) (e3 : m ≤ s.size) (hbd : border s (m : Int) = true) :
    Calls Tryd.prog 10 #[.int .i64 3, .string s, .int .i64 (m : Int), .bool false] w fun e w' => e = .returned (.tuple #[.bool (lookB 3 s (m : Int) false), .int .i64 (lookE 3 s (m : Int) false)]) ∧ Below w.heap.size w w' := by
  have HO : Hid (lookE 3 s (m : Int) false = 0) := Lib.hid (lookE_ok (by simp) (by simp [hbd]; omega))
  go_enter Tryd.func10, Tryd.ntmps10
  go_wp2_with fail
  refine (border_any B w0 _ s m hs hb hB hT).mono ?_
  rintro e w1 ⟨rfl, hb1⟩
  rw [hbd]
  by_cases z : m = 0
  · subst z
    go_wp2
    go_ret2
    exact ⟨look_res HO.out (fun _ => by simp [holdV]) (fun h => absurd rfl h), hb1⟩
  · have z' : ((m : Int) == 0) = false := by simp [z]
    obtain ⟨j, rfl⟩ : ∃ j, m = j + 1 := ⟨m - 1, by omega⟩
    have hj : j < s.size := by omega
    have hg := get_at s j hj
    go_wp2
    go_ret2
    exact ⟨look_res HO.out (fun _ => by simp [holdV, hg, beq10]; intro h; omega) (fun h => absurd rfl h), hb1⟩
end Go.Proofs.YtmbboianghbjkaaDoor

-- part LookG
namespace Go.Proofs.YtmbboianghbjkaaDoor
open Go.RowKit Go.Shelf
set_option linter.unusedVariables false
set_option linter.unusedSimpArgs false
attribute [local go_sem] bl_refl bl_alloc bl_a2 bl_a3 bl_a4 bl_a5 bl_set bl_drew bl_drewN le_add_r lt_add_r addr_add max2_i min2_i max_2 min_2

set_option maxHeartbeats 2000000 in
theorem lookF4 (B : Nat) (w0 w : World) (s : ByteArray) (hs : s.size ≤ 9223372036854775807) (hb : Below B w0 w) (hB : B ≤ w.heap.size) (hT : TabsAt B w0) (m : Nat) (e3 : m ≤ s.size) (hbd : border s (m : Int) = true) :
    Calls Tryd.prog 10 #[.int .i64 4, .string s, .int .i64 (m : Int), .bool false] w fun e w' => e = .returned (.tuple #[.bool (lookB 4 s (m : Int) false), .int .i64 (lookE 4 s (m : Int) false)]) ∧ Below w.heap.size w w' := by
  have HO : Hid (lookE 4 s (m : Int) false = 0) := Lib.hid (lookE_ok (by simp) (by simp [hbd]; omega))
  go_enter Tryd.func10, Tryd.ntmps10
  go_wp2_with fail
  refine (border_any B w0 _ s m hs hb hB hT).mono ?_
  rintro e w1 ⟨rfl, hb1⟩
  rw [hbd]
  by_cases z : m = s.size
  · subst z
    go_wp2
    go_ret2
    exact ⟨look_res HO.out (fun _ => by simp [holdV]) (fun h => absurd rfl h), hb1⟩
  · have z' : ((m : Int) == (s.size : Int)) = false := by simp; omega
    have hj : m < s.size := by omega
    have hg := get_at s m hj
    go_wp2
    go_ret2
    exact ⟨look_res HO.out (fun _ => by simp [holdV, z, hg, beq10]) (fun h => absurd rfl h), hb1⟩
set_option maxHeartbeats 2000000 in
theorem lookF5 (B : Nat) (w0 w : World) (s : ByteArray) (hs : s.size ≤ 9223372036854775807) (hb : Below B w0 w) (hB : B ≤ w.heap.size) (hT : TabsAt B w0) (m : Nat) (e3 : m ≤ s.size) (hbd : border s (m : Int) = true) :
    Calls Tryd.prog 10 #[.int .i64 5, .string s, .int .i64 (m : Int), .bool false] w fun e w' => e = .returned (.tuple #[.bool (lookB 5 s (m : Int) false), .int .i64 (lookE 5 s (m : Int) false)]) ∧ Below w.heap.size w w' := by
  have HO : Hid (lookE 5 s (m : Int) false = 0) := Lib.hid (lookE_ok (by simp) (by simp [hbd]; omega))
  go_enter Tryd.func10, Tryd.ntmps10
  go_wp2_with fail
  refine (border_any B w0 _ s m hs hb hB hT).mono ?_
  rintro e w1 ⟨rfl, hb1⟩
  rw [hbd]
  go_wp2_with (go_at_call 34; refine (word_any _ _ _ hs).mono ?_; rintro e w2 ⟨rfl, rfl⟩)
  go_ret2
  exact ⟨look_res HO.out (fun _ => by simp [holdV]; generalize wordAtS s ((m : Int) - 1) = p; generalize wordAtS s (m : Int) = q; cases p <;> cases q <;> rfl) (fun h => absurd rfl h), hb1⟩
set_option maxHeartbeats 2000000 in
theorem lookF6 (B : Nat) (w0 w : World) (s : ByteArray) (hs : s.size ≤ 9223372036854775807) (hb : Below B w0 w) (hB : B ≤ w.heap.size) (hT : TabsAt B w0) (m : Nat) (e3 : m ≤ s.size) (hbd : border s (m : Int) = true) :
    Calls Tryd.prog 10 #[.int .i64 6, .string s, .int .i64 (m : Int), .bool false] w fun e w' => e = .returned (.tuple #[.bool (lookB 6 s (m : Int) false), .int .i64 (lookE 6 s (m : Int) false)]) ∧ Below w.heap.size w w' := by
  have HO : Hid (lookE 6 s (m : Int) false = 0) := Lib.hid (lookE_ok (by simp) (by simp [hbd]; omega))
  go_enter Tryd.func10, Tryd.ntmps10
  go_wp2_with fail
  refine (border_any B w0 _ s m hs hb hB hT).mono ?_
  rintro e w1 ⟨rfl, hb1⟩
  rw [hbd]
  go_wp2_with (go_at_call 34; refine (word_any _ _ _ hs).mono ?_; rintro e w2 ⟨rfl, rfl⟩)
  go_ret2
  exact ⟨look_res HO.out (fun _ => by simp [holdV]; generalize wordAtS s ((m : Int) - 1) = p; generalize wordAtS s (m : Int) = q; cases p <;> cases q <;> rfl) (fun h => absurd rfl h), hb1⟩
end Go.Proofs.YtmbboianghbjkaaDoor

-- part LookT
namespace Go.Proofs.YtmbboianghbjkaaDoor
open Go.RowKit Go.Shelf
set_option linter.unusedVariables false
set_option linter.unusedSimpArgs false
attribute [local go_sem] bl_refl bl_alloc bl_a2 bl_a3 bl_a4 bl_a5 bl_set bl_drew bl_drewN le_add_r lt_add_r addr_add max2_i min2_i max_2 min_2

set_option maxHeartbeats 2000000 in
theorem lookT1 (B : Nat) (w0 w : World) (s : ByteArray) (hs : s.size ≤ 9223372036854775807) (hb : Below B w0 w) (hB : B ≤ w.heap.size) (hT : TabsAt B w0) (m : Nat) (e3 : m ≤ s.size) :
    Calls Tryd.prog 10 #[.int .i64 1, .string s, .int .i64 (m : Int), .bool true] w fun e w' => e = .returned (.tuple #[.bool (lookB 1 s (m : Int) true), .int .i64 (lookE 1 s (m : Int) true)]) ∧ Below w.heap.size w w' := by
  have HO : Hid (lookE 1 s (m : Int) true = 0) := Lib.hid (lookE_ok (by simp) (by simp; omega))
  go_enter Tryd.func10, Tryd.ntmps10
  by_cases z : m = 0
  · subst z
    go_wp2
    go_ret2
    exact ⟨look_res HO.out (fun _ => by simp [holdV]) (fun h => absurd rfl h), Below.refl _ _⟩
  · have z' : ((m : Int) == 0) = false := by simp [z]
    go_wp2
    go_ret2
    exact ⟨look_res HO.out (fun _ => by simp [holdV, z]) (fun h => absurd rfl h), Below.refl _ _⟩
set_option maxHeartbeats 2000000 in
theorem lookT2 (B : Nat) (w0 w : World) (s : ByteArray) (hs : s.size ≤ 9223372036854775807) (hb : Below B w0 w) (hB : B ≤ w.heap.size) (hT : TabsAt B w0) (m : Nat) (e3 : m ≤ s.size) :
    Calls Tryd.prog 10 #[.int .i64 2, .string s, .int .i64 (m : Int), .bool true] w fun e w' => e = .returned (.tuple #[.bool (lookB 2 s (m : Int) true), .int .i64 (lookE 2 s (m : Int) true)]) ∧ Below w.heap.size w w' := by
  have HO : Hid (lookE 2 s (m : Int) true = 0) := Lib.hid (lookE_ok (by simp) (by simp; omega))
  go_enter Tryd.func10, Tryd.ntmps10
  by_cases z : m = s.size
  · subst z
    go_wp2
    go_ret2
    exact ⟨look_res HO.out (fun _ => by simp [holdV]) (fun h => absurd rfl h), Below.refl _ _⟩
  · have z' : ((m : Int) == (s.size : Int)) = false := by simp; omega
    go_wp2
    go_ret2
    exact ⟨look_res HO.out (fun _ => by simp [holdV, z]) (fun h => absurd rfl h), Below.refl _ _⟩
set_option maxHeartbeats 2000000 in
theorem lookT3 (B : Nat) (w0 w : World) (s : ByteArray) (hs : s.size ≤ 9223372036854775807) (hb : Below B w0 w) (hB : B ≤ w.heap.size) (hT : TabsAt B w0) (m : Nat) (e3 : m ≤ s.size) :
    Calls Tryd.prog 10 #[.int .i64 3, .string s, .int .i64 (m : Int), .bool true] w fun e w' => e = .returned (.tuple #[.bool (lookB 3 s (m : Int) true), .int .i64 (lookE 3 s (m : Int) true)]) ∧ Below w.heap.size w w' := by
  have HO : Hid (lookE 3 s (m : Int) true = 0) := Lib.hid (lookE_ok (by simp) (by simp; omega))
  go_enter Tryd.func10, Tryd.ntmps10
  by_cases z : m = 0
  · subst z
    go_wp2
    go_ret2
    exact ⟨look_res HO.out (fun _ => by simp [holdV]) (fun h => absurd rfl h), Below.refl _ _⟩
  · have z' : ((m : Int) == 0) = false := by simp [z]
    obtain ⟨j, rfl⟩ : ∃ j, m = j + 1 := ⟨m - 1, by omega⟩
    have hj : j < s.size := by omega
    have hg := get_at s j hj
    go_wp2
    go_ret2
    exact ⟨look_res HO.out (fun _ => by simp [holdV, hg, beq10]; intro h; omega) (fun h => absurd rfl h), Below.refl _ _⟩
set_option maxHeartbeats 2000000 in
theorem lookT4 (B : Nat) (w0 w : World) (s : ByteArray) (hs : s.size ≤ 9223372036854775807) (hb : Below B w0 w) (hB : B ≤ w.heap.size) (hT : TabsAt B w0) (m : Nat) (e3 : m ≤ s.size) :
    Calls Tryd.prog 10 #[.int .i64 4, .string s, .int .i64 (m : Int), .bool true] w fun e w' => e = .returned (.tuple #[.bool (lookB 4 s (m : Int) true), .int .i64 (lookE 4 s (m : Int) true)]) ∧ Below w.heap.size w w' := by
  have HO : Hid (lookE 4 s (m : Int) true = 0) := Lib.hid (lookE_ok (by simp) (by simp; omega))
  go_enter Tryd.func10, Tryd.ntmps10
  by_cases z : m = s.size
  · subst z
    go_wp2
    go_ret2
    exact ⟨look_res HO.out (fun _ => by simp [holdV]) (fun h => absurd rfl h), Below.refl _ _⟩
  · have z' : ((m : Int) == (s.size : Int)) = false := by simp; omega
    have hj : m < s.size := by omega
    have hg := get_at s m hj
    go_wp2
    go_ret2
    exact ⟨look_res HO.out (fun _ => by simp [holdV, z, hg, beq10]) (fun h => absurd rfl h), Below.refl _ _⟩
end Go.Proofs.YtmbboianghbjkaaDoor

-- part LookU
namespace Go.Proofs.YtmbboianghbjkaaDoor
open Go.RowKit Go.Shelf
set_option linter.unusedVariables false
set_option linter.unusedSimpArgs false
attribute [local go_sem] bl_refl bl_alloc bl_a2 bl_a3 bl_a4 bl_a5 bl_set bl_drew bl_drewN le_add_r lt_add_r addr_add max2_i min2_i max_2 min_2

set_option maxHeartbeats 2000000 in
theorem lookT5 (B : Nat) (w0 w : World) (s : ByteArray) (hs : s.size ≤ 9223372036854775807) (hb : Below B w0 w) (hB : B ≤ w.heap.size) (hT : TabsAt B w0) (m : Nat) (e3 : m ≤ s.size) :
    Calls Tryd.prog 10 #[.int .i64 5, .string s, .int .i64 (m : Int), .bool true] w fun e w' => e = .returned (.tuple #[.bool (lookB 5 s (m : Int) true), .int .i64 (lookE 5 s (m : Int) true)]) ∧ Below w.heap.size w w' := by
  have HO : Hid (lookE 5 s (m : Int) true = 0) := Lib.hid (lookE_ok (by simp) (by simp; omega))
  go_enter Tryd.func10, Tryd.ntmps10
  go_wp2_with (go_at_call 34; refine (word_any _ _ _ hs).mono ?_; rintro e w2 ⟨rfl, rfl⟩)
  go_ret2
  exact ⟨look_res HO.out (fun _ => by simp [holdV]; generalize wordAtS s ((m : Int) - 1) = p; generalize wordAtS s (m : Int) = q; cases p <;> cases q <;> rfl) (fun h => absurd rfl h), Below.refl _ _⟩
set_option maxHeartbeats 2000000 in
theorem lookT6 (B : Nat) (w0 w : World) (s : ByteArray) (hs : s.size ≤ 9223372036854775807) (hb : Below B w0 w) (hB : B ≤ w.heap.size) (hT : TabsAt B w0) (m : Nat) (e3 : m ≤ s.size) :
    Calls Tryd.prog 10 #[.int .i64 6, .string s, .int .i64 (m : Int), .bool true] w fun e w' => e = .returned (.tuple #[.bool (lookB 6 s (m : Int) true), .int .i64 (lookE 6 s (m : Int) true)]) ∧ Below w.heap.size w w' := by
  have HO : Hid (lookE 6 s (m : Int) true = 0) := Lib.hid (lookE_ok (by simp) (by simp; omega))
  go_enter Tryd.func10, Tryd.ntmps10
  go_wp2_with (go_at_call 34; refine (word_any _ _ _ hs).mono ?_; rintro e w2 ⟨rfl, rfl⟩)
  go_ret2
  exact ⟨look_res HO.out (fun _ => by simp [holdV]; generalize wordAtS s ((m : Int) - 1) = p; generalize wordAtS s (m : Int) = q; cases p <;> cases q <;> rfl) (fun h => absurd rfl h), Below.refl _ _⟩
set_option maxHeartbeats 2000000 in
theorem lookT7 (B : Nat) (w0 w : World) (s : ByteArray) (hs : s.size ≤ 9223372036854775807) (hb : Below B w0 w) (hB : B ≤ w.heap.size) (hT : TabsAt B w0) (m : Nat) (e3 : m ≤ s.size) :
    Calls Tryd.prog 10 #[.int .i64 7, .string s, .int .i64 (m : Int), .bool true] w fun e w' => e = .returned (.tuple #[.bool (lookB 7 s (m : Int) true), .int .i64 (lookE 7 s (m : Int) true)]) ∧ Below w.heap.size w w' := by
  have HO : Hid (lookE 7 s (m : Int) true = 0) := Lib.hid (lookE_ok (by simp) (by simp; omega))
  go_enter Tryd.func10, Tryd.ntmps10
  by_cases z : m = s.size
  · subst z
    go_wp2_with fail
    refine (next_end _ s hs).mono ?_
    rintro e w2 ⟨rfl, hb2⟩
    go_wp2
    go_ret2
    exact ⟨look_res HO.out (fun _ => by simp [holdV]) (fun h => absurd rfl h), hb2⟩
  · go_wp2_with fail
    refine (next_any _ s m hs (by omega)).mono ?_
    rintro e w2 ⟨rfl, hb2⟩
    go_wp2
    go_ret2
    exact ⟨look_res HO.out (fun _ => by simp [holdV, z]) (fun h => absurd rfl h), hb2⟩
set_option maxHeartbeats 2000000 in
theorem lookT8 (B : Nat) (w0 w : World) (s : ByteArray) (hs : s.size ≤ 9223372036854775807) (hb : Below B w0 w) (hB : B ≤ w.heap.size) (hT : TabsAt B w0) (m : Nat) (e3 : m ≤ s.size) :
    Calls Tryd.prog 10 #[.int .i64 8, .string s, .int .i64 (m : Int), .bool true] w fun e w' => e = .returned (.tuple #[.bool (lookB 8 s (m : Int) true), .int .i64 (lookE 8 s (m : Int) true)]) ∧ Below w.heap.size w w' := by
  have HO : Hid (lookE 8 s (m : Int) true = 0) := Lib.hid (lookE_ok (by simp) (by simp; omega))
  go_enter Tryd.func10, Tryd.ntmps10
  go_wp2_with fail
  refine (border_any B w0 _ s m hs hb hB hT).mono ?_
  rintro e w2 ⟨rfl, hb2⟩
  go_wp2
  go_ret2
  exact ⟨look_res HO.out (fun _ => by simp [holdV]) (fun h => absurd rfl h), hb2⟩
end Go.Proofs.YtmbboianghbjkaaDoor

-- part LookJ
namespace Go.Proofs.YtmbboianghbjkaaDoor
open Go.RowKit Go.Shelf
set_option linter.unusedVariables false
set_option linter.unusedSimpArgs false
attribute [local go_sem] bl_refl bl_alloc bl_a2 bl_a3 bl_a4 bl_a5 bl_set bl_drew bl_drewN le_add_r lt_add_r addr_add max2_i min2_i max_2 min_2

theorem look_any (B : Nat) (w0 w : World) (s : ByteArray) (hs : s.size ≤ 9223372036854775807) (hb : Below B w0 w) (hB : B ≤ w.heap.size) (hT : TabsAt B w0) (n : Int) (a : Int) (raw : Bool) :
    Calls Tryd.prog 10 #[.int .i64 n, .string s, .int .i64 a, .bool raw] w fun e w' => e = .returned (.tuple #[.bool (lookB n s a raw), .int .i64 (lookE n s a raw)]) ∧ Below w.heap.size w w' := by
  by_cases c1 : n < 1 ∨ 8 < n ∨ (6 < n ∧ raw = false)
  · exact look_arg w n s a raw c1
  have d1 : 1 ≤ n := by omega
  have d2 : n ≤ 8 := by omega
  have d3 : raw = false → n ≤ 6 := fun h => by
    rcases Int.lt_or_le 6 n with h' | h'
    · exact absurd (.inr (.inr ⟨h', h⟩)) c1
    · exact h'
  by_cases c2 : a < 0 ∨ (s.size : Int) < a
  · exact look_rng w n s a raw d1 d2 d3 c2
  obtain ⟨m, rfl⟩ := Int.eq_ofNat_of_zero_le (show 0 ≤ a by omega)
  have e3 : m ≤ s.size := by omega
  cases raw
  · have d4 := d3 rfl
    by_cases hbd : border s (m : Int) = true
    · have hn : n = 1 ∨ n = 2 ∨ n = 3 ∨ n = 4 ∨ n = 5 ∨ n = 6 := by omega
      rcases hn with rfl | rfl | rfl | rfl | rfl | rfl
      · exact lookF1 B w0 w s hs hb hB hT m e3 hbd
      · exact lookF2 B w0 w s hs hb hB hT m e3 hbd
      · exact lookF3 B w0 w s hs hb hB hT m e3 hbd
      · exact lookF4 B w0 w s hs hb hB hT m e3 hbd
      · exact lookF5 B w0 w s hs hb hB hT m e3 hbd
      · exact lookF6 B w0 w s hs hb hB hT m e3 hbd
    · exact lookFbad B w0 w s hs hb hB hT n d1 d4 m e3 (by simpa using hbd)
  · have hn : n = 1 ∨ n = 2 ∨ n = 3 ∨ n = 4 ∨ n = 5 ∨ n = 6 ∨ n = 7 ∨ n = 8 := by omega
    rcases hn with rfl | rfl | rfl | rfl | rfl | rfl | rfl | rfl
    · exact lookT1 B w0 w s hs hb hB hT m e3
    · exact lookT2 B w0 w s hs hb hB hT m e3
    · exact lookT3 B w0 w s hs hb hB hT m e3
    · exact lookT4 B w0 w s hs hb hB hT m e3
    · exact lookT5 B w0 w s hs hb hB hT m e3
    · exact lookT6 B w0 w s hs hb hB hT m e3
    · exact lookT7 B w0 w s hs hb hB hT m e3
    · exact lookT8 B w0 w s hs hb hB hT m e3
end Go.Proofs.YtmbboianghbjkaaDoor

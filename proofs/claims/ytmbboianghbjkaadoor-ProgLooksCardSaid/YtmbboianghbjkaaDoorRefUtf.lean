import Derived.Test.YtmbboianghbjkaaDoorPProgLooksx5
import Derived.Test.YtmbboianghbjkaaDoorBaseD
namespace Go.Proofs.YtmbboianghbjkaaDoor
open Go.RowKit Go.Proofs.YtmbboianghbjkaaDoorW.PrintWords Go.Proofs.YtmbboianghbjkaaDoorW.PrintLast Go.Proofs.YtmbboianghbjkaaDoorW.PrintMore Go.Proofs.YtmbboianghbjkaaDoor.PProgLooks
set_option linter.unusedVariables false
set_option linter.unusedSimpArgs false

/-! The reference's functions on a text's units, as plain functions. -/
theorem bt_byteN (s : ByteArray) (i : Nat) (h : i < s.size) : bt s (i : Int) = (byteN s i : Int) := by
  unfold byteN
  rw [get_at s i h]
  simp [bt, h]
theorem byteN_lt (s : ByteArray) (i : Nat) : byteN s i < 256 := (s.get! i).toNat_lt
theorem w64_id (x : Int) (h0 : -9223372036854775808 ≤ x) (h1 : x ≤ 9223372036854775807) : wrap64 x = x := by unfold wrap64; omega
theorem w32_id (x : Int) (h0 : -2147483648 ≤ x) (h1 : x ≤ 2147483647) : wrap32 x = x := by unfold wrap32; omega
theorem char_step (k : Nat) (s : ByteArray) (n w l v i : Nat) (hs : s.size ≤ 140737488351232) (hw : n + w ≤ s.size) (hw4 : w ≤ 4) (hv : v ≤ 2097152) :
    thistleref01_char.l0 (k + 1) s (n : Int) (w : Int) (l : Int) (v : Int) (i : Int) =
      if i < w then (if byteN s (n + i) < 128 ∨ 191 < byteN s (n + i) then some (0, 0) else thistleref01_char.l0 k s (n : Int) (w : Int) (l : Int) ((v * 64 + (byteN s (n + i) - 128) : Nat) : Int) ((i + 1 : Nat) : Int))
      else if v < l ∨ 1114111 < v ∨ (55296 ≤ v ∧ v ≤ 57343) then some (0, 0) else some ((v : Int), (w : Int)) := by
  simp only [thistleref01_char.l0]
  by_cases hi : i < w
  · rw [if_pos (show (i : Int) < (w : Int) by omega), if_pos hi]
    have e1 : wrap64 ((n : Int) + (i : Int)) = ((n + i : Nat) : Int) := by rw [w64_id _ (by omega) (by omega)]; omega
    have hb := bt_byteN s (n + i) (by omega)
    have hl := byteN_lt s (n + i)
    rw [e1, if_pos (by omega), if_pos (by omega), hb, w64_id _ (by omega) (by omega)]
    by_cases c1 : byteN s (n + i) < 128
    · rw [if_pos (by omega), if_pos (.inl c1)]
    · rw [if_neg (by omega)]
      by_cases c2 : 191 < byteN s (n + i)
      · rw [if_pos (by omega), if_pos (.inr c2)]
      · rw [if_neg (by omega), if_neg (by omega)]
        have e2 : wrap64 (wrap64 (wrap64 ((v : Int) * 64) + (byteN s (n + i) : Int)) - 128) = ((v * 64 + (byteN s (n + i) - 128) : Nat) : Int) := by
          rw [w64_id ((v : Int) * 64) (by omega) (by omega), w64_id ((v : Int) * 64 + (byteN s (n + i) : Int)) (by omega) (by omega), w64_id _ (by omega) (by omega)]
          omega
        have e3 : wrap64 ((i : Int) + 1) = ((i + 1 : Nat) : Int) := by rw [w64_id _ (by omega) (by omega)]; omega
        rw [e2, e3]
  · rw [if_neg (show ¬ (i : Int) < (w : Int) by omega), if_neg hi]
    by_cases c1 : v < l
    · rw [if_pos (by omega), if_pos (.inl c1)]
    rw [if_neg (by omega)]
    by_cases c2 : 1114111 < v
    · rw [if_pos (by omega), if_pos (.inr (.inl c2))]
    rw [if_neg (by omega)]
    by_cases c3 : 55296 ≤ v
    · rw [if_pos (by omega)]
      by_cases c4 : v ≤ 57343
      · rw [if_pos (by omega), if_pos (.inr (.inr ⟨c3, c4⟩))]
      · rw [if_neg (by omega), if_neg (by omega), w32_id _ (by omega) (by omega)]
    · rw [if_neg (by omega), if_neg (by omega), w32_id _ (by omega) (by omega)]
theorem char_f (k : Nat) (s : ByteArray) (n : Nat) (hs : s.size ≤ 140737488351232) (hn : n < s.size) :
    thistleref01_char.f (k + 8) s (n : Int) = some (((charS s n).1 : Int), ((charS s n).2 : Int)) := by
  have hl := byteN_lt s n
  have l1 := byteN_lt s (n + 1)
  have l2 := byteN_lt s (n + 2)
  have l3 := byteN_lt s (n + 3)
  unfold thistleref01_char.f charS charN
  rw [if_pos (by omega), if_pos (by omega), bt_byteN s n hn, w64_id _ (by omega) (by omega)]
  by_cases a1 : byteN s n < 128
  · rw [if_pos (by omega), if_pos a1, w32_id _ (by omega) (by omega)]
    rfl
  rw [if_neg (by omega), if_neg a1]
  by_cases a2 : byteN s n < 192 ∨ 248 ≤ byteN s n
  · rw [if_pos a2]
    by_cases b1 : byteN s n ≥ 224
    · rw [if_pos (by omega)]
      simp only [thistleref01_char.j0]
      rw [if_pos (by omega)]
      simp only [thistleref01_char.j1]
      rw [if_neg (by omega), if_pos (by omega)]
      simp only [thistleref01_char.j2]
      rfl
    · rw [if_neg (by omega)]
      simp only [thistleref01_char.j0]
      rw [if_neg (by omega)]
      simp only [thistleref01_char.j1]
      rw [if_pos (by omega)]
      simp only [thistleref01_char.j2]
      rfl
  rw [if_neg a2]
  by_cases a3 : byteN s n < 224
  · rw [if_neg (by omega), if_pos a3, w64_id _ (by omega) (by omega)]
    simp only [thistleref01_char.j0]
    rw [if_neg (by omega)]
    simp only [thistleref01_char.j1]
    rw [if_neg (by omega), if_neg (by omega), w64_id _ (by omega) (by omega)]
    simp only [thistleref01_char.j2]
    by_cases d : s.size - n < 2
    · rw [if_pos (by simp; omega), if_pos (.inl d)]
      rfl
    · rw [if_neg (by simp; omega), show ((byteN s n : Int) - 192) = ((byteN s n - 192 : Nat) : Int) by omega]
      show thistleref01_char.l0 _ s (n : Int) ((2 : Nat) : Int) ((128 : Nat) : Int) ((byteN s n - 192 : Nat) : Int) ((1 : Nat) : Int) = _
      rw [char_step _ s n 2 128 _ 1 hs (by omega) (by omega) (by omega), if_pos (by omega)]
      by_cases c1 : byteN s (n + 1) < 128 ∨ 191 < byteN s (n + 1)
      · rw [if_pos c1, if_pos (by omega)]
        rfl
      · rw [if_neg c1, char_step _ s n 2 128 _ 2 hs (by omega) (by omega) (by omega), if_neg (by omega)]
        by_cases c2 : (byteN s n - 192) * 64 + (byteN s (n + 1) - 128) < 128
        · rw [if_pos (.inl c2), if_pos (by omega)]
          rfl
        · rw [if_neg (by omega), if_neg (by omega)]
  rw [if_pos (by omega), if_neg a3, w64_id _ (by omega) (by omega)]
  simp only [thistleref01_char.j0]
  by_cases a4 : byteN s n < 240
  · rw [if_neg (by omega), if_pos a4]
    simp only [thistleref01_char.j1]
    rw [if_neg (by omega), if_neg (by omega), w64_id _ (by omega) (by omega)]
    simp only [thistleref01_char.j2]
    by_cases d : s.size - n < 3
    · rw [if_pos (by simp; omega), if_pos (.inl d)]
      rfl
    · rw [if_neg (by simp; omega), show ((byteN s n : Int) - 224) = ((byteN s n - 224 : Nat) : Int) by omega]
      show thistleref01_char.l0 _ s (n : Int) ((3 : Nat) : Int) ((2048 : Nat) : Int) ((byteN s n - 224 : Nat) : Int) ((1 : Nat) : Int) = _
      rw [char_step _ s n 3 2048 _ 1 hs (by omega) (by omega) (by omega), if_pos (by omega)]
      by_cases c1 : byteN s (n + 1) < 128 ∨ 191 < byteN s (n + 1)
      · rw [if_pos c1, if_pos (by omega)]
        rfl
      · rw [if_neg c1, char_step _ s n 3 2048 _ 2 hs (by omega) (by omega) (by omega), if_pos (by omega)]
        by_cases c2 : byteN s (n + 2) < 128 ∨ 191 < byteN s (n + 2)
        · rw [if_pos c2, if_pos (by omega)]
          rfl
        · rw [if_neg c2, char_step _ s n 3 2048 _ 3 hs (by omega) (by omega) (by omega), if_neg (by omega)]
          have e : ((byteN s n - 224) * 64 + (byteN s (n + 1) - 128)) * 64 + (byteN s (n + 2) - 128) = (byteN s n - 224) * 4096 + (byteN s (n + 1) - 128) * 64 + (byteN s (n + 2) - 128) := by omega
          rw [e]
          by_cases c3 : (byteN s n - 224) * 4096 + (byteN s (n + 1) - 128) * 64 + (byteN s (n + 2) - 128) < 2048 ∨ (55296 ≤ (byteN s n - 224) * 4096 + (byteN s (n + 1) - 128) * 64 + (byteN s (n + 2) - 128) ∧ (byteN s n - 224) * 4096 + (byteN s (n + 1) - 128) * 64 + (byteN s (n + 2) - 128) ≤ 57343)
          · rw [if_pos (by omega), if_pos (by omega)]
            rfl
          · rw [if_neg (by omega), if_neg (by omega)]
  rw [if_pos (by omega), if_neg a4, w64_id _ (by omega) (by omega)]
  simp only [thistleref01_char.j1]
  rw [if_neg (by omega), if_neg (by omega), w64_id _ (by omega) (by omega)]
  simp only [thistleref01_char.j2]
  by_cases d : s.size - n < 4
  · rw [if_pos (by simp; omega), if_pos (.inl d)]
    rfl
  · rw [if_neg (by simp; omega), show ((byteN s n : Int) - 240) = ((byteN s n - 240 : Nat) : Int) by omega]
    show thistleref01_char.l0 _ s (n : Int) ((4 : Nat) : Int) ((65536 : Nat) : Int) ((byteN s n - 240 : Nat) : Int) ((1 : Nat) : Int) = _
    rw [char_step _ s n 4 65536 _ 1 hs (by omega) (by omega) (by omega), if_pos (by omega)]
    by_cases c1 : byteN s (n + 1) < 128 ∨ 191 < byteN s (n + 1)
    · rw [if_pos c1, if_pos (by omega)]
      rfl
    · rw [if_neg c1, char_step _ s n 4 65536 _ 2 hs (by omega) (by omega) (by omega), if_pos (by omega)]
      by_cases c2 : byteN s (n + 2) < 128 ∨ 191 < byteN s (n + 2)
      · rw [if_pos c2, if_pos (by omega)]
        rfl
      · rw [if_neg c2, char_step _ s n 4 65536 _ 3 hs (by omega) (by omega) (by omega), if_pos (by omega)]
        by_cases c3 : byteN s (n + 3) < 128 ∨ 191 < byteN s (n + 3)
        · rw [if_pos c3, if_pos (by omega)]
          rfl
        · rw [if_neg c3, char_step _ s n 4 65536 _ 4 hs (by omega) (by omega) (by omega), if_neg (by omega)]
          have e : (((byteN s n - 240) * 64 + (byteN s (n + 1) - 128)) * 64 + (byteN s (n + 2) - 128)) * 64 + (byteN s (n + 3) - 128) = (byteN s n - 240) * 262144 + (byteN s (n + 1) - 128) * 4096 + (byteN s (n + 2) - 128) * 64 + (byteN s (n + 3) - 128) := by omega
          rw [e]
          by_cases c4 : (byteN s n - 240) * 262144 + (byteN s (n + 1) - 128) * 4096 + (byteN s (n + 2) - 128) * 64 + (byteN s (n + 3) - 128) < 65536 ∨ 1114111 < (byteN s n - 240) * 262144 + (byteN s (n + 1) - 128) * 4096 + (byteN s (n + 2) - 128) * 64 + (byteN s (n + 3) - 128)
          · rw [if_pos (by omega), if_pos (by omega)]
            rfl
          · rw [if_neg (by omega), if_neg (by omega)]

theorem dec_at (s : ByteArray) (n : Nat) (hn : n < s.size) : Utf8.decode (s.extract n s.size) 0 = Lib.decodeN (s.size - n) (byteN s n) (byteN s (n + 1)) (byteN s (n + 2)) (byteN s (n + 3)) := by
  rw [Lib.decode_at, ByteArray.size_extract]
  simp only [get!_extract, Nat.sub_zero, Nat.min_self]
  rfl
theorem char_dec (s : ByteArray) (n : Nat) (hn : n < s.size) :
    (charS s n = (0, 0) ∧ Utf8.decode (s.extract n s.size) 0 = (65533, 1) ∧ Lib.hasPrefix (s.extract n s.size).data.toList [239, 191, 189] = false) ∨
    (charS s n = Utf8.decode (s.extract n s.size) 0 ∧ 1 ≤ (charS s n).2 ∧ (charS s n).2 ≤ 4 ∧ n + (charS s n).2 ≤ s.size ∧ (charS s n).1 ≤ 1114111 ∧ ((charS s n).1 = 65533 → Lib.hasPrefix (s.extract n s.size).data.toList [239, 191, 189] = true) ∧ (charS s n).2 = (if (charS s n).1 < 128 then 1 else if (charS s n).1 < 2048 then 2 else if (charS s n).1 < 65536 then 3 else 4) ∧ ((charS s n).1 < 55296 ∨ 57343 < (charS s n).1)) := by
  have h := char_decode (s.size - n) (byteN s n) (byteN s (n + 1)) (byteN s (n + 2)) (byteN s (n + 3)) (by omega) (byteN_lt s n) (byteN_lt s _) (byteN_lt s _) (byteN_lt s _)
  have hp : Lib.hasPrefix (s.extract n s.size).data.toList [239, 191, 189] = decide (3 ≤ s.size - n ∧ byteN s n = 239 ∧ byteN s (n + 1) = 191 ∧ byteN s (n + 2) = 189) := by
    rw [prefix_bad]
    simp only [get!_extract, ByteArray.size_extract, Nat.min_self]
    rfl
  rw [dec_at s n hn, hp]
  rcases h with ⟨h1, h2, h3⟩ | ⟨h1, h2, h3, h4, h5, h6, h7, h8⟩
  · exact .inl ⟨h1, h2, by simpa using h3⟩
  · exact .inr ⟨h1, h2, h3, by unfold charS; omega, h5, fun e => by simpa using h6 e, h7, h8⟩
theorem dec_width (s : ByteArray) (n : Nat) (hn : n < s.size) : (Lib.decodeGo (s.extract n s.size)).2 = (unitS s n).2 := by
  have hz : ¬ (s.extract n s.size).size = 0 := by rw [ByteArray.size_extract]; omega
  unfold Lib.decodeGo unitS
  rw [if_neg hz]
  rcases char_dec s n hn with ⟨h1, h2, _⟩ | ⟨h1, h2, _⟩
  · rw [h2, if_pos (by rw [h1])]
  · rw [if_neg (by omega), h1]
theorem nextU_unit (s : ByteArray) (n : Nat) (hn : n < s.size) : nextU s n = ((unitS s n).1 : Int) := by
  unfold nextU numV unitS
  have e0 : ((s.extract n s.size).get! 0).toNat = byteN s n := by rw [get!_extract]; rfl
  rcases char_dec s n hn with ⟨h1, h2, h3⟩ | ⟨h1, h2, h3, h4, h5, h6, h7⟩
  · rw [h2, if_pos ⟨rfl, h3⟩, if_pos (by rw [h1]), e0]
    rfl
  · have hne : ¬ (charS s n).2 = 0 := by omega
    rw [if_neg hne, ← h1, if_neg]
    rintro ⟨e, h⟩
    rw [h6 (by omega)] at h
    cases h
theorem unit_pos (s : ByteArray) (n : Nat) (hn : n < s.size) : 1 ≤ (unitS s n).2 ∧ (unitS s n).2 ≤ 4 ∧ n + (unitS s n).2 ≤ s.size := by
  unfold unitS
  rcases char_dec s n hn with ⟨h1, h2, h3⟩ | ⟨h1, h2, h3, h4, h5, h6, h7⟩
  · rw [if_pos (by rw [h1])]
    exact ⟨by simp, by simp, by simp only; omega⟩
  · rw [if_neg (by omega)]
    exact ⟨h2, h3, h4⟩
theorem unit_width (s : ByteArray) (n : Nat) (hn : n < s.size) : widthV (nextU s n) = ((unitS s n).2 : Int) := by
  rw [nextU_unit s n hn]
  rcases char_dec s n hn with ⟨h1, h2, h3⟩ | ⟨h1, h2, h3, h4, h5, h6, h7, h8⟩
  · have hu : unitS s n = (1114112 + byteN s n, 1) := by unfold unitS; rw [if_pos (by rw [h1])]
    rw [hu]
    unfold widthV
    rw [if_pos (by simp only; omega)]
    rfl
  · have hne : ¬ (charS s n).2 = 0 := by omega
    have hu : unitS s n = charS s n := by unfold unitS; rw [if_neg hne]
    rw [hu]
    unfold widthV
    rw [if_neg (by omega), h7]
    clear h7
    generalize (charS s n).1 = c at *
    unfold Lib.runeLen
    repeat' split
    all_goals first | rfl | (exfalso; omega)
theorem bordAt_char (s : ByteArray) (a i : Nat) (hi : i < a) (ha : a ≤ s.size) : bordAt s a i = decide ((charS s i).2 ≤ a - i) := by
  unfold bordAt
  rw [dec_width s i (by omega)]
  unfold unitS
  rw [Bool.eq_iff_iff, decide_eq_true_eq, decide_eq_true_eq]
  by_cases h : (charS s i).2 = 0
  · rw [if_pos h]
    simp only
    omega
  · rw [if_neg h]
    omega
theorem bordOk_iff (s : ByteArray) (a : Nat) (ha : a ≤ s.size) : bordOk s a = true ↔ ∀ n, 1 ≤ n → n ≤ 3 → n ≤ a → (charS s (a - n)).2 ≤ n := by
  unfold bordOk
  rw [List.all_eq_true]
  constructor
  · intro h n h1 h2 h3
    have := h (a - n) (by simp; omega)
    rw [bordAt_char s a _ (by omega) ha] at this
    simp at this
    omega
  · intro h i hi
    have hi' : i < a := by simpa using hi
    by_cases h3 : i + 3 < a
    · simp [h3]
    · have := h (a - i) (by omega) (by omega) (by omega)
      rw [show a - (a - i) = i by omega] at this
      rw [bordAt_char s a i hi' ha]
      simp [this]
theorem rborder_step (k : Nat) (s : ByteArray) (a i : Nat) (hs : s.size ≤ 140737488351232) (ha : a ≤ s.size) (h1 : 1 ≤ i) (h4 : i ≤ 4) :
    thistleref01_Border.l0 (k + 10) s (a : Int) (i : Int) = if i ≤ 3 ∧ i ≤ a then (if i < (charS s (a - i)).2 then some false else thistleref01_Border.l0 (k + 8) s (a : Int) ((i + 1 : Nat) : Int)) else some true := by
  simp only [thistleref01_Border.l0]
  by_cases c1 : i ≤ 3
  · rw [if_pos (by omega)]
    simp only [thistleref01_Border.j2]
    by_cases c2 : i ≤ a
    · rw [if_pos (by simp; omega), if_pos ⟨c1, c2⟩, w64_id _ (by omega) (by omega), show (a : Int) - (i : Int) = ((a - i : Nat) : Int) by omega, char_f k s (a - i) hs (by omega)]
      simp only [Option.bind_some]
      by_cases c3 : i < (charS s (a - i)).2
      · rw [if_pos (by omega), if_pos c3]
      · rw [if_neg (by omega), if_neg c3, w64_id _ (by omega) (by omega)]
        rfl
    · rw [if_neg (by simp; omega), if_neg (by omega)]
  · rw [if_neg (by omega), if_neg (by omega)]
    simp only [thistleref01_Border.j2]
    rfl
theorem rborder_f (k : Nat) (s : ByteArray) (a : Int) (hs : s.size ≤ 140737488351232) : thistleref01_Border.f (k + 20) s a = some (border s a) := by
  unfold thistleref01_Border.f border
  by_cases h0 : a < 0
  · rw [if_pos h0]
    simp only [thistleref01_Border.j0]
    rw [if_pos trivial, decide_eq_false (show ¬ 0 ≤ a by omega)]
    rfl
  rw [if_neg h0]
  obtain ⟨n, rfl⟩ := Int.eq_ofNat_of_zero_le (show 0 ≤ a by omega)
  simp only [thistleref01_Border.j0, Int.toNat_natCast]
  by_cases h1 : s.size < n
  · rw [if_pos (by simp; omega), decide_eq_false (show ¬ (n : Int) ≤ s.size by omega)]
    simp
  rw [if_neg (by simp; omega), decide_eq_true (show (0 : Int) ≤ n by omega), decide_eq_true (show (n : Int) ≤ s.size by omega)]
  simp only [Bool.true_and]
  have hb := bordOk_iff s n (by omega)
  have key : ∀ b : Bool, ((b = true) ↔ ∀ m, 1 ≤ m → m ≤ 3 → m ≤ n → (charS s (n - m)).2 ≤ m) → bordOk s n = b := fun b h => by
    rw [Bool.eq_iff_iff, hb, h]
  show thistleref01_Border.l0 (k + 9 + 10) s (n : Int) ((1 : Nat) : Int) = _
  rw [rborder_step _ s n 1 hs (by omega) (by omega) (by omega)]
  by_cases c1 : 1 ≤ 3 ∧ 1 ≤ n
  · rw [if_pos c1]
    by_cases d1 : 1 < (charS s (n - 1)).2
    · rw [if_pos d1, key false ⟨(fun h => by cases h), fun h => by have := h 1 (by omega) (by omega) (by omega); omega⟩]
    rw [if_neg d1]
    show thistleref01_Border.l0 (k + 7 + 10) s (n : Int) ((2 : Nat) : Int) = _
    rw [rborder_step _ s n 2 hs (by omega) (by omega) (by omega)]
    by_cases c2 : 2 ≤ 3 ∧ 2 ≤ n
    · rw [if_pos c2]
      by_cases d2 : 2 < (charS s (n - 2)).2
      · rw [if_pos d2, key false ⟨(fun h => by cases h), fun h => by have := h 2 (by omega) (by omega) (by omega); omega⟩]
      rw [if_neg d2]
      show thistleref01_Border.l0 (k + 5 + 10) s (n : Int) ((3 : Nat) : Int) = _
      rw [rborder_step _ s n 3 hs (by omega) (by omega) (by omega)]
      by_cases c3 : 3 ≤ 3 ∧ 3 ≤ n
      · rw [if_pos c3]
        by_cases d3 : 3 < (charS s (n - 3)).2
        · rw [if_pos d3, key false ⟨(fun h => by cases h), fun h => by have := h 3 (by omega) (by omega) (by omega); omega⟩]
        rw [if_neg d3]
        show thistleref01_Border.l0 (k + 3 + 10) s (n : Int) ((4 : Nat) : Int) = _
        rw [rborder_step _ s n 4 hs (by omega) (by omega) (by omega), if_neg (by omega), key true ⟨fun _ m m1 m3 mn => ?_, fun _ => rfl⟩]
        rcases (show m = 1 ∨ m = 2 ∨ m = 3 by omega) with rfl | rfl | rfl <;> omega
      · rw [if_neg c3, key true ⟨fun _ m m1 m3 mn => ?_, fun _ => rfl⟩]
        rcases (show m = 1 ∨ m = 2 by omega) with rfl | rfl <;> omega
    · rw [if_neg c2, key true ⟨fun _ m m1 m3 mn => ?_, fun _ => rfl⟩]
      obtain rfl : m = 1 := by omega
      omega
  · rw [if_neg c1, key true ⟨fun _ m m1 m3 mn => by omega, fun _ => rfl⟩]
theorem rnext_f (k : Nat) (s : ByteArray) (n : Nat) (hs : s.size ≤ 140737488351232) (hn : n < s.size) : thistleref01_Next.f (k + 9) s (n : Int) = some (((unitS s n).1 : Int), ((unitS s n).2 : Int), 0) := by
  have hl := byteN_lt s n
  unfold thistleref01_Next.f
  rw [if_neg (by omega)]
  simp only [thistleref01_Next.j0]
  rw [if_neg (by simp; omega), if_neg (by omega)]
  unfold thistleref01_unit.f unitS
  rw [char_f k s n hs hn]
  simp only [Option.bind_some]
  by_cases h : (charS s n).2 = 0
  · rw [if_pos (by omega), if_pos (by omega), if_pos (by omega), if_pos h, bt_byteN s n hn, w64_id (byteN s n : Int) (by omega) (by omega), w64_id _ (by omega) (by omega), w32_id _ (by omega) (by omega)]
    rfl
  · rw [if_neg (by omega), if_neg h]
    rfl
theorem risWord_f (u : Int) : thistleref12_isWord.f u = some (wordU u) := by
  unfold thistleref12_isWord.f wordU
  repeat' split
  all_goals
    congr 1
    rw [Bool.eq_iff_iff]
    simp
    try omega
theorem wordAtS_lt (s : ByteArray) (n : Nat) (h : n < s.size) : wordAtS s (n : Int) = wordU (byteN s n) := by
  unfold wordAtS
  rw [decide_eq_true (show (0 : Int) ≤ n by omega), decide_eq_true (show (n : Int) < s.size by omega)]
  rfl
theorem rword_f (s : ByteArray) (n : Nat) (hs : s.size ≤ 140737488351232) (hn : n ≤ s.size) : thistleref12_word.f s (n : Int) = some (wordAtS s ((n : Int) - 1) != wordAtS s (n : Int)) := by
  unfold thistleref12_word.f
  have hb : ∀ m, m < s.size → thistleref12_isWord.f (wrap32 (bt s ((m : Nat) : Int))) = some (wordAtS s (m : Int)) := fun m hm => by
    have := byteN_lt s m
    rw [bt_byteN s m hm, w32_id _ (by omega) (by omega), risWord_f, wordAtS_lt s m hm]
  have hout : ¬ n < s.size → wordAtS s (n : Int) = false := fun h => by
    unfold wordAtS
    rw [decide_eq_false (show ¬ (n : Int) < s.size by omega)]
    simp
  by_cases c0 : 0 < n
  · rw [if_pos (by omega), w64_id _ (by omega) (by omega), if_pos (by omega), if_pos (by omega), show (n : Int) - 1 = ((n - 1 : Nat) : Int) by omega, hb (n - 1) (by omega)]
    simp only [Option.bind_some]
    by_cases c1 : n < s.size
    · rw [if_pos (by omega), if_pos (by omega), hb n c1]
      rfl
    · rw [if_neg (by omega), hout c1]
  · obtain rfl : n = 0 := by omega
    rw [if_neg (by omega)]
    have h0 : wordAtS s (((0 : Nat) : Int) - 1) = false := by unfold wordAtS; rw [decide_eq_false (by omega)]; rfl
    rw [h0]
    by_cases c1 : 0 < s.size
    · rw [if_pos (by omega), if_pos (by omega), hb 0 c1]
      rfl
    · rw [if_neg (by omega), hout c1]
theorem rholds_f (k : Nat) (n : Int) (s : ByteArray) (m : Nat) (hs : s.size ≤ 140737488351232) (hm : m ≤ s.size) (h1 : 1 ≤ n) (h8 : n ≤ 8) : thistleref12_Holds.f (k + 20) n s (m : Int) = some (holdV n s m) := by
  unfold thistleref12_Holds.f holdV
  by_cases c1 : n = 1
  · rw [if_pos c1, if_pos c1]
    congr 1
    rw [Bool.eq_iff_iff]
    simp
    try omega
  rw [if_neg c1, if_neg c1]
  by_cases c2 : n = 2
  · rw [if_pos c2, if_pos c2]
    congr 1
    rw [Bool.eq_iff_iff]
    simp
    try omega
  rw [if_neg c2, if_neg c2]
  by_cases c3 : n = 3
  · rw [if_pos c3, if_pos c3]
    by_cases z : m = 0
    · subst z
      rfl
    · rw [if_neg (by omega), w64_id _ (by omega) (by omega), if_pos (by omega), if_pos (by omega), show (m : Int) - 1 = ((m - 1 : Nat) : Int) by omega, bt_byteN s _ (by omega)]
      congr 1
      rw [Bool.eq_iff_iff]
      unfold byteN
      simp [z]
      omega
  rw [if_neg c3, if_neg c3]
  by_cases c4 : n = 4
  · rw [if_pos c4, if_pos c4]
    by_cases z : m = s.size
    · rw [if_pos (by omega)]
      simp [z]
    · rw [if_neg (by omega), if_pos (by omega), if_pos (by omega), bt_byteN s _ (by omega)]
      congr 1
      rw [Bool.eq_iff_iff]
      unfold byteN
      simp [z]
      omega
  rw [if_neg c4, if_neg c4]
  by_cases c5 : n = 5
  · rw [if_pos c5, if_neg (by omega), if_neg (by omega), rword_f s m hs hm, decide_eq_true c5]
    simp
  rw [if_neg c5]
  by_cases c6 : n = 6
  · rw [if_pos c6, if_neg (by omega), if_neg (by omega), rword_f s m hs hm, decide_eq_false c5]
    simp
  rw [if_neg c6]
  by_cases c7 : n = 7
  · rw [if_pos c7, if_neg (show ¬ n = 8 by omega), if_pos c7]
    by_cases z : m = s.size
    · rw [if_pos (show (m : Int) = (s.size : Int) by omega)]
      simp [z]
    · rw [if_neg (show ¬ (m : Int) = (s.size : Int) by omega), rnext_f (k + 11) s m hs (by omega), nextU_unit s m (by omega)]
      simp only [Option.bind_some, z, decide_false, Bool.false_or]
      congr 1
  rw [if_neg c7, if_pos (show n = 8 by omega), rborder_f k s _ hs]
  rfl
theorem rlook_f (k : Nat) (n : Int) (s : ByteArray) (a : Int) (raw : Bool) (hs : s.size ≤ 140737488351232) : thistleref12_Look.f (k + 21) n s a raw = some (lookB n s a raw, lookE n s a raw) := by
  unfold thistleref12_Look.f
  have res : ∀ e : Int, lookE n s a raw = e → e ≠ 0 → lookB n s a raw = false := fun e h h0 => by unfold lookB; rw [h, if_neg h0]
  have bad : (n < 1 ∨ 8 < n ∨ (6 < n ∧ raw = false)) → (some (false, 2) : Option (Bool × Int)) = some (lookB n s a raw, lookE n s a raw) := fun h => by rw [res 2 (lookE_arg h) (by omega), lookE_arg h]
  simp only [thistleref12_Look.j0]
  by_cases c1 : n < 1
  · rw [if_pos c1]
    exact bad (.inl c1)
  rw [if_neg c1]
  by_cases c2 : 8 < n
  · rw [if_pos (by omega)]
    exact bad (.inr (.inl c2))
  rw [if_neg (by omega)]
  have rest : ¬ (n < 1 ∨ 8 < n ∨ (6 < n ∧ raw = false)) → ((thistleref12_Border.f (k + 20) s a raw).bind fun t156 => (if t156 = true then ((thistleref12_Holds.f (k + 20) n s a).bind fun t157 => (some (t157, 0))) else (some (false, 3)))) = some (lookB n s a raw, lookE n s a raw) := fun hn => by
    have hb : thistleref12_Border.f (k + 20) s a raw = some (decide (¬ (a < 0 ∨ (s.size : Int) < a ∨ (raw = false ∧ border s a = false)))) := by
      unfold thistleref12_Border.f
      cases raw
      · rw [if_neg (by simp), rborder_f k s a hs]
        simp only [Option.bind_some]
        have hbb : border s a = true → 0 ≤ a ∧ a ≤ s.size := by
          unfold border
          simp only [Bool.and_eq_true, decide_eq_true_eq]
          exact fun h => h.1
        by_cases h : border s a = true
        · rw [h, decide_eq_true (by rintro (h' | h' | ⟨_, h'⟩) <;> first | (have := hbb h; omega) | cases h')]
        · rw [show border s a = false by simpa using h, decide_eq_false (fun h' => h' (.inr (.inr ⟨by trivial, rfl⟩)))]
      · rw [if_pos rfl]
        by_cases h0 : a < 0
        · rw [if_neg (by omega)]
          simp [h0]
        · rw [if_pos (by omega)]
          congr 1
          rw [Bool.eq_iff_iff]
          simp
          omega
    rw [hb]
    simp only [Option.bind_some]
    by_cases hr : a < 0 ∨ (s.size : Int) < a ∨ (raw = false ∧ border s a = false)
    · rw [if_neg (by rw [decide_eq_true_eq]; exact fun h' => h' hr), res 3 (lookE_rng hn hr) (by omega), lookE_rng hn hr]
    · rw [if_pos (by simpa only [decide_eq_true_eq] using hr)]
      obtain ⟨m, rfl⟩ := Int.eq_ofNat_of_zero_le (show 0 ≤ a by omega)
      rw [rholds_f k n s m hs (by omega) (by omega) (by omega)]
      simp only [Option.bind_some]
      unfold lookB
      rw [lookE_ok hn hr, if_pos rfl]
      rfl
  by_cases c3 : 6 < n
  · rw [if_pos (by omega)]
    cases raw
    · exact bad (.inr (.inr ⟨c3, rfl⟩))
    · exact rest (by rintro (h | h | ⟨_, h⟩) <;> first | omega | cases h)
  · rw [if_neg (by omega)]
    exact rest (by rintro (h | h | ⟨h, _⟩) <;> omega)
end Go.Proofs.YtmbboianghbjkaaDoor

import Derived.Test.YtmbboianghbjkaaDoorNodeJ
namespace Go.Proofs.YtmbboianghbjkaaDoor
open Go.RowKit Go.Shelf
set_option linter.unusedVariables false
set_option linter.unusedSimpArgs false

/-! plain: what a node lays is bounded by its weight -/
theorem foldl_add (g : Int → Int) : ∀ (l : List Int) (a : Int), l.foldl (fun m q => m + g q) a = a + (l.map g).sum
  | [], a => by simp
  | x :: l, a => by rw [List.foldl_cons, foldl_add g l, List.map_cons, List.sum_cons]; omega
theorem catF_leW (kid : Nat → Int → Int → Nat → List Inst × Int) (level : Int) (g : Nat → Int) : ∀ (l : List Nat) (next : Int) (m : Nat), (∀ k ∈ l, ∀ nx lv m, ((kid k nx lv m).1.length : Int) ≤ g k) → ((catF kid level l next m).1.length : Int) ≤ (l.map g).sum
  | [], next, m, _ => by simp [catF]
  | x :: l, next, m, h => by
    simp only [catF, List.length_append, List.map_cons, List.sum_cons]
    have h1 := h x (by simp) next level m
    have h2 := catF_leW kid level g l (kid x next level m).2 (m + (kid x next level m).1.length) (fun k hk => h k (by simp [hk]))
    omega
theorem altF_leW (kid : Nat → Int → Int → Nat → List Inst × Int) (next level : Int) (g : Nat → Int) : ∀ (l : List Nat) (bg : Int) (m : Nat), (∀ k ∈ l, ∀ nx lv m, ((kid k nx lv m).1.length : Int) ≤ g k) → ((altF kid next level l bg m).1.length : Int) ≤ (l.map g).sum + l.length
  | [], bg, m, _ => by simp [altF]
  | x :: l, bg, m, h => by
    simp only [altF, List.length_append, List.length_cons, List.map_cons, List.sum_cons]
    have h1 := h x (by simp) next level m
    have h2 := altF_leW kid next level g l ((m + (kid x next level m).1.length : Nat) : Int) (m + (kid x next level m).1.length + 1) (fun k hk => h k (by simp [hk]))
    omega
theorem roundF_len (kid : Nat → Int → Int → Nat → List Inst × Int) (k : Nat) (lz : Bool) (next back level : Int) (m E : Nat) (h : ∀ nx lv m, (kid k nx lv m).1.length ≤ E) : (roundF kid k lz next back level m).1.length ≤ E + 3 := by
  unfold roundF
  have := h ((m + 1 : Nat) : Int) (level + 1) (m + 2)
  simp only [List.length_cons, List.length_append, List.length_nil]
  omega
theorem timesR_len (kid : Nat → Int → Int → Nat → List Inst × Int) (k : Nat) (lz : Bool) (next level : Int) (E : Nat) (h : ∀ nx lv m, (kid k nx lv m).1.length ≤ E) : ∀ (c : Nat) (b : Int) (m : Nat), (timesR kid k lz next level c b m).1.length ≤ c * (E + 3)
  | 0, b, m => by simp [timesR]
  | c + 1, b, m => by
    simp only [timesR, List.length_append]
    have h1 := roundF_len kid k lz next b level m E h
    have h2 := timesR_len kid k lz next level E h c (roundF kid k lz next b level m).2 (m + (roundF kid k lz next b level m).1.length)
    rw [Nat.add_mul, Nat.one_mul]
    omega
theorem timesN_len (kid : Nat → Int → Int → Nat → List Inst × Int) (k : Nat) (level : Int) (E : Nat) (h : ∀ nx lv m, (kid k nx lv m).1.length ≤ E) : ∀ (c : Nat) (b : Int) (m : Nat), (timesN kid k level c b m).1.length ≤ c * (E + 3)
  | 0, b, m => by simp [timesN]
  | c + 1, b, m => by
    simp only [timesN, List.length_append]
    have h1 := h b (level + 1) m
    have h2 := timesN_len kid k level E h c (kid k b (level + 1) m).2 (m + (kid k b (level + 1) m).1.length)
    rw [Nat.add_mul, Nat.one_mul]
    omega
/-- A repeat lays no more than its copies. -/
theorem repF_len (kid : Nat → Int → Int → Nat → List Inst × Int) (k : Nat) (n : Node) (next level : Int) (m E : Nat) (h0 : 0 ≤ n.min) (h1 : n.min ≤ n.max ∨ n.max = -1) (h : ∀ nx lv m, (kid k nx lv m).1.length ≤ E) : ((repF kid k n next level m).1.length : Int) ≤ copies n * (E + 3) := by
  unfold repF
  by_cases hx : n.max < 0
  · have hm1 : n.max = -1 := by omega
    have hc : copies n = n.min + 1 := by unfold copies; rw [if_pos hm1]
    have hz : (n.max - n.min).toNat = 0 := by omega
    simp only [if_pos hx, hz, timesR, List.append_nil, List.length_append]
    have a1 := roundF_len kid k n.lzy next (-1) level m E h
    have a2 := timesN_len kid k level E h n.min.toNat (roundF kid k n.lzy next (-1) level m).2 (m + (roundF kid k n.lzy next (-1) level m).1.length + ([] : List Inst).length)
    obtain ⟨p, hp⟩ : ∃ p : Nat, n.min = (p : Int) := ⟨n.min.toNat, by omega⟩
    rw [hc, hp]
    rw [hp] at a2
    simp only [Int.toNat_natCast] at a2 ⊢
    have : ((p : Int) + 1) * ((E : Int) + 3) = (p : Int) * ((E : Int) + 3) + ((E : Int) + 3) := by rw [Int.add_mul, Int.one_mul]
    have a3 : ((timesN kid k level p (roundF kid k n.lzy next (-1) level m).2 (m + (roundF kid k n.lzy next (-1) level m).1.length + ([] : List Inst).length)).1.length : Int) ≤ (p : Int) * ((E : Int) + 3) := by exact_mod_cast a2
    rw [this]
    push_cast
    omega
  · have hc : copies n = n.max := by unfold copies; rw [if_neg (by omega)]
    simp only [if_neg hx, List.nil_append, List.length_append]
    obtain ⟨p, hp⟩ : ∃ p : Nat, n.min = (p : Int) := ⟨n.min.toNat, by omega⟩
    obtain ⟨d, hd⟩ : ∃ d : Nat, n.max - n.min = (d : Int) := ⟨(n.max - n.min).toNat, by omega⟩
    have hmx : n.max = (d : Int) + (p : Int) := by omega
    have a1 := timesR_len kid k n.lzy next level E h d next (m + ([] : List Inst).length)
    have a2 := timesN_len kid k level E h p (timesR kid k n.lzy next level d next (m + ([] : List Inst).length)).2 (m + ([] : List Inst).length + (timesR kid k n.lzy next level d next (m + ([] : List Inst).length)).1.length)
    rw [hc, hd, hp, hmx]
    simp only [Int.toNat_natCast]
    have e : ((d : Int) + (p : Int)) * ((E : Int) + 3) = (d : Int) * ((E : Int) + 3) + (p : Int) * ((E : Int) + 3) := Int.add_mul _ _ _
    have a3 : ((timesR kid k n.lzy next level d next (m + ([] : List Inst).length)).1.length : Int) ≤ (d : Int) * ((E : Int) + 3) := by exact_mod_cast a1
    have a4 : ((timesN kid k level p (timesR kid k n.lzy next level d next (m + ([] : List Inst).length)).2 (m + ([] : List Inst).length + (timesR kid k n.lzy next level d next (m + ([] : List Inst).length)).1.length)).1.length : Int) ≤ (p : Int) * ((E : Int) + 3) := by exact_mod_cast a2
    rw [e]
    push_cast
    omega
end Go.Proofs.YtmbboianghbjkaaDoor

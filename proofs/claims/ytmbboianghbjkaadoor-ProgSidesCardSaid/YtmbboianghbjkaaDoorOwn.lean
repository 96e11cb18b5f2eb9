import Derived.Test.YtmbboianghbjkaaDoorEqInts
namespace Go.Proofs.YtmbboianghbjkaaDoor
open Go.RowKit

theorem own_below {w w1 : World} {base n : Nat} {e : TypeId} {size : Nat} {v : Value} {xs : List Value} (h : w.ownsRow base e size v n xs) (hb : Below w.heap.size w w1) : w1.ownsRow base e size v n xs := by
  obtain ⟨h1, h2⟩ := h
  refine ⟨h1, ?_⟩
  rcases h2 with h2 | ⟨g, cap, cur, hv, hg, hh, r⟩
  · exact Or.inl h2
  · exact Or.inr ⟨g, cap, cur, hv, hg, by rw [hb.block g (Array.getElem?_eq_some_iff.1 hh).1]; exact hh, r⟩
theorem own_cap {w : World} {base n : Nat} {e : TypeId} {size : Nat} {A : Option Addr} {m c : Nat} {xs : List Value} (h : w.ownsRow base e size (.slice A m c) n xs) : n ≤ c ∧ c ≤ 9223372036854775807 ∧ m = n := by
  obtain ⟨_, h2⟩ := h
  rcases h2 with ⟨h, h'⟩ | ⟨g, cap, cur, h, _, _, h3, h4, _⟩
  · injection h with _ ha hb; omega
  · injection h with _ ha hb; unfold maxLen at h4; omega
theorem own_form {w : World} {base n : Nat} {e : TypeId} {size : Nat} {v : Value} {xs : List Value} (h : w.ownsRow base e size v n xs) : ∃ A c, v = .slice A n c := by
  obtain ⟨_, h2⟩ := h
  rcases h2 with ⟨h, h'⟩ | ⟨g, cap, cur, h, _⟩
  · exact ⟨none, 0, by rw [h, h']⟩
  · exact ⟨_, cap, h⟩
theorem own_rd_tail {W : World} {base : Nat} {e : TypeId} {A : Option Addr} {c L : Nat} {xs : List Int} (h : W.ownsRow base e 1 (.slice A xs.length c) xs.length (xs.map (Value.int .i64))) (hL : L ≤ xs.length) :
    RdI W (.slice (if c = L then A else Option.map (fun x => x.add L) A) (xs.length - L) (c - L)) (xs.drop L) := by
  obtain ⟨hc1, hc2, _⟩ := own_cap h
  refine ⟨_, c - L, by rw [List.length_drop], by rw [List.length_drop]; omega, fun hp => ?_⟩
  rw [List.length_drop] at hp
  obtain ⟨_, h2⟩ := h
  rcases h2 with ⟨_, h'⟩ | ⟨g, cap, cur, h, _, hh, h3, h4, h5, h6⟩
  · omega
  · injection h with ha hb hcc
    subst ha hcc
    refine ⟨g, L, by rw [if_neg (by omega), Option.map_some, addr_add, Nat.zero_add], fun k hk => ?_⟩
    rw [List.length_drop] at hk
    have hcell : W.cell? ⟨g, L + k, none⟩ = cur[L + k]? := by simp [World.cell?, hh]
    rw [hcell]
    have e1 : (cur.toList.take (xs.length * 1))[L + k]? = cur.toList[L + k]? := by rw [List.getElem?_take, if_pos (by omega)]
    rw [h6] at e1
    rw [← Array.getElem?_toList, ← e1]
    simp [List.getD_eq_getElem?_getD, List.getElem?_drop, List.getElem?_eq_getElem (show L + k < xs.length by omega)]
theorem own_take {W : World} {base : Nat} {e : TypeId} {A : Option Addr} {c n m : Nat} {xs : List Value} (h : W.ownsRow base e 1 (.slice A n c) n xs) (hm : m ≤ n) : W.ownsRow base e 1 (.slice A m c) m (xs.take m) := by
  obtain ⟨h1, h2⟩ := h
  refine ⟨by rw [List.length_take]; omega, ?_⟩
  rcases h2 with ⟨h, h'⟩ | ⟨g, cap, cur, h, hg, hh, h3, h4, h5, h6⟩
  · injection h with ha hb hc
    subst ha hc
    exact Or.inl ⟨by rw [show m = 0 by omega], by omega⟩
  · injection h with ha hb hc
    subst ha hc
    refine Or.inr ⟨g, c, cur, rfl, hg, hh, by omega, h4, h5, ?_⟩
    rw [← h6, List.take_take, Nat.mul_one, Nat.mul_one, Nat.min_eq_left hm]
theorem own_int_cell {W : World} {base : Nat} {e : TypeId} {g n c : Nat} {xs : List Int} (h : W.ownsRow base e 1 (.slice (some ⟨g, 0, none⟩) n c) n (xs.map (Value.int .i64))) (j : Nat) (hj : j < n) : W.cell? ⟨g, j, none⟩ = some (.int .i64 (xs.getD j 0)) := by
  have hl : xs.length = n := by have := h.1; simpa using this
  rw [h.cellAt j (by omega)]
  simp [List.getD_eq_getElem?_getD, List.getElem?_eq_getElem (show j < xs.length by omega)]
theorem own_int_set {W : World} {base : Nat} {e : TypeId} {g n c : Nat} {xs : List Int} (h : W.ownsRow base e 1 (.slice (some ⟨g, 0, none⟩) n c) n (xs.map (Value.int .i64))) (j : Nat) (y : Int) :
    (W.setCell ⟨g, j, none⟩ (.int .i64 y)).ownsRow base e 1 (.slice (some ⟨g, 0, none⟩) n c) n ((xs.set j y).map (Value.int .i64)) ∧ W.grownBy (W.setCell ⟨g, j, none⟩ (.int .i64 y)) (some g) := by
  have := h.stored j (.int .i64 y)
  rwa [← List.map_set] at this
theorem grown_trans {a b c : World} {row : Option Nat} (h : a.grownBy b row) (k : b.grownBy c row) : a.grownBy c row :=
  ⟨k.os.trans h.os, k.tape.trans h.tape, k.output.trans h.output, Nat.le_trans h.size k.size, fun i hi hne => (k.block i (Nat.lt_of_lt_of_le hi h.size) hne).trans (h.block i hi hne)⟩
theorem grown_drew {a b : World} {row : Option Nat} (h : a.grownBy b row) : a.grownBy b.drew row := ⟨h.os, h.tape, h.output, h.size, h.block⟩
theorem grown_drewN {a b : World} {row : Option Nat} (h : a.grownBy b row) (n : Nat) : a.grownBy (b.drewN n) row := ⟨h.os, h.tape, h.output, h.size, h.block⟩
theorem own_drewN {w : World} {base n : Nat} {e : TypeId} {size : Nat} {v : Value} {xs : List Value} (h : w.ownsRow base e size v n xs) (m : Nat) : (w.drewN m).ownsRow base e size v n xs := h
theorem grown_of_below {w w1 : World} (h : Below w.heap.size w w1) (row : Option Nat) : w.grownBy w1 row := ⟨h.os, h.tape, h.output, h.size, fun i hi _ => h.block i hi⟩
theorem below_grown {B : Nat} {w0 w w1 : World} {g : Nat} (h : Below B w0 w) (hg : w.grownBy w1 (some g)) (hB : B ≤ w.heap.size) (hgB : B ≤ g) : Below B w0 w1 := h.grown hg hB (fun k e => by cases e; exact hgB)
end Go.Proofs.YtmbboianghbjkaaDoor

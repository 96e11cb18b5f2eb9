import Derived.Test.YtmbboianghbjkaaDoorRefF
import Derived.Test.YtmbboianghbjkaaDoorCompG
import Derived.Laws.OwnMore
namespace Go
/-! 'append(own, xs...)' where xs may be nil. -/
section
variable {P : Program} {w : World}
def SrcV (w : World) (size : Nat) (x : Value) (m : Nat) (news : List Value) : Prop :=
  ∃ A c, x = .slice A m c ∧ news.length = m * size ∧ (∀ u ∈ news, u.oneCell' = true) ∧ (A = none → m = 0) ∧ ∀ ad, A = some ad → ∀ j u, news[j]? = some u → w.cell? (ad.add j) = some u
theorem run_append_owned_none' (base : Nat) (t ty e : TypeId) (i : TypeInfo) (size : Nat) (ht : P.underlying t = some (.slice e)) (hi : P.info? e = some i)
    (v : Value) (n c : Nat) (xs : List Value) (hown : w.ownsRow base e size v n xs) :
    (Builtin.append_ #[t, t] ty #[v, .slice none 0 c]).run P w = .ok v w := by
  rcases hown.2 with ⟨rfl, rfl⟩ | ⟨g, cap, cur, rfl, _, _, hnc, _⟩
  · simp [Builtin.append_, run_underlying ht, sizeOf, typeInfo, hi, Builtin.lenOf, Builtin.firstCells]
  · simp [Builtin.append_, run_underlying ht, sizeOf, typeInfo, hi, Builtin.lenOf, Builtin.firstCells, hnc, storeCells]
theorem run_append_src (base : Nat) (t ty e : TypeId) (i : TypeInfo) (z : Value) (size bytes : Nat) (ht : P.underlying t = some (.slice e)) (hi : P.info? e = some i) (hz : i.zero = some z)
    (hsize : i.size = size) (hby : i.bytes = bytes) (hzs : z.cells.size = size) (hsz : 0 < size)
    (v : Value) (n : Nat) (xs : List Value) (hown : w.ownsRow base e size v n xs)
    (x : Value) (m : Nat) (news : List Value) (hx : SrcV w size x m news)
    (h63 : n + m ≤ maxLen) (hbytes : (n + m) * bytes ≤ 140737488355328) (hbase : base ≤ w.heap.size) :
    ∃ v' w', (Builtin.append_ #[t, t] ty #[v, x]).run P w = .ok v' w' ∧ w'.ownsRow base e size v' (n + m) (xs ++ news) ∧ w.grownBy w' v.ownBlock ∧ (v'.ownBlock = v.ownBlock ∨ v'.ownBlock = some w.heap.size) := by
  obtain ⟨A, c, rfl, hl, h1, hA, hc⟩ := hx
  cases A with
  | none =>
    obtain rfl := hA rfl
    obtain rfl : news = [] := List.eq_nil_of_length_eq_zero (by simpa using hl)
    refine ⟨v, w, run_append_owned_none' base t ty e i size ht hi v n c xs hown, by simpa using hown, World.grownBy.refl _ _, .inl rfl⟩
  | some ad =>
    obtain ⟨v', w', hr, h2, h3, _, h5⟩ := run_append_own_at (P := P) (w := w) base t ty e i z size bytes ht hi hz hsize hby hzs hsz v n xs hown ad m c news hl (hc ad rfl) h1 h63 hbytes hbase
    exact ⟨v', w', hr, h2, h3, h5⟩
theorem wp_append_src {o : Oper} {a : Act} {K : Act → World → Prop} {Q : Exit → Act → World → Prop} (s x : Operand) (t : TypeId)
    (ho : o.op = .call { callee := .builtin .append, args := #[s, x], argTypes := #[t, t] })
    (base : Nat) (e : TypeId) (i : TypeInfo) (z : Value) (size bytes : Nat) (ht : P.underlying t = some (.slice e)) (hi : P.info? e = some i) (hz : i.zero = some z)
    (hsize : i.size = size) (hby : i.bytes = bytes) (hzs : z.cells.size = size) (hsz : 0 < size)
    (v : Value) (n : Nat) (xs : List Value) (hs : a.eval s = v) (hown : w.ownsRow base e size v n xs)
    (m : Nat) (news : List Value) (hx : SrcV w size (a.eval x) m news)
    (h63 : n + m ≤ maxLen) (hbytes : (n + m) * bytes ≤ 140737488355328) (hbase : base ≤ w.heap.size)
    (h : ∀ v' w', w'.ownsRow base e size v' (n + m) (xs ++ news) → w.grownBy w' v.ownBlock → (v'.ownBlock = v.ownBlock ∨ v'.ownBlock = some w.heap.size) → K (a.put o.dst v') w') : o.wp P a w K Q := by
  obtain ⟨v', w', hr, h2, h3, h4⟩ := run_append_src (P := P) (w := w) base t o.type e i z size bytes ht hi hz hsize hby hzs hsz v n xs hown _ m news hx h63 hbytes hbase
  unfold Oper.wp execOp
  simp only [ho, resolve, invoke, builtin, Sem.run_bind, Sem.run_pure, Result.andThen_ok, List.map_toArray, List.map_cons, List.map_nil, hs, hr]
  exact h v' w' h2 h3 h4
theorem wpList_append_src {ops : Array Oper} {rest : List Oper} {o : Oper} {a : Act} {Q : Exit → Act → World → Prop} (hgd : o.guard = none) (s x : Operand) (t : TypeId)
    (ho : o.op = .call { callee := .builtin .append, args := #[s, x], argTypes := #[t, t] })
    (base : Nat) (e : TypeId) (i : TypeInfo) (z : Value) (size bytes : Nat) (ht : P.underlying t = some (.slice e)) (hi : P.info? e = some i) (hz : i.zero = some z)
    (hsize : i.size = size) (hby : i.bytes = bytes) (hzs : z.cells.size = size) (hsz : 0 < size)
    (v : Value) (n : Nat) (xs : List Value) (hs : a.eval s = v) (hown : w.ownsRow base e size v n xs)
    (m : Nat) (news : List Value) (hx : SrcV w size (a.eval x) m news)
    (h63 : n + m ≤ maxLen) (hbytes : (n + m) * bytes ≤ 140737488355328) (hbase : base ≤ w.heap.size)
    (h : ∀ v' w', w'.ownsRow base e size v' (n + m) (xs ++ news) → w.grownBy w' v.ownBlock → (v'.ownBlock = v.ownBlock ∨ v'.ownBlock = some w.heap.size) → wpList P ops Q rest (a.put o.dst v') w') : wpList P ops Q (o :: rest) a w :=
  wpList_plain hgd fun _ hK => wp_append_src s x t ho base e i z size bytes ht hi hz hsize hby hzs hsz v n xs hs hown m news hx h63 hbytes hbase fun v' w' h2 h3 h4 => hK _ _ (h v' w' h2 h3 h4)
theorem step_append_src {ops : Array Oper} {o : Oper} {a : Act} {K : Act → World → Prop} {Q : Exit → Act → World → Prop} {E : Prop} (hgd : o.guard = none) (s x : Operand) (t : TypeId)
    (ho : o.op = .call { callee := .builtin .append, args := #[s, x], argTypes := #[t, t] })
    (base : Nat) (e : TypeId) (i : TypeInfo) (z : Value) (size bytes : Nat) (ht : P.underlying t = some (.slice e)) (hi : P.info? e = some i) (hz : i.zero = some z)
    (hsize : i.size = size) (hby : i.bytes = bytes) (hzs : z.cells.size = size) (hsz : 0 < size)
    (v : Value) (n : Nat) (xs : List Value) (hs : a.eval s = v) (hown : w.ownsRow base e size v n xs)
    (m : Nat) (news : List Value) (hx : SrcV w size (a.eval x) m news)
    (h63 : n + m ≤ maxLen) (hbytes : (n + m) * bytes ≤ 140737488355328) (hbase : base ≤ w.heap.size)
    (h : ∀ v' w', w'.ownsRow base e size v' (n + m) (xs ++ news) → w.grownBy w' v.ownBlock → (v'.ownBlock = v.ownBlock ∨ v'.ownBlock = some w.heap.size) → K (a.put o.dst v') w') :
    if Region.wanted o (yielded ops a.tmps) = true then Oper.wp P o a w K Q else E := by
  have hw : Region.wanted o (yielded ops a.tmps) = true := by simp [Region.wanted, hgd]
  rw [if_pos hw]
  exact wp_append_src s x t ho base e i z size bytes ht hi hz hsize hby hzs hsz v n xs hs hown m news hx h63 hbytes hbase h
end
end Go
namespace Go.Proofs.YtmbboianghbjkaaDoor
open Go.RowKit Go.Shelf
set_option linter.unusedVariables false
set_option linter.unusedSimpArgs false
attribute [local go_sem] bl_refl bl_alloc bl_a2 bl_a3 bl_a4 bl_a5 bl_set bl_drew bl_drewN le_add_r lt_add_r Go.Proofs.YtmbboianghbjkaaDoor.addr_add

/-! the copy of a tree -/
theorem Sl.srcS {B : Nat} {w0 w : World} {v : Value} {xs : List ByteArray} (h : Sl (StrAt B w0) 1 v xs) (hb : Below B w0 w) : SrcV w 1 v xs.length (xs.map Value.string) := by
  obtain ⟨A, c, rfl, h1, h2, h3⟩ := h
  refine ⟨A, c, rfl, by simp, fun u hu => by obtain ⟨s, _, rfl⟩ := List.mem_map.1 hu; rfl, fun e => ?_, fun ad e j u hj => ?_⟩
  · rcases Nat.eq_zero_or_pos xs.length with h | h
    · exact h
    · obtain ⟨b, o, e', _⟩ := h3 h
      rw [e] at e'; cases e'
  · have hlt : j < xs.length := by have := (List.getElem?_eq_some_iff.1 hj).1; simpa using this
    obtain ⟨b, o, e', hR⟩ := h3 (by omega)
    rw [e] at e'
    injection e' with e'
    subst e'
    have := (hR j hlt).at_ w hb
    rw [Go.Proofs.YtmbboianghbjkaaDoor.addr_add]
    rw [Nat.mul_one] at this
    rw [this, ← hj]
    simp [List.getElem?_eq_getElem hlt]
theorem Sl.srcI {B : Nat} {w0 w : World} {v : Value} {xs : List Int} (h : Sl (IntAt B w0) 1 v xs) (hb : Below B w0 w) : SrcV w 1 v xs.length (xs.map (Value.int .i64)) := by
  obtain ⟨A, c, rfl, h1, h2, h3⟩ := h
  refine ⟨A, c, rfl, by simp, fun u hu => by obtain ⟨s, _, rfl⟩ := List.mem_map.1 hu; rfl, fun e => ?_, fun ad e j u hj => ?_⟩
  · rcases Nat.eq_zero_or_pos xs.length with h | h
    · exact h
    · obtain ⟨b, o, e', _⟩ := h3 h
      rw [e] at e'; cases e'
  · have hlt : j < xs.length := by have := (List.getElem?_eq_some_iff.1 hj).1; simpa using this
    obtain ⟨b, o, e', hR⟩ := h3 (by omega)
    rw [e] at e'
    injection e' with e'
    subst e'
    have := (hR j hlt).at_ w hb
    rw [Go.Proofs.YtmbboianghbjkaaDoor.addr_add]
    rw [Nat.mul_one] at this
    rw [this, ← hj]
    simp [List.getElem?_eq_getElem hlt]
theorem Sl.srcR {B : Nat} {w0 w : World} {v : Value} {xs : List (Int × Int)} (h : Sl (RngAt B w0) 2 v xs) (hb : Below B w0 w) : SrcV w 2 v xs.length (rngCells xs) := by
  obtain ⟨A, c, rfl, h1, h2, h3⟩ := h
  refine ⟨A, c, rfl, rngCells_len xs, fun u hu => by
      obtain ⟨r, _, hr⟩ := List.mem_flatMap.1 hu
      simp at hr
      rcases hr with rfl | rfl <;> rfl, fun e => ?_, fun ad e j u hj => ?_⟩
  · rcases Nat.eq_zero_or_pos xs.length with h | h
    · exact h
    · obtain ⟨b, o, e', _⟩ := h3 h
      rw [e] at e'; cases e'
  · have hjl : j < xs.length * 2 := by rw [← rngCells_len]; exact (List.getElem?_eq_some_iff.1 hj).1
    obtain ⟨b, o, e', hR⟩ := h3 (by omega)
    rw [e] at e'
    injection e' with e'
    subst e'
    rw [Go.Proofs.YtmbboianghbjkaaDoor.addr_add]
    obtain ⟨q1, q2⟩ := rngCells_at xs (j / 2) (by omega)
    have hr := hR (j / 2) (by omega)
    rcases Nat.mod_two_eq_zero_or_one j with hm | hm
    · rw [show j / 2 * 2 = j by omega, hj] at q1
      injection q1 with q1
      rw [q1]
      have := hr.lo w hb
      rwa [show j / 2 * 2 = j by omega] at this
    · rw [show j / 2 * 2 + 1 = j by omega, hj] at q2
      injection q2 with q2
      rw [q2]
      have := hr.hi w hb
      rwa [show o + j / 2 * 2 + 1 = o + j by omega] at this

/-- Numbers that the call made, or none. -/
def KidRd (base : Nat) (W : World) (v : Value) (xs : List Int) : Prop := ∃ A c, v = .slice A xs.length c ∧ W.ownsRow base 3 1 v xs.length (xs.map (Value.int .i64))
def SetOwn (base : Nat) (W : World) (v : Value) (xs : List (Int × Int)) : Prop := ∃ A c, v = .slice A xs.length c ∧ W.ownsRow base 96 2 v xs.length (rngCells xs)
/-- A node as it lies. -/
structure NV where
  op : Int
  set : Value
  kids : Value
  min : Int
  max : Int
  lzy : Bool
  group : Int
  look : Int
def NV.cells (n : NV) : List Value := [.int .i64 n.op, n.set, n.kids, .int .i64 n.min, .int .i64 n.max, .bool n.lzy, .int .i64 n.group, .int .i64 n.look]
structure NRd (base : Nat) (W : World) (v : NV) (n : Node) : Prop where
  op : v.op = n.op
  set : SetOwn base W v.set n.set
  kids : KidRd base W v.kids n.kids
  min : v.min = n.min
  max : v.max = n.max
  lzy : v.lzy = n.lzy
  group : v.group = n.group
  look : v.look = n.look
def NsRd (base : Nat) (W : World) (L : List NV) (ns : List Node) : Prop := L.length = ns.length ∧ ∀ k (h : k < L.length) (h' : k < ns.length), NRd base W L[k] ns[k]
/-- Whatever lies in no row of nodes, nor in the box bx, stays. -/
structure NKept (base bx : Nat) (W W' : World) : Prop where
  below : Below base W W'
  other : ∀ k o, W.heap[k]? = some o → k ≠ bx → (∀ cs r, o ≠ .cells cs 80 r) → W'.heap[k]? = some o
theorem NKept.refl (base bx : Nat) (W : World) : NKept base bx W W := ⟨Below.refl _ _, fun _ _ h _ _ => h⟩
theorem NKept.trans {base bx : Nat} {A B C : World} (h : NKept base bx A B) (k : NKept base bx B C) : NKept base bx A C :=
  ⟨h.below.trans k.below, fun i o h1 h2 h3 => k.other i o (h.other i o h1 h2 h3) h2 h3⟩
theorem NKept.of_below {base bx : Nat} {W W' : World} (h : base ≤ W.heap.size) (k : Below W.heap.size W W') : NKept base bx W W' :=
  ⟨k.mono h, fun i o h1 _ _ => (k.block i (Array.getElem?_eq_some_iff.1 h1).1).trans h1⟩
theorem own_nkept {base bx : Nat} {W W' : World} {e : TypeId} {size n : Nat} {v : Value} {xs : List Value} (h : W.ownsRow base e size v n xs) (k : NKept base bx W W') (he : e ≠ 80) (hb : v.ownBlock ≠ some bx) : W'.ownsRow base e size v n xs := by
  obtain ⟨h1, h2⟩ := h
  refine ⟨h1, ?_⟩
  rcases h2 with h2 | ⟨g, cap, cur, hv, hg, hh, r⟩
  · exact .inl h2
  · refine .inr ⟨g, cap, cur, hv, hg, k.other g _ hh (fun e' => hb (by rw [hv, e']; rfl)) (fun cs r' e' => ?_), r⟩
    injection e' with _ e2 _
    exact he e2
theorem own_ne_box {W : World} {base bx : Nat} {e t : TypeId} {size n : Nat} {v : Value} {xs : List Value} {cs : Array Value} {r : Nat × Nat} (h : W.ownsRow base e size v n xs) (hx : W.heap[bx]? = some (.cells cs t r)) (he : e ≠ t) : v.ownBlock ≠ some bx := by
  rcases h.2 with ⟨rfl, _⟩ | ⟨g, cap, cur, rfl, _, hh, _⟩
  · simp [Value.ownBlock]
  · intro e'
    simp [Value.ownBlock] at e'
    subst e'
    rw [hx] at hh
    injection hh with hh
    injection hh with _ h2 _
    exact he h2.symm
theorem NRd.kept {base bx : Nat} {W W' : World} {v : NV} {n : Node} {cs : Array Value} {r : Nat × Nat} (h : NRd base W v n) (k : NKept base bx W W') (hx : W.heap[bx]? = some (.cells cs 35 r)) : NRd base W' v n := by
  obtain ⟨A, c, e1, h1⟩ := h.set
  obtain ⟨A2, c2, e2, h2⟩ := h.kids
  exact ⟨h.op, ⟨A, c, e1, own_nkept h1 k (by decide) (own_ne_box h1 hx (by decide))⟩, ⟨A2, c2, e2, own_nkept h2 k (by decide) (own_ne_box h2 hx (by decide))⟩, h.min, h.max, h.lzy, h.group, h.look⟩
theorem NsRd.kept {base bx : Nat} {W W' : World} {L : List NV} {ns : List Node} {cs : Array Value} {r : Nat × Nat} (h : NsRd base W L ns) (k : NKept base bx W W') (hx : W.heap[bx]? = some (.cells cs 35 r)) : NsRd base W' L ns :=
  ⟨h.1, fun j a b => (h.2 j a b).kept k hx⟩
theorem NsRd.snoc {base : Nat} {W : World} {L : List NV} {ns : List Node} {v : NV} {n : Node} (h : NsRd base W L ns) (k : NRd base W v n) : NsRd base W (L ++ [v]) (ns ++ [n]) := by
  refine ⟨by simp [h.1], fun j a b => ?_⟩
  by_cases hj : j < L.length
  · rw [List.getElem_append_left hj, List.getElem_append_left (by rw [← h.1]; exact hj)]
    exact h.2 j hj _
  · have e : j = L.length := by simp at a; omega
    subst e
    rw [List.getElem_append_right (Nat.le_refl _), List.getElem_append_right (by rw [h.1]; exact Nat.le_refl _)]
    simpa [h.1] using k
theorem nvCells_len (L : List NV) : (L.flatMap NV.cells).length = L.length * 8 := by
  induction L with
  | nil => rfl
  | cons x r ih => rw [List.flatMap_cons, List.length_append, ih]; simp [NV.cells]; omega
theorem nvCells_at (L : List NV) : ∀ k (h : k < L.length) i v, L[k].cells[i]? = some v → (L.flatMap NV.cells)[k * 8 + i]? = some v := by
  induction L with
  | nil => intro k h; exact absurd h (by simp)
  | cons x r ih =>
    intro k h i v hv
    rw [List.flatMap_cons]
    have hx : x.cells.length = 8 := rfl
    cases k with
    | zero =>
      have hi : i < 8 := by have := (List.getElem?_eq_some_iff.1 hv).1; simpa [NV.cells] using this
      rw [List.getElem?_append_left (by omega)]
      simpa using hv
    | succ k =>
      rw [List.getElem?_append_right (by omega), show (k + 1) * 8 + i - x.cells.length = k * 8 + i by omega]
      exact ih k (by simpa using h) i v (by simpa using hv)
/-- Cells of an own row stay in all worlds above. -/
theorem own_ext {W : World} {base : Nat} {e : TypeId} {size g n c : Nat} {xs : List Value} (h : W.ownsRow base e size (.slice (some ⟨g, 0, none⟩) n c) n xs) (j : Nat) (v : Value) (hj : xs[j]? = some v) : ∀ w', Below W.heap.size W w' → w'.cell? ⟨g, j, none⟩ = some v := by
  intro w' hb
  have hlt : j < n * size := by rw [← h.1]; exact (List.getElem?_eq_some_iff.1 hj).1
  rw [(own_below h hb).cellAt j hlt, hj]
theorem own_sl {W : World} {base : Nat} {e : TypeId} {size n : Nat} {v : Value} {xs : List Value} {α : Type} (R : Nat → Nat → α → Prop) (l : List α) (hn : l.length = n) (h : W.ownsRow base e size v n xs) (hR : ∀ g c, v = .slice (some ⟨g, 0, none⟩) n c → ∀ k (hk : k < l.length), R g (k * size) l[k]) : Sl R size v l := by
  subst hn
  rcases h.2 with ⟨rfl, h0⟩ | ⟨g, cap, cur, rfl, hg, hh, hc, hm, _⟩
  · exact ⟨none, 0, by rw [h0], by omega, by omega, fun hp => by omega⟩
  · exact ⟨_, cap, rfl, hc, by unfold maxLen at hm; omega, fun _ => ⟨g, 0, rfl, fun k hk => by rw [Nat.zero_add]; exact hR g cap rfl k hk⟩⟩
theorem StrRd.sl {base : Nat} {W : World} {v : Value} {xs : List ByteArray} (h : StrRd base W v xs) : Sl (StrAt W.heap.size W) 1 v xs := by
  obtain ⟨A, c, rfl, _, h⟩ := h
  refine own_sl _ xs rfl h fun g c' e k hk => ⟨?_⟩
  rw [e] at h
  exact own_ext h (k * 1) _ (by rw [Nat.mul_one, List.getElem?_map, List.getElem?_eq_getElem hk]; rfl)
theorem KidRd.sl {base : Nat} {W : World} {v : Value} {xs : List Int} (h : KidRd base W v xs) : Sl (IntAt W.heap.size W) 1 v xs := by
  obtain ⟨A, c, rfl, h⟩ := h
  refine own_sl _ xs rfl h fun g c' e k hk => ⟨?_⟩
  rw [e] at h
  exact own_ext h (k * 1) _ (by rw [Nat.mul_one, List.getElem?_map, List.getElem?_eq_getElem hk]; rfl)
theorem SetOwn.sl {base : Nat} {W : World} {v : Value} {xs : List (Int × Int)} (h : SetOwn base W v xs) : Sl (RngAt W.heap.size W) 2 v xs := by
  obtain ⟨A, c, rfl, h⟩ := h
  refine own_sl _ xs rfl h fun g c' e k hk => ?_
  rw [e] at h
  obtain ⟨q1, q2⟩ := rngCells_at xs k hk
  exact ⟨own_ext h _ _ q1, own_ext h _ _ q2⟩
theorem nodes_sl {base : Nat} {W : World} {v : Value} {L : List NV} {ns : List Node} (h : W.ownsRow base 80 8 v L.length (L.flatMap NV.cells)) (hr : NsRd base W L ns) : Sl (NodeAt W.heap.size W) 8 v ns := by
  refine own_sl _ ns hr.1.symm h fun g c e k hk => ?_
  have hkl : k < L.length := by rw [hr.1]; exact hk
  have r := hr.2 k hkl hk
  rw [e] at h
  have at_ := fun i u hu => own_ext h _ u (nvCells_at L k hkl i u hu)
  have a0 := at_ 0 _ rfl
  have a1 := at_ 1 _ rfl
  have a2 := at_ 2 _ rfl
  have a3 := at_ 3 _ rfl
  have a4 := at_ 4 _ rfl
  have a5 := at_ 5 _ rfl
  have a6 := at_ 6 _ rfl
  have a7 := at_ 7 _ rfl
  rw [r.op] at a0
  rw [r.min] at a3
  rw [r.max] at a4
  rw [r.lzy] at a5
  rw [r.group] at a6
  rw [r.look] at a7
  exact ⟨a0, ⟨_, a1, r.set.sl⟩, ⟨_, a2, r.kids.sl⟩, a3, a4, a5, a6, a7⟩
end Go.Proofs.YtmbboianghbjkaaDoor

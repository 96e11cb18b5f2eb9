import Derived.Test.YtmbboianghbjkaaDoorBaseC
import Derived.Shelf.SlicesE.Clone
namespace Go.Proofs.YtmbboianghbjkaaDoor
open Go.RowKit Go.Shelf
set_option linter.unusedVariables false
set_option linter.unusedSimpArgs false
attribute [local go_sem] bl_refl bl_alloc bl_a2 bl_a3 bl_a4 bl_a5 bl_set bl_drew bl_drewN le_add_r lt_add_r addr_add

/-! WHAT maker.node LAYS, as a plain function: from place n0 on, going on to next; the instructions, and where they begin. -/
def catF (kid : Nat → Int → Int → Nat → List Inst × Int) (level : Int) : List Nat → Int → Nat → List Inst × Int
  | [], next, _ => ([], next)
  | k :: ks, next, m =>
    let a := kid k next level m
    let r := catF kid level ks a.2 (m + a.1.length)
    (a.1 ++ r.1, r.2)
def altF (kid : Nat → Int → Int → Nat → List Inst × Int) (next level : Int) : List Nat → Int → Nat → List Inst × Int
  | [], begin_, _ => ([], begin_)
  | k :: ks, begin_, m =>
    let a := kid k next level m
    let r := altF kid next level ks ((m + a.1.length : Nat) : Int) (m + a.1.length + 1)
    (a.1 ++ ⟨2, [], a.2, begin_, 0⟩ :: r.1, r.2)
def roundF (kid : Nat → Int → Int → Nat → List Inst × Int) (k : Nat) (lazy_ : Bool) (next back level : Int) (m : Nat) : List Inst × Int :=
  let a := kid k ((m + 1 : Nat) : Int) (level + 1) (m + 2)
  let mark := ((m + 2 + a.1.length : Nat) : Int)
  ((if lazy_ then ⟨2, [], next, mark, 0⟩ else ⟨2, [], mark, next, 0⟩) :: ⟨6, [], if back < 0 then (m : Int) else back, 0, level⟩ :: (a.1 ++ [⟨5, [], a.2, 0, level⟩]), (m : Int))
def timesR (kid : Nat → Int → Int → Nat → List Inst × Int) (k : Nat) (lazy_ : Bool) (next level : Int) : Nat → Int → Nat → List Inst × Int
  | 0, b, _ => ([], b)
  | c + 1, b, m =>
    let a := roundF kid k lazy_ next b level m
    let r := timesR kid k lazy_ next level c a.2 (m + a.1.length)
    (a.1 ++ r.1, r.2)
def timesN (kid : Nat → Int → Int → Nat → List Inst × Int) (k : Nat) (level : Int) : Nat → Int → Nat → List Inst × Int
  | 0, b, _ => ([], b)
  | c + 1, b, m =>
    let a := kid k b (level + 1) m
    let r := timesN kid k level c a.2 (m + a.1.length)
    (a.1 ++ r.1, r.2)
def repF (kid : Nat → Int → Int → Nat → List Inst × Int) (k : Nat) (n : Node) (next level : Int) (m : Nat) : List Inst × Int :=
  let a := if n.max < 0 then roundF kid k n.lzy next (-1) level m else ([], next)
  let b := timesR kid k n.lzy next level (n.max - n.min).toNat a.2 (m + a.1.length)
  let c := timesN kid k level n.min.toNat b.2 (m + a.1.length + b.1.length)
  (a.1 ++ b.1 ++ c.1, c.2)
def kid0 (n : Node) : Nat := (n.kids.getD 0 0).toNat
def kidsB (n : Node) : List Nat := (n.kids.map Int.toNat).reverse
def opF (kid : Nat → Int → Int → Nat → List Inst × Int) (n : Node) (next level : Int) (m : Nat) : List Inst × Int :=
  if n.op = 1 then ([⟨1, n.set, next, 0, 0⟩], (m : Int))
  else if n.op = 6 then ([⟨4, [], next, 0, n.look⟩], (m : Int))
  else if n.op = 2 then catF kid level (kidsB n) next m
  else if n.op = 3 then
    let a := kid ((kidsB n).getD 0 0) next level m
    let r := altF kid next level ((kidsB n).drop 1) a.2 (m + a.1.length)
    (a.1 ++ r.1, r.2)
  else if n.op = 5 then
    let a := kid (kid0 n) (m : Int) level (m + 1)
    (⟨3, [], next, 0, wrap64 (wrap64 (2 * n.group) + 1)⟩ :: (a.1 ++ [⟨3, [], a.2, 0, wrap64 (2 * n.group)⟩]), ((m + 1 + a.1.length : Nat) : Int))
  else repF kid (kid0 n) n next level m
def emitF (nodes : List Node) : Nat → Nat → Int → Int → Nat → List Inst × Int
  | 0, _, next, _, _ => ([], next)
  | f + 1, k, next, level, m => opF (emitF nodes f) (nodes.getD k default) next level m

/-! memory -/
/-- A set that the call made, or none. -/
def SetRd (base : Nat) (W : World) (v : Value) (xs : List (Int × Int)) : Prop :=
  ∃ A c, v = .slice A xs.length c ∧ xs.length ≤ c ∧ (0 < xs.length → ∃ b cs fr, A = some ⟨b, 0, none⟩ ∧ base ≤ b ∧ W.heap[b]? = some (.cells cs 96 fr) ∧ ∀ k (h : k < xs.length), cs[k * 2]? = some (.int .i32 xs[k].1) ∧ cs[k * 2 + 1]? = some (.int .i32 xs[k].2))
theorem SetRd.nil (base : Nat) (W : World) : SetRd base W (.slice none 0 0) [] := ⟨none, 0, rfl, Nat.le_refl _, fun h => absurd h (by simp)⟩
theorem SetRd.one {base : Nat} {W : World} {v : Value} {xs : List (Int × Int)} (h : SetRd base W v xs) : v.oneCell' = true := by
  obtain ⟨A, c, rfl, _⟩ := h
  rfl
theorem SetRd.kept {base mk : Nat} {W W' : World} {v : Value} {xs : List (Int × Int)} (h : SetRd base W v xs) (k : MkKept base mk W W') (hm : ∃ tv v r, W.heap[mk]? = some (.cells #[tv, v] 91 r)) : SetRd base W' v xs := by
  obtain ⟨A, c, rfl, h1, h2⟩ := h
  refine ⟨A, c, rfl, h1, fun hp => ?_⟩
  obtain ⟨b, cs, fr, e, h3, h4, h5⟩ := h2 hp
  refine ⟨b, cs, fr, e, h3, k.other b _ h4 (fun e' => ?_) (fun cs' r e' => ?_), h5⟩
  · obtain ⟨tv, v, r, hm⟩ := hm
    subst e'
    rw [h4] at hm
    cases hm
  · cases e'
theorem SetRd.below {base : Nat} {W W' : World} {v : Value} {xs : List (Int × Int)} (h : SetRd base W v xs) (k : Below W.heap.size W W') : SetRd base W' v xs := by
  obtain ⟨A, c, rfl, h1, h2⟩ := h
  refine ⟨A, c, rfl, h1, fun hp => ?_⟩
  obtain ⟨b, cs, fr, e, h3, h4, h5⟩ := h2 hp
  exact ⟨b, cs, fr, e, h3, (k.block b (Array.getElem?_eq_some_iff.1 h4).1).trans h4, h5⟩
/-- An instruction as it lies, and as data. -/
structure IRd (base : Nat) (W : World) (i : IV) (x : Inst) : Prop where
  op : i.op = x.op
  set : SetRd base W i.set x.set
  x_ : i.x = x.x
  y : i.y = x.y
  n : i.n = x.n
def IsRd (base : Nat) (W : World) (L : List IV) (xs : List Inst) : Prop := L.length = xs.length ∧ ∀ k (h : k < L.length) (h' : k < xs.length), IRd base W L[k] xs[k]
theorem IRd.map {base : Nat} {W W' : World} {i : IV} {x : Inst} (h : IRd base W i x) (hs : ∀ v xs, SetRd base W v xs → SetRd base W' v xs) : IRd base W' i x := ⟨h.op, hs _ _ h.set, h.x_, h.y, h.n⟩
theorem IsRd.map {base : Nat} {W W' : World} {L : List IV} {xs : List Inst} (h : IsRd base W L xs) (hs : ∀ v xs, SetRd base W v xs → SetRd base W' v xs) : IsRd base W' L xs := ⟨h.1, fun k h1 h2 => (h.2 k h1 h2).map hs⟩
theorem IsRd.nil (base : Nat) (W : World) : IsRd base W [] [] := ⟨rfl, fun k h => absurd h (by simp)⟩
theorem IsRd.app {base : Nat} {W : World} {L M : List IV} {xs ys : List Inst} (h : IsRd base W L xs) (k : IsRd base W M ys) : IsRd base W (L ++ M) (xs ++ ys) := by
  refine ⟨by simp [h.1, k.1], fun j h1 h2 => ?_⟩
  by_cases hj : j < L.length
  · rw [List.getElem_append_left hj, List.getElem_append_left (by rw [← h.1]; exact hj)]
    exact h.2 j hj _
  · rw [List.getElem_append_right (by omega), List.getElem_append_right (by rw [← h.1]; omega)]
    have e : j - xs.length = j - L.length := by rw [h.1]
    have := k.2 (j - L.length) (by simp at h1; omega) (by rw [← k.1]; simp at h1; omega)
    simpa only [e] using this
theorem IsRd.one {base : Nat} {W : World} {i : IV} {x : Inst} (h : IRd base W i x) : IsRd base W [i] [x] := ⟨rfl, fun k h1 h2 => by
  obtain rfl : k = 0 := by simp at h1; omega
  exact h⟩

/-! slices.Clone at []Range -/
def laysCloneR_ren : Go.Shelf.Ren := ⟨fun | 41 => 76 | n => n, fun | 22 => 45 | 23 => 96 | 4 => 4 | n => n, fun | n => n⟩
theorem laysCloneR : Go.Proofs.SlLaysE0.n41 Tryd.prog laysCloneR_ren := {
  mixed := by kernel_rfl
  f41 := ⟨Tryd.f76.name, by decide, Tryd.func76.trans (congrArg some (by kernel_rfl))⟩
  t4 := Tryd.underlying4
  a4 := Tryd.isAgg4
  z4 := Tryd.sizeOf4
  v4 := Tryd.zeroValue4
  t22 := Tryd.underlying45
  a22 := Tryd.isAgg45
  z22 := Tryd.sizeOf45
  v22 := Tryd.zeroValue45 }
set_option maxRecDepth 100000 in
theorem info_tRange : (Tryd.prog.info? 96).map (fun i => (i.zero, i.size, i.bytes)) = some (some (.agg #[.int .i32 0, .int .i32 0]), 2, 8) := by kernel_rfl
def rngCells (xs : List (Int × Int)) : List Value := xs.flatMap fun r => [.int .i32 r.1, .int .i32 r.2]
theorem rngCells_len (xs : List (Int × Int)) : (rngCells xs).length = xs.length * 2 := by
  induction xs with
  | nil => rfl
  | cons x r ih => unfold rngCells at *; rw [List.flatMap_cons, List.length_append, ih]; simp; omega
theorem rngCells_at (xs : List (Int × Int)) : ∀ k (h : k < xs.length), (rngCells xs)[k * 2]? = some (.int .i32 xs[k].1) ∧ (rngCells xs)[k * 2 + 1]? = some (.int .i32 xs[k].2) := by
  induction xs with
  | nil => intro k h; exact absurd h (by simp)
  | cons x r ih =>
    intro k h
    unfold rngCells
    rw [List.flatMap_cons]
    cases k with
    | zero => exact ⟨rfl, rfl⟩
    | succ k =>
      have := ih k (by simpa using h)
      unfold rngCells at this
      rw [show (k + 1) * 2 = k * 2 + 1 + 1 by omega]
      simpa using this
set_option maxHeartbeats 2000000 in
set_option maxRecDepth 100000 in
theorem cloneR_zero (a : Addr) (c : Nat) (w : World) :
    Calls Tryd.prog 76 #[.slice (some a) 0 c] w fun e w' => ∃ v', e = .returned v' ∧ w'.ownsRow w.heap.size 96 2 v' 0 [] ∧ Below w.heap.size w w' := by
  obtain ⟨i0, hi, hz0, hz1, hz2⟩ := info_parts info_tRange
  have q24 : ∀ (w : World) (a : Option Addr) (n c n' c' : Nat), (binOp .eql 45 (.slice a n c) (.slice none n' c')).run Tryd.prog w = .ok (.bool a.isNone) w := fun w a n c n' c' => Lib.run_eql_slice_nil w _ _ a n c n' c' Tryd.underlying45
  go_enter Tryd.func76, Tryd.ntmps76
  go_wp2_with (at_builtin; refine wpList_append_own _ rfl _ _ 45 rfl w.heap.size 96 i0 _ 2 8 Tryd.underlying45 hi hz0 hz1 hz2 rfl (by decide) _ _ _ rfl (World.ownsRow_made w #[] 0 (Nat.le_refl _) (Nat.zero_le _) rfl) a 0 c [] rfl rfl (by intro j u hj; simp at hj) (by intro u hu; cases hu) (by unfold maxLen; omega) (by omega) (by simp) ?_)
  intro v' w1 hown hgrow hnil
  go_wp2
  go_ret
  refine ⟨v', rfl, by simpa using hown, ?_⟩
  exact ((Below.refl _ w).alloc (Nat.le_refl _) _).grown hgrow (by simp) (by intro k hk; simp [Value.ownBlock] at hk; omega)
set_option maxRecDepth 100000 in
theorem cloneR_any (B : Nat) (w0 w : World) (v : Value) (xs : List (Int × Int)) (hb : Below B w0 w) (h : Sl (RngAt B w0) 2 v xs) (hl : xs.length ≤ 17592186044416) :
    Calls Tryd.prog 76 #[v] w fun e w' => ∃ v', e = .returned v' ∧ SetRd w.heap.size w' v' xs ∧ Below w.heap.size w w' := by
  obtain ⟨A, c, rfl, h1, h2, h3⟩ := h
  cases A with
  | none =>
    have hx : xs.length = 0 := by
      rcases Nat.eq_zero_or_pos xs.length with h | h
      · exact h
      · obtain ⟨b, o, e, _⟩ := h3 h
        cases e
    obtain rfl : xs = [] := List.eq_nil_of_length_eq_zero hx
    refine (AnyE.slices_Clone_nil laysCloneR _ c w).mono ?_
    rintro e w' ⟨rfl, rfl⟩
    exact ⟨_, rfl, SetRd.nil _ _, Below.refl _ _⟩
  | some ad =>
    obtain ⟨i0, hi, hz0, hz1, hz2⟩ := info_parts info_tRange
    rcases Nat.eq_zero_or_pos xs.length with h0 | hp
    · obtain rfl : xs = [] := List.eq_nil_of_length_eq_zero h0
      refine (cloneR_zero ad c w).mono ?_
      rintro e w' ⟨v', rfl, ⟨_, hown⟩, hbw⟩
      refine ⟨v', rfl, ?_, hbw⟩
      rcases hown with ⟨rfl, _⟩ | ⟨g, cap, cur, rfl, hg, hgb, hr⟩
      · exact SetRd.nil _ _
      · exact ⟨_, cap, rfl, Nat.zero_le _, fun h => absurd h (by simp)⟩
    · obtain ⟨b, o, e, hR⟩ := h3 hp
      cases e
      refine (AnyE.slices_Clone laysCloneR i0 _ 2 8 hi hz0 hz1 hz2 rfl (by decide) Tryd.sizeOf96 b o xs.length c (rngCells xs) w (rngCells_len xs) (by unfold maxLen; omega) (by omega) ?_ ?_).mono ?_
      · intro j u hj
        have hjl : j < xs.length * 2 := by rw [← rngCells_len]; exact (List.getElem?_eq_some_iff.1 hj).1
        obtain ⟨q1, q2⟩ := rngCells_at xs (j / 2) (by omega)
        have hr := hR (j / 2) (by omega)
        rcases Nat.mod_two_eq_zero_or_one j with hm | hm
        · rw [show j / 2 * 2 = j by omega, hj] at q1
          injection q1 with q1
          rw [q1]
          have := hr.lo w hb
          rwa [show j / 2 * 2 = j by omega] at this
        · rw [show j / 2 * 2 + 1 = j by omega, hj] at q2
          injection q2 with q2
          rw [q2]
          have := hr.hi w hb
          rwa [show o + j / 2 * 2 + 1 = o + j by omega] at this
      · intro u hu
        obtain ⟨r, _, hr⟩ := List.mem_flatMap.1 hu
        simp at hr
        rcases hr with rfl | rfl <;> rfl
      · rintro e w' ⟨v', rfl, hown, _, hbw⟩
        refine ⟨v', rfl, ?_, hbw⟩
        obtain ⟨hl', hown⟩ := hown
        rcases hown with ⟨rfl, h0⟩ | ⟨g, cap, cur, rfl, hg, hgb, hr⟩
        · omega
        · obtain ⟨r1, r2, r3, r4⟩ := hr
          refine ⟨_, cap, rfl, r1, fun _ => ⟨g, cur, (0, 0), rfl, hg, hgb, fun k hk => ?_⟩⟩
          obtain ⟨q1, q2⟩ := rngCells_at xs k hk
          have hat : ∀ j u, (rngCells xs)[j]? = some u → cur[j]? = some u := fun j u hj => by
            have hjl : j < xs.length * 2 := by rw [← rngCells_len]; exact (List.getElem?_eq_some_iff.1 hj).1
            rw [← r4, List.getElem?_take_of_lt hjl] at hj
            rwa [Array.getElem?_toList] at hj
          exact ⟨hat _ _ q1, hat _ _ q2⟩
end Go.Proofs.YtmbboianghbjkaaDoor

import Derived.RangeFuncNested
import Derived.RangeFuncBound
import Derived.RangeFuncCalls
import Derived.RangeFuncLeaves
import Derived.RangeFuncBox
import Derived.Shelf.Abstract
import Derived.Shelf.RegionOpen
import Derived.WalkKit
import Derived.OwnWalkIn
import Derived.TacticsInMore
import Derived.LoopNIn
import Derived.LoopIn
import Derived.Test.YtmbboianghbjkaaDoorProg
import Derived.Test.YtmbboianghbjkaaDoorMem
namespace Go.Proofs.YtmbboianghbjkaaDoor
open Go.RowKit Go.Shelf
attribute [local go_sem] Oper.semAt_some

/-- What has come when k rounds are over. -/
def upto {α : Type} (f : Nat → α) (k : Nat) : List α := (List.range k).map f
theorem upto_succ {α : Type} (f : Nat → α) (k : Nat) : upto f (k + 1) = upto f k ++ [f k] := by simp [upto, List.range_succ]
theorem upto_length {α : Type} (f : Nat → α) (k : Nat) : (upto f k).length = k := by simp [upto]

/-- What an iterator over a slice in a box reads. -/
structure BackRd (bx : Nat) (v : Value) (b o : Nat) (xs : List Int) (W : World) : Prop where
  box : W.cell? ⟨bx, 0, none⟩ = some v
  at_ : ∀ k, k < xs.length → W.cell? ⟨b, o + k, none⟩ = some (.int .i64 (xs[k]?.getD 0))

set_option maxHeartbeats 2000000 in
set_option maxRecDepth 100000 in
theorem back1_in {α : Type} (F : Fence) (n : Nat) (h8 : F.fn 118) (hro : F.round = none) (hn : 1 ≤ n) (l bx b o c : Nat) (A : Option Addr) (xs : List Int) (hA : 0 < xs.length → A = some ⟨b, o, none⟩) (hxs : xs.length ≤ 9223372036854775807) (f : Nat → α) (encs : α → Array Value)
    (he : ∀ k, k < xs.length → encs (f k) = #[.int .i64 ((xs.length : Int) - 1 - k), .int .i64 (xs[xs.length - 1 - k]?.getD 0)]) (J Jx : List α → World → Prop)
    (hY : ∀ pre x W1, J pre W1 → pre.length < xs.length → YieldAt F (n - 1) Tryd.prog l (encs x) W1 fun e W' =>
      (e = .returned (.bool true) ∧ J (pre ++ [x]) W' ∧ (BackRd bx (.slice A xs.length c) b o xs W1 → BackRd bx (.slice A xs.length c) b o xs W')) ∨ (e = .returned (.bool false) ∧ Jx (pre ++ [x]) W'))
    (W : World) (hR : BackRd bx (.slice A xs.length c) b o xs W) (h0 : J [] W) :
    CallsIn F n Tryd.prog 118 #[.func (.yield l) #[] #[], .pointer (some ⟨bx, 0, none⟩)] W fun e W' => (∃ v, e = .returned v) ∧
      ((∃ ys, ys = upto f xs.length ∧ J ys W') ∨ (∃ pre, (∃ k, k ≤ xs.length ∧ pre = upto f k) ∧ Jx pre W')) := by
  refine callsIn_of_wp Tryd.func118 rfl h8 ?_ hro
  simp only [Tryd.ntmps118, List.size_toArray, List.length_cons, List.length_nil, Nat.reduceAdd, Nat.reduceSub, Array.replicate_succ, Array.replicate_zero, List.push_toArray, List.append_toArray, List.nil_append, List.cons_append]
  have hbox := hR.box
  gi_wp2
  gi_loopw [3] (fun i wr => ∃ k : Nat, k ≤ xs.length ∧ i = .int .i64 ((xs.length : Int) - 1 - k) ∧ J (upto f k) wr ∧ BackRd bx (.slice A xs.length c) b o xs wr)
    (fun i _ => (intOf i + 1).toNat)
  case atStart => exact ⟨0, Nat.zero_le _, by simp, h0, hR⟩
  case round =>
    clear hbox
    obtain ⟨k, hk, rfl, hJs, hRk⟩ := hrel
    have hbox := hRk.box
    by_cases hlt : k < xs.length
    · obtain rfl := hA (by omega)
      obtain ⟨fn, tmps, assign, body, hy, hRd⟩ := hY _ (f k) wr hJs (by rw [upto_length]; exact hlt)
      rw [he k hlt] at hy
      have hx := hRk.at_ (xs.length - 1 - k) (by omega)
      have e1 : (((xs.length : Int) - 1 - (k : Int)).toNat) = xs.length - 1 - k := by omega
      have p1 : 0 ≤ (xs.length : Int) - 1 - (k : Int) := by omega
      have p2 : (xs.length : Int) - 1 - (k : Int) < (xs.length : Int) := by omega
      gi_wp2
      refine hRd.mono ?_
      rintro e W3 (⟨rfl, hJ3, hk3⟩ | ⟨rfl, hJx3⟩)
      · gi_wp2
        go_roundw
        case rel => exact ⟨k + 1, by omega, by congr 1; omega, by rw [upto_succ]; exact hJ3, hk3 hRk⟩
        case measure => simp [intOf]; omega
      · gi_wp2
        refine bodyPost_ret (results_none rfl _ _ _) rfl ?_
        exact ⟨⟨_, rfl⟩, .inr ⟨_, ⟨k + 1, by omega, (upto_succ _ _).symm⟩, hJx3⟩⟩
    · obtain rfl : k = xs.length := by omega
      have p1 : ((xs.length : Int) - 1 - (xs.length : Int)) < 0 := by omega
      gi_wp2
      go_end0
      exact ⟨⟨_, rfl⟩, .inl ⟨_, rfl, hJs⟩⟩

theorem BackRd.kept {bx b o l : Nat} {v : Value} {xs : List Int} {W : World} {ob : Obj} (o' : Obj) (h : BackRd bx v b o xs W) (hl : W.heap[l]? = some ob) (ho : ob.isCells = false) : BackRd bx v b o xs (W.putObj l o') :=
  ⟨cell_kept h.box (grownBy_putObj' W l o') (fun r e => by cases e; exact ⟨_, hl, ho⟩), fun k hk => cell_kept (h.at_ k hk) (grownBy_putObj' W l o') (fun r e => by cases e; exact ⟨_, hl, ho⟩)⟩

theorem wp_range_back {α : Type} {g : Operand} {ps : Array Tmp} {assign body : Code} {Q : Exit → Act → World → Prop} {a : Act} {w : World} (bx b o c : Nat) (A : Option Addr) (xs : List Int) (hA : 0 < xs.length → A = some ⟨b, o, none⟩) (hxs : xs.length ≤ 9223372036854775807)
    (hg : a.eval g = .func (.func 118) #[] #[.pointer (some ⟨bx, 0, none⟩)]) (f : Nat → α) (encs : α → Array Value) (hps : ∀ x, (encs x).size = ps.size)
    (he : ∀ k, k < xs.length → encs (f k) = #[.int .i64 ((xs.length : Int) - 1 - k), .int .i64 (xs[xs.length - 1 - k]?.getD 0)])
    (hRd : ∀ W, Below w.heap.size w W → BackRd bx (.slice A xs.length c) b o xs W)
    (I : List α → World → Prop) (hI : OwnFrom w.heap.size I) (h0 : I [] w) (a₁ : α → Act)
    (hassign : ∀ (l : Nat) (x : α) (W : World) (K : Act → World → Prop), K (a₁ x) W →
      assign.wpIn (Fence.wide.inRound l) 7 Tryd.prog (Exit.then K (fun _ _ _ => False)) { tmps := (ps.zip (encs x)).foldl (fun t (p, v) => t.setIfInBounds p v) a.tmps, defers := [] } W)
    (hbody : ∀ (l : Nat) (pre : List α) (x : α) (W : World), I pre W → pre.length < xs.length → body.wpIn (Fence.wide.inRound l) 7 Tryd.prog (ownPostG w.heap.size (fun W W' => BackRd bx (.slice A xs.length c) b o xs W → BackRd bx (.slice A xs.length c) b o xs W') I (fun _ _ _ => False) (pre ++ [x]) W) (a₁ x) W)
    (hdone : ∀ (D : Nat) (W : World), w.heap.size ≤ D → I (upto f xs.length) W → W.heap[D]? = some (.deferred (some [])) → Q .normal { a with defers := { target := .collected D, args := #[] } :: a.defers } W) :
    (Code.rangeFunc g ps assign body).wp Tryd.prog Q a w := by
  refine (wpIn_wide (n := 9)).1 ?_
  refine wpIn_rangeFunc_ownG (F := Fence.wide) (n := 9) (N := xs.length) rfl (by omega) hg trivial (enters_of Tryd.func118 (by kernel_rfl) rfl) (encs := encs) (Kp := fun W W' => BackRd bx (.slice A xs.length c) b o xs W → BackRd bx (.slice A xs.length c) b o xs W')
    (S := fun ys => ys = upto f xs.length) (Sp := fun pre => ∃ k, k ≤ xs.length ∧ pre = upto f k) (w0 := w) ?_ (fun h k x => k (h x)) (fun W l ob o' _ hl ho _ h => h.kept o' hl ho) (Below.refl _ _) hps I (fun _ _ _ => False) hI (fun _ _ _ _ _ h _ _ => h) h0 a₁ hassign hbody ?_ (fun _ _ _ _ _ _ h _ => h.elim)
  · intro l J Jx W hW _ _ hY hJ
    exact back1_in Fence.wide 8 trivial rfl (by omega) l bx b o c A xs hA hxs f encs he J Jx hY W (hRd W hW) hJ
  · rintro D ys W hD rfl hi hK
    exact hdone D W hD hi hK
end Go.Proofs.YtmbboianghbjkaaDoor

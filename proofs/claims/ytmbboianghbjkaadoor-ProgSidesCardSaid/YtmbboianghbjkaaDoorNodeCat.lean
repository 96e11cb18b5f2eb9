import Derived.Test.YtmbboianghbjkaaDoorPut
import Derived.Test.YtmbboianghbjkaaDoorBack2
namespace Go.Proofs.YtmbboianghbjkaaDoor
open Go.RowKit Go.Shelf
set_option linter.unusedVariables false
set_option linter.unusedSimpArgs false
attribute [local go_sem] bl_refl bl_alloc bl_a2 bl_a3 bl_a4 bl_a5 bl_set bl_drew bl_drewN le_add_r lt_add_r addr_add Oper.semAt_some

set_option maxRecDepth 100000 in
set_option maxHeartbeats 2000000 in
/-- An empty OpCat goes on at once. -/
theorem nodeCat0_any (base mk B b o N c : Nat) (v : Value) (L : List IV) (w0 w : World) (at_ : Nat) (next level : Int) (nd : Node) (h : MkAt base mk (.slice (some ⟨b, o, none⟩) N c) v L w) (hb : Below B w0 w) (hB : B ≤ w.heap.size)
    (hn : NodeAt B w0 b (o + at_ * 8) nd) (hat : at_ < N) (h2 : nd.op = 2) (hk : nd.kids = []) (hN : N ≤ 2000) :
    Calls Tryd.prog 42 #[.pointer (some ⟨mk, 0, none⟩), .int .i64 at_, .int .i64 next, .int .i64 level] w fun e w' => e = .returned (.int .i64 next) ∧ Below w.heap.size w w' := by
  obtain ⟨op, set, kids, mn, mx, lz, gr, lk⟩ := nd
  obtain ⟨g0, ⟨kv, g1, hset⟩, ⟨vk, g2, hkids⟩, g3, g4, g5, g6, g7⟩ := hn
  dsimp only at *
  subst h2 hk
  obtain ⟨Ak, ck, rfl, hk1, hk2, hk3⟩ := hkids
  obtain ⟨As, cs, rfl, _, _, hs3⟩ := hset
  clear hs3 hk3
  have hml : mk < w.heap.size := (Array.getElem?_eq_some_iff.1 h.obj).1
  have c0 : ∀ w', Below w.heap.size w w' → w'.cell? ⟨mk, 0, none⟩ = some (.slice (some ⟨b, o, none⟩) N c) := fun w' hw => (hw.cell (p := ⟨mk, 0, none⟩) hml).trans (by simp [World.cell?, h.obj])
  have H := Lib.hid h
  clear h
  refine calls_of_wp_marks Tryd.func42 rfl ?_
  simp only [Tryd.ntmps42, List.size_toArray, List.length_cons, List.length_nil, Nat.reduceAdd, Nat.reduceSub, Array.replicate_succ, Array.replicate_zero, List.push_toArray, List.append_toArray, List.nil_append, List.cons_append]
  go_wp2_with (go_at_call 77; refine (back_any _ _ _ _).mono ?_; rintro e w' ⟨rfl, rfl⟩)
  have hbW : Below w.heap.size w (((((w.alloc (.cells #[.pointer (some ⟨mk, 0, none⟩)] 89)).alloc (.cells #[.int .i64 next] 3)).alloc (.cells #[.int .i64 level] 3)).alloc (.cells #[.int .i64 2, .slice As set.length cs, .slice Ak 0 ck, .int .i64 mn, .int .i64 mx, .bool lz, .int .i64 gr, .int .i64 lk] 80)).alloc (.cells #[.slice Ak 0 ck] 74)) := ((((((Below.refl _ _).alloc (by simp) _).alloc (by simp <;> omega) _).alloc (by simp <;> omega) _).alloc (by simp <;> omega) _).alloc (by simp <;> omega) _)
  have hsz : (((((w.alloc (.cells #[.pointer (some ⟨mk, 0, none⟩)] 89)).alloc (.cells #[.int .i64 next] 3)).alloc (.cells #[.int .i64 level] 3)).alloc (.cells #[.int .i64 2, .slice As set.length cs, .slice Ak 0 ck, .int .i64 mn, .int .i64 mx, .bool lz, .int .i64 gr, .int .i64 lk] 80)).alloc (.cells #[.slice Ak 0 ck] 74)).heap.size = w.heap.size + 5 := by simp
  have hn1 : (((((w.alloc (.cells #[.pointer (some ⟨mk, 0, none⟩)] 89)).alloc (.cells #[.int .i64 next] 3)).alloc (.cells #[.int .i64 level] 3)).alloc (.cells #[.int .i64 2, .slice As set.length cs, .slice Ak 0 ck, .int .i64 mn, .int .i64 mx, .bool lz, .int .i64 gr, .int .i64 lk] 80)).alloc (.cells #[.slice Ak 0 ck] 74)).cell? ⟨w.heap.size + 1, 0, none⟩ = some (.int .i64 next) := by simp [go_sem]
  have hn2 : (((((w.alloc (.cells #[.pointer (some ⟨mk, 0, none⟩)] 89)).alloc (.cells #[.int .i64 next] 3)).alloc (.cells #[.int .i64 level] 3)).alloc (.cells #[.int .i64 2, .slice As set.length cs, .slice Ak 0 ck, .int .i64 mn, .int .i64 mx, .bool lz, .int .i64 gr, .int .i64 lk] 80)).alloc (.cells #[.slice Ak 0 ck] 74)).cell? ⟨w.heap.size + 4, 0, none⟩ = some (.slice Ak 0 ck) := by simp [go_sem]
  obtain ⟨W5, hW5⟩ : ∃ W5, W5 = (((((w.alloc (.cells #[.pointer (some ⟨mk, 0, none⟩)] 89)).alloc (.cells #[.int .i64 next] 3)).alloc (.cells #[.int .i64 level] 3)).alloc (.cells #[.int .i64 2, .slice As set.length cs, .slice Ak 0 ck, .int .i64 mn, .int .i64 mx, .bool lz, .int .i64 gr, .int .i64 lk] 80)).alloc (.cells #[.slice Ak 0 ck] 74)) := ⟨_, rfl⟩
  rw [← hW5] at hbW hsz hn1 hn2 ⊢
  clear hW5
  refine wp_range_back (α := Unit) (w.heap.size + 4) 0 0 ck Ak [] (by simp) (by simp) rfl (fun _ => ()) (fun _ => #[.int .i64 0, .int .i64 0]) (fun _ => rfl) (fun k hk => absurd hk (by simp)) ?hRd (fun pr W => Below W5.heap.size W5 W) ?hI (Below.refl _ _) ?a1 ?hassign ?hbody ?hdone
  case hRd =>
    intro W hW
    exact ⟨(hW.cell (p := ⟨w.heap.size + 4, 0, none⟩) (by simp; omega)).trans hn2, fun k hk => absurd hk (by simp)⟩
  case hI =>
    rintro pr W W' row h hg hr
    exact h.grown hg (h.size) (fun r e => (hr r e).1)
  case hassign =>
    intro l x W K hK
    gi_wp2

    exact hK
  case hbody =>
    intro l pr x W _ hlt
    exact absurd hlt (by simp)
  case hdone =>
    intro D W hD hW hD2
    have hn3 := (hW.cell (p := ⟨w.heap.size + 1, 0, none⟩) (by simp; omega)).trans hn1
    go_wp2
    refine post_marks1 (v := .int .i64 next) rfl rfl [D] (w.heap.size + 1) rfl ?_ (by simp) (fun D' h => by simp at h; omega) (fun W' h => ⟨rfl, (hbW.trans (hW.mono (by omega))).trans (h.mono (by omega))⟩)
    intro D' h
    simp at h
    subst h
    exact hD2
end Go.Proofs.YtmbboianghbjkaaDoor

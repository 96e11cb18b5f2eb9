import Derived.Test.YtmbboianghbjkaaDoorCopy
namespace Go.Proofs.YtmbboianghbjkaaDoor
open Go.RowKit Go.Shelf
set_option linter.unusedVariables false
set_option linter.unusedSimpArgs false
attribute [local go_sem] bl_refl bl_alloc bl_a2 bl_a3 bl_a4 bl_a5 bl_set bl_drew bl_drewN le_add_r lt_add_r Go.Proofs.YtmbboianghbjkaaDoor.addr_add

theorem info_tStr : (Tryd.prog.info? 9).map (fun i => (i.zero, i.size, i.bytes)) = some (some (.string ByteArray.empty), 1, 16) := by kernel_rfl
theorem info_tNode : (Tryd.prog.info? 80).map (fun i => (i.zero, i.size, i.bytes)) = some (some (.agg #[.int .i64 0, .slice none 0 0, .slice none 0 0, .int .i64 0, .int .i64 0, .bool false, .int .i64 0, .int .i64 0]), 8, 96) := by kernel_rfl
theorem box_kept {W wa : World} {r : Option Nat} (hg : W.grownBy wa r) {b : Nat} {o : Obj} (h : W.heap[b]? = some o) (hne : some b ≠ r) : wa.heap[b]? = some o :=
  (hg.block b (Array.getElem?_eq_some_iff.1 h).1 hne).trans h
theorem copy_fin1 {base : Nat} {W1 wa : World} {n : Nat} {v : Value} {raw : Bool} {xs : List Value} (hW : Below base W1 wa) (hs : base ≤ wa.heap.size) (ho : wa.ownsRow base 9 1 v n xs) :
    (wa.alloc (.cells #[.slice none 0 0, v, .bool raw] 35)).heap[wa.heap.size]? = some (.cells #[.slice none 0 0, v, .bool raw] 35 (0, 0)) ∧ base ≤ wa.heap.size ∧ (wa.alloc (.cells #[.slice none 0 0, v, .bool raw] 35)).ownsRow base 9 1 v n xs ∧ Below base W1 (wa.alloc (.cells #[.slice none 0 0, v, .bool raw] 35)) :=
  ⟨World.alloc_heap_new wa _, hs, ho.alloc _, hW.alloc hs _⟩
theorem copy_fin2 {base bx : Nat} {W1 wa : World} {n : Nat} {v : Value} {raw : Bool} {xs : List Value} (hW : Below base W1 wa) (hs : base ≤ wa.heap.size) (hbx : base ≤ bx) (hb : wa.heap[bx]? = some (.cells #[.slice none 0 0, .slice none 0 0, .bool false] 35 (0, 0))) (ho : wa.ownsRow base 9 1 v n xs) :
    (((wa.setCell ⟨bx, 0, none⟩ (.slice none 0 0)).setCell ⟨bx, 1, none⟩ v).setCell ⟨bx, 2, none⟩ (.bool raw)).heap[bx]? = some (.cells #[.slice none 0 0, v, .bool raw] 35 (0, 0)) ∧ base ≤ bx ∧ (((wa.setCell ⟨bx, 0, none⟩ (.slice none 0 0)).setCell ⟨bx, 1, none⟩ v).setCell ⟨bx, 2, none⟩ (.bool raw)).ownsRow base 9 1 v n xs ∧
      Below base W1 (((wa.setCell ⟨bx, 0, none⟩ (.slice none 0 0)).setCell ⟨bx, 1, none⟩ v).setCell ⟨bx, 2, none⟩ (.bool raw)) := by
  have c1 := cells_set (cells_set (cells_set hb 0 (.slice none 0 0)) 1 v) 2 (.bool raw)
  have hne := own_ne_box ho hb (by decide)
  refine ⟨c1, hbx, ?_, ((hW.setCell (by exact hbx) _).setCell (by exact hbx) _).setCell (by exact hbx) _⟩
  exact ownsRow_setCell_other (ownsRow_setCell_other (ownsRow_setCell_other ho (by exact hne) _) (by exact hne) _) (by exact hne) _
theorem own_ne_own {W : World} {b1 b2 s1 s2 n1 n2 : Nat} {e1 e2 : TypeId} {v1 v2 : Value} {x1 x2 : List Value} (h1 : W.ownsRow b1 e1 s1 v1 n1 x1) (h2 : W.ownsRow b2 e2 s2 v2 n2 x2) (he : e1 ≠ e2) : v1.ownBlock = none ∨ v1.ownBlock ≠ v2.ownBlock := by
  rcases h1.2 with ⟨rfl, _⟩ | ⟨g, cap, cur, rfl, _, hh, _⟩
  · exact .inl rfl
  · refine .inr fun e => ?_
    exact own_ne_box h2 hh (fun e' => he e'.symm) e.symm
theorem nkept_grown {base bx : Nat} {X W : World} {size n : Nat} {v : Value} {xs : List Value} (hb : base ≤ X.heap.size) (ho : X.ownsRow base 80 size v n xs) (hg : X.grownBy W v.ownBlock) : NKept base bx X W := by
  refine ⟨(Below.refl _ _).grown hg hb (fun k e => (ho.lt k e).1), fun k o hk _ hno => (hg.block k (Array.getElem?_eq_some_iff.1 hk).1 (fun e => ?_)).trans hk⟩
  rcases ho.2 with ⟨rfl, _⟩ | ⟨g, cap, cur, rfl, _, hh, _⟩
  · simp [Value.ownBlock] at e
  · simp [Value.ownBlock] at e
    subst e
    rw [hk] at hh
    injection hh with hh
    exact hno _ _ hh
theorem nkept_box {base bx : Nat} {W : World} (hb : base ≤ bx) (i : Nat) (u : Value) : NKept base bx W (W.setCell ⟨bx, i, none⟩ u) :=
  ⟨(Below.refl _ _).setCell (by exact hb) _, fun k o hk hne _ => (Below.heap_setCell _ _ _ _ hne).trans hk⟩
theorem results_one {P : Program} {fn : Func} {p : Tmp} {ty : TypeId} (h : fn.results = #[.cell p ty]) (tmps : Array Value) (w : World) (g : Nat) (t : TypeId) (cs : Array Value) (fr : Nat × Nat) (d : TypeDesc)
    (hp : tmps.getD p undef = .pointer (some ⟨g, 0, none⟩)) (hg : w.heap[g]? = some (.cells cs t fr))
    (hu : P.underlying ty = some d) (hd : (match d with | .struct _ | .array _ _ => true | _ => false) = true) (hi : (P.info? ty).map (·.size) = some cs.size) :
    (results fn tmps).run P w = .ok (.agg cs) w := by
  have hp' : tmps[p]?.getD undef = .pointer (some ⟨g, 0, none⟩) := by simpa using hp
  simp [results, h, hp', asAddr, run_loadVar_row w g t ty cs fr d hg hu hd hi]
theorem NsRd.set {base : Nat} {W : World} {L : List NV} {ns : List Node} (h : NsRd base W L ns) {p : Addr} (hp : p.block < base) (u : Value) : NsRd base (W.setCell p u) L ns := by
  refine ⟨h.1, fun k a b => ?_⟩
  have r := h.2 k a b
  obtain ⟨A, c, e1, h1⟩ := r.set
  obtain ⟨A2, c2, e2, h2⟩ := r.kids
  exact ⟨r.op, ⟨A, c, e1, ownsRow_setCell_below h1 hp u⟩, ⟨A2, c2, e2, ownsRow_setCell_below h2 hp u⟩, r.min, r.max, r.lzy, r.group, r.look⟩
set_option maxRecDepth 100000 in
set_option maxHeartbeats 4000000 in
theorem copyTree_any (B : Nat) (w0 w : World) (nv sv : Value) (t : Tree) (hb : Below B w0 w) (hB : B ≤ w.heap.size) (ht : TreeV B w0 nv sv t) (hnl : t.nodes.length * 96 ≤ 140737488351232) (hsl : t.names.length * 16 ≤ 140737488351232)
    (hel : ∀ n ∈ t.nodes, n.set.length * 8 ≤ 140737488351232 ∧ n.kids.length * 8 ≤ 140737488351232) :
    Calls Tryd.prog 19 #[.agg #[nv, sv, .bool t.raw]] w fun e w' => ∃ nv' sv', e = .returned (.agg #[nv', sv', .bool t.raw]) ∧ TreeV w'.heap.size w' nv' sv' t ∧ Below w.heap.size w w' := by
  obtain ⟨is, his, hs0, hs1, hs2⟩ := info_parts info_tStr
  obtain ⟨ir, hir, hr0, hr1, hr2⟩ := info_parts info_tRange
  obtain ⟨ii, hii, hi0, hi1, hi2⟩ := info_parts info_tInt
  obtain ⟨ino, hin, hn0, hn1, hn2⟩ := info_parts info_tNode
  have HNM := Lib.hid ht.names
  obtain ⟨A, c, rfl, h1, h2, h3⟩ := ht.nodes
  obtain ⟨As, cs, rfl, hq1, hq2, hq3⟩ := ht.names
  obtain ⟨nodes, names, raw⟩ := t
  dsimp only at *
  have HN := Lib.hid h3
  have HEL := Lib.hid hel
  clear h3 ht hq3 hel h1
  go_enter Tryd.func19, Tryd.ntmps19
  go_wp2_with fail
  have hbx0 : Below w.heap.size w (w.alloc (.cells #[.slice A nodes.length c, .slice As names.length cs, .bool raw] 35)) := (Below.refl _ _).alloc (Nat.le_refl _) _
  obtain ⟨W1, hW1⟩ : ∃ W1, W1 = (w.alloc (.cells #[.slice A nodes.length c, .slice As names.length cs, .bool raw] 35)).alloc (.cells #[.slice none 0 0, .slice none 0 0, .bool false] 35) := ⟨_, rfl⟩
  have hs1' : W1.heap.size = w.heap.size + 2 := by rw [hW1]; simp
  have hb1 : Below w.heap.size w W1 := by rw [hW1]; exact ((Below.refl _ _).alloc (Nat.le_refl _) _).alloc (by simp) _
  have hT : W1.heap[w.heap.size]? = some (.cells #[.slice A nodes.length c, .slice As names.length cs, .bool raw] 35 (0, 0)) := by
    rw [hW1]
    exact (Below.heap_alloc _ _ _ (by simp)).trans (World.alloc_heap_new w _)
  have hR1 : W1.heap[w.heap.size + 1]? = some (.cells #[.slice none 0 0, .slice none 0 0, .bool false] 35 (0, 0)) := by
    rw [hW1]
    have := World.alloc_heap_new (w.alloc (.cells #[.slice A nodes.length c, .slice As names.length cs, .bool raw] 35)) (.cells #[.slice none 0 0, .slice none 0 0, .bool false] 35)
    rwa [World.size_alloc] at this
  rw [← hW1]
  clear hW1 hbx0
  have t0 : W1.cell? ⟨w.heap.size, 0, none⟩ = some (.slice A nodes.length c) := by rw [cell_of_row _ _ _ _ _ _ hT]; rfl
  have t1 : W1.cell? ⟨w.heap.size, 1, none⟩ = some (.slice As names.length cs) := by rw [cell_of_row _ _ _ _ _ _ hT]; rfl
  have t2 : W1.cell? ⟨w.heap.size, 2, none⟩ = some (.bool raw) := by rw [cell_of_row _ _ _ _ _ _ hT]; rfl
  have hsz1 : w.heap.size < W1.heap.size := by omega
  have hbB : Below B w0 W1 := hb.trans (hb1.mono hB)
  have hO1 : (W1.alloc (.cells #[] 9)).ownsRow (w.heap.size + 2) 9 1 (.slice (some ⟨w.heap.size + 2, 0, none⟩) 0 0) 0 [] := by
    have h := World.ownsRow_made (base := w.heap.size + 2) (e := 9) (size := 1) W1 #[] 0 (by omega) (Nat.zero_le _) rfl
    rwa [hs1'] at h
  have hO2 : ((W1.alloc (.cells #[.slice none 0 0, .slice none 0 0, .bool false] 35)).alloc (.cells #[] 9)).ownsRow (w.heap.size + 2) 9 1 (.slice (some ⟨w.heap.size + 2 + 1, 0, none⟩) 0 0) 0 [] := by
    have h := World.ownsRow_made (base := w.heap.size + 2) (e := 9) (size := 1) (W1.alloc (.cells #[.slice none 0 0, .slice none 0 0, .bool false] 35)) #[] 0 (by simp; omega) (Nat.zero_le _) rfl
    rwa [World.size_alloc, hs1'] at h
  have boxA : ((W1.alloc (.cells #[.slice none 0 0, .slice none 0 0, .bool false] 35)).alloc (.cells #[] 9)).heap[w.heap.size + 2]? = some (.cells #[.slice none 0 0, .slice none 0 0, .bool false] 35 (0, 0)) := by
    rw [← hs1']
    exact (Below.heap_alloc _ _ _ (by simp)).trans (World.alloc_heap_new W1 _)
  have boxB : ((W1.alloc (.cells #[] 9)).alloc (.cells #[.slice none 0 0, .slice none 0 0, .bool false] 35)).heap[w.heap.size + 2 + 1]? = some (.cells #[.slice none 0 0, .slice none 0 0, .bool false] 35 (0, 0)) := by
    have h := World.alloc_heap_new (W1.alloc (.cells #[] 9)) (.cells #[.slice none 0 0, .slice none 0 0, .bool false] 35)
    rwa [World.size_alloc, hs1'] at h
  have TA := Lib.hid (fun o1 o2 => (show ((W1.alloc o1).alloc o2).heap[w.heap.size]? = _ from (Below.heap_alloc _ _ _ (by simp; omega)).trans ((Below.heap_alloc _ _ _ (by omega)).trans hT)))
  have TB := Lib.hid (fun o1 => (show (W1.alloc o1).heap[w.heap.size]? = _ from (Below.heap_alloc _ _ _ (by omega)).trans hT))
  have BOXA := Lib.hid boxA
  have BOXB := Lib.hid boxB
  clear boxA boxB
  go_cut [3] from 6 to 12 (fun v3 wc => ∃ bx v', v3 = .pointer (some ⟨bx, 0, none⟩) ∧ wc.heap[bx]? = some (.cells #[.slice none 0 0, v', .bool raw] 35 (0, 0)) ∧ w.heap.size + 2 ≤ bx ∧ wc.ownsRow (w.heap.size + 2) 9 1 v' names.length (names.map Value.string) ∧ Below (w.heap.size + 2) W1 wc)
  case first =>
   have ne1 : w.heap.size + 2 + 1 ≠ w.heap.size := by omega
   have ne2 : w.heap.size ≠ w.heap.size + 2 + 1 := by omega
   have ne3 : w.heap.size + 2 ≠ w.heap.size := by omega
   have ne4 : w.heap.size ≠ w.heap.size + 2 := by omega
   have ne5 : W1.heap.size ≠ w.heap.size := by omega
   have hbxa : w.heap.size + 2 ≤ w.heap.size + 2 := Nat.le_refl _
   have hbxb : w.heap.size + 2 ≤ w.heap.size + 2 + 1 := by omega
   have kd1 : W1.drew.cell? ⟨w.heap.size, 1, none⟩ = some (.slice As names.length cs) := t1
   have kd2 : W1.drew.cell? ⟨w.heap.size, 2, none⟩ = some (.bool raw) := t2
   go_region_held3 (fun W' => W'.cell? ⟨w.heap.size, 1, none⟩ = some (.slice As names.length cs) ∧ W'.cell? ⟨w.heap.size, 2, none⟩ = some (.bool raw)) (go_keep) ((refine step_append_src (by rfl) _ _ 33 (by rfl) (w.heap.size + 2) 9 is _ 1 16 Tryd.underlying33 his hs0 hs1 hs2 rfl (by decide) _ 0 [] (by rfl) (by first | exact hO1 | exact hO1.alloc _ | exact hO2) names.length (names.map Value.string) (by exact HNM.out.srcS (hbB.trans (by repeat' (first | exact Below.refl _ _ | (refine Below.drew ?_) | (refine Below.alloc ?_ ?_ _) | omega | (simp; done) | (simp; omega))))) (by unfold maxLen; omega) (by omega) (by simp; omega) ?_; intro v' wa hown hgrow hat; obtain ⟨Av, cv, rfl⟩ := own_form hown; (try simp only [Nat.zero_add, List.nil_append] at hown); (try simp only [Nat.zero_add]); have hgs := hgrow.size; have hlw : w.heap.size + 2 ≤ wa.heap.size := (by simp at hgs; omega); have nwa : wa.heap.size ≠ w.heap.size := (by omega); have nwb : w.heap.size ≠ wa.heap.size := (by omega); (first | (have hgx : World.grownBy _ wa (some (w.heap.size + 2)) := hgrow; have tta : wa.heap[w.heap.size]? = some (.cells #[.slice A nodes.length c, .slice As names.length cs, .bool raw] 35 (0, 0)) := box_kept hgx (by first | exact TA.out _ _ | exact TB.out _) (by first | (simp; done) | (simp; omega)); have tta1 : wa.cell? ⟨w.heap.size, 1, none⟩ = some (.slice As names.length cs) := (by simp [World.cell?, tta]; done); have tta2 : wa.cell? ⟨w.heap.size, 2, none⟩ = some (.bool raw) := (by simp [World.cell?, tta]; done); have HWA : Below (w.heap.size + 2) W1 wa := Below.grown (by repeat' (first | exact Below.refl _ _ | (refine Below.drew ?_) | (refine Below.alloc ?_ ?_ _) | omega | (simp; done) | (simp; omega))) hgx (by first | (simp; done) | (simp; omega)) (fun k e => by cases e; omega)) | (have hgx : World.grownBy _ wa (some (w.heap.size + 2 + 1)) := hgrow; have tta : wa.heap[w.heap.size]? = some (.cells #[.slice A nodes.length c, .slice As names.length cs, .bool raw] 35 (0, 0)) := box_kept hgx (by first | exact TA.out _ _ | exact TB.out _) (by first | (simp; done) | (simp; omega)); have tta1 : wa.cell? ⟨w.heap.size, 1, none⟩ = some (.slice As names.length cs) := (by simp [World.cell?, tta]; done); have tta2 : wa.cell? ⟨w.heap.size, 2, none⟩ = some (.bool raw) := (by simp [World.cell?, tta]; done); have HWA : Below (w.heap.size + 2) W1 wa := Below.grown (by repeat' (first | exact Below.refl _ _ | (refine Below.drew ?_) | (refine Below.alloc ?_ ?_ _) | omega | (simp; done) | (simp; omega))) hgx (by first | (simp; done) | (simp; omega)) (fun k e => by cases e; omega))); (try (have bxa : wa.heap[w.heap.size + 2]? = some (.cells #[.slice none 0 0, .slice none 0 0, .bool false] 35 (0, 0)) := box_kept hgx (by exact BOXA.out) (by first | (simp; done) | (simp; omega)); have bxaf0 : wa.frozen? ⟨w.heap.size + 2, 0, none⟩ = false := (by simp [World.frozen?, bxa]; done); have bxaf1 : wa.frozen? ⟨w.heap.size + 2, 1, none⟩ = false := (by simp [World.frozen?, bxa]; done); have bxaf2 : wa.frozen? ⟨w.heap.size + 2, 2, none⟩ = false := (by simp [World.frozen?, bxa]; done); have bxad0 : wa.cell? ⟨w.heap.size + 2, 0, none⟩ = some (.slice none 0 0) := (by simp [World.cell?, bxa]; done); have bxad1 : wa.cell? ⟨w.heap.size + 2, 1, none⟩ = some (.slice none 0 0) := (by simp [World.cell?, bxa]; done); have bxad2 : wa.cell? ⟨w.heap.size + 2, 2, none⟩ = some (.bool false) := (by simp [World.cell?, bxa]; done))); (try (have bxb : wa.heap[w.heap.size + 2 + 1]? = some (.cells #[.slice none 0 0, .slice none 0 0, .bool false] 35 (0, 0)) := box_kept hgx (by exact BOXB.out) (by first | (simp; done) | (simp; omega)); have bxbf0 : wa.frozen? ⟨w.heap.size + 2 + 1, 0, none⟩ = false := (by simp [World.frozen?, bxb]; done); have bxbf1 : wa.frozen? ⟨w.heap.size + 2 + 1, 1, none⟩ = false := (by simp [World.frozen?, bxb]; done); have bxbf2 : wa.frozen? ⟨w.heap.size + 2 + 1, 2, none⟩ = false := (by simp [World.frozen?, bxb]; done); have bxbd0 : wa.cell? ⟨w.heap.size + 2 + 1, 0, none⟩ = some (.slice none 0 0) := (by simp [World.cell?, bxb]; done); have bxbd1 : wa.cell? ⟨w.heap.size + 2 + 1, 1, none⟩ = some (.slice none 0 0) := (by simp [World.cell?, bxb]; done); have bxbd2 : wa.cell? ⟨w.heap.size + 2 + 1, 2, none⟩ = some (.bool false) := (by simp [World.cell?, bxb]; done))); clear hgrow hat hgs))
   all_goals
    go_wp2
    go_meet
    case rel =>
      first
        | exact ⟨_, _, rfl, copy_fin2 HWA hlw hbxb bxb hown⟩
        | exact ⟨_, _, rfl, copy_fin2 HWA hlw hbxa bxa hown⟩
        | exact ⟨_, _, rfl, copy_fin1 HWA hlw hown⟩
  case rest =>
    obtain ⟨bx, v', rfl, hbx, hbxl, hnm, hbc⟩ := hcut
    have HT := Lib.hid hT
    have HR1 := Lib.hid hR1
    obtain ⟨Av, cv, rfl⟩ := own_form hnm
    clear hT hR1 t0 t1 t2
    go_wp2
    go_loopw [4, 5] (fun v4 _ wr => ∃ (k : Nat) (L : List NV) (nv' : Value), k ≤ nodes.length ∧ v4 = .int .i64 k ∧ wr.heap[bx]? = some (.cells #[nv', .slice Av names.length cv, .bool raw] 35 (0, 0)) ∧ L.length = k ∧
       wr.ownsRow (w.heap.size + 2) 80 8 nv' k (L.flatMap NV.cells) ∧ NsRd (w.heap.size + 2) wr L (nodes.take k) ∧ wr.ownsRow (w.heap.size + 2) 9 1 (.slice Av names.length cv) names.length (names.map Value.string) ∧ Below (w.heap.size + 2) W1 wr) (fun v4 _ _ => nodes.length - (intOf v4).toNat)
    case atStart => exact ⟨0, [], _, by omega, rfl, hbx, rfl, World.ownsRow_nil _ _ _ _, ⟨rfl, fun k h => absurd h (by simp)⟩, hnm, hbc⟩
    case round =>
      obtain ⟨k, L, nv', hk, rfl, hbxr, hLk, hrow, hns, hnmr, hbr⟩ := hrel
      have hszr : w.heap.size + 2 ≤ wr.heap.size := by have := hbr.size; omega
      have hbxlt : bx < wr.heap.size := (Array.getElem?_eq_some_iff.1 hbxr).1
      have hTr := (hbr.block w.heap.size (by omega)).trans HT.out
      have q0 : wr.cell? ⟨w.heap.size, 0, none⟩ = some (.slice A nodes.length c) := by rw [cell_of_row _ _ _ _ _ _ hTr]; rfl
      have hb2 : Below B w0 wr := hbB.trans (hbr.mono (by omega))
      obtain ⟨An, cn, rfl⟩ := own_form hrow
      have HROW := Lib.hid hrow
      have HNS := Lib.hid hns
      have HNMR := Lib.hid hnmr
      have HBXR := Lib.hid hbxr
      clear hrow hns hnmr hbxr hTr
      by_cases hlt : k < nodes.length
      · obtain ⟨b, o, rfl, hNd⟩ := HN.out (by omega)
        have hnk := hNd k hlt
        have hek := HEL.out _ (List.getElem_mem hlt)
        have HTK : Hid (nodes.take (k + 1) = nodes.take k ++ [nodes[k]]) := Lib.hid (List.take_succ_eq_append_getElem hlt)
        clear hNd
        generalize nodes[k] = n at *
        obtain ⟨op, set, kids, mn, mx, lz, gr, lk⟩ := n
        obtain ⟨g0, ⟨kvv, g1, hset⟩, ⟨vk, g2, hkids⟩, g3, g4, g5, g6, g7⟩ := hnk
        dsimp only at *
        have HK := Lib.hid hkids
        have HS := Lib.hid hset
        obtain ⟨Ak, ck, rfl, hk1, hk2, hk3⟩ := hkids
        obtain ⟨As2, cs2, rfl, hq1, hq2, hq3⟩ := hset
        have G0 := g0 wr hb2
        have G1 := g1 wr hb2
        have G2 := g2 wr hb2
        have G3 := g3 wr hb2
        have G4 := g4 wr hb2
        have G5 := g5 wr hb2
        have G6 := g6 wr hb2
        have G7 := g7 wr hb2
        obtain ⟨e1, e2⟩ := hek
        clear hk3 hq3 g0 g1 g2 g3 g4 g5 g6 g7
        have hnb := World.alloc_heap_new wr (.cells #[.int .i64 op, .slice As2 set.length cs2, .slice Ak kids.length ck, .int .i64 mn, .int .i64 mx, .bool lz, .int .i64 gr, .int .i64 lk] 80)
        have HX1 := Lib.hid (hb2.trans (show Below B wr ((wr.alloc (.cells #[.int .i64 op, .slice As2 set.length cs2, .slice Ak kids.length ck, .int .i64 mn, .int .i64 mx, .bool lz, .int .i64 gr, .int .i64 lk] 80)).alloc (.cells #[] 96)) from ((Below.refl B wr).alloc (by omega) _).alloc (by simp; omega) _))
        have hnb1 := (Below.heap_alloc (wr.alloc (.cells #[.int .i64 op, .slice As2 set.length cs2, .slice Ak kids.length ck, .int .i64 mn, .int .i64 mx, .bool lz, .int .i64 gr, .int .i64 lk] 80)) (.cells #[] 96) _ (by simp : wr.heap.size < (wr.alloc (.cells #[.int .i64 op, .slice As2 set.length cs2, .slice Ak kids.length ck, .int .i64 mn, .int .i64 mx, .bool lz, .int .i64 gr, .int .i64 lk] 80)).heap.size)).trans hnb
        have HNB1 := Lib.hid hnb1
        have hO1 : ((wr.alloc (.cells #[.int .i64 op, .slice As2 set.length cs2, .slice Ak kids.length ck, .int .i64 mn, .int .i64 mx, .bool lz, .int .i64 gr, .int .i64 lk] 80)).alloc (.cells #[] 96)).ownsRow (w.heap.size + 2) 96 2 (.slice (some ⟨wr.heap.size + 1, 0, none⟩) 0 0) 0 [] := by
          have h := World.ownsRow_made (base := w.heap.size + 2) (e := 96) (size := 2) (wr.alloc (.cells #[.int .i64 op, .slice As2 set.length cs2, .slice Ak kids.length ck, .int .i64 mn, .int .i64 mx, .bool lz, .int .i64 gr, .int .i64 lk] 80)) #[] 0 (by simp; omega) (Nat.zero_le _) rfl
          rwa [World.size_alloc] at h
        have HO1 := Lib.hid hO1
        have hK1 : NKept (w.heap.size + 2) bx wr ((wr.alloc (.cells #[.int .i64 op, .slice As2 set.length cs2, .slice Ak kids.length ck, .int .i64 mn, .int .i64 mx, .bool lz, .int .i64 gr, .int .i64 lk] 80)).alloc (.cells #[] 96)) := NKept.of_below hszr (((Below.refl _ _).alloc (Nat.le_refl _) _).alloc (by simp) _)
        have HK1 := Lib.hid hK1
        clear hnb hnb1 hO1 hK1
        have HB1 := Lib.hid (show Below wr.heap.size wr ((wr.alloc (.cells #[.int .i64 op, .slice As2 set.length cs2, .slice Ak kids.length ck, .int .i64 mn, .int .i64 mx, .bool lz, .int .i64 gr, .int .i64 lk] 80)).alloc (.cells #[] 96)) from ((Below.refl _ _).alloc (Nat.le_refl _) _).alloc (by simp) _)
        have hlr : w.heap.size < wr.heap.size := by omega
        go_wp2_with (first
          | (at_builtin; refine wpList_append_src (by rfl) _ _ 45 (by rfl) (w.heap.size + 2) 96 ir _ 2 8 Tryd.underlying45 hir hr0 hr1 hr2 rfl (by decide) _ 0 [] (by rfl) (by exact HO1.out) set.length (rngCells set) (by exact HS.out.srcR HX1.out) (by unfold maxLen; omega) (by omega) (by simp; omega) ?_; intro v1 w2 hown1 hgr1 hat1; obtain ⟨A1, c1, rfl⟩ := own_form hown1; simp only [Nat.zero_add, List.nil_append] at hown1 ⊢; have hg1 : World.grownBy _ w2 (some (wr.heap.size + 1)) := hgr1; have nbk := box_kept hg1 HNB1.out (by simp); have hbw2 : Below wr.heap.size wr w2 := HB1.out.grown hg1 (by simp; omega) (fun k e => by cases e; omega); have hs2 : wr.heap.size + 2 ≤ w2.heap.size := (by have h := hg1.size; simpa using h); have nf1 : w2.frozen? ⟨wr.heap.size, 1, none⟩ = false := (by simp [World.frozen?, nbk]); have nf2 : w2.frozen? ⟨wr.heap.size, 2, none⟩ = false := (by simp [World.frozen?, nbk]); have nd1 : w2.cell? ⟨wr.heap.size, 1, none⟩ = some (.slice As2 set.length cs2) := (by simp [World.cell?, nbk]); have nd2 : w2.cell? ⟨wr.heap.size, 2, none⟩ = some (.slice Ak kids.length ck) := (by simp [World.cell?, nbk]); have hlw2 : wr.heap.size < w2.heap.size := (by omega); have NB2 := Lib.hid (cells_set nbk 1 (.slice A1 set.length c1)); have HOWN1 := Lib.hid hown1; have HBW2 := Lib.hid hbw2; have HNBK := Lib.hid nbk; have HO2 := Lib.hid (show ((w2.setCell ⟨wr.heap.size, 1, none⟩ (.slice A1 set.length c1)).alloc (.cells #[] 3)).ownsRow (w.heap.size + 2) 3 1 (.slice (some ⟨w2.heap.size, 0, none⟩) 0 0) 0 [] from (by have h := World.ownsRow_made (base := w.heap.size + 2) (e := 3) (size := 1) (w2.setCell ⟨wr.heap.size, 1, none⟩ (.slice A1 set.length c1)) #[] 0 (by simp; omega) (Nat.zero_le _) rfl; simpa using h)); have HX2 := Lib.hid (show Below wr.heap.size wr ((w2.setCell ⟨wr.heap.size, 1, none⟩ (.slice A1 set.length c1)).alloc (.cells #[] 3)) from (hbw2.setCell (Nat.le_refl _) _).alloc (by simp; omega) _); clear hown1 hgr1 hat1 nbk hbw2)
          | (at_builtin; refine wpList_append_src (by rfl) _ _ 74 (by rfl) (w.heap.size + 2) 3 ii _ 1 8 Tryd.underlying74 hii hi0 hi1 hi2 rfl (by decide) _ 0 [] (by rfl) (by exact HO2.out) kids.length (kids.map (Value.int .i64)) (by exact HK.out.srcI (hb2.trans (HX2.out.mono (by omega)))) (by unfold maxLen; omega) (by omega) (by simp; omega) ?_; intro v2 w3 hown2 hgr2 hat2; obtain ⟨A2, c2, rfl⟩ := own_form hown2; simp only [Nat.zero_add, List.nil_append] at hown2 ⊢; have hg2 : World.grownBy _ w3 (some w2.heap.size) := hgr2; have nbk3 := box_kept hg2 ((Below.heap_alloc _ _ _ (by simp; omega)).trans NB2.out) (by simp; omega); have hbw3 : Below wr.heap.size wr w3 := HX2.out.grown hg2 (by simp; omega) (fun k e => by cases e; omega); have hs3 : w2.heap.size + 1 ≤ w3.heap.size := (by have h := hg2.size; simpa using h); have nf3 : w3.frozen? ⟨wr.heap.size, 2, none⟩ = false := (by simp [World.frozen?, nbk3]); have nd3 : w3.cell? ⟨wr.heap.size, 2, none⟩ = some (.slice Ak kids.length ck) := (by simp [World.cell?, nbk3]); have hlw3 : wr.heap.size < w3.heap.size := (by omega); have NB3 := Lib.hid (cells_set nbk3 2 (.slice A2 kids.length c2)); have HOWN2 := Lib.hid hown2; have HBW3 := Lib.hid hbw3; have HNBK3 := Lib.hid nbk3; have HG2 := Lib.hid hg2; have HBW4 := Lib.hid (show Below wr.heap.size wr (w3.setCell ⟨wr.heap.size, 2, none⟩ (.slice A2 kids.length c2)) from hbw3.setCell (Nat.le_refl _) _); have bd0 : (w3.setCell ⟨wr.heap.size, 2, none⟩ (.slice A2 kids.length c2)).cell? ⟨bx, 0, none⟩ = some (.slice An k cn) := (by rw [cell_of_row _ _ _ _ _ _ ((HBW4.out.block bx hbxlt).trans HBXR.out)]; rfl); have ce0 : (w3.setCell ⟨wr.heap.size, 2, none⟩ (.slice A2 kids.length c2)).cell? ⟨wr.heap.size, 0, none⟩ = some (.int .i64 op) := (by rw [cell_of_row _ _ _ _ _ _ NB3.out]; rfl); have ce1 : (w3.setCell ⟨wr.heap.size, 2, none⟩ (.slice A2 kids.length c2)).cell? ⟨wr.heap.size, 1, none⟩ = some (.slice A1 set.length c1) := (by rw [cell_of_row _ _ _ _ _ _ NB3.out]; rfl); have ce2 : (w3.setCell ⟨wr.heap.size, 2, none⟩ (.slice A2 kids.length c2)).cell? ⟨wr.heap.size, 2, none⟩ = some (.slice A2 kids.length c2) := (by rw [cell_of_row _ _ _ _ _ _ NB3.out]; rfl); have ce3 : (w3.setCell ⟨wr.heap.size, 2, none⟩ (.slice A2 kids.length c2)).cell? ⟨wr.heap.size, 3, none⟩ = some (.int .i64 mn) := (by rw [cell_of_row _ _ _ _ _ _ NB3.out]; rfl); have ce4 : (w3.setCell ⟨wr.heap.size, 2, none⟩ (.slice A2 kids.length c2)).cell? ⟨wr.heap.size, 4, none⟩ = some (.int .i64 mx) := (by rw [cell_of_row _ _ _ _ _ _ NB3.out]; rfl); have ce5 : (w3.setCell ⟨wr.heap.size, 2, none⟩ (.slice A2 kids.length c2)).cell? ⟨wr.heap.size, 5, none⟩ = some (.bool lz) := (by rw [cell_of_row _ _ _ _ _ _ NB3.out]; rfl); have ce6 : (w3.setCell ⟨wr.heap.size, 2, none⟩ (.slice A2 kids.length c2)).cell? ⟨wr.heap.size, 6, none⟩ = some (.int .i64 gr) := (by rw [cell_of_row _ _ _ _ _ _ NB3.out]; rfl); have ce7 : (w3.setCell ⟨wr.heap.size, 2, none⟩ (.slice A2 kids.length c2)).cell? ⟨wr.heap.size, 7, none⟩ = some (.int .i64 lk) := (by rw [cell_of_row _ _ _ _ _ _ NB3.out]; rfl); have HROW4 := Lib.hid (own_below HROW.out HBW4.out); have HNEW := Lib.hid (show ∀ (j : Nat) (u : Value), ([.int .i64 op, .slice A1 set.length c1, .slice A2 kids.length c2, .int .i64 mn, .int .i64 mx, .bool lz, .int .i64 gr, .int .i64 lk] : List Value)[j]? = some u → ((w3.setCell ⟨wr.heap.size, 2, none⟩ (.slice A2 kids.length c2)).alloc (.cells #[.int .i64 op, .slice A1 set.length c1, .slice A2 kids.length c2, .int .i64 mn, .int .i64 mx, .bool lz, .int .i64 gr, .int .i64 lk] 80)).cell? ((⟨w3.heap.size, 0, none⟩ : Addr).add j) = some u from (by have hz : (w3.setCell ⟨wr.heap.size, 2, none⟩ (.slice A2 kids.length c2)).heap.size = w3.heap.size := (by simp); rw [← hz]; exact World.news_of_block (World.alloc_heap_new _ _))); have HBX4 := Lib.hid (show ((w3.setCell ⟨wr.heap.size, 2, none⟩ (.slice A2 kids.length c2)).alloc (.cells #[.int .i64 op, .slice A1 set.length c1, .slice A2 kids.length c2, .int .i64 mn, .int .i64 mx, .bool lz, .int .i64 gr, .int .i64 lk] 80)).heap[bx]? = some (.cells #[.slice An k cn, .slice Av names.length cv, .bool raw] 35 (0, 0)) from (Below.heap_alloc _ _ _ (by have h := HBW4.out.size; omega)).trans ((HBW4.out.block bx hbxlt).trans HBXR.out)); clear hown2 hgr2 hat2 nbk3 hbw3)
          | (at_builtin; refine wpList_append_own_at _ (by rfl) _ _ 32 (by rfl) (w.heap.size + 2) 80 ino _ 8 96 Tryd.underlying32 hin hn0 hn1 hn2 rfl (by decide) _ k (L.flatMap NV.cells) (by rfl) (by exact HROW4.out.alloc _) ⟨w3.heap.size, 0, none⟩ 1 1 [.int .i64 op, .slice A1 set.length c1, .slice A2 kids.length c2, .int .i64 mn, .int .i64 mx, .bool lz, .int .i64 gr, .int .i64 lk] (by rfl) (by rfl) (by exact HNEW.out) (by intro u hu; simp only [List.mem_cons, List.not_mem_nil, or_false] at hu; rcases hu with rfl | rfl | rfl | rfl | rfl | rfl | rfl | rfl <;> rfl) (by unfold maxLen; omega) (by omega) (by simp; omega) ?_; intro v3 w4 hown3 hgr3 _ hat3; obtain ⟨A3, c3, rfl⟩ := own_form hown3; have hg3 : World.grownBy ((w3.setCell ⟨wr.heap.size, 2, none⟩ (.slice A2 kids.length c2)).alloc (.cells #[.int .i64 op, .slice A1 set.length c1, .slice A2 kids.length c2, .int .i64 mn, .int .i64 mx, .bool lz, .int .i64 gr, .int .i64 lk] 80)) w4 (Value.slice An k cn).ownBlock := hgr3; have bxk := box_kept hg3 HBX4.out (fun e => own_ne_box (HROW4.out.alloc _) HBX4.out (by decide) e.symm); have bf4 : w4.frozen? ⟨bx, 0, none⟩ = false := (by simp [World.frozen?, bxk]); have bd4 : w4.cell? ⟨bx, 0, none⟩ = some (.slice An k cn) := (by simp [World.cell?, bxk]); have BXK := Lib.hid bxk; have HOWN3 := Lib.hid hown3; have HG3 := Lib.hid hg3; clear hown3 hgr3 hat3 bxk))
        go_roundw
        case rel =>
          have hs4 := HG3.out.size
          simp at hs4
          have k1 : NKept (w.heap.size + 2) bx wr ((w3.setCell ⟨wr.heap.size, 2, none⟩ (.slice A2 kids.length c2)).alloc (.cells #[.int .i64 op, .slice A1 set.length c1, .slice A2 kids.length c2, .int .i64 mn, .int .i64 mx, .bool lz, .int .i64 gr, .int .i64 lk] 80)) := NKept.of_below hszr (HBW4.out.alloc (by have := HBW4.out.size; omega) _)
          have k2 := (k1.trans (nkept_grown (by have := k1.below.size; omega) (HROW4.out.alloc _) HG3.out)).trans (nkept_box hbxl 0 (.slice A3 (k + 1) c3))
          have o1 : ((w3.setCell ⟨wr.heap.size, 2, none⟩ (.slice A2 kids.length c2)).alloc (.cells #[.int .i64 op, .slice A1 set.length c1, .slice A2 kids.length c2, .int .i64 mn, .int .i64 mx, .bool lz, .int .i64 gr, .int .i64 lk] 80)).ownsRow (w.heap.size + 2) 96 2 (.slice A1 set.length c1) set.length (rngCells set) := by
            have a1 := (ownsRow_setCell_other HOWN1.out (a := ⟨wr.heap.size, 1, none⟩) (own_ne_box HOWN1.out HNBK.out (by decide)) (.slice A1 set.length c1)).alloc (.cells #[] 3)
            have a2 := a1.kept HG2.out (Or.inr (fun e => by have := (HOWN1.out.lt _ e).2; omega))
            exact (ownsRow_setCell_other a2 (a := ⟨wr.heap.size, 2, none⟩) (own_ne_box a2 HNBK3.out (by decide)) (.slice A2 kids.length c2)).alloc _
          have o2 : ((w3.setCell ⟨wr.heap.size, 2, none⟩ (.slice A2 kids.length c2)).alloc (.cells #[.int .i64 op, .slice A1 set.length c1, .slice A2 kids.length c2, .int .i64 mn, .int .i64 mx, .bool lz, .int .i64 gr, .int .i64 lk] 80)).ownsRow (w.heap.size + 2) 3 1 (.slice A2 kids.length c2) kids.length (kids.map (Value.int .i64)) :=
            (ownsRow_setCell_other HOWN2.out (a := ⟨wr.heap.size, 2, none⟩) (own_ne_box HOWN2.out HNBK3.out (by decide)) (.slice A2 kids.length c2)).alloc _
          have k3 := (nkept_grown (bx := bx) (by have := k1.below.size; omega) (HROW4.out.alloc (.cells #[.int .i64 op, .slice A1 set.length c1, .slice A2 kids.length c2, .int .i64 mn, .int .i64 mx, .bool lz, .int .i64 gr, .int .i64 lk] 80)) HG3.out).trans (nkept_box hbxl 0 (.slice A3 (k + 1) c3))
          have o1' := own_nkept o1 k3 (by decide) (own_ne_box o1 HBX4.out (by decide))
          have o2' := own_nkept o2 k3 (by decide) (own_ne_box o2 HBX4.out (by decide))
          refine ⟨k + 1, L ++ [⟨op, .slice A1 set.length c1, .slice A2 kids.length c2, mn, mx, lz, gr, lk⟩], .slice A3 (k + 1) c3, by omega, by go_num, cells_set BXK.out 0 _, by simp [hLk], ?_, ?_, own_nkept HNMR.out k2 (by decide) (own_ne_box HNMR.out HBXR.out (by decide)), hbr.trans k2.below⟩
          · have := ownsRow_setCell_other HOWN3.out (a := ⟨bx, 0, none⟩) (own_ne_box HOWN3.out BXK.out (by decide)) (.slice A3 (k + 1) c3)
            rw [List.flatMap_append]
            exact this
          · rw [HTK.out]
            exact (HNS.out.kept k2 HBXR.out).snoc ⟨rfl, ⟨_, _, rfl, o1'⟩, ⟨_, _, rfl, o2'⟩, rfl, rfl, rfl, rfl, rfl⟩
        case measure => simp [intOf]; omega
      · obtain rfl : k = nodes.length := by omega
        have hc0 : wr.cell? ⟨bx, 0, none⟩ = some (.slice An nodes.length cn) := by rw [cell_of_row _ _ _ _ _ _ HBXR.out]; rfl
        have hc1 : wr.cell? ⟨bx, 1, none⟩ = some (.slice Av names.length cv) := by rw [cell_of_row _ _ _ _ _ _ HBXR.out]; rfl
        have hc2 : wr.cell? ⟨bx, 2, none⟩ = some (.bool raw) := by rw [cell_of_row _ _ _ _ _ _ HBXR.out]; rfl
        have hR := (hbr.block (w.heap.size + 1) (by omega)).trans HR1.out
        have r0 : wr.cell? ⟨w.heap.size + 1, 0, none⟩ = some (.slice none 0 0) := by rw [cell_of_row _ _ _ _ _ _ hR]; rfl
        have r1 : wr.cell? ⟨w.heap.size + 1, 1, none⟩ = some (.slice none 0 0) := by rw [cell_of_row _ _ _ _ _ _ hR]; rfl
        have r2 : wr.cell? ⟨w.heap.size + 1, 2, none⟩ = some (.bool false) := by rw [cell_of_row _ _ _ _ _ _ hR]; rfl
        have s0 : wr.frozen? ⟨w.heap.size + 1, 0, none⟩ = false := by simp [World.frozen?, hR]
        have s1 : wr.frozen? ⟨w.heap.size + 1, 1, none⟩ = false := by simp [World.frozen?, hR]
        have s2 : wr.frozen? ⟨w.heap.size + 1, 2, none⟩ = false := by simp [World.frozen?, hR]
        have HRR := Lib.hid hR
        have hns := HNS.out
        rw [List.take_of_length_le (Nat.le_refl _)] at hns
        have HNS2 := Lib.hid hns
        have HBRR := Lib.hid hbr
        clear hns hR
        go_wp2
        have c1 := cells_set (cells_set (cells_set HRR.out 0 (.slice An nodes.length cn)) 1 (.slice Av names.length cv)) 2 (.bool raw)
        have hlt1 : w.heap.size + 1 < w.heap.size + 2 := by omega
        refine bodyPost_ret (results_one rfl _ _ (w.heap.size + 1) 35 #[.slice An nodes.length cn, .slice Av names.length cv, .bool raw] (0, 0) _ rfl c1 Tryd.underlying35 rfl (by kernel_rfl)) rfl ⟨.slice An nodes.length cn, .slice Av names.length cv, rfl, ⟨?_, ?_⟩, ?_⟩
        · have ho := ownsRow_setCell_below (ownsRow_setCell_below (ownsRow_setCell_below HROW.out (a := ⟨w.heap.size + 1, 0, none⟩) hlt1 (.slice An nodes.length cn)) (a := ⟨w.heap.size + 1, 1, none⟩) hlt1 (.slice Av names.length cv)) (a := ⟨w.heap.size + 1, 2, none⟩) hlt1 (.bool raw)
          rw [← hLk] at ho
          rw [← hLk]
          exact nodes_sl ho (((HNS2.out.set (p := ⟨w.heap.size + 1, 0, none⟩) hlt1 _).set (p := ⟨w.heap.size + 1, 1, none⟩) hlt1 _).set (p := ⟨w.heap.size + 1, 2, none⟩) hlt1 _)
        · have hs : StrRd (w.heap.size + 2) wr (.slice Av names.length cv) names := ⟨_, _, rfl, (own_cap HNMR.out).1, HNMR.out⟩
          exact (((hs.set (p := ⟨w.heap.size + 1, 0, none⟩) hlt1 _).set (p := ⟨w.heap.size + 1, 1, none⟩) hlt1 _).set (p := ⟨w.heap.size + 1, 2, none⟩) hlt1 _).sl
        · exact (((hb1.trans (HBRR.out.mono (by omega))).setCell (by simp) _).setCell (by simp) _).setCell (by simp) _
end Go.Proofs.YtmbboianghbjkaaDoor

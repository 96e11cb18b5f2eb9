import Derived.Test.YtmbboianghbjkaaDoorRound
namespace Go.Proofs.YtmbboianghbjkaaDoor
open Go.RowKit Go.Shelf
set_option linter.unusedVariables false
set_option linter.unusedSimpArgs false
attribute [local go_sem] bl_refl bl_alloc bl_a2 bl_a3 bl_a4 bl_a5 bl_set bl_drew bl_drewN le_add_r lt_add_r addr_add

/-- What is still to come: c rounds, then the least number of parts. -/
def restR (kid : Nat → Int → Int → Nat → List Inst × Int) (k : Nat) (lz : Bool) (next level : Int) (mn : Nat) (c : Nat) (b : Int) (m : Nat) : List Inst × Int :=
  let r := timesR kid k lz next level c b m
  let n := timesN kid k level mn r.2 (m + r.1.length)
  (r.1 ++ n.1, n.2)
theorem restR_zero (kid : Nat → Int → Int → Nat → List Inst × Int) (k : Nat) (lz : Bool) (next level : Int) (mn : Nat) (b : Int) (m : Nat) : restR kid k lz next level mn 0 b m = timesN kid k level mn b m := by
  simp [restR, timesR]
theorem restR_succ (kid : Nat → Int → Int → Nat → List Inst × Int) (k : Nat) (lz : Bool) (next level : Int) (mn c : Nat) (b : Int) (m : Nat) :
    restR kid k lz next level mn (c + 1) b m = ((roundF kid k lz next b level m).1 ++ (restR kid k lz next level mn c (roundF kid k lz next b level m).2 (m + (roundF kid k lz next b level m).1.length)).1, (restR kid k lz next level mn c (roundF kid k lz next b level m).2 (m + (roundF kid k lz next b level m).1.length)).2) := by
  simp [restR, timesR, List.append_assoc, Nat.add_assoc]
theorem timesN_succ (kid : Nat → Int → Int → Nat → List Inst × Int) (k : Nat) (level : Int) (c : Nat) (b : Int) (m : Nat) :
    timesN kid k level (c + 1) b m = ((kid k b (level + 1) m).1 ++ (timesN kid k level c (kid k b (level + 1) m).2 (m + (kid k b (level + 1) m).1.length)).1, (timesN kid k level c (kid k b (level + 1) m).2 (m + (kid k b (level + 1) m).1.length)).2) := rfl
theorem repF_rest (kid : Nat → Int → Int → Nat → List Inst × Int) (k : Nat) (n : Node) (next level : Int) (m : Nat) :
    repF kid k n next level m = if n.max < 0 then ((roundF kid k n.lzy next (-1) level m).1 ++ (restR kid k n.lzy next level n.min.toNat (n.max - n.min).toNat (roundF kid k n.lzy next (-1) level m).2 (m + (roundF kid k n.lzy next (-1) level m).1.length)).1, (restR kid k n.lzy next level n.min.toNat (n.max - n.min).toNat (roundF kid k n.lzy next (-1) level m).2 (m + (roundF kid k n.lzy next (-1) level m).1.length)).2)
      else restR kid k n.lzy next level n.min.toNat (n.max - n.min).toNat next m := by
  unfold repF restR
  by_cases h : n.max < 0
  · simp only [if_pos h]
    simp [List.append_assoc, Nat.add_assoc]
  · simp only [if_neg h]
    simp

theorem row8 {W : World} {q : Nat} {a0 a1 a2 a3 a4 a5 a6 a7 : Value} {t : TypeId} {r : Nat × Nat} (h : W.heap[q]? = some (.cells #[a0, a1, a2, a3, a4, a5, a6, a7] t r)) :
    W.cell? ⟨q, 0, none⟩ = some a0 ∧ W.cell? ⟨q, 1, none⟩ = some a1 ∧ W.cell? ⟨q, 2, none⟩ = some a2 ∧ W.cell? ⟨q, 3, none⟩ = some a3 ∧ W.cell? ⟨q, 4, none⟩ = some a4 ∧ W.cell? ⟨q, 5, none⟩ = some a5 ∧ W.cell? ⟨q, 6, none⟩ = some a6 ∧ W.cell? ⟨q, 7, none⟩ = some a7 := by
  simp [World.cell?, h]
set_option maxRecDepth 100000 in
set_option maxHeartbeats 4000000 in
/-- Both loops, from wherever the first begins. -/
theorem repeat_any (base mk B b o c : Nat) (nodes : List Node) (v : Value) (L : List IV) (w0 w : World) (kid : Nat → Int → Int → Nat → List Inst × Int) (k0 : Nat) (next level : Int) (op mn mx gr lk : Int) (lz : Bool) (sv : Value) (Ak : Option Addr) (ck : Nat) (nd : Node)
    (hM : MArg base mk B b o c nodes v L w0 w) (hkd : ∀ W', Below B w0 W' → ∃ bk ok, Ak = some ⟨bk, ok, none⟩ ∧ W'.cell? ⟨bk, ok, none⟩ = some (.int .i64 k0)) (hsv : sv.oneCell' = true) (hK : Hid (mx ≠ 0 → KidC base mk B b o c nodes w0 kid k0)) (hlv : 0 ≤ level) (hlv2 : level + 1 + (k0 : Int) ≤ 4000)
    (hmn : nd.min = mn) (hmx : nd.max = mx) (hlz : nd.lzy = lz) (b1 : 0 ≤ mn) (b2 : mn ≤ 200) (b3 : -1 ≤ mx) (b4 : mx ≤ 200) (b5 : Hid (mn ≤ mx ∨ mx = -1))
    (hL : L.length + (repF kid k0 nd next level L.length).1.length + k0 * 400000000 ≤ 1000000000000) :
    Calls Tryd.prog 78 #[.pointer (some ⟨mk, 0, none⟩), .agg #[.int .i64 op, sv, .slice Ak 1 ck, .int .i64 mn, .int .i64 mx, .bool lz, .int .i64 gr, .int .i64 lk], .int .i64 next, .int .i64 level] w
      (Lays base mk (.slice (some ⟨b, o, none⟩) nodes.length c) L (repF kid k0 nd next level L.length).1 (repF kid k0 nd next level L.length).2 w) := by
  have hml := hM.at_.lt
  have hbase : base ≤ w.heap.size := by have := hM.at_.le; omega
  have hrr := repF_rest kid k0 nd next level L.length
  rw [hmn, hmx, hlz] at hrr
  generalize repF kid k0 nd next level L.length = RF at *
  have H := Lib.hid hM
  have HKD := Lib.hid hkd
  have HRR := Lib.hid hrr
  clear hM hkd hmn hmx hlz hrr
  obtain ⟨W, hW⟩ : ∃ W, W = w.alloc (.cells #[.int .i64 op, sv, .slice Ak 1 ck, .int .i64 mn, .int .i64 mx, .bool lz, .int .i64 gr, .int .i64 lk] 80) := ⟨_, rfl⟩
  have hbW : Below w.heap.size w W := by rw [hW]; exact (Below.refl _ _).alloc (by simp) _
  have hox : W.heap[w.heap.size]? = some (.cells #[.int .i64 op, sv, .slice Ak 1 ck, .int .i64 mn, .int .i64 mx, .bool lz, .int .i64 gr, .int .i64 lk] 80 (0, 0)) := by rw [hW]; exact World.alloc_heap_new w _
  have HM1 := Lib.hid (H.out.under hbW)
  have HKW := Lib.hid (MkKept.of_below (mk := mk) hbase hbW)
  have HOX := Lib.hid hox
  clear hox hbW
  go_enter Tryd.func78, Tryd.ntmps78
  go_upto_if 13 with (fail)
  rw [← hW]
  clear hW
  go_cut [9] (fun v9 wc => ∃ (bg : Int) (v' : Value) (M : List IV) (done : List Inst), v9 = .int .i64 bg ∧ Hid (MArg base mk B b o c nodes v' (L ++ M) w0 wc) ∧ Hid (IsRd base wc M done) ∧ Hid (MkKept base mk w wc) ∧ Hid (wc.heap[w.heap.size]? = some (.cells #[.int .i64 op, sv, .slice Ak 1 ck, .int .i64 mn, .int .i64 mx, .bool lz, .int .i64 gr, .int .i64 lk] 80 (0, 0))) ∧
    Hid (RF = (done ++ (restR kid k0 lz next level mn.toNat (mx - mn).toNat bg (L.length + done.length)).1, (restR kid k0 lz next level mn.toNat (mx - mn).toNat bg (L.length + done.length)).2)))
  case first =>
    obtain ⟨x0, x1, x2, x3, x4, x5, x6, x7⟩ := row8 HOX.out
    by_cases hx : mx < 0
    · have hrr := HRR.out
      rw [if_pos hx] at hrr
      have hL2 : L.length + (roundF kid k0 lz next (-1) level L.length).1.length + k0 * 400000000 ≤ 1000000000000 := by
        rw [hrr] at hL
        simp only [List.length_append] at hL
        omega
      go_wp2_with fail
      refine (round_any base mk B b o c nodes v L w0 _ kid k0 next (-1) level op mn mx gr lk lz sv Ak ck HM1.out HKD.out hsv (hK.out (by omega)) hlv hlv2 hL2).mono ?_
      have HL2 := Lib.hid hrr
      clear hrr hL2
      generalize roundF kid k0 lz next (-1) level L.length = rr at *
      obtain ⟨rl, rb⟩ := rr
      dsimp only
      rintro e w1 ⟨rfl, v1, M1, hm1, hi1, hk1⟩
      go_wp2
      go_meet
      case rel => exact ⟨rb, v1, M1, rl, rfl, Lib.hid (HM1.out.on hk1 hm1), Lib.hid hi1, Lib.hid (HKW.out.trans hk1), Lib.hid (hk1.other _ _ HOX.out (by omega) (fun _ _ e => by cases e)), HL2⟩
    · go_wp2
      go_meet
      case rel => exact ⟨next, v, [], [], rfl, by simpa using HM1, Lib.hid (IsRd.nil _ _), HKW, HOX, Lib.hid (by rw [HRR.out, if_neg (show ¬ mx < 0 by omega)]; simp)⟩
  case rest =>
    obtain ⟨bg, v1, M1, d1, rfl, HA, HI, HK, HO, HR⟩ := hcut
    clear HM1 HKW HOX HRR H
    obtain ⟨x0, x1, x2, x3, x4, x5, x6, x7⟩ := row8 HO.out
    go_wp2_with fail
    obtain ⟨C, hC⟩ : ∃ C, C = (mx - mn).toNat := ⟨_, rfl⟩
    have hCi : (mx - mn : Int) ≤ (C : Int) := by omega
    have hCj : ∀ j : Nat, j < C → (j : Int) < mx - mn := fun j h => by omega
    have hC2 : C ≤ 201 := by omega
    rw [← hC] at HR
    have HCJ := Lib.hid hCj
    have HCE := Lib.hid (show ∀ j : Nat, C ≤ j → mx - mn ≤ (j : Int) from fun j h => by omega)
    clear hC hCj x0 x1 x2 x3 x4 x5 x6 x7
    go_loopw [9, 24] (fun v9 v24 wr => ∃ (j : Nat) (bg : Int) (v' : Value) (M : List IV) (done : List Inst), j ≤ C ∧ v24 = .int .i64 j ∧ v9 = .int .i64 bg ∧ Hid (MArg base mk B b o c nodes v' (L ++ M) w0 wr) ∧ Hid (IsRd base wr M done) ∧ Hid (MkKept base mk w wr) ∧ Hid (wr.heap[w.heap.size]? = some (.cells #[.int .i64 op, sv, .slice Ak 1 ck, .int .i64 mn, .int .i64 mx, .bool lz, .int .i64 gr, .int .i64 lk] 80 (0, 0))) ∧
      Hid (RF = (done ++ (restR kid k0 lz next level mn.toNat (C - j) bg (L.length + done.length)).1, (restR kid k0 lz next level mn.toNat (C - j) bg (L.length + done.length)).2))) (fun _ v24 _ => C - (intOf v24).toNat)
    case atStart => exact ⟨0, bg, v1, M1, d1, by omega, rfl, rfl, HA, HI, HK, HO, HR⟩
    case round =>
      clear HA HI HK HO HR
      obtain ⟨j, bg2, v2, M2, d2, hj, rfl, rfl, HA, HI, HK, HO, HR⟩ := hrel
      obtain ⟨x0, x1, x2, x3, x4, x5, x6, x7⟩ := row8 HO.out
      by_cases hjc : j < C
      · have hji := HCJ.out j hjc
        have hrr := HR.out
        rw [show C - j = (C - (j + 1)) + 1 by omega, restR_succ] at hrr
        have hdl := HI.out.1
        have hLM : (L ++ M2).length = L.length + d2.length := by simp; omega
        have hL2 : (L ++ M2).length + (roundF kid k0 lz next bg2 level (L ++ M2).length).1.length + k0 * 400000000 ≤ 1000000000000 := by
          rw [hLM]
          rw [hrr] at hL
          simp only [List.length_append] at hL
          omega
        have hrd := round_any base mk B b o c nodes v2 (L ++ M2) w0 wr kid k0 next bg2 level op mn mx gr lk lz sv Ak ck HA.out HKD.out hsv (hK.out (by omega)) hlv hlv2 hL2
        rw [hLM] at hrd
        clear hL2
        generalize roundF kid k0 lz next bg2 level (L.length + d2.length) = rr at *
        obtain ⟨rl, rb⟩ := rr
        dsimp only at hrd hrr
        have HRD := Lib.hid hrd
        have HRR := Lib.hid hrr
        clear hrd hrr hLM hdl
        go_wp2_with fail
        refine HRD.out.mono ?_
        rintro e w1 ⟨rfl, v3, M3, hm3, hi3, hk3⟩
        have HN := Lib.hid (HA.out.on hk3 hm3)
        have HN2 := Lib.hid ((HI.out.kept hk3 HA.out.at_.is).app hi3)
        have HN3 := Lib.hid (HK.out.trans hk3)
        have HN4 := Lib.hid (hk3.other _ _ HO.out (by omega) (fun _ _ e => by cases e))
        clear hm3 hi3 hk3
        go_wp2
        go_roundw
        case rel => exact ⟨j + 1, rb, v3, M2 ++ M3, d2 ++ rl, by omega, by go_num, rfl, by rw [← List.append_assoc]; exact HN, HN2, HN3, HN4, Lib.hid (by rw [HRR.out]; simp [List.append_assoc, Nat.add_assoc])⟩
        case measure => simp [intOf]; omega
      · have hji := HCE.out j (by omega)
        have hrr := HR.out
        rw [show C - j = 0 by omega, restR_zero] at hrr
        have HR2 := Lib.hid hrr
        clear HR hrr
        go_wp2_with fail
        clear x0 x1 x2 x3 x4 x5 x6 x7
        obtain ⟨wo, rfl⟩ : ∃ wo : World, wo = wr := ⟨_, rfl⟩
        go_loopw [9, 35] (fun v9 v35 wr => ∃ (j : Nat) (bg : Int) (v' : Value) (M : List IV) (done : List Inst), (j : Int) ≤ mn ∧ v35 = .int .i64 j ∧ v9 = .int .i64 bg ∧ Hid (MArg base mk B b o c nodes v' (L ++ M) w0 wr) ∧ Hid (IsRd base wr M done) ∧ Hid (MkKept base mk w wr) ∧ Hid (wr.heap[w.heap.size]? = some (.cells #[.int .i64 op, sv, .slice Ak 1 ck, .int .i64 mn, .int .i64 mx, .bool lz, .int .i64 gr, .int .i64 lk] 80 (0, 0))) ∧
          Hid (RF = (done ++ (timesN kid k0 level (mn.toNat - j) bg (L.length + done.length)).1, (timesN kid k0 level (mn.toNat - j) bg (L.length + done.length)).2))) (fun _ v35 _ => mn.toNat - (intOf v35).toNat)
        case atStart => exact ⟨0, bg2, v2, M2, d2, by omega, rfl, rfl, HA, HI, HK, HO, HR2⟩
        case round =>
          clear HA HI HK HO HR2
          obtain ⟨i, bg3, v3, M3, d3, hi, rfl, rfl, HA, HI, HK, HO, HR⟩ := hrel
          obtain ⟨x0, x1, x2, x3, x4, x5, x6, x7⟩ := row8 HO.out
          by_cases hic : (i : Int) < mn
          · have hrr := HR.out
            rw [show mn.toNat - i = (mn.toNat - (i + 1)) + 1 by omega, timesN_succ] at hrr
            have hdl := HI.out.1
            have hLM : (L ++ M3).length = L.length + d3.length := by simp; omega
            obtain ⟨bk, ok, rfl, hkc⟩ := HKD.out _ HA.out.below
            have hkk := hK.out (by have := b5.out; omega) v3 (L ++ M3) _ bg3 (level + 1) HA.out (by omega) (by omega)
            rw [hLM] at hkk
            generalize kid k0 bg3 (level + 1) (L.length + d3.length) = rr at *
            obtain ⟨rl, rb⟩ := rr
            dsimp only at hkk hrr
            have HRD := Lib.hid (hkk (by
              rw [hrr] at hL
              simp only [List.length_append] at hL
              omega))
            have HRR := Lib.hid hrr
            clear hkk hrr hLM hdl
            go_wp2_with fail
            refine HRD.out.mono ?_
            rintro e w1 ⟨rfl, v4, M4, hm4, hi4, hk4⟩
            have HN := Lib.hid (HA.out.on hk4 hm4)
            have HN2 := Lib.hid ((HI.out.kept hk4 HA.out.at_.is).app hi4)
            have HN3 := Lib.hid (HK.out.trans hk4)
            have HN4 := Lib.hid (hk4.other _ _ HO.out (by omega) (fun _ _ e => by cases e))
            clear hm4 hi4 hk4
            go_wp2
            go_roundw
            case rel => exact ⟨i + 1, rb, v4, M3 ++ M4, d3 ++ rl, by omega, by go_num, rfl, by rw [← List.append_assoc]; exact HN, HN2, HN3, HN4, Lib.hid (by rw [HRR.out]; simp [List.append_assoc, Nat.add_assoc])⟩
            case measure => simp [intOf]; omega
          · have hrr := HR.out
            rw [show mn.toNat - i = 0 by omega] at hrr
            have HR2 := Lib.hid hrr
            clear HR hrr
            go_wp2
            go_ret
            have hrr := HR2.out
            simp only [timesN, List.append_nil] at hrr
            rw [hrr]
            exact ⟨rfl, v3, M3, HA.out.at_, HI.out, HK.out⟩
end Go.Proofs.YtmbboianghbjkaaDoor

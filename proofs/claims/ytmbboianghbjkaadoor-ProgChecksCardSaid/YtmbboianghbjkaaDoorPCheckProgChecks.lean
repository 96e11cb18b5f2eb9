import Derived.Test.YtmbboianghbjkaaDoorPProgChecksx8
import Derived.Test.YtmbboianghbjkaaDoorPProgChecksx9
import Derived.Test.YtmbboianghbjkaaDoorOpensTProgChecks
import Derived.Test.YtmbboianghbjkaaDoorBaseD
import Derived.Test.YtmbboianghbjkaaDoorBaseB
import Derived.Lib.ConvBytes
namespace Go.Proofs.YtmbboianghbjkaaDoor
namespace PProgChecks
open Go.RowKit Go.Shelf Go.Proofs.YtmbboianghbjkaaDoorW.PrintWords Go.Proofs.YtmbboianghbjkaaDoorW.PrintLast Go.Proofs.YtmbboianghbjkaaDoorW.PrintMore
set_option linter.unusedVariables false
set_option linter.unusedSimpArgs false
attribute [local go_sem] bl_refl bl_alloc bl_a2 bl_a3 bl_a4 bl_a5 bl_set bl_drew bl_drewN le_add_r lt_add_r Go.Proofs.YtmbboianghbjkaaDoor.addr_add

theorem cell_spot {w : World} {a : Addr} {v : Value} (h : w.cell? a = some v) : a.spot = none := by
  unfold World.cell? at h
  split at h
  · by_cases hs : a.spot.isSome = true
    · simp [hs] at h
    · cases e : a.spot with
      | none => rfl
      | some x => simp [e] at hs
  · cases h
theorem C_spot {α : Type} {d : Kd α} {w : World} {A : Option Addr} {n : Nat} {l : List α} (h : d.C w A n l) (hn : 0 < l.length) (hs : 0 < d.sz) :
    ∃ b o, A = some ⟨b, o, none⟩ ∧ ∀ k (hk : k < l.length), ∃ c, d.K w l[k] c ∧ ∀ i u, c[i]? = some u → w.cell? ⟨b, o + k * d.sz + i, none⟩ = some u := by
  obtain ⟨hl, _, hc0⟩ := h
  obtain ⟨ad, rfl, hc⟩ := hc0 (by omega)
  have hsp : ad.spot = none := by
    obtain ⟨c, h1, _, h3⟩ := hc 0 _ (List.getElem?_eq_getElem hn)
    have h4 := h3 0 _ (List.getElem?_eq_getElem (by omega))
    have h5 := cell_spot h4
    simp only [Nat.zero_mul, Nat.add_zero] at h5
    unfold Addr.add at h5
    simpa using h5
  obtain ⟨b, o, sp⟩ := ad
  simp only at hsp
  subst hsp
  refine ⟨b, o, rfl, fun k hk => ?_⟩
  obtain ⟨c, _, h2, h3⟩ := hc k _ (List.getElem?_eq_getElem hk)
  refine ⟨c, h2, fun i u hu => ?_⟩
  have := h3 i u hu
  rwa [Go.Proofs.YtmbboianghbjkaaDoor.addr_add, ← Nat.add_assoc] at this
/-- Texts in memory, as they read now. -/
theorem C_rds {w : World} {A : Option Addr} {l : List ByteArray} {c : Nat} (h : Kd.C Kd.string w A l.length l) : RdS w (.slice A l.length c) l := by
  refine ⟨A, c, rfl, h.2.1, fun hn => ?_⟩
  obtain ⟨b, o, rfl, hk⟩ := C_spot h hn (by decide)
  refine ⟨b, o, rfl, fun k hlt => ?_⟩
  obtain ⟨cs, h1, h2⟩ := hk k hlt
  obtain rfl : cs = [.string l[k]] := h1
  have := h2 0 _ rfl
  rwa [show Kd.string.sz = 1 from rfl, Nat.mul_one, Nat.add_zero] at this
/-- Ranges in memory, from now on. -/
def prs (l : List S96) : List (Int × Int) := l.map fun r => (r.f0, r.f1)
theorem C_rngs {w : World} {A : Option Addr} {l : List S96} {c : Nat} (h : Kd.C k96 w A l.length l) (hc : l.length ≤ c) : Sl (RngAt w.heap.size w) 2 (.slice A l.length c) (prs l) := by
  refine ⟨A, c, by simp [prs], by simpa [prs] using hc, by simpa [prs] using h.2.1, fun hn => ?_⟩
  have hn' : 0 < l.length := by simpa [prs] using hn
  obtain ⟨b, o, rfl, hk⟩ := C_spot h hn' (by decide)
  refine ⟨b, o, rfl, fun k hlt => ?_⟩
  have hlt' : k < l.length := by simpa [prs] using hlt
  have each : ∀ w', Below w.heap.size w w' → w'.cell? ⟨b, o + k * 2, none⟩ = some (.int .i32 l[k].f0) ∧ w'.cell? ⟨b, o + k * 2 + 1, none⟩ = some (.int .i32 l[k].f1) := fun w' hb => by
    obtain ⟨b', o', e, hk'⟩ := C_spot (Kd.C_below h hb) hn' (by decide)
    cases e
    obtain ⟨cs, h1, h2⟩ := hk' k hlt'
    obtain rfl := k96_open h1
    exact ⟨h2 0 _ rfl, h2 1 _ rfl⟩
  have ek : (prs l)[k] = (l[k].f0, l[k].f1) := by simp [prs]
  rw [ek]
  exact ⟨fun w' hb => (each w' hb).1, fun w' hb => (each w' hb).2⟩

def nmOk (s : ByteArray) : Bool := decide (s.size ≤ 32) && (List.range s.size).all (fun j => letOk (s.get! j).toNat (decide (j = 0)))
theorem below_bytes (w : World) (e : TypeId) (s : ByteArray) : Below w.heap.size w (Lib.bytesWorld w e s) := by
  have h1 := Lib.bytesWorld_size w e s
  exact ⟨rfl, rfl, rfl, by omega, fun k hk => Lib.bytesWorld_at_old w e s k hk⟩
set_option maxHeartbeats 2000000 in
theorem name_any (w : World) (s : ByteArray) (hs : s.size ≤ 140737488351232) :
    Calls Tryd.prog 88 #[.string s] w fun e w' => e = .returned (.bool (nmOk s)) ∧ Below w.heap.size w w' := by
  have kc := Lib.run_convert_string_bytes (P := Tryd.prog) w 9 172 5 s Tryd.underlying9 Tryd.underlying172 Tryd.underlying5
  have hcell := fun j hj => Lib.bytesWorld_cell w 5 s j hj
  have HC := Lib.hid hcell
  have HB := Lib.hid (below_bytes w 5 s)
  clear hcell
  go_enter Tryd.func88, Tryd.ntmps88
  go_wp2
  obtain ⟨W, hW⟩ : ∃ W, W = Lib.bytesWorld w 5 s := ⟨_, rfl⟩
  rw [← hW] at HC HB ⊢
  clear hW kc
  go_loopw [3, 4, 5, 9] (fun _ _ _ v9 wr => ∃ k : Nat, k ≤ s.size ∧ v9 = .int .i64 k ∧ (∀ j, j < k → letOk (s.get! j).toNat (decide (j = 0)) = true) ∧ wr = W) (fun _ _ _ v9 _ => s.size - (intOf v9).toNat)
  case atStart => exact ⟨0, by omega, rfl, by omega, rfl⟩
  case round =>
    obtain ⟨k, hk, rfl, hn, rfl⟩ := hrel
    have HN := Lib.hid hn
    clear hn
    by_cases hlt : k < s.size
    · have c1 := HC.out k hlt
      have eg : s.data.toList.getD k 0 = s.get! k := by
        rw [get_at s k hlt]
        have : k < s.data.toList.length := by simpa using hlt
        rw [List.getD_eq_getElem?_getD, List.getElem?_eq_getElem this]
        rfl
      rw [eg] at c1
      clear eg
      have hl : (s.get! k).toNat < 256 := (s.get! k).toNat_lt
      generalize hx : (s.get! k).toNat = x at *
      have HX := Lib.hid hx
      clear hx
      rcases (show (x ≤ 47) ∨ (48 ≤ x ∧ x ≤ 57) ∨ (58 ≤ x ∧ x ≤ 64) ∨ (65 ≤ x ∧ x ≤ 90) ∨ (91 ≤ x ∧ x ≤ 94) ∨ (x = 95) ∨ (x = 96) ∨ (97 ≤ x ∧ x ≤ 122) ∨ (123 ≤ x) by omega) with hr | hr | hr | hr | hr | hr | hr | hr | hr
      · have y95 : ((x : Int) == 95) = false := by simp; omega
        go_wp2
        all_goals first | (exfalso; omega) | skip
        all_goals
          go_ret
          refine ⟨ret_bool ?_, HB.out⟩
          unfold nmOk
          rw [Bool.and_eq_false_iff.2 (.inr (List.all_eq_false.2 ⟨k, by simpa using hlt, by rw [HX.out]; unfold letOk; simp; try omega⟩))]
      · obtain ⟨hr1, hr2⟩ := hr
        have y95 : ((x : Int) == 95) = false := by simp; omega
        have d90 : decide ((x : Int) ≤ 90) = true := by simp; omega
        have d122 : decide ((x : Int) ≤ 122) = true := by simp; omega
        by_cases k0 : k = 0
        · have k0b : ((k : Int) == 0) = true := by simp [k0]
          have K0 := Lib.hid k0
          clear k0
          go_wp2
          all_goals first | (exfalso; omega) | skip
          all_goals
            go_ret
            refine ⟨ret_bool ?_, HB.out⟩
            unfold nmOk
            rw [Bool.and_eq_false_iff.2 (.inr (List.all_eq_false.2 ⟨k, by simpa using hlt, by have k0 := K0.out; rw [HX.out]; unfold letOk; simp; try omega⟩))]
        · have k0b : ((k : Int) == 0) = false := by simp [k0]
          go_wp2
          go_roundw
          case rel => exact ⟨k + 1, by omega, by go_num, fun j hj => by
            by_cases e : j = k
            · rw [e, HX.out]; unfold letOk; simp; omega
            · exact HN.out j (by omega), by first | rfl | trivial⟩
          case measure => simp [intOf]; omega
      · obtain ⟨hr1, hr2⟩ := hr
        have y95 : ((x : Int) == 95) = false := by simp; omega
        have d90 : decide ((x : Int) ≤ 90) = true := by simp; omega
        have d122 : decide ((x : Int) ≤ 122) = true := by simp; omega
        go_wp2
        all_goals first | (exfalso; omega) | skip
        all_goals
          go_ret
          refine ⟨ret_bool ?_, HB.out⟩
          unfold nmOk
          rw [Bool.and_eq_false_iff.2 (.inr (List.all_eq_false.2 ⟨k, by simpa using hlt, by rw [HX.out]; unfold letOk; simp; try omega⟩))]
      · obtain ⟨hr1, hr2⟩ := hr
        have y95 : ((x : Int) == 95) = false := by simp; omega
        have d90 : decide ((x : Int) ≤ 90) = true := by simp; omega
        have d122 : decide ((x : Int) ≤ 122) = true := by simp; omega
        go_wp2
        go_roundw
        case rel => exact ⟨k + 1, by omega, by go_num, fun j hj => by
          by_cases e : j = k
          · rw [e, HX.out]; unfold letOk; simp; omega
          · exact HN.out j (by omega), by first | rfl | trivial⟩
        case measure => simp [intOf]; omega
      · obtain ⟨hr1, hr2⟩ := hr
        have y95 : ((x : Int) == 95) = false := by simp; omega
        have d90 : decide ((x : Int) ≤ 90) = false := by simp; omega
        have d122 : decide ((x : Int) ≤ 122) = true := by simp; omega
        go_wp2
        all_goals first | (exfalso; omega) | skip
        all_goals
          go_ret
          refine ⟨ret_bool ?_, HB.out⟩
          unfold nmOk
          rw [Bool.and_eq_false_iff.2 (.inr (List.all_eq_false.2 ⟨k, by simpa using hlt, by rw [HX.out]; unfold letOk; simp; try omega⟩))]
      · subst hr
        go_wp2
        go_roundw
        case rel => exact ⟨k + 1, by omega, by go_num, fun j hj => by
          by_cases e : j = k
          · rw [e, HX.out]; rfl
          · exact HN.out j (by omega), by first | rfl | trivial⟩
        case measure => simp [intOf]; omega
      · subst hr
        go_wp2
        all_goals first | (exfalso; omega) | skip
        all_goals
          go_ret
          refine ⟨ret_bool ?_, HB.out⟩
          unfold nmOk
          rw [Bool.and_eq_false_iff.2 (.inr (List.all_eq_false.2 ⟨k, by simpa using hlt, by rw [HX.out]; unfold letOk; simp; try omega⟩))]
      · obtain ⟨hr1, hr2⟩ := hr
        have y95 : ((x : Int) == 95) = false := by simp; omega
        have d90 : decide ((x : Int) ≤ 90) = false := by simp; omega
        have d122 : decide ((x : Int) ≤ 122) = true := by simp; omega
        go_wp2
        go_roundw
        case rel => exact ⟨k + 1, by omega, by go_num, fun j hj => by
          by_cases e : j = k
          · rw [e, HX.out]; unfold letOk; simp; omega
          · exact HN.out j (by omega), by first | rfl | trivial⟩
        case measure => simp [intOf]; omega
      · have y95 : ((x : Int) == 95) = false := by simp; omega
        have d90 : decide ((x : Int) ≤ 90) = false := by simp; omega
        have d122 : decide ((x : Int) ≤ 122) = false := by simp; omega
        go_wp2
        all_goals first | (exfalso; omega) | skip
        all_goals
          go_ret
          refine ⟨ret_bool ?_, HB.out⟩
          unfold nmOk
          rw [Bool.and_eq_false_iff.2 (.inr (List.all_eq_false.2 ⟨k, by simpa using hlt, by rw [HX.out]; unfold letOk; simp; try omega⟩))]
    · obtain rfl : k = s.size := by omega
      go_wp2
      go_ret
      refine ⟨ret_bool ?_, HB.out⟩
      unfold nmOk
      rw [List.all_eq_true.2 (fun j hj => HN.out j (by simpa using hj)), Bool.eq_iff_iff]
      simp
      try omega
end PProgChecks
end Go.Proofs.YtmbboianghbjkaaDoor

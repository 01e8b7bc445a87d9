/- The walks of the laws PickRounds, PickOnce, PickFirst. -/
import Derived.Test.YtnbogjiddildaaaQ4
import Derived.Test.YtnbogjiddildaaaJ
namespace Go.Proofs.Ytnbogjiddildaaa
open Go.RowKit
set_option linter.unusedSimpArgs false
set_option linter.unusedVariables false

theorem rounds_len (c : Cfg) (f b : Int) : ((roundsP c f b).length : Int) = countP c := by
  have hcb := count_bd c
  unfold roundsP
  rw [List.length_map]
  by_cases h : countP c = 0
  · rw [h]; rfl
  · have h1 := Int.emod_lt_of_pos (rndI f) (show 0 < countP c by omega)
    have h2 := Int.emod_nonneg (rndI f) (show countP c ≠ 0 by omega)
    rw [round_len (by omega)]; omega
theorem f62_nm (c : Cfg) (f b : Int) (xs : List Int) (h : roundsP c f b = xs) (f0 : -9223372036854775808 ≤ f) (f1 : f ≤ 9223372036854775807) (b0' : -9223372036854775808 ≤ b) (b1 : b ≤ 9223372036854775807) (w : World) :
    Calls Try.prog 62 #[cv c, .int .i64 f, .int .i64 b] w fun e w' => ∃ A cap, e = .returned (.slice A xs.length cap) ∧ Rd w' A xs ∧ Below w.heap.size w w' := by
  subst h
  refine (f62_any c f b f0 f1 b0' b1 w).mono ?_
  rintro e w' ⟨v, rfl, hr, hb⟩
  obtain ⟨A, cap, rfl, _, hrd⟩ := hr.rd
  exact ⟨A, cap, rfl, hrd, hb⟩
theorem f63_nm (c : Cfg) (f b : Int) (xs : List Int) (h : roundsP c f b = xs) (f0 : -9223372036854775808 ≤ f) (f1 : f ≤ 9223372036854775807) (b0' : -9223372036854775808 ≤ b) (b1 : b ≤ 9223372036854775807) (w : World) :
    Calls Try.prog 63 #[cv c, .int .i64 f, .int .i64 b] w fun e w' => ∃ A cap, e = .returned (.slice A xs.length cap) ∧ Rd w' A xs ∧ Below w.heap.size w w' := by
  subst h
  refine (f63_any c f b f0 f1 b0' b1 w).mono ?_
  rintro e w' ⟨v, rfl, hr, hb⟩
  obtain ⟨A, cap, rfl, _, hrd⟩ := hr.rd
  exact ⟨A, cap, rfl, hrd, hb⟩
theorem f62_z (f b : Int) (f0 : -9223372036854775808 ≤ f) (f1 : f ≤ 9223372036854775807) (b0' : -9223372036854775808 ≤ b) (b1 : b ≤ 9223372036854775807) (w : World) :
    Calls Try.prog 62 #[.agg #[.int .i64 0, .int .i64 0, .int .i64 0, .int .i64 0, .int .i64 0, .int .i64 0, .int .i64 0, .bool false, .bool false], .int .i64 f, .int .i64 b] w fun e w' => ∃ A cap, e = .returned (.slice A 0 cap) ∧ Below w.heap.size w w' := by
  have hz : countP ⟨0, 0, 0, 0, 0, 0, 0, false, false⟩ = 0 := by decide
  refine (f62_nm ⟨0, 0, 0, 0, 0, 0, 0, false, false⟩ f b [] (rounds_no hz) f0 f1 b0' b1 w).mono ?_
  rintro e w' ⟨A, cap, rfl, _, hb⟩
  exact ⟨A, cap, rfl, hb⟩

set_option maxHeartbeats 1000000 in
set_option maxRecDepth 20000 in
theorem law11_go (c : Cfg) (f b : Int) (f0 : -9223372036854775808 ≤ f) (f1 : f ≤ 9223372036854775807) (b0' : -9223372036854775808 ≤ b) (b1 : b ≤ 9223372036854775807) (w : World) :
    Calls Try.prog 11 #[cv c, .int .i64 f, .int .i64 b] w fun e w' => e = .returned (.bool true) ∧ Below w.heap.size w w' := by
  go_enter Try.func11, Try.ntmps11
  go_wp2_with fail
  refine (f47_any _).mono ?_
  rintro e w1 ⟨rfl, hb1⟩
  have S1 := keepS hb1 (s0 c w)
  have F1 := keepF hb1 (by simp) (fz0 c w)
  clear hb1
  go_wp2_with fail
  refine (f31_sm c _).mono ?_
  rintro e w2 ⟨s, hsm, rfl, hb2⟩
  have S2 := keepS hb2 S1
  have F2 := keepF hb2 S1.2.2.2.2.2.2.2.2.2.1 F1
  clear hb2 S1 F1
  go_wp2_with fail
  have S3 := storesS (s := s) (Nat.le_refl _) S2
  clear S2 F2
  generalize (((((((((w2.setCell ⟨w.heap.size, 0, none⟩ (.int .i64 s.W)).setCell ⟨w.heap.size, 1, none⟩ (.int .i64 s.H)).setCell ⟨w.heap.size, 2, none⟩ (.int .i64 s.L)).setCell ⟨w.heap.size, 3, none⟩ (.int .i64 s.D)).setCell ⟨w.heap.size, 4, none⟩ (.int .i64 s.R)).setCell ⟨w.heap.size, 5, none⟩ (.int .i64 s.I)).setCell ⟨w.heap.size, 6, none⟩ (.int .i64 s.B)).setCell ⟨w.heap.size, 7, none⟩ (.bool s.ws)).setCell ⟨w.heap.size, 8, none⟩ (.bool s.cs)) = w3 at S3 ⊢
  obtain ⟨xs, HXS⟩ : ∃ z, Hd (roundsP s f b = z) := ⟨_, ⟨rfl⟩⟩
  have HXL : Hd (xs.length ≤ 389120) := ⟨by have h1 := rounds_len s f b; have h2 := count_bd s; rw [HXS.out] at h1; omega⟩
  have HS4 := Hd.mk S3
  clear S3
  go_region_held3 (fun W => W.cell? ⟨w.heap.size, 0, none⟩ = some (.int .i64 s.W) ∧ W.cell? ⟨w.heap.size, 1, none⟩ = some (.int .i64 s.H) ∧ W.cell? ⟨w.heap.size, 2, none⟩ = some (.int .i64 s.L) ∧ W.cell? ⟨w.heap.size, 3, none⟩ = some (.int .i64 s.D) ∧ W.cell? ⟨w.heap.size, 4, none⟩ = some (.int .i64 s.R) ∧ W.cell? ⟨w.heap.size, 5, none⟩ = some (.int .i64 s.I) ∧ W.cell? ⟨w.heap.size, 6, none⟩ = some (.int .i64 s.B) ∧ W.cell? ⟨w.heap.size, 7, none⟩ = some (.bool s.ws) ∧ W.cell? ⟨w.heap.size, 8, none⟩ = some (.bool s.cs) ∧ w.heap.size < W.heap.size ∧ Below w.heap.size w W) (first | exact dS HS4.out | exact keepS (by assumption) (by assumption))
    (first | (go_at_call 62; (with_reducible refine (f62_nm s f b xs HXS.out f0 f1 b0' b1 _).mono ?_); rintro e wc ⟨A, cA, rfl, hrA, hbq⟩; have HC := Hd.mk hrA; clear hrA) | (go_at_call 63; (with_reducible refine (f63_nm s f b xs HXS.out f0 f1 b0' b1 _).mono ?_); rintro e wd ⟨B, cB, rfl, hrB, hbq⟩; have HC2 := Hd.mk (Rd.below HC.out hbq); have HD := Hd.mk hrB; clear hrB) | (go_at_call 62; (with_reducible refine (f62_z f b f0 f1 b0' b1 _).mono ?_); rintro e wz ⟨C, cC, rfl, hbq⟩) | (go_at_call 28; refine (f28_eq A B cA cB xs (by have := HXL.out; omega) _ HC2.out HD.out).mono ?_; rintro e we ⟨rfl, hbq⟩))
  rename_i S4
  clear HS4
  go_wp2
  go_ret
  exact ⟨rfl, sB S4⟩

theorem law11_calls (c : Cfg) (f : Int) (hf : -9223372036854775808 ≤ f ∧ f ≤ 9223372036854775807) (b : Int) (hb : -9223372036854775808 ≤ b ∧ b ≤ 9223372036854775807) (w : World) :
    Calls Try.prog 11 #[cv c, .int .i64 f, .int .i64 b] w fun e w' => e = .returned (.bool true) ∧ Below w.heap.size w w' := law11_go c f b hf.1 hf.2 hb.1 hb.2 w

structure RelOnce (N s a0 : Nat) (wa : World) (i : Value) (W : World) (k : Nat) : Prop where
  kn : k ≤ N
  hi : i = .int .i64 (k : Int)
  had : W.rowIs wa.heap.size 4 N (fun j => .bool ((runR N s a0 k).had j))
  b : Below wa.heap.size wa W

set_option maxHeartbeats 1000000 in
set_option maxRecDepth 20000 in
theorem law12_go (c : Cfg) (f b : Int) (f0 : -9223372036854775808 ≤ f) (f1 : f ≤ 9223372036854775807) (b0' : -9223372036854775808 ≤ b) (b1 : b ≤ 9223372036854775807) (w : World) :
    Calls Try.prog 12 #[cv c, .int .i64 f, .int .i64 b] w fun e w' => e = .returned (.bool true) ∧ Below w.heap.size w w' := by
  go_enter Try.func12, Try.ntmps12
  go_wp2_with fail
  refine (f47_any _).mono ?_
  rintro e w1 ⟨rfl, hb1⟩
  have S1 := keepS hb1 (s0 c w)
  have F1 := keepF hb1 (by simp) (fz0 c w)
  clear hb1
  go_wp2_with fail
  refine (f31_sm c _).mono ?_
  rintro e w2 ⟨s, hsm, rfl, hb2⟩
  have S2 := keepS hb2 S1
  have F2 := keepF hb2 S1.2.2.2.2.2.2.2.2.2.1 F1
  clear hb2 S1 F1
  go_wp2_with fail
  have S3 := storesS (s := s) (Nat.le_refl _) S2
  clear S2 F2
  generalize (((((((((w2.setCell ⟨w.heap.size, 0, none⟩ (.int .i64 s.W)).setCell ⟨w.heap.size, 1, none⟩ (.int .i64 s.H)).setCell ⟨w.heap.size, 2, none⟩ (.int .i64 s.L)).setCell ⟨w.heap.size, 3, none⟩ (.int .i64 s.D)).setCell ⟨w.heap.size, 4, none⟩ (.int .i64 s.R)).setCell ⟨w.heap.size, 5, none⟩ (.int .i64 s.I)).setCell ⟨w.heap.size, 6, none⟩ (.int .i64 s.B)).setCell ⟨w.heap.size, 7, none⟩ (.bool s.ws)).setCell ⟨w.heap.size, 8, none⟩ (.bool s.cs)) = w3 at S3 ⊢
  have hcb := count_bd s
  have hsN : 0 < countP s := by
    have h1 := wh_bd (chk_okc hsm.ok)
    have h2 := each_ok hsm.ok
    have h3 := hsm.L1
    unfold countP
    rw [nodes_ok hsm.ok]
    exact Int.mul_pos (by omega) (by omega)
  obtain ⟨N, hN⟩ : ∃ N : Nat, countP s = (N : Int) := ⟨(countP s).toNat, by omega⟩
  rw [hN] at hcb hsN
  have hN1 : 1 ≤ N := by omega
  have hN2 : N ≤ 389120 := by omega
  obtain ⟨a0, HA0⟩ : ∃ a : Nat, Hd (rndI f % (N : Int) = (a : Int)) := ⟨(rndI f % (N : Int)).toNat, ⟨by have := Int.emod_nonneg (rndI f) (show (N : Int) ≠ 0 by omega); omega⟩⟩
  obtain ⟨b0, HB0⟩ : ∃ a : Nat, Hd (rndI b % (N : Int) = (a : Int)) := ⟨(rndI b % (N : Int)).toNat, ⟨by have := Int.emod_nonneg (rndI b) (show (N : Int) ≠ 0 by omega); omega⟩⟩
  have ha0 : a0 < N := by have := Int.emod_lt_of_pos (rndI f) (show 0 < (N : Int) by omega); rw [HA0.out] at this; omega
  have hb0 : b0 < N := by have := Int.emod_lt_of_pos (rndI b) (show 0 < (N : Int) by omega); rw [HB0.out] at this; omega
  have HN := Hd.mk hN
  have hz : ((N : Int) == 0) = false := by rw [beq_eq_false_iff_ne]; omega
  have hmk := run_make_row' (P := Try.prog) 66 4 (.bool false) 1 Try.underlying66 info4 rfl .i64 .i64 N (by omega) (by omega)
  have hxs : roundsP s f b = (roundL N (1 + b0) a0).map Int.ofNat := rounds_is hN HA0.out HB0.out
  obtain ⟨xs, HXS⟩ : ∃ z, Hd (roundsP s f b = z) := ⟨_, ⟨rfl⟩⟩
  have HXL : Hd (xs.length = N) := ⟨by have h1 := rounds_len s f b; rw [HXS.out, hN] at h1; omega⟩
  rw [HXS.out] at hxs
  have HXA : Hd (∀ i : Nat, i < N → xs[i]? = some ((nextP N (runR N (1 + b0) a0 i) : Nat) : Int)) := ⟨fun i hi => by rw [hxs, List.getElem?_map, round_at ha0 hi]; rfl⟩
  clear hN hcb hsN hxs
  refine (f62_nm s f b xs HXS.out f0 f1 b0' b1 _).mono ?_
  rintro e w4 ⟨A, cA, rfl, hrA, hb4⟩
  have S4 := keepS hb4 S3
  have R4 := Hd.mk hrA
  clear hb4 S3 hrA
  rw [HXL.out]
  go_wp2_with fail
  refine (f54_is s (N : Int) HN.out _).mono ?_
  rintro e wa ⟨rfl, hb5⟩
  have S5 := keepS hb5 S4
  have RA := Hd.mk (Rd.below R4.out hb5)
  have BA := Hd.mk (sB S5)
  have HAD : Hd ((wa.alloc (.cells (madeCells #[.bool false] N) 4)).rowIs wa.heap.size 4 N (fun j => .bool false)) := ⟨World.rowIs_made wa (.bool false) N 4⟩
  clear hb5 S4 S5 R4
  go_wp2_with fail
  go_loopw [9] (fun i W => ∃ k : Nat, RelOnce N (1 + b0) a0 wa i W k) (fun i _ => N - (intOf i).toNat)
  case atStart => exact ⟨0, by omega, rfl, HAD.out, (Below.refl _ _).alloc (Nat.le_refl _) _⟩
  case round =>
    obtain ⟨k, hk, rfl, hhad, hbw⟩ := hrel
    have HB := Hd.mk hbw
    have HH := Hd.mk hhad
    clear hbw hhad HAD hmk
    by_cases hlt : k < N
    · obtain ⟨hpn, hpf, hsl⟩ := inv_next (run_inv (s := 1 + b0) ha0 k hk) hlt
      have hxa := HXA.out k hlt
      obtain ⟨p, HP⟩ : ∃ p, Hd (nextP N (runR N (1 + b0) a0 k) = p) := ⟨_, ⟨rfl⟩⟩
      rw [HP.out] at hpn hpf hxa
      obtain ⟨ga, oa, rfl, hga, hca⟩ := (Rd.below RA.out HB.out) (by have := HXL.out; omega)
      have hx := hca k (p : Int) hxa
      have hcell : wr.cell? ⟨wa.heap.size, p, none⟩ = some (.bool false) := by have h := HH.out.cell hpn; simp only [hpf] at h; exact h
      have hfz := HH.out.frozen p
      have HPF := Hd.mk hpf
      have HHS := Hd.mk (HH.out.set p (.bool true))
      have i0 : (0 : Int) ≤ (p : Int) := by omega
      have i1 : (p : Int) < (N : Int) := by omega
      have i2 : (k : Int) < (N : Int) := by omega
      clear hca hga hxa hsl hpf HH
      go_wp2
      go_roundw
      case rel => exact ⟨k + 1, by omega, by go_num, by rw [runR]; refine HHS.out.congr fun i _ => ?_; show _ = Value.bool (setT _ (nextP N (runR N (1 + b0) a0 k)) i); rw [HP.out]; unfold setT; split <;> rfl, bset HB.out (Nat.le_refl _) _⟩
      case measure => simp [intOf]; omega
    · have hkN : k = N := by omega
      have HKN := Hd.mk hkN
      clear hkN
      go_wp2
      go_ret
      exact ⟨ret_bool (by simp), bstep BA.out HB.out⟩

theorem law12_calls (c : Cfg) (f : Int) (hf : -9223372036854775808 ≤ f ∧ f ≤ 9223372036854775807) (b : Int) (hb : -9223372036854775808 ≤ b ∧ b ≤ 9223372036854775807) (w : World) :
    Calls Try.prog 12 #[cv c, .int .i64 f, .int .i64 b] w fun e w' => e = .returned (.bool true) ∧ Below w.heap.size w w' := law12_go c f b hf.1 hf.2 hb.1 hb.2 w

structure RelFirst (N s a0 : Nat) (wa : World) (a i : Value) (W : World) (k : Nat) : Prop where
  kn : k ≤ N
  hi : i = .int .i64 (k : Int)
  ha : a = .int .i64 ((runR N s a0 k).pos : Nat)
  had : W.rowIs wa.heap.size 4 N (fun j => .bool ((runR N s a0 k).had j))
  b : Below wa.heap.size wa W

set_option maxHeartbeats 1000000 in
set_option maxRecDepth 20000 in
theorem law14_nn (c : Cfg) (f b : Int) (f0 : -9223372036854775808 ≤ f) (f1 : f ≤ 9223372036854775807) (b0' : -9223372036854775808 ≤ b) (b1 : b ≤ 9223372036854775807) (hsf : f < 0) (hsb : b < 0) (w : World) :
    Calls Try.prog 14 #[cv c, .int .i64 f, .int .i64 b] w fun e w' => e = .returned (.bool true) ∧ Below w.heap.size w w' := by
  go_enter Try.func14, Try.ntmps14
  go_wp2_with fail
  refine (f47_any _).mono ?_
  rintro e w1 ⟨rfl, hb1⟩
  have S1 := keepS hb1 (s0 c w)
  have F1 := keepF hb1 (by simp) (fz0 c w)
  clear hb1
  go_wp2_with fail
  refine (f31_sm c _).mono ?_
  rintro e w2 ⟨s, hsm, rfl, hb2⟩
  have S2 := keepS hb2 S1
  have F2 := keepF hb2 S1.2.2.2.2.2.2.2.2.2.1 F1
  clear hb2 S1 F1
  go_wp2_with fail
  have S3 := storesS (s := s) (Nat.le_refl _) S2
  clear S2 F2
  generalize (((((((((w2.setCell ⟨w.heap.size, 0, none⟩ (.int .i64 s.W)).setCell ⟨w.heap.size, 1, none⟩ (.int .i64 s.H)).setCell ⟨w.heap.size, 2, none⟩ (.int .i64 s.L)).setCell ⟨w.heap.size, 3, none⟩ (.int .i64 s.D)).setCell ⟨w.heap.size, 4, none⟩ (.int .i64 s.R)).setCell ⟨w.heap.size, 5, none⟩ (.int .i64 s.I)).setCell ⟨w.heap.size, 6, none⟩ (.int .i64 s.B)).setCell ⟨w.heap.size, 7, none⟩ (.bool s.ws)).setCell ⟨w.heap.size, 8, none⟩ (.bool s.cs)) = w3 at S3 ⊢
  have hcb := count_bd s
  have hsN : 0 < countP s := by
    have h1 := wh_bd (chk_okc hsm.ok)
    have h2 := each_ok hsm.ok
    have h3 := hsm.L1
    unfold countP
    rw [nodes_ok hsm.ok]
    exact Int.mul_pos (by omega) (by omega)
  obtain ⟨N, hN⟩ : ∃ N : Nat, countP s = (N : Int) := ⟨(countP s).toNat, by omega⟩
  rw [hN] at hcb hsN
  have hN1 : 1 ≤ N := by omega
  have hN2 : N ≤ 389120 := by omega
  obtain ⟨a0, HA0⟩ : ∃ a : Nat, Hd (rndI f % (N : Int) = (a : Int)) := ⟨(rndI f % (N : Int)).toNat, ⟨by have := Int.emod_nonneg (rndI f) (show (N : Int) ≠ 0 by omega); omega⟩⟩
  obtain ⟨b0, HB0⟩ : ∃ a : Nat, Hd (rndI b % (N : Int) = (a : Int)) := ⟨(rndI b % (N : Int)).toNat, ⟨by have := Int.emod_nonneg (rndI b) (show (N : Int) ≠ 0 by omega); omega⟩⟩
  have ha0 : a0 < N := by have := Int.emod_lt_of_pos (rndI f) (show 0 < (N : Int) by omega); rw [HA0.out] at this; omega
  have hb0 : b0 < N := by have := Int.emod_lt_of_pos (rndI b) (show 0 < (N : Int) by omega); rw [HB0.out] at this; omega
  have HN := Hd.mk hN
  have hz : ((N : Int) == 0) = false := by rw [beq_eq_false_iff_ne]; omega
  have hmk := run_make_row' (P := Try.prog) 66 4 (.bool false) 1 Try.underlying66 info4 rfl .i64 .i64 N (by omega) (by omega)
  have hxs : roundsP s f b = (roundL N (1 + b0) a0).map Int.ofNat := rounds_is hN HA0.out HB0.out
  obtain ⟨xs, HXS⟩ : ∃ z, Hd (roundsP s f b = z) := ⟨_, ⟨rfl⟩⟩
  have HXL : Hd (xs.length = N) := ⟨by have h1 := rounds_len s f b; rw [HXS.out, hN] at h1; omega⟩
  rw [HXS.out] at hxs
  have HXA : Hd (∀ i : Nat, i < N → xs[i]? = some ((nextP N (runR N (1 + b0) a0 i) : Nat) : Int)) := ⟨fun i hi => by rw [hxs, List.getElem?_map, round_at ha0 hi]; rfl⟩
  clear hN hcb hsN hxs
  refine (f54_is s (N : Int) HN.out _).mono ?_
  rintro e w4 ⟨rfl, hb4⟩
  have S4 := keepS hb4 S3
  clear hb4 S3
  go_wp2_with fail
  refine (f62_nm s f b xs HXS.out f0 f1 b0' b1 _).mono ?_
  rintro e wa ⟨A, cA, rfl, hrA, hb5⟩
  have S5 := keepS hb5 S4
  have RA := Hd.mk hrA
  have BA := Hd.mk (sB S5)
  have HAD : Hd ((wa.alloc (.cells (madeCells #[.bool false] N) 4)).rowIs wa.heap.size 4 N (fun j => .bool false)) := ⟨World.rowIs_made wa (.bool false) N 4⟩
  clear hb5 S4 S5 hrA
  rw [HXL.out]
  have hnf : f < 0 := by omega
  have e1f : -((f + 1).tmod (N : Int)) = (a0 : Int) := by rw [← Int.neg_tmod, Int.tmod_eq_emod_of_nonneg (by omega)]; have h := HA0.out; unfold rndI at h; rw [if_pos (by omega)] at h; exact h
  have e2f : (-(f + 1)).tmod (N : Int) = (a0 : Int) := by rw [Int.neg_tmod]; exact e1f
  have hnb : b < 0 := by omega
  have e1b : -((b + 1).tmod (N : Int)) = (b0 : Int) := by rw [← Int.neg_tmod, Int.tmod_eq_emod_of_nonneg (by omega)]; have h := HB0.out; unfold rndI at h; rw [if_pos (by omega)] at h; exact h
  have e2b : (-(b + 1)).tmod (N : Int) = (b0 : Int) := by rw [Int.neg_tmod]; exact e1b
  have hN1' : (1 : Int) ≤ (N : Int) := by omega
  go_wp2_with fail
  have HA9 := Hd.mk e1f
  clear hmk e1f e1b e2f hnf e2b hnb
  go_loopw [9, 12] (fun a i W => ∃ k : Nat, RelFirst N (1 + b0) a0 wa a i W k) (fun _ i _ => N - (intOf i).toNat)
  case atStart => exact ⟨0, by omega, rfl, by first | rfl | (rw [HA9.out]; rfl), HAD.out, (Below.refl _ _).alloc (Nat.le_refl _) _⟩
  case round =>
    obtain ⟨k, hk, rfl, rfl, hhad, hbw⟩ := hrel
    have HB := Hd.mk hbw
    have HH := Hd.mk hhad
    have hpos := (run_inv (s := 1 + b0) ha0 k hk).pos
    obtain ⟨c, hcc⟩ : ∃ c, (runR N (1 + b0) a0 k).pos = c := ⟨_, rfl⟩
    rw [hcc] at hpos ⊢
    have HCC := Hd.mk hcc
    clear hbw hhad HAD hcc
    by_cases hlt : k < N
    · have i0 : (0 : Int) ≤ (c : Int) := by omega
      have i1 : (c : Int) < (N : Int) := by omega
      have i2 : (k : Int) < (N : Int) := by omega
      rcases hh : (runR N (1 + b0) a0 k).had c with _ | _
      · have hcell : wr.cell? ⟨wa.heap.size, c, none⟩ = some (.bool false) := by have h := HH.out.cell hpos; simp only [hh] at h; exact h
        have hfz := HH.out.frozen c
        have HP : Hd (nextP N (runR N (1 + b0) a0 k) = c) := ⟨by unfold nextP; rw [HCC.out, seek_here hpos hh, Nat.add_zero, Nat.mod_eq_of_lt hpos]⟩
        have hxa := HXA.out k hlt
        rw [HP.out] at hxa
        obtain ⟨ga, oa, rfl, hga, hca⟩ := (Rd.below RA.out HB.out) (by have := HXL.out; omega)
        have hx := hca k (c : Int) hxa
        have HHS := Hd.mk (HH.out.set c (.bool true))
        clear hca hga hxa HH hh
        go_wp2
        go_roundw
        case rel => exact ⟨k + 1, by omega, by go_num, by rw [runR]; show _ = Value.int .i64 (((nextP N (runR N (1 + b0) a0 k) + (1 + b0)) % N : Nat) : Int); rw [HP.out]; exact mod_c _ _ _ _ (by omega), by rw [runR]; refine HHS.out.congr fun i _ => ?_; show _ = Value.bool (setT _ (nextP N (runR N (1 + b0) a0 k)) i); rw [HP.out]; unfold setT; split <;> rfl, bset HB.out (Nat.le_refl _) _⟩
        case measure => simp [intOf]; omega
      · have hcell : wr.cell? ⟨wa.heap.size, c, none⟩ = some (.bool true) := by have h := HH.out.cell hpos; simp only [hh] at h; exact h
        clear hh
        go_wp2
        go_ret
        exact ⟨rfl, bstep BA.out HB.out⟩
    · have hkN : k = N := by omega
      have HKN := Hd.mk hkN
      clear hkN
      go_wp2
      go_ret
      exact ⟨rfl, bstep BA.out HB.out⟩

set_option maxHeartbeats 1000000 in
set_option maxRecDepth 20000 in
theorem law14_np (c : Cfg) (f b : Int) (f0 : -9223372036854775808 ≤ f) (f1 : f ≤ 9223372036854775807) (b0' : -9223372036854775808 ≤ b) (b1 : b ≤ 9223372036854775807) (hsf : f < 0) (hsb : 0 ≤ b) (w : World) :
    Calls Try.prog 14 #[cv c, .int .i64 f, .int .i64 b] w fun e w' => e = .returned (.bool true) ∧ Below w.heap.size w w' := by
  go_enter Try.func14, Try.ntmps14
  go_wp2_with fail
  refine (f47_any _).mono ?_
  rintro e w1 ⟨rfl, hb1⟩
  have S1 := keepS hb1 (s0 c w)
  have F1 := keepF hb1 (by simp) (fz0 c w)
  clear hb1
  go_wp2_with fail
  refine (f31_sm c _).mono ?_
  rintro e w2 ⟨s, hsm, rfl, hb2⟩
  have S2 := keepS hb2 S1
  have F2 := keepF hb2 S1.2.2.2.2.2.2.2.2.2.1 F1
  clear hb2 S1 F1
  go_wp2_with fail
  have S3 := storesS (s := s) (Nat.le_refl _) S2
  clear S2 F2
  generalize (((((((((w2.setCell ⟨w.heap.size, 0, none⟩ (.int .i64 s.W)).setCell ⟨w.heap.size, 1, none⟩ (.int .i64 s.H)).setCell ⟨w.heap.size, 2, none⟩ (.int .i64 s.L)).setCell ⟨w.heap.size, 3, none⟩ (.int .i64 s.D)).setCell ⟨w.heap.size, 4, none⟩ (.int .i64 s.R)).setCell ⟨w.heap.size, 5, none⟩ (.int .i64 s.I)).setCell ⟨w.heap.size, 6, none⟩ (.int .i64 s.B)).setCell ⟨w.heap.size, 7, none⟩ (.bool s.ws)).setCell ⟨w.heap.size, 8, none⟩ (.bool s.cs)) = w3 at S3 ⊢
  have hcb := count_bd s
  have hsN : 0 < countP s := by
    have h1 := wh_bd (chk_okc hsm.ok)
    have h2 := each_ok hsm.ok
    have h3 := hsm.L1
    unfold countP
    rw [nodes_ok hsm.ok]
    exact Int.mul_pos (by omega) (by omega)
  obtain ⟨N, hN⟩ : ∃ N : Nat, countP s = (N : Int) := ⟨(countP s).toNat, by omega⟩
  rw [hN] at hcb hsN
  have hN1 : 1 ≤ N := by omega
  have hN2 : N ≤ 389120 := by omega
  obtain ⟨a0, HA0⟩ : ∃ a : Nat, Hd (rndI f % (N : Int) = (a : Int)) := ⟨(rndI f % (N : Int)).toNat, ⟨by have := Int.emod_nonneg (rndI f) (show (N : Int) ≠ 0 by omega); omega⟩⟩
  obtain ⟨b0, HB0⟩ : ∃ a : Nat, Hd (rndI b % (N : Int) = (a : Int)) := ⟨(rndI b % (N : Int)).toNat, ⟨by have := Int.emod_nonneg (rndI b) (show (N : Int) ≠ 0 by omega); omega⟩⟩
  have ha0 : a0 < N := by have := Int.emod_lt_of_pos (rndI f) (show 0 < (N : Int) by omega); rw [HA0.out] at this; omega
  have hb0 : b0 < N := by have := Int.emod_lt_of_pos (rndI b) (show 0 < (N : Int) by omega); rw [HB0.out] at this; omega
  have HN := Hd.mk hN
  have hz : ((N : Int) == 0) = false := by rw [beq_eq_false_iff_ne]; omega
  have hmk := run_make_row' (P := Try.prog) 66 4 (.bool false) 1 Try.underlying66 info4 rfl .i64 .i64 N (by omega) (by omega)
  have hxs : roundsP s f b = (roundL N (1 + b0) a0).map Int.ofNat := rounds_is hN HA0.out HB0.out
  obtain ⟨xs, HXS⟩ : ∃ z, Hd (roundsP s f b = z) := ⟨_, ⟨rfl⟩⟩
  have HXL : Hd (xs.length = N) := ⟨by have h1 := rounds_len s f b; rw [HXS.out, hN] at h1; omega⟩
  rw [HXS.out] at hxs
  have HXA : Hd (∀ i : Nat, i < N → xs[i]? = some ((nextP N (runR N (1 + b0) a0 i) : Nat) : Int)) := ⟨fun i hi => by rw [hxs, List.getElem?_map, round_at ha0 hi]; rfl⟩
  clear hN hcb hsN hxs
  refine (f54_is s (N : Int) HN.out _).mono ?_
  rintro e w4 ⟨rfl, hb4⟩
  have S4 := keepS hb4 S3
  clear hb4 S3
  go_wp2_with fail
  refine (f62_nm s f b xs HXS.out f0 f1 b0' b1 _).mono ?_
  rintro e wa ⟨A, cA, rfl, hrA, hb5⟩
  have S5 := keepS hb5 S4
  have RA := Hd.mk hrA
  have BA := Hd.mk (sB S5)
  have HAD : Hd ((wa.alloc (.cells (madeCells #[.bool false] N) 4)).rowIs wa.heap.size 4 N (fun j => .bool false)) := ⟨World.rowIs_made wa (.bool false) N 4⟩
  clear hb5 S4 S5 hrA
  rw [HXL.out]
  have hnf : f < 0 := by omega
  have e1f : -((f + 1).tmod (N : Int)) = (a0 : Int) := by rw [← Int.neg_tmod, Int.tmod_eq_emod_of_nonneg (by omega)]; have h := HA0.out; unfold rndI at h; rw [if_pos (by omega)] at h; exact h
  have e2f : (-(f + 1)).tmod (N : Int) = (a0 : Int) := by rw [Int.neg_tmod]; exact e1f
  have e1b : b % (N : Int) = (b0 : Int) := by have h := HB0.out; unfold rndI at h; rw [if_neg (by omega)] at h; exact h
  have hN1' : (1 : Int) ≤ (N : Int) := by omega
  go_wp2_with fail
  have HA9 := Hd.mk e1f
  clear hmk e1f e1b e2f hnf 
  go_loopw [9, 12] (fun a i W => ∃ k : Nat, RelFirst N (1 + b0) a0 wa a i W k) (fun _ i _ => N - (intOf i).toNat)
  case atStart => exact ⟨0, by omega, rfl, by first | rfl | (rw [HA9.out]; rfl), HAD.out, (Below.refl _ _).alloc (Nat.le_refl _) _⟩
  case round =>
    obtain ⟨k, hk, rfl, rfl, hhad, hbw⟩ := hrel
    have HB := Hd.mk hbw
    have HH := Hd.mk hhad
    have hpos := (run_inv (s := 1 + b0) ha0 k hk).pos
    obtain ⟨c, hcc⟩ : ∃ c, (runR N (1 + b0) a0 k).pos = c := ⟨_, rfl⟩
    rw [hcc] at hpos ⊢
    have HCC := Hd.mk hcc
    clear hbw hhad HAD hcc
    by_cases hlt : k < N
    · have i0 : (0 : Int) ≤ (c : Int) := by omega
      have i1 : (c : Int) < (N : Int) := by omega
      have i2 : (k : Int) < (N : Int) := by omega
      rcases hh : (runR N (1 + b0) a0 k).had c with _ | _
      · have hcell : wr.cell? ⟨wa.heap.size, c, none⟩ = some (.bool false) := by have h := HH.out.cell hpos; simp only [hh] at h; exact h
        have hfz := HH.out.frozen c
        have HP : Hd (nextP N (runR N (1 + b0) a0 k) = c) := ⟨by unfold nextP; rw [HCC.out, seek_here hpos hh, Nat.add_zero, Nat.mod_eq_of_lt hpos]⟩
        have hxa := HXA.out k hlt
        rw [HP.out] at hxa
        obtain ⟨ga, oa, rfl, hga, hca⟩ := (Rd.below RA.out HB.out) (by have := HXL.out; omega)
        have hx := hca k (c : Int) hxa
        have HHS := Hd.mk (HH.out.set c (.bool true))
        clear hca hga hxa HH hh
        go_wp2
        go_roundw
        case rel => exact ⟨k + 1, by omega, by go_num, by rw [runR]; show _ = Value.int .i64 (((nextP N (runR N (1 + b0) a0 k) + (1 + b0)) % N : Nat) : Int); rw [HP.out]; exact mod_c _ _ _ _ (by omega), by rw [runR]; refine HHS.out.congr fun i _ => ?_; show _ = Value.bool (setT _ (nextP N (runR N (1 + b0) a0 k)) i); rw [HP.out]; unfold setT; split <;> rfl, bset HB.out (Nat.le_refl _) _⟩
        case measure => simp [intOf]; omega
      · have hcell : wr.cell? ⟨wa.heap.size, c, none⟩ = some (.bool true) := by have h := HH.out.cell hpos; simp only [hh] at h; exact h
        clear hh
        go_wp2
        go_ret
        exact ⟨rfl, bstep BA.out HB.out⟩
    · have hkN : k = N := by omega
      have HKN := Hd.mk hkN
      clear hkN
      go_wp2
      go_ret
      exact ⟨rfl, bstep BA.out HB.out⟩

set_option maxHeartbeats 1000000 in
set_option maxRecDepth 20000 in
theorem law14_pn (c : Cfg) (f b : Int) (f0 : -9223372036854775808 ≤ f) (f1 : f ≤ 9223372036854775807) (b0' : -9223372036854775808 ≤ b) (b1 : b ≤ 9223372036854775807) (hsf : 0 ≤ f) (hsb : b < 0) (w : World) :
    Calls Try.prog 14 #[cv c, .int .i64 f, .int .i64 b] w fun e w' => e = .returned (.bool true) ∧ Below w.heap.size w w' := by
  go_enter Try.func14, Try.ntmps14
  go_wp2_with fail
  refine (f47_any _).mono ?_
  rintro e w1 ⟨rfl, hb1⟩
  have S1 := keepS hb1 (s0 c w)
  have F1 := keepF hb1 (by simp) (fz0 c w)
  clear hb1
  go_wp2_with fail
  refine (f31_sm c _).mono ?_
  rintro e w2 ⟨s, hsm, rfl, hb2⟩
  have S2 := keepS hb2 S1
  have F2 := keepF hb2 S1.2.2.2.2.2.2.2.2.2.1 F1
  clear hb2 S1 F1
  go_wp2_with fail
  have S3 := storesS (s := s) (Nat.le_refl _) S2
  clear S2 F2
  generalize (((((((((w2.setCell ⟨w.heap.size, 0, none⟩ (.int .i64 s.W)).setCell ⟨w.heap.size, 1, none⟩ (.int .i64 s.H)).setCell ⟨w.heap.size, 2, none⟩ (.int .i64 s.L)).setCell ⟨w.heap.size, 3, none⟩ (.int .i64 s.D)).setCell ⟨w.heap.size, 4, none⟩ (.int .i64 s.R)).setCell ⟨w.heap.size, 5, none⟩ (.int .i64 s.I)).setCell ⟨w.heap.size, 6, none⟩ (.int .i64 s.B)).setCell ⟨w.heap.size, 7, none⟩ (.bool s.ws)).setCell ⟨w.heap.size, 8, none⟩ (.bool s.cs)) = w3 at S3 ⊢
  have hcb := count_bd s
  have hsN : 0 < countP s := by
    have h1 := wh_bd (chk_okc hsm.ok)
    have h2 := each_ok hsm.ok
    have h3 := hsm.L1
    unfold countP
    rw [nodes_ok hsm.ok]
    exact Int.mul_pos (by omega) (by omega)
  obtain ⟨N, hN⟩ : ∃ N : Nat, countP s = (N : Int) := ⟨(countP s).toNat, by omega⟩
  rw [hN] at hcb hsN
  have hN1 : 1 ≤ N := by omega
  have hN2 : N ≤ 389120 := by omega
  obtain ⟨a0, HA0⟩ : ∃ a : Nat, Hd (rndI f % (N : Int) = (a : Int)) := ⟨(rndI f % (N : Int)).toNat, ⟨by have := Int.emod_nonneg (rndI f) (show (N : Int) ≠ 0 by omega); omega⟩⟩
  obtain ⟨b0, HB0⟩ : ∃ a : Nat, Hd (rndI b % (N : Int) = (a : Int)) := ⟨(rndI b % (N : Int)).toNat, ⟨by have := Int.emod_nonneg (rndI b) (show (N : Int) ≠ 0 by omega); omega⟩⟩
  have ha0 : a0 < N := by have := Int.emod_lt_of_pos (rndI f) (show 0 < (N : Int) by omega); rw [HA0.out] at this; omega
  have hb0 : b0 < N := by have := Int.emod_lt_of_pos (rndI b) (show 0 < (N : Int) by omega); rw [HB0.out] at this; omega
  have HN := Hd.mk hN
  have hz : ((N : Int) == 0) = false := by rw [beq_eq_false_iff_ne]; omega
  have hmk := run_make_row' (P := Try.prog) 66 4 (.bool false) 1 Try.underlying66 info4 rfl .i64 .i64 N (by omega) (by omega)
  have hxs : roundsP s f b = (roundL N (1 + b0) a0).map Int.ofNat := rounds_is hN HA0.out HB0.out
  obtain ⟨xs, HXS⟩ : ∃ z, Hd (roundsP s f b = z) := ⟨_, ⟨rfl⟩⟩
  have HXL : Hd (xs.length = N) := ⟨by have h1 := rounds_len s f b; rw [HXS.out, hN] at h1; omega⟩
  rw [HXS.out] at hxs
  have HXA : Hd (∀ i : Nat, i < N → xs[i]? = some ((nextP N (runR N (1 + b0) a0 i) : Nat) : Int)) := ⟨fun i hi => by rw [hxs, List.getElem?_map, round_at ha0 hi]; rfl⟩
  clear hN hcb hsN hxs
  refine (f54_is s (N : Int) HN.out _).mono ?_
  rintro e w4 ⟨rfl, hb4⟩
  have S4 := keepS hb4 S3
  clear hb4 S3
  go_wp2_with fail
  refine (f62_nm s f b xs HXS.out f0 f1 b0' b1 _).mono ?_
  rintro e wa ⟨A, cA, rfl, hrA, hb5⟩
  have S5 := keepS hb5 S4
  have RA := Hd.mk hrA
  have BA := Hd.mk (sB S5)
  have HAD : Hd ((wa.alloc (.cells (madeCells #[.bool false] N) 4)).rowIs wa.heap.size 4 N (fun j => .bool false)) := ⟨World.rowIs_made wa (.bool false) N 4⟩
  clear hb5 S4 S5 hrA
  rw [HXL.out]
  have e1f : f % (N : Int) = (a0 : Int) := by have h := HA0.out; unfold rndI at h; rw [if_neg (by omega)] at h; exact h
  have hnb : b < 0 := by omega
  have e1b : -((b + 1).tmod (N : Int)) = (b0 : Int) := by rw [← Int.neg_tmod, Int.tmod_eq_emod_of_nonneg (by omega)]; have h := HB0.out; unfold rndI at h; rw [if_pos (by omega)] at h; exact h
  have e2b : (-(b + 1)).tmod (N : Int) = (b0 : Int) := by rw [Int.neg_tmod]; exact e1b
  have hN1' : (1 : Int) ≤ (N : Int) := by omega
  go_wp2_with fail
  have HA9 := Hd.mk e1f
  clear hmk e1f e1b e2b hnb
  go_loopw [9, 12] (fun a i W => ∃ k : Nat, RelFirst N (1 + b0) a0 wa a i W k) (fun _ i _ => N - (intOf i).toNat)
  case atStart => exact ⟨0, by omega, rfl, by first | rfl | (rw [HA9.out]; rfl), HAD.out, (Below.refl _ _).alloc (Nat.le_refl _) _⟩
  case round =>
    obtain ⟨k, hk, rfl, rfl, hhad, hbw⟩ := hrel
    have HB := Hd.mk hbw
    have HH := Hd.mk hhad
    have hpos := (run_inv (s := 1 + b0) ha0 k hk).pos
    obtain ⟨c, hcc⟩ : ∃ c, (runR N (1 + b0) a0 k).pos = c := ⟨_, rfl⟩
    rw [hcc] at hpos ⊢
    have HCC := Hd.mk hcc
    clear hbw hhad HAD hcc
    by_cases hlt : k < N
    · have i0 : (0 : Int) ≤ (c : Int) := by omega
      have i1 : (c : Int) < (N : Int) := by omega
      have i2 : (k : Int) < (N : Int) := by omega
      rcases hh : (runR N (1 + b0) a0 k).had c with _ | _
      · have hcell : wr.cell? ⟨wa.heap.size, c, none⟩ = some (.bool false) := by have h := HH.out.cell hpos; simp only [hh] at h; exact h
        have hfz := HH.out.frozen c
        have HP : Hd (nextP N (runR N (1 + b0) a0 k) = c) := ⟨by unfold nextP; rw [HCC.out, seek_here hpos hh, Nat.add_zero, Nat.mod_eq_of_lt hpos]⟩
        have hxa := HXA.out k hlt
        rw [HP.out] at hxa
        obtain ⟨ga, oa, rfl, hga, hca⟩ := (Rd.below RA.out HB.out) (by have := HXL.out; omega)
        have hx := hca k (c : Int) hxa
        have HHS := Hd.mk (HH.out.set c (.bool true))
        clear hca hga hxa HH hh
        go_wp2
        go_roundw
        case rel => exact ⟨k + 1, by omega, by go_num, by rw [runR]; show _ = Value.int .i64 (((nextP N (runR N (1 + b0) a0 k) + (1 + b0)) % N : Nat) : Int); rw [HP.out]; exact mod_c _ _ _ _ (by omega), by rw [runR]; refine HHS.out.congr fun i _ => ?_; show _ = Value.bool (setT _ (nextP N (runR N (1 + b0) a0 k)) i); rw [HP.out]; unfold setT; split <;> rfl, bset HB.out (Nat.le_refl _) _⟩
        case measure => simp [intOf]; omega
      · have hcell : wr.cell? ⟨wa.heap.size, c, none⟩ = some (.bool true) := by have h := HH.out.cell hpos; simp only [hh] at h; exact h
        clear hh
        go_wp2
        go_ret
        exact ⟨rfl, bstep BA.out HB.out⟩
    · have hkN : k = N := by omega
      have HKN := Hd.mk hkN
      clear hkN
      go_wp2
      go_ret
      exact ⟨rfl, bstep BA.out HB.out⟩

set_option maxHeartbeats 1000000 in
set_option maxRecDepth 20000 in
theorem law14_pp (c : Cfg) (f b : Int) (f0 : -9223372036854775808 ≤ f) (f1 : f ≤ 9223372036854775807) (b0' : -9223372036854775808 ≤ b) (b1 : b ≤ 9223372036854775807) (hsf : 0 ≤ f) (hsb : 0 ≤ b) (w : World) :
    Calls Try.prog 14 #[cv c, .int .i64 f, .int .i64 b] w fun e w' => e = .returned (.bool true) ∧ Below w.heap.size w w' := by
  go_enter Try.func14, Try.ntmps14
  go_wp2_with fail
  refine (f47_any _).mono ?_
  rintro e w1 ⟨rfl, hb1⟩
  have S1 := keepS hb1 (s0 c w)
  have F1 := keepF hb1 (by simp) (fz0 c w)
  clear hb1
  go_wp2_with fail
  refine (f31_sm c _).mono ?_
  rintro e w2 ⟨s, hsm, rfl, hb2⟩
  have S2 := keepS hb2 S1
  have F2 := keepF hb2 S1.2.2.2.2.2.2.2.2.2.1 F1
  clear hb2 S1 F1
  go_wp2_with fail
  have S3 := storesS (s := s) (Nat.le_refl _) S2
  clear S2 F2
  generalize (((((((((w2.setCell ⟨w.heap.size, 0, none⟩ (.int .i64 s.W)).setCell ⟨w.heap.size, 1, none⟩ (.int .i64 s.H)).setCell ⟨w.heap.size, 2, none⟩ (.int .i64 s.L)).setCell ⟨w.heap.size, 3, none⟩ (.int .i64 s.D)).setCell ⟨w.heap.size, 4, none⟩ (.int .i64 s.R)).setCell ⟨w.heap.size, 5, none⟩ (.int .i64 s.I)).setCell ⟨w.heap.size, 6, none⟩ (.int .i64 s.B)).setCell ⟨w.heap.size, 7, none⟩ (.bool s.ws)).setCell ⟨w.heap.size, 8, none⟩ (.bool s.cs)) = w3 at S3 ⊢
  have hcb := count_bd s
  have hsN : 0 < countP s := by
    have h1 := wh_bd (chk_okc hsm.ok)
    have h2 := each_ok hsm.ok
    have h3 := hsm.L1
    unfold countP
    rw [nodes_ok hsm.ok]
    exact Int.mul_pos (by omega) (by omega)
  obtain ⟨N, hN⟩ : ∃ N : Nat, countP s = (N : Int) := ⟨(countP s).toNat, by omega⟩
  rw [hN] at hcb hsN
  have hN1 : 1 ≤ N := by omega
  have hN2 : N ≤ 389120 := by omega
  obtain ⟨a0, HA0⟩ : ∃ a : Nat, Hd (rndI f % (N : Int) = (a : Int)) := ⟨(rndI f % (N : Int)).toNat, ⟨by have := Int.emod_nonneg (rndI f) (show (N : Int) ≠ 0 by omega); omega⟩⟩
  obtain ⟨b0, HB0⟩ : ∃ a : Nat, Hd (rndI b % (N : Int) = (a : Int)) := ⟨(rndI b % (N : Int)).toNat, ⟨by have := Int.emod_nonneg (rndI b) (show (N : Int) ≠ 0 by omega); omega⟩⟩
  have ha0 : a0 < N := by have := Int.emod_lt_of_pos (rndI f) (show 0 < (N : Int) by omega); rw [HA0.out] at this; omega
  have hb0 : b0 < N := by have := Int.emod_lt_of_pos (rndI b) (show 0 < (N : Int) by omega); rw [HB0.out] at this; omega
  have HN := Hd.mk hN
  have hz : ((N : Int) == 0) = false := by rw [beq_eq_false_iff_ne]; omega
  have hmk := run_make_row' (P := Try.prog) 66 4 (.bool false) 1 Try.underlying66 info4 rfl .i64 .i64 N (by omega) (by omega)
  have hxs : roundsP s f b = (roundL N (1 + b0) a0).map Int.ofNat := rounds_is hN HA0.out HB0.out
  obtain ⟨xs, HXS⟩ : ∃ z, Hd (roundsP s f b = z) := ⟨_, ⟨rfl⟩⟩
  have HXL : Hd (xs.length = N) := ⟨by have h1 := rounds_len s f b; rw [HXS.out, hN] at h1; omega⟩
  rw [HXS.out] at hxs
  have HXA : Hd (∀ i : Nat, i < N → xs[i]? = some ((nextP N (runR N (1 + b0) a0 i) : Nat) : Int)) := ⟨fun i hi => by rw [hxs, List.getElem?_map, round_at ha0 hi]; rfl⟩
  clear hN hcb hsN hxs
  refine (f54_is s (N : Int) HN.out _).mono ?_
  rintro e w4 ⟨rfl, hb4⟩
  have S4 := keepS hb4 S3
  clear hb4 S3
  go_wp2_with fail
  refine (f62_nm s f b xs HXS.out f0 f1 b0' b1 _).mono ?_
  rintro e wa ⟨A, cA, rfl, hrA, hb5⟩
  have S5 := keepS hb5 S4
  have RA := Hd.mk hrA
  have BA := Hd.mk (sB S5)
  have HAD : Hd ((wa.alloc (.cells (madeCells #[.bool false] N) 4)).rowIs wa.heap.size 4 N (fun j => .bool false)) := ⟨World.rowIs_made wa (.bool false) N 4⟩
  clear hb5 S4 S5 hrA
  rw [HXL.out]
  have e1f : f % (N : Int) = (a0 : Int) := by have h := HA0.out; unfold rndI at h; rw [if_neg (by omega)] at h; exact h
  have e1b : b % (N : Int) = (b0 : Int) := by have h := HB0.out; unfold rndI at h; rw [if_neg (by omega)] at h; exact h
  have hN1' : (1 : Int) ≤ (N : Int) := by omega
  go_wp2_with fail
  have HA9 := Hd.mk e1f
  clear hmk e1f e1b 
  go_loopw [9, 12] (fun a i W => ∃ k : Nat, RelFirst N (1 + b0) a0 wa a i W k) (fun _ i _ => N - (intOf i).toNat)
  case atStart => exact ⟨0, by omega, rfl, by first | rfl | (rw [HA9.out]; rfl), HAD.out, (Below.refl _ _).alloc (Nat.le_refl _) _⟩
  case round =>
    obtain ⟨k, hk, rfl, rfl, hhad, hbw⟩ := hrel
    have HB := Hd.mk hbw
    have HH := Hd.mk hhad
    have hpos := (run_inv (s := 1 + b0) ha0 k hk).pos
    obtain ⟨c, hcc⟩ : ∃ c, (runR N (1 + b0) a0 k).pos = c := ⟨_, rfl⟩
    rw [hcc] at hpos ⊢
    have HCC := Hd.mk hcc
    clear hbw hhad HAD hcc
    by_cases hlt : k < N
    · have i0 : (0 : Int) ≤ (c : Int) := by omega
      have i1 : (c : Int) < (N : Int) := by omega
      have i2 : (k : Int) < (N : Int) := by omega
      rcases hh : (runR N (1 + b0) a0 k).had c with _ | _
      · have hcell : wr.cell? ⟨wa.heap.size, c, none⟩ = some (.bool false) := by have h := HH.out.cell hpos; simp only [hh] at h; exact h
        have hfz := HH.out.frozen c
        have HP : Hd (nextP N (runR N (1 + b0) a0 k) = c) := ⟨by unfold nextP; rw [HCC.out, seek_here hpos hh, Nat.add_zero, Nat.mod_eq_of_lt hpos]⟩
        have hxa := HXA.out k hlt
        rw [HP.out] at hxa
        obtain ⟨ga, oa, rfl, hga, hca⟩ := (Rd.below RA.out HB.out) (by have := HXL.out; omega)
        have hx := hca k (c : Int) hxa
        have HHS := Hd.mk (HH.out.set c (.bool true))
        clear hca hga hxa HH hh
        go_wp2
        go_roundw
        case rel => exact ⟨k + 1, by omega, by go_num, by rw [runR]; show _ = Value.int .i64 (((nextP N (runR N (1 + b0) a0 k) + (1 + b0)) % N : Nat) : Int); rw [HP.out]; exact mod_c _ _ _ _ (by omega), by rw [runR]; refine HHS.out.congr fun i _ => ?_; show _ = Value.bool (setT _ (nextP N (runR N (1 + b0) a0 k)) i); rw [HP.out]; unfold setT; split <;> rfl, bset HB.out (Nat.le_refl _) _⟩
        case measure => simp [intOf]; omega
      · have hcell : wr.cell? ⟨wa.heap.size, c, none⟩ = some (.bool true) := by have h := HH.out.cell hpos; simp only [hh] at h; exact h
        clear hh
        go_wp2
        go_ret
        exact ⟨rfl, bstep BA.out HB.out⟩
    · have hkN : k = N := by omega
      have HKN := Hd.mk hkN
      clear hkN
      go_wp2
      go_ret
      exact ⟨rfl, bstep BA.out HB.out⟩

theorem law14_go (c : Cfg) (f b : Int) (f0 : -9223372036854775808 ≤ f) (f1 : f ≤ 9223372036854775807) (b0' : -9223372036854775808 ≤ b) (b1 : b ≤ 9223372036854775807) (w : World) : Calls Try.prog 14 #[cv c, .int .i64 f, .int .i64 b] w fun e w' => e = .returned (.bool true) ∧ Below w.heap.size w w' := by
  by_cases hf : f < 0
  · by_cases hb : b < 0
    · exact law14_nn c f b f0 f1 b0' b1 hf hb w
    · exact law14_np c f b f0 f1 b0' b1 hf (by omega) w
  · by_cases hb : b < 0
    · exact law14_pn c f b f0 f1 b0' b1 (by omega) hb w
    · exact law14_pp c f b f0 f1 b0' b1 (by omega) (by omega) w

theorem law14_calls (c : Cfg) (f : Int) (hf : -9223372036854775808 ≤ f ∧ f ≤ 9223372036854775807) (b : Int) (hb : -9223372036854775808 ≤ b ∧ b ≤ 9223372036854775807) (w : World) :
    Calls Try.prog 14 #[cv c, .int .i64 f, .int .i64 b] w fun e w' => e = .returned (.bool true) ∧ Below w.heap.size w w' := law14_go c f b hf.1 hf.2 hb.1 hb.2 w

end Go.Proofs.Ytnbogjiddildaaa

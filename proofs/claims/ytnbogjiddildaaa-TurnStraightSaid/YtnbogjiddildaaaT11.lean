/- The walk of the law TurnStraight. -/
import Derived.Test.YtnbogjiddildaaaT9
namespace Go.Proofs.Ytnbogjiddildaaa
open Go.RowKit
set_option linter.unusedSimpArgs false
set_option linter.unusedVariables false

/-- How often a list turns in its first k places. -/
def cntP (xs : List Int) : Nat → Nat
  | 0 => 0
  | k + 1 => cntP xs k + if xs[k]? = xs[k + 1]? then 0 else 1
theorem cnt_le (xs : List Int) (k : Nat) : cntP xs k ≤ k := by
  induction k with
  | zero => simp [cntP]
  | succ k ih => unfold cntP; split <;> omega
theorem cnt_eq {xs : List Int} {k : Nat} {x : Int} (h1 : xs[k]? = some x) (h2 : xs[k + 1]? = some x) : cntP xs (k + 1) = cntP xs k := by
  rw [cntP, h1, h2, if_pos rfl]; rfl
theorem cnt_ne {xs : List Int} {k : Nat} {x y : Int} (h1 : xs[k]? = some x) (h2 : xs[k + 1]? = some y) (h : x ≠ y) : cntP xs (k + 1) = cntP xs k + 1 := by
  rw [cntP, h1, h2, if_neg (fun e => h (by injection e))]
theorem rep_at {p k : Nat} {a : Int} (l : List Int) (h : k < p) : (List.replicate p a ++ l)[k]? = some a := by
  have h' : k < (List.replicate p a).length := by simpa using h
  rw [List.getElem?_append_left h']; simp [h]
theorem rep_on {p k : Nat} {a : Int} (l : List Int) (h : p ≤ k) : (List.replicate p a ++ l)[k]? = l[k - p]? := by
  have h' : (List.replicate p a).length ≤ k := by simpa using h
  rw [List.getElem?_append_right h']; simp
theorem cnt_D {p q : Nat} {a b : Int} (k : Nat) (hk : k + 1 < p + q + 1) : cntP (List.replicate p a ++ (List.replicate q b ++ [0])) k ≤ if p ≤ k then 1 else 0 := by
  induction k with
  | zero => simp [cntP]
  | succ k ih =>
    have ih := ih (by omega)
    rw [cntP]
    by_cases h : k + 1 < p
    · rw [rep_at _ (by omega : k < p), rep_at _ h, if_pos rfl]
      rw [if_neg (by omega)] at ih ⊢
      exact ih
    · rw [if_pos (by omega : p ≤ k + 1)]
      by_cases h' : p ≤ k
      · rw [rep_on _ h', rep_on _ (by omega : p ≤ k + 1), rep_at _ (by omega : k - p < q), rep_at _ (by omega : k + 1 - p < q), if_pos rfl]
        rw [if_pos h'] at ih
        exact ih
      · rw [if_neg h'] at ih
        split <;> omega
theorem strD_len (dx dy : Int) : (strD dx dy).length = dx.natAbs + dy.natAbs + 1 := by unfold strD; simp; omega
theorem str_cnt {c : Cfg} {a b : Int} (ha : isB c a = true) (hb : isB c b = true) (k : Nat) (hk : k + 1 < (strP c a b).length) : cntP (strP c a b) k ≤ 1 := by
  unfold strP at hk ⊢
  rw [if_pos ⟨ha, hb⟩] at hk ⊢
  rw [strD_len] at hk
  unfold strD
  have := @cnt_D (b % c.W - a % c.W).natAbs (b / c.W - a / c.W).natAbs (if 0 < b % c.W - a % c.W then 1 else 2) (if 0 < b / c.W - a / c.W then 3 else 4) k hk
  have h1 : (if (b % c.W - a % c.W).natAbs ≤ k then 1 else 0) ≤ 1 := by split <;> omega
  omega
theorem str_last {c : Cfg} {a b : Int} (ha : isB c a = true) (hb : isB c b = true) (k : Nat) (hk : (strP c a b).length = k + 1) : (strP c a b)[k]? = some 0 := by
  unfold strP at hk ⊢
  rw [if_pos ⟨ha, hb⟩] at hk ⊢
  rw [strD_len] at hk
  unfold strD
  rw [rep_on _ (by omega), rep_on _ (by omega), show k - (b % c.W - a % c.W).natAbs - (b / c.W - a / c.W).natAbs = 0 from by omega]
  rfl

structure RelTurns (xs : List Int) (A : Option Addr) (w : World) (t i : Value) (W : World) (k : Nat) : Prop where
  kl : k = 0 ∨ k + 1 < xs.length
  hi : i = .int .i64 (k : Int)
  ht : t = .int .i64 (cntP xs k : Nat)
  rd : Rd W A xs
  b : Below w.heap.size w W

set_option maxHeartbeats 1000000 in
set_option maxRecDepth 20000 in
theorem law19_go (c : Cfg) (a b : Int) (w : World) :
    Calls Try.prog 19 #[cv c, .int .i64 a, .int .i64 b] w fun e w' => e = .returned (.bool true) ∧ Below w.heap.size w w' := by
  go_enter Try.func19, Try.ntmps19
  go_wp2_with fail
  refine (f57_any _).mono ?_
  rintro e w1 ⟨rfl, hb1⟩
  have S1 := keepS hb1 (s0 c w)
  have F1 := keepF hb1 (by simp) (fz0 c w)
  clear hb1
  go_wp2_with fail
  refine (f31_sm c _).mono ?_
  rintro e w2 ⟨s, hsm, rfl, hb2⟩
  have S2 := keepS hb2 S1
  have F2 := keepF hb2 S1.2.2.2.2.2.2.2.2.2.1 F1
  clear hb2 S1 F1
  go_wp2_with fail
  have S3 := storesS (s := s) (Nat.le_refl _) S2
  clear S2 F2
  generalize (((((((((w2.setCell ⟨w.heap.size, 0, none⟩ (.int .i64 s.W)).setCell ⟨w.heap.size, 1, none⟩ (.int .i64 s.H)).setCell ⟨w.heap.size, 2, none⟩ (.int .i64 s.L)).setCell ⟨w.heap.size, 3, none⟩ (.int .i64 s.D)).setCell ⟨w.heap.size, 4, none⟩ (.int .i64 s.R)).setCell ⟨w.heap.size, 5, none⟩ (.int .i64 s.I)).setCell ⟨w.heap.size, 6, none⟩ (.int .i64 s.B)).setCell ⟨w.heap.size, 7, none⟩ (.bool s.ws)).setCell ⟨w.heap.size, 8, none⟩ (.bool s.cs)) = w3 at S3 ⊢
  obtain ⟨u, HU⟩ : ∃ z, Hd (nodeP s a = z) := ⟨_, ⟨rfl⟩⟩
  have HBu : Hd (isB s u = true) := ⟨by have h := nodeP_is hsm.ok a; rw [HU.out] at h; exact h⟩
  obtain ⟨v, HV⟩ : ∃ z, Hd (nodeP s b = z) := ⟨_, ⟨rfl⟩⟩
  have HBv : Hd (isB s v = true) := ⟨by have h := nodeP_is hsm.ok b; rw [HV.out] at h; exact h⟩
  go_wp2_with fail
  refine (f32_is s a u hsm.ok HU.out _).mono ?_
  rintro e w4 ⟨rfl, hb4⟩
  have S4 := keepS hb4 S3
  clear hb4 S3
  go_wp2_with fail
  refine (f32_is s b v hsm.ok HV.out _).mono ?_
  rintro e w5 ⟨rfl, hb5⟩
  have S5 := keepS hb5 S4
  clear hb5 S4
  obtain ⟨xs, HXS⟩ : ∃ z, Hd (strP (xf s) u v = z) := ⟨_, ⟨rfl⟩⟩
  have hlen := str_len (c := xf s) HBu.out HBv.out
  have hbd := far_bd (c := s) HBu.out HBv.out
  rw [HXS.out, show farP (xf s) u v = farP s u v from rfl] at hlen
  obtain ⟨k, hk⟩ : ∃ k, xs.length = k + 1 := ⟨xs.length - 1, by omega⟩
  have hkd : farP s u v = (k : Int) := by omega
  have HKD := Hd.mk hkd
  have HK := Hd.mk hk
  have hk126 : k ≤ 126 := by omega
  have HL0 := Hd.mk (str_last (c := xf s) HBu.out HBv.out k (by rw [HXS.out]; exact hk))
  rw [HXS.out] at HL0
  have HCN : Hd (∀ i, i + 1 < xs.length → cntP xs i ≤ 1) := ⟨fun i hi => by
    have h := str_cnt (c := xf s) HBu.out HBv.out i (by rw [HXS.out]; exact hi)
    rw [HXS.out] at h; exact h⟩
  clear hlen hbd hk hkd
  go_wp2_with fail
  refine (f66_is s u v xs HXS.out _).mono ?_
  rintro e w6 ⟨A, _, cA, rfl, rfl, hcA, hrd, hb6⟩
  have S6 := keepS hb6 S5
  have R6 := Hd.mk hrd
  clear hb6 S5 hrd
  rw [HK.out] at hcA ⊢
  go_wp2_with fail
  refine (f33_is s u v (k : Int) HKD.out _).mono ?_
  rintro e w7 ⟨rfl, hb7⟩
  have S7 := keepS hb7 S6
  have R7 := Hd.mk (Rd.below R6.out hb7)
  have BB := Hd.mk (sB S7)
  clear hb7 S6 S7 R6
  have HRK : Hd (Rd w7 A xs) := R7
  obtain ⟨q, off, rfl, hq, hc⟩ := R7.out (by have := HK.out; omega)
  have hlast := hc k 0 HL0.out
  clear hc hq R7
  go_wp2_with fail
  clear hlast
  go_loopw [8, 9] (fun t i W => ∃ j : Nat, RelTurns xs (some ⟨q, off, none⟩) w t i W j) (fun _ i _ => k - (intOf i).toNat)
  case atStart => exact ⟨0, .inl rfl, rfl, rfl, HRK.out, BB.out⟩
  case round =>
    obtain ⟨j, hj, rfl, rfl, hrd, hbw⟩ := hrel
    rw [HK.out] at hj
    have hcl := cnt_le xs j
    have RD := Hd.mk hrd
    have HB := Hd.mk hbw
    clear hrd hbw BB HRK
    by_cases hlt : j + 1 < k
    · obtain ⟨x, HX⟩ : ∃ x, Hd (xs[j]? = some x) := ⟨_, ⟨List.getElem?_eq_getElem (by have := HK.out; omega)⟩⟩
      obtain ⟨y, HY⟩ : ∃ x, Hd (xs[j + 1]? = some x) := ⟨_, ⟨List.getElem?_eq_getElem (by have := HK.out; omega)⟩⟩
      obtain ⟨q', off', he, hq, hc⟩ := RD.out (by have := HK.out; omega)
      injection he with he
      injection he with he1 he2
      subst he1 he2
      have hx := hc j x HX.out
      have hy := hc (j + 1) y HY.out
      clear hc hq
      have i1 : (0 : Int) ≤ (j : Int) := by omega
      have i2 : (j : Int) < ((k + 1 : Nat) : Int) := by omega
      have i3 : (j : Int) + 1 < ((k + 1 : Nat) : Int) := by omega
      have i4 : (0 : Int) ≤ (j : Int) + 1 := by omega
      have i5 : ((j : Int) + 1).toNat = j + 1 := by omega
      have i6 : IntKind.i64.wrap ((j : Int) + 1) = (j : Int) + 1 := IntWalk.i64_in _ (by omega)
      by_cases hxy : x = y
      · subst hxy
        have HC1 := Hd.mk (cnt_eq HX.out HY.out)
        go_wp2_with fail
        go_quiet (fail)
        clear i6 i5
        go_wp2
        go_roundw
        case rel => exact ⟨j + 1, .inr (by have := HK.out; omega), by go_num, by rw [HC1.out], Rd.drewN RD.out _, bdrewN HB.out _⟩
        case measure => simp [intOf]; omega
      · have HC1 := Hd.mk (cnt_ne HX.out HY.out hxy)
        have hne : (x != y) = true := bne_iff_ne.2 hxy
        clear hxy
        go_wp2_with fail
        go_quiet (fail)
        clear i6 i5
        go_wp2
        go_roundw
        case rel => exact ⟨j + 1, .inr (by have := HK.out; omega), by go_num, by rw [HC1.out]; go_num, Rd.drewN RD.out _, bdrewN HB.out _⟩
        case measure => simp [intOf]; omega
    · have h1 : cntP xs j ≤ 1 := by
        rcases hj with h | h
        · rw [h]; simp [cntP]
        · exact HCN.out j (by rw [HK.out]; exact h)
      go_wp2
      go_ret
      exact ⟨ret_bool (by simp; omega), HB.out⟩

theorem law19_calls (c : Cfg) (a : Int) (_ : -9223372036854775808 ≤ a ∧ a ≤ 9223372036854775807) (b : Int) (_ : -9223372036854775808 ≤ b ∧ b ≤ 9223372036854775807) (w : World) :
    Calls Try.prog 19 #[cv c, .int .i64 a, .int .i64 b] w fun e w' => e = .returned (.bool true) ∧ Below w.heap.size w w' := law19_go c a b w

end Go.Proofs.Ytnbogjiddildaaa

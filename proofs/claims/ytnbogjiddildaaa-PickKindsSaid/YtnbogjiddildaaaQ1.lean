/- Contracts of the reference's Count, Of and Number of layer 18. -/
import Derived.Test.YtnbogjiddildaaaQ0
import Derived.Test.YtnbogjiddildaaaP4
namespace Go.Proofs.Ytnbogjiddildaaa
open Go.RowKit
set_option linter.unusedSimpArgs false
set_option linter.unusedVariables false

theorem rowZ (c : Cfg) : countP c = nodes c * ((rowP c 0).length : Nat) ∧ eachP c = ((rowP c 0).length : Nat) := by
  by_cases h : chk c = 0
  · have hb : isB c 0 = true := isB_iff.2 ⟨by omega, by have := wh_bd (chk_okc h); rw [nodes_ok h]; omega⟩
    have := row_len hb
    refine ⟨?_, this.symm⟩
    unfold countP; rw [this]
  · have hb : isB c 0 = false := by
      rcases hb : isB c 0 with _ | _
      · rfl
      · exact absurd (isB_chk hb) h
    unfold rowP
    rw [hb, count_no h, each_no h]
    simp
theorem f53_is (c : Cfg) (n : Int) (xs : List Prt) (zl : Nat) (h : rowP c n = xs) (hl : xs.length = zl) (w : World) :
    Calls Try.prog 53 #[cv c, .int .i64 n] w fun e w' => ∃ A cap, e = .returned (.slice A zl cap) ∧ zl ≤ cap ∧ Rd4 w' A xs ∧ Below w.heap.size w w' := by
  subst h hl
  refine (f53_any c n w).mono ?_
  rintro e w' ⟨v, rfl, hr, hb⟩
  obtain ⟨A, cap, rfl, hc, _, hrd⟩ := hr.rd
  exact ⟨A, cap, rfl, hc, hrd, hb⟩
theorem f81_is (c : Cfg) (r : Int) (h : nodes c = r) (w : World) : Calls Try.prog 81 #[cv c] w fun e w' => e = .returned (.int .i64 r) ∧ Below w.heap.size w w' := by
  subst h; exact f81_any c w

set_option maxHeartbeats 1000000 in
set_option maxRecDepth 20000 in
theorem f55_any (c : Cfg) (w : World) :
    Calls Try.prog 55 #[cv c] w fun e w' => e = .returned (.int .i64 (countP c)) ∧ Below w.heap.size w w' := by
  obtain ⟨n, HN⟩ : ∃ n, Hd (nodes c = n) := ⟨_, ⟨rfl⟩⟩
  obtain ⟨xs, HXS⟩ : ∃ n, Hd (rowP c 0 = n) := ⟨_, ⟨rfl⟩⟩
  obtain ⟨zl, HZL⟩ : ∃ n, Hd (xs.length = n) := ⟨_, ⟨rfl⟩⟩
  have hb := count_bd c
  have HC : Hd (countP c = n * (zl : Int)) := ⟨by rw [(rowZ c).1, HN.out, HXS.out, HZL.out]⟩
  rw [HC.out] at hb
  have HW : IntKind.i64.wrap (n * (zl : Int)) = n * (zl : Int) := IntWalk.i64_in _ (by omega)
  go_enter Try.func55, Try.ntmps55
  go_wp2_with fail
  have S0 := s0 c w
  have HS1 := Hd.mk S0
  clear S0
  go_region_held3 (fun W => W.cell? ⟨w.heap.size, 0, none⟩ = some (.int .i64 c.W) ∧ W.cell? ⟨w.heap.size, 1, none⟩ = some (.int .i64 c.H) ∧ W.cell? ⟨w.heap.size, 2, none⟩ = some (.int .i64 c.L) ∧ W.cell? ⟨w.heap.size, 3, none⟩ = some (.int .i64 c.D) ∧ W.cell? ⟨w.heap.size, 4, none⟩ = some (.int .i64 c.R) ∧ W.cell? ⟨w.heap.size, 5, none⟩ = some (.int .i64 c.I) ∧ W.cell? ⟨w.heap.size, 6, none⟩ = some (.int .i64 c.B) ∧ W.cell? ⟨w.heap.size, 7, none⟩ = some (.bool c.ws) ∧ W.cell? ⟨w.heap.size, 8, none⟩ = some (.bool c.cs) ∧ w.heap.size < W.heap.size ∧ Below w.heap.size w W) (first | exact dS HS1.out | exact keepS (by assumption) (by assumption))
    (first | (go_at_call 81; (with_reducible refine (f81_is c n HN.out _).mono ?_); rintro e wq ⟨rfl, hbq⟩) | (go_at_call 53; (with_reducible refine (f53_is c 0 xs zl HXS.out HZL.out _).mono ?_); rintro e wq ⟨A, cap, rfl, hcA, hrA, hbq⟩))
  rename_i S1
  clear HS1
  go_wp2
  go_ret
  exact ⟨ret_int HC.out.symm, sB S1⟩

theorem f55_is (c : Cfg) (r : Int) (hr : countP c = r) (w : World) :
    Calls Try.prog 55 #[cv c] w fun e w' => e = .returned (.int .i64 r) ∧ Below w.heap.size w w' := by
  subst hr; exact f55_any c w

set_option maxHeartbeats 1000000 in
set_option maxRecDepth 20000 in
theorem f49_neg (c : Cfg) (n : Int) (h : n < 0) (w : World) :
    Calls Try.prog 49 #[cv c, .int .i64 n] w fun e w' => e = .returned (.tuple #[pv (ofP c n).1, .bool (ofP c n).2]) ∧ Below w.heap.size w w' := by
  have HO : Hd (ofP c n = (⟨0, 0, 0, 0⟩, false)) := ⟨by unfold ofP; rw [if_neg (by omega)]⟩
  go_enter Try.func49, Try.ntmps49
  go_wp2
  have B := balloc (balloc (Below.refl w.heap.size w) (.cells #[.int .i64 c.W, .int .i64 c.H, .int .i64 c.L, .int .i64 c.D, .int .i64 c.R, .int .i64 c.I, .int .i64 c.B, .bool c.ws, .bool c.cs] 23)) (.cells #[.int .i64 0, .int .i64 0, .int .i64 0, .int .i64 0] 50)
  exact bodyPost_ret (v := (.tuple #[.agg #[.int .i64 0, .int .i64 0, .int .i64 0, .int .i64 0], .bool false])) (by simp [results, Try.results49, go_sem]) rfl ⟨by rw [HO.out], by first | exact B | exact bset (bset (bset (bset B (Nat.le_succ _) _) (Nat.le_succ _) _) (Nat.le_succ _) _) (Nat.le_succ _) _⟩

set_option maxHeartbeats 1000000 in
set_option maxRecDepth 20000 in
theorem f49_out (c : Cfg) (n : Int) (n0 : 0 ≤ n) (h : countP c ≤ n) (w : World) :
    Calls Try.prog 49 #[cv c, .int .i64 n] w fun e w' => e = .returned (.tuple #[pv (ofP c n).1, .bool (ofP c n).2]) ∧ Below w.heap.size w w' := by
  have HO : Hd (ofP c n = (⟨0, 0, 0, 0⟩, false)) := ⟨by unfold ofP; rw [if_neg (by omega)]⟩
  obtain ⟨N, HN⟩ : ∃ r, Hd (countP c = r) := ⟨_, ⟨rfl⟩⟩
  rw [HN.out] at h
  go_enter Try.func49, Try.ntmps49
  go_wp2_with fail
  refine (f55_is c N HN.out _).mono ?_
  rintro e w1 ⟨rfl, hb1⟩
  have S1 := keepS hb1 (allocS _ (s0 c w))
  have P1 := keepP (g := w.heap.size + 1) hb1 (p0 0 0 0 0 50 _ (by simp))
  clear hb1
  go_wp2
  exact bodyPost_ret (v := (.tuple #[.agg #[.int .i64 0, .int .i64 0, .int .i64 0, .int .i64 0], .bool false])) (by simp [results, Try.results49, go_sem, P1, World.cell?_setCell_same']) rfl ⟨by rw [HO.out], by first | exact sB S1 | exact bset (bset (bset (bset (sB S1) (Nat.le_succ _) _) (Nat.le_succ _) _) (Nat.le_succ _) _) (Nat.le_succ _) _⟩

set_option maxHeartbeats 1000000 in
set_option maxRecDepth 20000 in
theorem f49_in (c : Cfg) (n : Int) (n0 : 0 ≤ n) (n1 : n < countP c) (w : World) :
    Calls Try.prog 49 #[cv c, .int .i64 n] w fun e w' => e = .returned (.tuple #[pv (ofP c n).1, .bool (ofP c n).2]) ∧ Below w.heap.size w w' := by
  obtain ⟨hq, m0, m1, hj, hk⟩ := count_split n0 n1
  have HO : Hd (ofP c n = (prt (n / eachP c) (kpl c.L (n % eachP c)), true)) := ⟨ofP_yes n0 n1⟩
  obtain ⟨i, hi⟩ : ∃ i : Nat, n % eachP c = (i : Int) := ⟨(n % eachP c).toNat, by omega⟩
  rw [hi] at HO m1
  have hra := row_at hq m1
  have hrl := row_len hq
  have hrz := (rowZ c).2
  obtain ⟨zl, HZL0⟩ : ∃ n, Hd ((rowP c 0).length = n) := ⟨_, ⟨rfl⟩⟩
  rw [HZL0.out] at hrz
  obtain ⟨xs, HXS⟩ : ∃ n, Hd (rowP c 0 = n) := ⟨_, ⟨rfl⟩⟩
  have HZL : Hd (xs.length = zl) := ⟨by rw [← HXS.out]; exact HZL0.out⟩
  obtain ⟨q, hqq⟩ : ∃ q, n / eachP c = q := ⟨_, rfl⟩
  rw [hqq] at hra hrl HO hq
  obtain ⟨ys, HYS⟩ : ∃ n, Hd (rowP c q = n) := ⟨_, ⟨rfl⟩⟩
  rw [HYS.out] at hra hrl
  have HYL : Hd (ys.length = zl) := ⟨by rw [hrz] at hrl; omega⟩
  obtain ⟨x, hx⟩ : ∃ x, prt q (kpl c.L i) = x := ⟨_, rfl⟩
  rw [hx] at hra HO
  have HX := Hd.mk hra
  obtain ⟨N, HN⟩ : ∃ r, Hd (countP c = r) := ⟨_, ⟨rfl⟩⟩
  have hbd := count_bd c
  rw [HN.out] at n1 hbd
  rw [hrz] at m1 hi hqq
  have hz95 := each_bd c
  rw [hrz] at hz95
  have n2 : n ≤ 389120 := by omega
  have hz1 : (1 : Int) ≤ (zl : Int) := by omega
  have ht1 : n.tdiv (zl : Int) = q := by rw [Int.tdiv_eq_ediv_of_nonneg n0]; exact hqq
  have ht2 : n.tmod (zl : Int) = (i : Int) := by rw [Int.tmod_eq_emod_of_nonneg n0]; exact hi
  have q0 : 0 ≤ q := (isB_iff.1 hq).1
  have q1 : q ≤ 4096 := (inn hq).n1
  have hz0 : ¬ zl = 0 := by omega
  have hz00 : ((zl : Int) == 0) = false := by rw [beq_eq_false_iff_ne]; omega
  have ht3 : IntKind.i64.wrap q = q := IntWalk.i64_in _ (by omega)
  have i0 : (0 : Int) ≤ (i : Int) := by omega
  clear hra hrl hrz hj hk hq hx hbd HZL0 m0
  go_enter Try.func49, Try.ntmps49
  go_wp2_with fail
  refine (f55_is c N HN.out _).mono ?_
  rintro e w1 ⟨rfl, hb1⟩
  have T1 := And.intro (keepS hb1 (allocS _ (s0 c w))) (keepP (g := w.heap.size + 1) hb1 (p0 0 0 0 0 50 _ (by simp)))
  clear hb1
  go_wp2_with fail
  refine (f53_is c 0 xs zl HXS.out HZL.out _).mono ?_
  rintro e w2 ⟨A0, cap0, rfl, hc0, -, hb2⟩
  have T2 := keepSP hb2 T1
  clear hb2 T1
  go_wp2_with fail
  go_region_with (go_at_call 53; refine (f53_is c q ys zl HYS.out HYL.out _).mono ?_; rintro e wq ⟨A, cap, rfl, hcA, hrA, hbq⟩; have T3 := keepSP hbq (And.intro (dS T2.1) T2.2); obtain ⟨ga, oa, rfl, hga, hcs⟩ := hrA (by have := HYL.out; omega); obtain ⟨x0, x1, x2, x3⟩ := hcs i x HX.out; clear hcs hrA)
  go_wp2
  exact bodyPost_ret (v := .tuple #[pv x, .bool true]) (by simp [results, Try.results49, go_sem, T3, World.cell?_setCell_same']) rfl ⟨by rw [HO.out], by repeat (first | exact sB T3.1 | refine bset ?_ (Nat.le_succ _) _)⟩

theorem f49_any (c : Cfg) (n : Int) (w : World) :
    Calls Try.prog 49 #[cv c, .int .i64 n] w fun e w' => e = .returned (.tuple #[pv (ofP c n).1, .bool (ofP c n).2]) ∧ Below w.heap.size w w' := by
  by_cases n0 : 0 ≤ n
  · by_cases n1 : n < countP c
    · exact f49_in c n n0 n1 w
    · exact f49_out c n n0 (by omega) w
  · exact f49_neg c n (by omega) w
theorem f49_is (c : Cfg) (n : Int) (x : Prt) (b : Bool) (h : ofP c n = (x, b)) (w : World) :
    Calls Try.prog 49 #[cv c, .int .i64 n] w fun e w' => e = .returned (.tuple #[pv x, .bool b]) ∧ Below w.heap.size w w' := by
  have := f49_any c n w
  rw [h] at this
  exact this

theorem number_in {c : Cfg} {x : Prt} {i : Nat} (hx : isB c x.n = true) (h : (rowP c x.n)[i]? = some x) : numberP c x = (x.n * eachP c + i, true) := by
  have hl := row_len hx
  have hi : i < (rowP c x.n).length := by
    rcases Nat.lt_or_ge i (rowP c x.n).length with h1 | h1
    · exact h1
    · rw [List.getElem?_eq_none h1] at h; cases h
  have hie : (i : Int) < eachP c := by omega
  have h2 := row_at hx hie
  rw [h] at h2
  injection h2 with h2
  have hn := numW_kpl hx (by omega) hie
  rw [← h2] at hn
  obtain ⟨j0, j1, j2, j3⟩ := count_join hx (show (0 : Int) ≤ (i : Int) by omega) hie
  have ho := ofP_yes j0 j1
  rw [j2, j3, ← h2] at ho
  have hk := each_ok (isB_chk hx)
  have hkk := kpl_kind (chk_okc (isB_chk hx)).L1 (show (0 : Int) ≤ (i : Int) by omega) (by omega)
  have hx1 : x.k = (kpl c.L i).1 := by rw [h2]; rfl
  unfold numberP
  rw [hn, if_pos ⟨hx, by omega, by omega, ho⟩]
theorem number_out {c : Cfg} {x : Prt} (h : ∀ i : Nat, (rowP c x.n)[i]? ≠ some x) : numberP c x = (0, false) := by
  unfold numberP
  rw [if_neg]
  rintro ⟨hx, _, _, ho⟩
  by_cases hin : 0 ≤ numW c x ∧ numW c x < countP c
  · rw [ofP_yes hin.1 hin.2] at ho
    injection ho with h1 _
    obtain ⟨_, m0, m1, _, _⟩ := count_split hin.1 hin.2
    have hn : x.n = numW c x / eachP c := (congrArg Prt.n h1).symm
    obtain ⟨i, hi⟩ : ∃ i : Nat, numW c x % eachP c = (i : Int) := ⟨(numW c x % eachP c).toNat, by omega⟩
    rw [hi, ← hn] at h1
    rw [hi] at m1
    have := row_at hx m1
    rw [h1] at this
    exact h i this
  · rw [ofP_no hin] at ho
    injection ho with _ h2
    cases h2
theorem prt_eq (y x : Prt) : (y.k == x.k && (y.n == x.n && (y.p == x.p && y.l == x.l))) = decide (y = x) := by
  obtain ⟨a, b, c, d⟩ := y
  obtain ⟨a', b', c', d'⟩ := x
  rw [Bool.eq_iff_iff]
  simp
structure RelNum (c : Cfg) (x : Prt) (ys : List Prt) (A : Option Addr) (w : World) (i : Value) (W : World) (k : Nat) : Prop where
  kl : k ≤ ys.length
  hi : i = .int .i64 (k : Int)
  rd : Rd4 W A ys
  no : Hd (∀ j, j < k → ys[j]? ≠ some x)
  t : (W.cell? ⟨w.heap.size, 0, none⟩ = some (.int .i64 c.W) ∧ W.cell? ⟨w.heap.size, 1, none⟩ = some (.int .i64 c.H) ∧ W.cell? ⟨w.heap.size, 2, none⟩ = some (.int .i64 c.L) ∧ W.cell? ⟨w.heap.size, 3, none⟩ = some (.int .i64 c.D) ∧ W.cell? ⟨w.heap.size, 4, none⟩ = some (.int .i64 c.R) ∧ W.cell? ⟨w.heap.size, 5, none⟩ = some (.int .i64 c.I) ∧ W.cell? ⟨w.heap.size, 6, none⟩ = some (.int .i64 c.B) ∧ W.cell? ⟨w.heap.size, 7, none⟩ = some (.bool c.ws) ∧ W.cell? ⟨w.heap.size, 8, none⟩ = some (.bool c.cs) ∧ w.heap.size < W.heap.size ∧ Below w.heap.size w W) ∧ (W.cell? ⟨w.heap.size + 1, 0, none⟩ = some (.int .i64 (x.k)) ∧ W.cell? ⟨w.heap.size + 1, 1, none⟩ = some (.int .i64 (x.n)) ∧ W.cell? ⟨w.heap.size + 1, 2, none⟩ = some (.int .i64 (x.p)) ∧ W.cell? ⟨w.heap.size + 1, 3, none⟩ = some (.int .i64 (x.l)) ∧ W.frozen? ⟨w.heap.size + 1, 0, none⟩ = false ∧ W.frozen? ⟨w.heap.size + 1, 1, none⟩ = false ∧ W.frozen? ⟨w.heap.size + 1, 2, none⟩ = false ∧ W.frozen? ⟨w.heap.size + 1, 3, none⟩ = false ∧ w.heap.size + 1 < W.heap.size)

set_option maxHeartbeats 1000000 in
set_option maxRecDepth 20000 in
theorem f51_any (c : Cfg) (x : Prt) (w : World) :
    Calls Try.prog 51 #[cv c, pv x] w fun e w' => e = .returned (.tuple #[.int .i64 (numberP c x).1, .bool (numberP c x).2]) ∧ Below w.heap.size w w' := by
  obtain ⟨ys, HYS⟩ : ∃ n, Hd (rowP c x.n = n) := ⟨_, ⟨rfl⟩⟩
  obtain ⟨zl, HZL⟩ : ∃ n, Hd (ys.length = n) := ⟨_, ⟨rfl⟩⟩
  have HNB : Hd (0 < zl → isB c x.n = true) := ⟨fun h => by
    rcases hb : isB c x.n with _ | _
    · have h1 := HYS.out
      unfold rowP at h1
      rw [hb] at h1
      have h2 := HZL.out
      rw [← h1] at h2
      simp at h2
      omega
    · rfl⟩
  go_enter Try.func51, Try.ntmps51
  go_wp2_with fail
  refine (f53_is c x.n ys zl HYS.out HZL.out _).mono ?_
  rintro e w1 ⟨A, cap, rfl, hcap, hrd, hb1⟩
  have T1 := And.intro (keepS hb1 (allocS _ (s0 c w))) (keepP (g := w.heap.size + 1) hb1 (p0 x.k x.n x.p x.l 50 _ (by simp)))
  have HRD := Hd.mk hrd
  clear hb1 hrd
  go_wp2_with fail
  go_loopw [7] (fun i W => ∃ k : Nat, RelNum c x ys A w i W k) (fun i _ => zl - (intOf i).toNat)
  case atStart => exact ⟨0, by omega, rfl, HRD.out, ⟨fun j hj => by omega⟩, T1⟩
  case round =>
    obtain ⟨k, hk, rfl, hrd, HNO, hT⟩ := hrel
    rw [HZL.out] at hk
    have HR := Hd.mk hrd
    clear hrd HRD T1
    by_cases hlt : k < zl
    · have hib := HNB.out (by omega)
      have hrl := row_len hib
      rw [HYS.out, HZL.out] at hrl
      have heb := each_bd c
      rw [← hrl] at heb
      have n0 := (inn hib).n0
      have n1 := (inn hib).n1
      have nz0 : 0 ≤ x.n * (zl : Int) := Int.mul_nonneg n0 heb.1
      have nz1 : x.n * (zl : Int) ≤ 389120 := by have := Int.mul_le_mul n1 heb.2 heb.1 (by omega); omega
      have HIB := Hd.mk hib
      have HRL := Hd.mk hrl
      clear hib hrl
      have i1 : (0 : Int) ≤ (k : Int) := by omega
      have i2 : (k : Int) < (zl : Int) := by omega
      obtain ⟨y, HY⟩ : ∃ y, Hd (ys[k]? = some y) := ⟨_, ⟨List.getElem?_eq_getElem (by have := HZL.out; omega)⟩⟩
      obtain ⟨ga, oa, rfl, hga, hcs⟩ := HR.out (by have := HZL.out; omega)
      obtain ⟨y0, y1, y2, y3⟩ := hcs k y HY.out
      clear hcs hga
      have hS := hT.1
      have hP := hT.2
      have HT := Hd.mk hT
      clear hT
      by_cases hyx : y = x
      · have HYX := Hd.mk hyx
        have q1 : ∀ W, (binOp .eql 50 (.agg #[.int .i64 y.k, .int .i64 y.n, .int .i64 y.p, .int .i64 y.l]) (.agg #[.int .i64 x.k, .int .i64 x.n, .int .i64 x.p, .int .i64 x.l])).run Try.prog W = .ok (.bool true) W := fun W => by rw [eq50_run, prt_eq, decide_eq_true HYX.out]
        have q2 : ∀ W, (Op.equalIn 10000 50 (.agg #[.int .i64 y.k, .int .i64 y.n, .int .i64 y.p, .int .i64 y.l]) (.agg #[.int .i64 x.k, .int .i64 x.n, .int .i64 x.p, .int .i64 x.l])).run Try.prog W = .ok true W := fun W => by rw [run_eq50, prt_eq, decide_eq_true HYX.out]
        clear hyx
        go_wp2_with fail
        go_quiet (fail)
        go_wp2
        go_ret2
        exact ⟨by rw [number_in HIB.out (i := k) (by rw [HYS.out, HY.out, HYX.out]), ← HRL.out]; rfl, bdrewN (sB HT.out.1) _⟩
      · have HYX := Hd.mk hyx
        have q1 : ∀ W, (binOp .eql 50 (.agg #[.int .i64 y.k, .int .i64 y.n, .int .i64 y.p, .int .i64 y.l]) (.agg #[.int .i64 x.k, .int .i64 x.n, .int .i64 x.p, .int .i64 x.l])).run Try.prog W = .ok (.bool false) W := fun W => by rw [eq50_run, prt_eq, decide_eq_false HYX.out]
        have q2 : ∀ W, (Op.equalIn 10000 50 (.agg #[.int .i64 y.k, .int .i64 y.n, .int .i64 y.p, .int .i64 y.l]) (.agg #[.int .i64 x.k, .int .i64 x.n, .int .i64 x.p, .int .i64 x.l])).run Try.prog W = .ok false W := fun W => by rw [run_eq50, prt_eq, decide_eq_false HYX.out]
        clear hyx
        go_wp2_with fail
        go_quiet (fail)
        go_wp2
        go_roundw
        case rel => exact ⟨k + 1, by have := HZL.out; omega, by go_num, HR.out.drewN _, ⟨fun j hj => by
          rcases Nat.lt_or_ge j k with h | h
          · exact HNO.out j h
          · obtain rfl : j = k := by omega
            rw [HY.out]; exact fun h => HYX.out (by injection h)⟩, And.intro (drewNS _ HT.out.1) HT.out.2⟩
        case measure => simp [intOf]; omega
    · have HK : Hd (k = zl) := ⟨by omega⟩
      go_wp2
      go_ret2
      exact ⟨by rw [number_out (fun j hj => by
        rw [HYS.out] at hj
        rcases Nat.lt_or_ge j zl with h | h
        · exact HNO.out j (by have := HK.out; omega) hj
        · rw [List.getElem?_eq_none (by have := HZL.out; omega)] at hj; cases hj)]; rfl, sB hT.1⟩

theorem f51_is (c : Cfg) (x : Prt) (n : Int) (b : Bool) (h : numberP c x = (n, b)) (w : World) :
    Calls Try.prog 51 #[cv c, pv x] w fun e w' => e = .returned (.tuple #[.int .i64 n, .bool b]) ∧ Below w.heap.size w w' := by
  have := f51_any c x w
  rw [h] at this
  exact this

end Go.Proofs.Ytnbogjiddildaaa

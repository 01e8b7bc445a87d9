/- Contract of pick.Of. -/
import Derived.Test.YtnbogjiddildaaaP1
import Derived.RegionTactic
import Derived.BigRegion
namespace Go.Proofs.Ytnbogjiddildaaa
open Go.RowKit
set_option linter.unusedSimpArgs false
set_option linter.unusedVariables false

theorem keepP {g : Nat} {k n p l : Int} {W W' : World} (hb : Below W.heap.size W W') (H : W.cell? ⟨g, 0, none⟩ = some (.int .i64 (k)) ∧ W.cell? ⟨g, 1, none⟩ = some (.int .i64 (n)) ∧ W.cell? ⟨g, 2, none⟩ = some (.int .i64 (p)) ∧ W.cell? ⟨g, 3, none⟩ = some (.int .i64 (l)) ∧ W.frozen? ⟨g, 0, none⟩ = false ∧ W.frozen? ⟨g, 1, none⟩ = false ∧ W.frozen? ⟨g, 2, none⟩ = false ∧ W.frozen? ⟨g, 3, none⟩ = false ∧ g < W.heap.size) : W'.cell? ⟨g, 0, none⟩ = some (.int .i64 (k)) ∧ W'.cell? ⟨g, 1, none⟩ = some (.int .i64 (n)) ∧ W'.cell? ⟨g, 2, none⟩ = some (.int .i64 (p)) ∧ W'.cell? ⟨g, 3, none⟩ = some (.int .i64 (l)) ∧ W'.frozen? ⟨g, 0, none⟩ = false ∧ W'.frozen? ⟨g, 1, none⟩ = false ∧ W'.frozen? ⟨g, 2, none⟩ = false ∧ W'.frozen? ⟨g, 3, none⟩ = false ∧ g < W'.heap.size := by
  obtain ⟨h0, h1, h2, h3, h4, h5, h6, h7, hg⟩ := H
  have hs := hb.size
  refine ⟨?_, ?_, ?_, ?_, ?_, ?_, ?_, ?_, by omega⟩
  all_goals first | (rw [hb.cell (by exact hg)]; assumption) | (rw [hb.frozen (by exact hg)]; assumption)

theorem allocP {g : Nat} {k n p l : Int} {W : World} (o : Obj) (H : W.cell? ⟨g, 0, none⟩ = some (.int .i64 (k)) ∧ W.cell? ⟨g, 1, none⟩ = some (.int .i64 (n)) ∧ W.cell? ⟨g, 2, none⟩ = some (.int .i64 (p)) ∧ W.cell? ⟨g, 3, none⟩ = some (.int .i64 (l)) ∧ W.frozen? ⟨g, 0, none⟩ = false ∧ W.frozen? ⟨g, 1, none⟩ = false ∧ W.frozen? ⟨g, 2, none⟩ = false ∧ W.frozen? ⟨g, 3, none⟩ = false ∧ g < W.heap.size) : (W.alloc o).cell? ⟨g, 0, none⟩ = some (.int .i64 (k)) ∧ (W.alloc o).cell? ⟨g, 1, none⟩ = some (.int .i64 (n)) ∧ (W.alloc o).cell? ⟨g, 2, none⟩ = some (.int .i64 (p)) ∧ (W.alloc o).cell? ⟨g, 3, none⟩ = some (.int .i64 (l)) ∧ (W.alloc o).frozen? ⟨g, 0, none⟩ = false ∧ (W.alloc o).frozen? ⟨g, 1, none⟩ = false ∧ (W.alloc o).frozen? ⟨g, 2, none⟩ = false ∧ (W.alloc o).frozen? ⟨g, 3, none⟩ = false ∧ g < (W.alloc o).heap.size := keepP ((Below.refl _ _).alloc (Nat.le_refl _) o) H

theorem p0 (k n p l : Int) (t : TypeId) {g : Nat} (W : World) (hg : W.heap.size = g) : (W.alloc (.cells #[.int .i64 k, .int .i64 n, .int .i64 p, .int .i64 l] t)).cell? ⟨g, 0, none⟩ = some (.int .i64 (k)) ∧ (W.alloc (.cells #[.int .i64 k, .int .i64 n, .int .i64 p, .int .i64 l] t)).cell? ⟨g, 1, none⟩ = some (.int .i64 (n)) ∧ (W.alloc (.cells #[.int .i64 k, .int .i64 n, .int .i64 p, .int .i64 l] t)).cell? ⟨g, 2, none⟩ = some (.int .i64 (p)) ∧ (W.alloc (.cells #[.int .i64 k, .int .i64 n, .int .i64 p, .int .i64 l] t)).cell? ⟨g, 3, none⟩ = some (.int .i64 (l)) ∧ (W.alloc (.cells #[.int .i64 k, .int .i64 n, .int .i64 p, .int .i64 l] t)).frozen? ⟨g, 0, none⟩ = false ∧ (W.alloc (.cells #[.int .i64 k, .int .i64 n, .int .i64 p, .int .i64 l] t)).frozen? ⟨g, 1, none⟩ = false ∧ (W.alloc (.cells #[.int .i64 k, .int .i64 n, .int .i64 p, .int .i64 l] t)).frozen? ⟨g, 2, none⟩ = false ∧ (W.alloc (.cells #[.int .i64 k, .int .i64 n, .int .i64 p, .int .i64 l] t)).frozen? ⟨g, 3, none⟩ = false ∧ g < (W.alloc (.cells #[.int .i64 k, .int .i64 n, .int .i64 p, .int .i64 l] t)).heap.size := by
  subst hg
  refine ⟨?_, ?_, ?_, ?_, ?_, ?_, ?_, ?_, by simp⟩
  all_goals simp

set_option maxHeartbeats 1000000 in
set_option maxRecDepth 20000 in
theorem f48_0 (c : Cfg) (n : Int) (h : chk c = 0) (n0 : 0 ≤ n) (n1 : n < countP c) (m0 : 0 ≤ n % eachP c) (m1 : n % eachP c < 5 * c.L) (w : World) :
    Calls Try.prog 48 #[cv c, .int .i64 n] w fun e w' => e = .returned (.tuple #[pv (ofP c n).1, .bool (ofP c n).2]) ∧ Below w.heap.size w w' := by
  obtain ⟨z, HZ⟩ : ∃ r, Hd (eachP c = r) := ⟨_, ⟨rfl⟩⟩
  obtain ⟨N, HN⟩ : ∃ r, Hd (countP c = r) := ⟨_, ⟨rfl⟩⟩
  have l1 := (chk_okc h).L1
  have l2 := (chk_okc h).L2
  have hz := each_bd c
  have hz1 : 1 ≤ z := by rw [← HZ.out, each_ok h]; omega
  have hN := count_bd c
  rw [HZ.out] at hz
  rw [HN.out] at hN
  have n1' : n < N := by rw [← HN.out]; exact n1
  obtain ⟨m, HM⟩ : ∃ r, Hd (n % eachP c = r) := ⟨_, ⟨rfl⟩⟩
  obtain ⟨q, HQ⟩ : ∃ r, Hd (n / eachP c = r) := ⟨_, ⟨rfl⟩⟩
  rw [HM.out] at m0 m1
  have HO : Hd (ofP c n = (⟨0, q, m / c.L, m % c.L⟩, true)) := ⟨by
    unfold ofP
    rw [if_pos ⟨n0, n1⟩]
    simp only [HM.out, HQ.out]
    have e : kpl c.L m = (0, m / c.L, m % c.L) := by
      unfold kpl
      rw [if_pos (by omega)]
    rw [e]⟩
  have HMz : Hd (n % z = m) := ⟨by rw [← HZ.out]; exact HM.out⟩
  have HQz : Hd (n / z = q) := ⟨by rw [← HZ.out]; exact HQ.out⟩
  clear n1
  have i0 : ∀ W : World, (Instr.index 67 (.agg #[.int .i64 (5 * c.L), .int .i64 (5 * c.L), .int .i64 5, .int .i64 1, .int .i64 1, .int .i64 4, .int .i64 4]) (.int .i64 0)).run Try.prog W = .ok (.int .i64 (5 * c.L)) W := fun _ => by kernel_rfl
  have i1 : ∀ W : World, (Instr.index 67 (.agg #[.int .i64 (5 * c.L), .int .i64 (5 * c.L), .int .i64 5, .int .i64 1, .int .i64 1, .int .i64 4, .int .i64 4]) (.int .i64 1)).run Try.prog W = .ok (.int .i64 (5 * c.L)) W := fun _ => by kernel_rfl
  have i2 : ∀ W : World, (Instr.index 67 (.agg #[.int .i64 (5 * c.L), .int .i64 (5 * c.L), .int .i64 5, .int .i64 1, .int .i64 1, .int .i64 4, .int .i64 4]) (.int .i64 2)).run Try.prog W = .ok (.int .i64 (5)) W := fun _ => by kernel_rfl
  have i3 : ∀ W : World, (Instr.index 67 (.agg #[.int .i64 (5 * c.L), .int .i64 (5 * c.L), .int .i64 5, .int .i64 1, .int .i64 1, .int .i64 4, .int .i64 4]) (.int .i64 3)).run Try.prog W = .ok (.int .i64 (1)) W := fun _ => by kernel_rfl
  have i4 : ∀ W : World, (Instr.index 67 (.agg #[.int .i64 (5 * c.L), .int .i64 (5 * c.L), .int .i64 5, .int .i64 1, .int .i64 1, .int .i64 4, .int .i64 4]) (.int .i64 4)).run Try.prog W = .ok (.int .i64 (1)) W := fun _ => by kernel_rfl
  have i5 : ∀ W : World, (Instr.index 67 (.agg #[.int .i64 (5 * c.L), .int .i64 (5 * c.L), .int .i64 5, .int .i64 1, .int .i64 1, .int .i64 4, .int .i64 4]) (.int .i64 5)).run Try.prog W = .ok (.int .i64 (4)) W := fun _ => by kernel_rfl
  have i6 : ∀ W : World, (Instr.index 67 (.agg #[.int .i64 (5 * c.L), .int .i64 (5 * c.L), .int .i64 5, .int .i64 1, .int .i64 1, .int .i64 4, .int .i64 4]) (.int .i64 6)).run Try.prog W = .ok (.int .i64 (4)) W := fun _ => by kernel_rfl
  go_enter Try.func48, Try.ntmps48
  go_wp2_with fail
  refine (f54_is c N HN.out _).mono ?_
  rintro e w1 ⟨rfl, hb1⟩
  have S1 := keepS hb1 (allocS _ (s0 c w))
  have P1 := keepP (g := w.heap.size + 1) hb1 (p0 0 0 0 0 51 _ (by simp))
  clear hb1
  go_wp2_with fail
  refine (f52_is c z HZ.out _).mono ?_
  rintro e w2 ⟨rfl, hb2⟩
  have S2 := keepS hb2 S1
  have P2 := keepP hb2 P1
  clear hb2 S1 P1
  go_wp2_with fail
  rw [HQz.out]
  refine (f52_is c z HZ.out _).mono ?_
  rintro e w3 ⟨rfl, hb3⟩
  have S3 := keepS hb3 (allocS _ S2)
  have P3 := keepP hb3 (allocP _ P2)
  have Q3 := keepP (g := w2.heap.size) hb3 (p0 0 q 0 0 51 _ rfl)
  have hd : w.heap.size + 1 < w2.heap.size := P2.2.2.2.2.2.2.2.2
  clear hb3 S2 P2
  go_wp2_with fail
  rw [HMz.out]
  refine (f85_any c l1 l2 _).mono ?_
  rintro e w4 ⟨rfl, hb4⟩
  have S4 := keepS hb4 S3
  have P4 := keepP hb4 P3
  have Q4 := keepP hb4 Q3
  clear hb4 S3 P3 Q3
  generalize hg6 : w2.heap.size = g6 at *
  have hg1 : w.heap.size + 1 < g6 := by omega
  clear hg6
  go_wp2_with fail
  refine wp_loop_rounds 8 ?_
  rw [rounds_succ]
  go_wp2
  go_region
  go_wp2
  exact bodyPost_ret (v := .tuple #[pv ⟨0, q, m / c.L, m % c.L⟩, .bool true]) (by simp [results, Try.results48, go_sem, P4, Q4, World.cell?_setCell_same', World.cell?_setCell_far]; try omega) rfl ⟨by rw [HO.out], (bdrew (bset (bset (bset (bset (bset (bset (bset (sB S4) (show w.heap.size ≤ g6 by omega) _) (show w.heap.size ≤ g6 by omega) _) (show w.heap.size ≤ g6 by omega) _) (Nat.le_succ _) _) (Nat.le_succ _) _) (Nat.le_succ _) _) (Nat.le_succ _) _))⟩

set_option maxHeartbeats 1000000 in
set_option maxRecDepth 20000 in
theorem f48_1 (c : Cfg) (n : Int) (h : chk c = 0) (n0 : 0 ≤ n) (n1 : n < countP c) (m0 : 5 * c.L ≤ n % eachP c) (m1 : n % eachP c < 10 * c.L) (w : World) :
    Calls Try.prog 48 #[cv c, .int .i64 n] w fun e w' => e = .returned (.tuple #[pv (ofP c n).1, .bool (ofP c n).2]) ∧ Below w.heap.size w w' := by
  obtain ⟨z, HZ⟩ : ∃ r, Hd (eachP c = r) := ⟨_, ⟨rfl⟩⟩
  obtain ⟨N, HN⟩ : ∃ r, Hd (countP c = r) := ⟨_, ⟨rfl⟩⟩
  have l1 := (chk_okc h).L1
  have l2 := (chk_okc h).L2
  have hz := each_bd c
  have hz1 : 1 ≤ z := by rw [← HZ.out, each_ok h]; omega
  have hN := count_bd c
  rw [HZ.out] at hz
  rw [HN.out] at hN
  have n1' : n < N := by rw [← HN.out]; exact n1
  obtain ⟨m, HM⟩ : ∃ r, Hd (n % eachP c = r) := ⟨_, ⟨rfl⟩⟩
  obtain ⟨q, HQ⟩ : ∃ r, Hd (n / eachP c = r) := ⟨_, ⟨rfl⟩⟩
  rw [HM.out] at m0 m1
  have HO : Hd (ofP c n = (⟨1, q, (m - 5 * c.L) / c.L, (m - 5 * c.L) % c.L⟩, true)) := ⟨by
    unfold ofP
    rw [if_pos ⟨n0, n1⟩]
    simp only [HM.out, HQ.out]
    have e : kpl c.L m = (1, (m - 5 * c.L) / c.L, (m - 5 * c.L) % c.L) := by
      unfold kpl
      rw [if_neg (by omega)]; rw [if_pos (by omega)]
    rw [e]⟩
  have HMz : Hd (n % z = m) := ⟨by rw [← HZ.out]; exact HM.out⟩
  have HQz : Hd (n / z = q) := ⟨by rw [← HZ.out]; exact HQ.out⟩
  clear n1
  have i0 : ∀ W : World, (Instr.index 67 (.agg #[.int .i64 (5 * c.L), .int .i64 (5 * c.L), .int .i64 5, .int .i64 1, .int .i64 1, .int .i64 4, .int .i64 4]) (.int .i64 0)).run Try.prog W = .ok (.int .i64 (5 * c.L)) W := fun _ => by kernel_rfl
  have i1 : ∀ W : World, (Instr.index 67 (.agg #[.int .i64 (5 * c.L), .int .i64 (5 * c.L), .int .i64 5, .int .i64 1, .int .i64 1, .int .i64 4, .int .i64 4]) (.int .i64 1)).run Try.prog W = .ok (.int .i64 (5 * c.L)) W := fun _ => by kernel_rfl
  have i2 : ∀ W : World, (Instr.index 67 (.agg #[.int .i64 (5 * c.L), .int .i64 (5 * c.L), .int .i64 5, .int .i64 1, .int .i64 1, .int .i64 4, .int .i64 4]) (.int .i64 2)).run Try.prog W = .ok (.int .i64 (5)) W := fun _ => by kernel_rfl
  have i3 : ∀ W : World, (Instr.index 67 (.agg #[.int .i64 (5 * c.L), .int .i64 (5 * c.L), .int .i64 5, .int .i64 1, .int .i64 1, .int .i64 4, .int .i64 4]) (.int .i64 3)).run Try.prog W = .ok (.int .i64 (1)) W := fun _ => by kernel_rfl
  have i4 : ∀ W : World, (Instr.index 67 (.agg #[.int .i64 (5 * c.L), .int .i64 (5 * c.L), .int .i64 5, .int .i64 1, .int .i64 1, .int .i64 4, .int .i64 4]) (.int .i64 4)).run Try.prog W = .ok (.int .i64 (1)) W := fun _ => by kernel_rfl
  have i5 : ∀ W : World, (Instr.index 67 (.agg #[.int .i64 (5 * c.L), .int .i64 (5 * c.L), .int .i64 5, .int .i64 1, .int .i64 1, .int .i64 4, .int .i64 4]) (.int .i64 5)).run Try.prog W = .ok (.int .i64 (4)) W := fun _ => by kernel_rfl
  have i6 : ∀ W : World, (Instr.index 67 (.agg #[.int .i64 (5 * c.L), .int .i64 (5 * c.L), .int .i64 5, .int .i64 1, .int .i64 1, .int .i64 4, .int .i64 4]) (.int .i64 6)).run Try.prog W = .ok (.int .i64 (4)) W := fun _ => by kernel_rfl
  go_enter Try.func48, Try.ntmps48
  go_wp2_with fail
  refine (f54_is c N HN.out _).mono ?_
  rintro e w1 ⟨rfl, hb1⟩
  have S1 := keepS hb1 (allocS _ (s0 c w))
  have P1 := keepP (g := w.heap.size + 1) hb1 (p0 0 0 0 0 51 _ (by simp))
  clear hb1
  go_wp2_with fail
  refine (f52_is c z HZ.out _).mono ?_
  rintro e w2 ⟨rfl, hb2⟩
  have S2 := keepS hb2 S1
  have P2 := keepP hb2 P1
  clear hb2 S1 P1
  go_wp2_with fail
  rw [HQz.out]
  refine (f52_is c z HZ.out _).mono ?_
  rintro e w3 ⟨rfl, hb3⟩
  have S3 := keepS hb3 (allocS _ S2)
  have P3 := keepP hb3 (allocP _ P2)
  have Q3 := keepP (g := w2.heap.size) hb3 (p0 0 q 0 0 51 _ rfl)
  have hd : w.heap.size + 1 < w2.heap.size := P2.2.2.2.2.2.2.2.2
  clear hb3 S2 P2
  go_wp2_with fail
  rw [HMz.out]
  refine (f85_any c l1 l2 _).mono ?_
  rintro e w4 ⟨rfl, hb4⟩
  have S4 := keepS hb4 S3
  have P4 := keepP hb4 P3
  have Q4 := keepP hb4 Q3
  clear hb4 S3 P3 Q3
  generalize hg6 : w2.heap.size = g6 at *
  have hg1 : w.heap.size + 1 < g6 := by omega
  clear hg6
  go_wp2_with fail
  refine wp_loop_rounds 8 ?_
  rw [rounds_succ]
  go_wp2
  rw [rounds_succ]
  go_wp2
  go_region
  go_wp2
  exact bodyPost_ret (v := .tuple #[pv ⟨1, q, (m - 5 * c.L) / c.L, (m - 5 * c.L) % c.L⟩, .bool true]) (by simp [results, Try.results48, go_sem, P4, Q4, World.cell?_setCell_same', World.cell?_setCell_far]; try omega) rfl ⟨by rw [HO.out], (bdrew (bset (bset (bset (bset (bset (bset (bset (sB S4) (show w.heap.size ≤ g6 by omega) _) (show w.heap.size ≤ g6 by omega) _) (show w.heap.size ≤ g6 by omega) _) (Nat.le_succ _) _) (Nat.le_succ _) _) (Nat.le_succ _) _) (Nat.le_succ _) _))⟩

set_option maxHeartbeats 1000000 in
set_option maxRecDepth 20000 in
theorem f48_2 (c : Cfg) (n : Int) (h : chk c = 0) (n0 : 0 ≤ n) (n1 : n < countP c) (m0 : 10 * c.L ≤ n % eachP c) (m1 : n % eachP c < 10 * c.L + 5) (w : World) :
    Calls Try.prog 48 #[cv c, .int .i64 n] w fun e w' => e = .returned (.tuple #[pv (ofP c n).1, .bool (ofP c n).2]) ∧ Below w.heap.size w w' := by
  obtain ⟨z, HZ⟩ : ∃ r, Hd (eachP c = r) := ⟨_, ⟨rfl⟩⟩
  obtain ⟨N, HN⟩ : ∃ r, Hd (countP c = r) := ⟨_, ⟨rfl⟩⟩
  have l1 := (chk_okc h).L1
  have l2 := (chk_okc h).L2
  have hz := each_bd c
  have hz1 : 1 ≤ z := by rw [← HZ.out, each_ok h]; omega
  have hN := count_bd c
  rw [HZ.out] at hz
  rw [HN.out] at hN
  have n1' : n < N := by rw [← HN.out]; exact n1
  obtain ⟨m, HM⟩ : ∃ r, Hd (n % eachP c = r) := ⟨_, ⟨rfl⟩⟩
  obtain ⟨q, HQ⟩ : ∃ r, Hd (n / eachP c = r) := ⟨_, ⟨rfl⟩⟩
  rw [HM.out] at m0 m1
  have HO : Hd (ofP c n = (⟨2, q, m - 10 * c.L, 0⟩, true)) := ⟨by
    unfold ofP
    rw [if_pos ⟨n0, n1⟩]
    simp only [HM.out, HQ.out]
    have e : kpl c.L m = (2, m - 10 * c.L, 0) := by
      unfold kpl
      rw [if_neg (by omega)]; rw [if_neg (by omega)]; rw [if_pos (by omega)]
    rw [e]⟩
  have HMz : Hd (n % z = m) := ⟨by rw [← HZ.out]; exact HM.out⟩
  have HQz : Hd (n / z = q) := ⟨by rw [← HZ.out]; exact HQ.out⟩
  clear n1
  have i0 : ∀ W : World, (Instr.index 67 (.agg #[.int .i64 (5 * c.L), .int .i64 (5 * c.L), .int .i64 5, .int .i64 1, .int .i64 1, .int .i64 4, .int .i64 4]) (.int .i64 0)).run Try.prog W = .ok (.int .i64 (5 * c.L)) W := fun _ => by kernel_rfl
  have i1 : ∀ W : World, (Instr.index 67 (.agg #[.int .i64 (5 * c.L), .int .i64 (5 * c.L), .int .i64 5, .int .i64 1, .int .i64 1, .int .i64 4, .int .i64 4]) (.int .i64 1)).run Try.prog W = .ok (.int .i64 (5 * c.L)) W := fun _ => by kernel_rfl
  have i2 : ∀ W : World, (Instr.index 67 (.agg #[.int .i64 (5 * c.L), .int .i64 (5 * c.L), .int .i64 5, .int .i64 1, .int .i64 1, .int .i64 4, .int .i64 4]) (.int .i64 2)).run Try.prog W = .ok (.int .i64 (5)) W := fun _ => by kernel_rfl
  have i3 : ∀ W : World, (Instr.index 67 (.agg #[.int .i64 (5 * c.L), .int .i64 (5 * c.L), .int .i64 5, .int .i64 1, .int .i64 1, .int .i64 4, .int .i64 4]) (.int .i64 3)).run Try.prog W = .ok (.int .i64 (1)) W := fun _ => by kernel_rfl
  have i4 : ∀ W : World, (Instr.index 67 (.agg #[.int .i64 (5 * c.L), .int .i64 (5 * c.L), .int .i64 5, .int .i64 1, .int .i64 1, .int .i64 4, .int .i64 4]) (.int .i64 4)).run Try.prog W = .ok (.int .i64 (1)) W := fun _ => by kernel_rfl
  have i5 : ∀ W : World, (Instr.index 67 (.agg #[.int .i64 (5 * c.L), .int .i64 (5 * c.L), .int .i64 5, .int .i64 1, .int .i64 1, .int .i64 4, .int .i64 4]) (.int .i64 5)).run Try.prog W = .ok (.int .i64 (4)) W := fun _ => by kernel_rfl
  have i6 : ∀ W : World, (Instr.index 67 (.agg #[.int .i64 (5 * c.L), .int .i64 (5 * c.L), .int .i64 5, .int .i64 1, .int .i64 1, .int .i64 4, .int .i64 4]) (.int .i64 6)).run Try.prog W = .ok (.int .i64 (4)) W := fun _ => by kernel_rfl
  go_enter Try.func48, Try.ntmps48
  go_wp2_with fail
  refine (f54_is c N HN.out _).mono ?_
  rintro e w1 ⟨rfl, hb1⟩
  have S1 := keepS hb1 (allocS _ (s0 c w))
  have P1 := keepP (g := w.heap.size + 1) hb1 (p0 0 0 0 0 51 _ (by simp))
  clear hb1
  go_wp2_with fail
  refine (f52_is c z HZ.out _).mono ?_
  rintro e w2 ⟨rfl, hb2⟩
  have S2 := keepS hb2 S1
  have P2 := keepP hb2 P1
  clear hb2 S1 P1
  go_wp2_with fail
  rw [HQz.out]
  refine (f52_is c z HZ.out _).mono ?_
  rintro e w3 ⟨rfl, hb3⟩
  have S3 := keepS hb3 (allocS _ S2)
  have P3 := keepP hb3 (allocP _ P2)
  have Q3 := keepP (g := w2.heap.size) hb3 (p0 0 q 0 0 51 _ rfl)
  have hd : w.heap.size + 1 < w2.heap.size := P2.2.2.2.2.2.2.2.2
  clear hb3 S2 P2
  go_wp2_with fail
  rw [HMz.out]
  refine (f85_any c l1 l2 _).mono ?_
  rintro e w4 ⟨rfl, hb4⟩
  have S4 := keepS hb4 S3
  have P4 := keepP hb4 P3
  have Q4 := keepP hb4 Q3
  clear hb4 S3 P3 Q3
  generalize hg6 : w2.heap.size = g6 at *
  have hg1 : w.heap.size + 1 < g6 := by omega
  clear hg6
  go_wp2_with fail
  refine wp_loop_rounds 8 ?_
  rw [rounds_succ]
  go_wp2
  rw [rounds_succ]
  go_wp2
  rw [rounds_succ]
  go_wp2
  exact bodyPost_ret (v := .tuple #[pv ⟨2, q, m - 10 * c.L, 0⟩, .bool true]) (by simp [results, Try.results48, go_sem, P4, Q4, World.cell?_setCell_same', World.cell?_setCell_far]; try omega) rfl ⟨by rw [HO.out], (bset (bset (bset (bset (bset (bset (sB S4) (show w.heap.size ≤ g6 by omega) _) (show w.heap.size ≤ g6 by omega) _) (Nat.le_succ _) _) (Nat.le_succ _) _) (Nat.le_succ _) _) (Nat.le_succ _) _)⟩

set_option maxHeartbeats 1000000 in
set_option maxRecDepth 20000 in
theorem f48_3 (c : Cfg) (n : Int) (h : chk c = 0) (n0 : 0 ≤ n) (n1 : n < countP c) (m0 : 10 * c.L + 5 ≤ n % eachP c) (m1 : n % eachP c < 10 * c.L + 6) (w : World) :
    Calls Try.prog 48 #[cv c, .int .i64 n] w fun e w' => e = .returned (.tuple #[pv (ofP c n).1, .bool (ofP c n).2]) ∧ Below w.heap.size w w' := by
  obtain ⟨z, HZ⟩ : ∃ r, Hd (eachP c = r) := ⟨_, ⟨rfl⟩⟩
  obtain ⟨N, HN⟩ : ∃ r, Hd (countP c = r) := ⟨_, ⟨rfl⟩⟩
  have l1 := (chk_okc h).L1
  have l2 := (chk_okc h).L2
  have hz := each_bd c
  have hz1 : 1 ≤ z := by rw [← HZ.out, each_ok h]; omega
  have hN := count_bd c
  rw [HZ.out] at hz
  rw [HN.out] at hN
  have n1' : n < N := by rw [← HN.out]; exact n1
  obtain ⟨m, HM⟩ : ∃ r, Hd (n % eachP c = r) := ⟨_, ⟨rfl⟩⟩
  obtain ⟨q, HQ⟩ : ∃ r, Hd (n / eachP c = r) := ⟨_, ⟨rfl⟩⟩
  rw [HM.out] at m0 m1
  have HO : Hd (ofP c n = (⟨3, q, 0, 0⟩, true)) := ⟨by
    unfold ofP
    rw [if_pos ⟨n0, n1⟩]
    simp only [HM.out, HQ.out]
    have e : kpl c.L m = (3, 0, 0) := by
      unfold kpl
      rw [if_neg (by omega)]; rw [if_neg (by omega)]; rw [if_neg (by omega)]; rw [if_pos (by omega)]
    rw [e]⟩
  have HMz : Hd (n % z = m) := ⟨by rw [← HZ.out]; exact HM.out⟩
  have HQz : Hd (n / z = q) := ⟨by rw [← HZ.out]; exact HQ.out⟩
  clear n1
  have i0 : ∀ W : World, (Instr.index 67 (.agg #[.int .i64 (5 * c.L), .int .i64 (5 * c.L), .int .i64 5, .int .i64 1, .int .i64 1, .int .i64 4, .int .i64 4]) (.int .i64 0)).run Try.prog W = .ok (.int .i64 (5 * c.L)) W := fun _ => by kernel_rfl
  have i1 : ∀ W : World, (Instr.index 67 (.agg #[.int .i64 (5 * c.L), .int .i64 (5 * c.L), .int .i64 5, .int .i64 1, .int .i64 1, .int .i64 4, .int .i64 4]) (.int .i64 1)).run Try.prog W = .ok (.int .i64 (5 * c.L)) W := fun _ => by kernel_rfl
  have i2 : ∀ W : World, (Instr.index 67 (.agg #[.int .i64 (5 * c.L), .int .i64 (5 * c.L), .int .i64 5, .int .i64 1, .int .i64 1, .int .i64 4, .int .i64 4]) (.int .i64 2)).run Try.prog W = .ok (.int .i64 (5)) W := fun _ => by kernel_rfl
  have i3 : ∀ W : World, (Instr.index 67 (.agg #[.int .i64 (5 * c.L), .int .i64 (5 * c.L), .int .i64 5, .int .i64 1, .int .i64 1, .int .i64 4, .int .i64 4]) (.int .i64 3)).run Try.prog W = .ok (.int .i64 (1)) W := fun _ => by kernel_rfl
  have i4 : ∀ W : World, (Instr.index 67 (.agg #[.int .i64 (5 * c.L), .int .i64 (5 * c.L), .int .i64 5, .int .i64 1, .int .i64 1, .int .i64 4, .int .i64 4]) (.int .i64 4)).run Try.prog W = .ok (.int .i64 (1)) W := fun _ => by kernel_rfl
  have i5 : ∀ W : World, (Instr.index 67 (.agg #[.int .i64 (5 * c.L), .int .i64 (5 * c.L), .int .i64 5, .int .i64 1, .int .i64 1, .int .i64 4, .int .i64 4]) (.int .i64 5)).run Try.prog W = .ok (.int .i64 (4)) W := fun _ => by kernel_rfl
  have i6 : ∀ W : World, (Instr.index 67 (.agg #[.int .i64 (5 * c.L), .int .i64 (5 * c.L), .int .i64 5, .int .i64 1, .int .i64 1, .int .i64 4, .int .i64 4]) (.int .i64 6)).run Try.prog W = .ok (.int .i64 (4)) W := fun _ => by kernel_rfl
  go_enter Try.func48, Try.ntmps48
  go_wp2_with fail
  refine (f54_is c N HN.out _).mono ?_
  rintro e w1 ⟨rfl, hb1⟩
  have S1 := keepS hb1 (allocS _ (s0 c w))
  have P1 := keepP (g := w.heap.size + 1) hb1 (p0 0 0 0 0 51 _ (by simp))
  clear hb1
  go_wp2_with fail
  refine (f52_is c z HZ.out _).mono ?_
  rintro e w2 ⟨rfl, hb2⟩
  have S2 := keepS hb2 S1
  have P2 := keepP hb2 P1
  clear hb2 S1 P1
  go_wp2_with fail
  rw [HQz.out]
  refine (f52_is c z HZ.out _).mono ?_
  rintro e w3 ⟨rfl, hb3⟩
  have S3 := keepS hb3 (allocS _ S2)
  have P3 := keepP hb3 (allocP _ P2)
  have Q3 := keepP (g := w2.heap.size) hb3 (p0 0 q 0 0 51 _ rfl)
  have hd : w.heap.size + 1 < w2.heap.size := P2.2.2.2.2.2.2.2.2
  clear hb3 S2 P2
  go_wp2_with fail
  rw [HMz.out]
  refine (f85_any c l1 l2 _).mono ?_
  rintro e w4 ⟨rfl, hb4⟩
  have S4 := keepS hb4 S3
  have P4 := keepP hb4 P3
  have Q4 := keepP hb4 Q3
  clear hb4 S3 P3 Q3
  generalize hg6 : w2.heap.size = g6 at *
  have hg1 : w.heap.size + 1 < g6 := by omega
  clear hg6
  go_wp2_with fail
  refine wp_loop_rounds 8 ?_
  rw [rounds_succ]
  go_wp2
  rw [rounds_succ]
  go_wp2
  rw [rounds_succ]
  go_wp2
  rw [rounds_succ]
  go_wp2
  exact bodyPost_ret (v := .tuple #[pv ⟨3, q, 0, 0⟩, .bool true]) (by simp [results, Try.results48, go_sem, P4, Q4, World.cell?_setCell_same', World.cell?_setCell_far]; try omega) rfl ⟨by rw [HO.out], (bset (bset (bset (bset (bset (sB S4) (show w.heap.size ≤ g6 by omega) _) (Nat.le_succ _) _) (Nat.le_succ _) _) (Nat.le_succ _) _) (Nat.le_succ _) _)⟩

set_option maxHeartbeats 1000000 in
set_option maxRecDepth 20000 in
theorem f48_4 (c : Cfg) (n : Int) (h : chk c = 0) (n0 : 0 ≤ n) (n1 : n < countP c) (m0 : 10 * c.L + 6 ≤ n % eachP c) (m1 : n % eachP c < 10 * c.L + 7) (w : World) :
    Calls Try.prog 48 #[cv c, .int .i64 n] w fun e w' => e = .returned (.tuple #[pv (ofP c n).1, .bool (ofP c n).2]) ∧ Below w.heap.size w w' := by
  obtain ⟨z, HZ⟩ : ∃ r, Hd (eachP c = r) := ⟨_, ⟨rfl⟩⟩
  obtain ⟨N, HN⟩ : ∃ r, Hd (countP c = r) := ⟨_, ⟨rfl⟩⟩
  have l1 := (chk_okc h).L1
  have l2 := (chk_okc h).L2
  have hz := each_bd c
  have hz1 : 1 ≤ z := by rw [← HZ.out, each_ok h]; omega
  have hN := count_bd c
  rw [HZ.out] at hz
  rw [HN.out] at hN
  have n1' : n < N := by rw [← HN.out]; exact n1
  obtain ⟨m, HM⟩ : ∃ r, Hd (n % eachP c = r) := ⟨_, ⟨rfl⟩⟩
  obtain ⟨q, HQ⟩ : ∃ r, Hd (n / eachP c = r) := ⟨_, ⟨rfl⟩⟩
  rw [HM.out] at m0 m1
  have HO : Hd (ofP c n = (⟨4, q, 0, 0⟩, true)) := ⟨by
    unfold ofP
    rw [if_pos ⟨n0, n1⟩]
    simp only [HM.out, HQ.out]
    have e : kpl c.L m = (4, 0, 0) := by
      unfold kpl
      rw [if_neg (by omega)]; rw [if_neg (by omega)]; rw [if_neg (by omega)]; rw [if_neg (by omega)]; rw [if_pos (by omega)]
    rw [e]⟩
  have HMz : Hd (n % z = m) := ⟨by rw [← HZ.out]; exact HM.out⟩
  have HQz : Hd (n / z = q) := ⟨by rw [← HZ.out]; exact HQ.out⟩
  clear n1
  have i0 : ∀ W : World, (Instr.index 67 (.agg #[.int .i64 (5 * c.L), .int .i64 (5 * c.L), .int .i64 5, .int .i64 1, .int .i64 1, .int .i64 4, .int .i64 4]) (.int .i64 0)).run Try.prog W = .ok (.int .i64 (5 * c.L)) W := fun _ => by kernel_rfl
  have i1 : ∀ W : World, (Instr.index 67 (.agg #[.int .i64 (5 * c.L), .int .i64 (5 * c.L), .int .i64 5, .int .i64 1, .int .i64 1, .int .i64 4, .int .i64 4]) (.int .i64 1)).run Try.prog W = .ok (.int .i64 (5 * c.L)) W := fun _ => by kernel_rfl
  have i2 : ∀ W : World, (Instr.index 67 (.agg #[.int .i64 (5 * c.L), .int .i64 (5 * c.L), .int .i64 5, .int .i64 1, .int .i64 1, .int .i64 4, .int .i64 4]) (.int .i64 2)).run Try.prog W = .ok (.int .i64 (5)) W := fun _ => by kernel_rfl
  have i3 : ∀ W : World, (Instr.index 67 (.agg #[.int .i64 (5 * c.L), .int .i64 (5 * c.L), .int .i64 5, .int .i64 1, .int .i64 1, .int .i64 4, .int .i64 4]) (.int .i64 3)).run Try.prog W = .ok (.int .i64 (1)) W := fun _ => by kernel_rfl
  have i4 : ∀ W : World, (Instr.index 67 (.agg #[.int .i64 (5 * c.L), .int .i64 (5 * c.L), .int .i64 5, .int .i64 1, .int .i64 1, .int .i64 4, .int .i64 4]) (.int .i64 4)).run Try.prog W = .ok (.int .i64 (1)) W := fun _ => by kernel_rfl
  have i5 : ∀ W : World, (Instr.index 67 (.agg #[.int .i64 (5 * c.L), .int .i64 (5 * c.L), .int .i64 5, .int .i64 1, .int .i64 1, .int .i64 4, .int .i64 4]) (.int .i64 5)).run Try.prog W = .ok (.int .i64 (4)) W := fun _ => by kernel_rfl
  have i6 : ∀ W : World, (Instr.index 67 (.agg #[.int .i64 (5 * c.L), .int .i64 (5 * c.L), .int .i64 5, .int .i64 1, .int .i64 1, .int .i64 4, .int .i64 4]) (.int .i64 6)).run Try.prog W = .ok (.int .i64 (4)) W := fun _ => by kernel_rfl
  go_enter Try.func48, Try.ntmps48
  go_wp2_with fail
  refine (f54_is c N HN.out _).mono ?_
  rintro e w1 ⟨rfl, hb1⟩
  have S1 := keepS hb1 (allocS _ (s0 c w))
  have P1 := keepP (g := w.heap.size + 1) hb1 (p0 0 0 0 0 51 _ (by simp))
  clear hb1
  go_wp2_with fail
  refine (f52_is c z HZ.out _).mono ?_
  rintro e w2 ⟨rfl, hb2⟩
  have S2 := keepS hb2 S1
  have P2 := keepP hb2 P1
  clear hb2 S1 P1
  go_wp2_with fail
  rw [HQz.out]
  refine (f52_is c z HZ.out _).mono ?_
  rintro e w3 ⟨rfl, hb3⟩
  have S3 := keepS hb3 (allocS _ S2)
  have P3 := keepP hb3 (allocP _ P2)
  have Q3 := keepP (g := w2.heap.size) hb3 (p0 0 q 0 0 51 _ rfl)
  have hd : w.heap.size + 1 < w2.heap.size := P2.2.2.2.2.2.2.2.2
  clear hb3 S2 P2
  go_wp2_with fail
  rw [HMz.out]
  refine (f85_any c l1 l2 _).mono ?_
  rintro e w4 ⟨rfl, hb4⟩
  have S4 := keepS hb4 S3
  have P4 := keepP hb4 P3
  have Q4 := keepP hb4 Q3
  clear hb4 S3 P3 Q3
  generalize hg6 : w2.heap.size = g6 at *
  have hg1 : w.heap.size + 1 < g6 := by omega
  clear hg6
  go_wp2_with fail
  refine wp_loop_rounds 8 ?_
  rw [rounds_succ]
  go_wp2
  rw [rounds_succ]
  go_wp2
  rw [rounds_succ]
  go_wp2
  rw [rounds_succ]
  go_wp2
  rw [rounds_succ]
  go_wp2
  exact bodyPost_ret (v := .tuple #[pv ⟨4, q, 0, 0⟩, .bool true]) (by simp [results, Try.results48, go_sem, P4, Q4, World.cell?_setCell_same', World.cell?_setCell_far]; try omega) rfl ⟨by rw [HO.out], (bset (bset (bset (bset (bset (sB S4) (show w.heap.size ≤ g6 by omega) _) (Nat.le_succ _) _) (Nat.le_succ _) _) (Nat.le_succ _) _) (Nat.le_succ _) _)⟩

set_option maxHeartbeats 1000000 in
set_option maxRecDepth 20000 in
theorem f48_5 (c : Cfg) (n : Int) (h : chk c = 0) (n0 : 0 ≤ n) (n1 : n < countP c) (m0 : 10 * c.L + 7 ≤ n % eachP c) (m1 : n % eachP c < 10 * c.L + 11) (w : World) :
    Calls Try.prog 48 #[cv c, .int .i64 n] w fun e w' => e = .returned (.tuple #[pv (ofP c n).1, .bool (ofP c n).2]) ∧ Below w.heap.size w w' := by
  obtain ⟨z, HZ⟩ : ∃ r, Hd (eachP c = r) := ⟨_, ⟨rfl⟩⟩
  obtain ⟨N, HN⟩ : ∃ r, Hd (countP c = r) := ⟨_, ⟨rfl⟩⟩
  have l1 := (chk_okc h).L1
  have l2 := (chk_okc h).L2
  have hz := each_bd c
  have hz1 : 1 ≤ z := by rw [← HZ.out, each_ok h]; omega
  have hN := count_bd c
  rw [HZ.out] at hz
  rw [HN.out] at hN
  have n1' : n < N := by rw [← HN.out]; exact n1
  obtain ⟨m, HM⟩ : ∃ r, Hd (n % eachP c = r) := ⟨_, ⟨rfl⟩⟩
  obtain ⟨q, HQ⟩ : ∃ r, Hd (n / eachP c = r) := ⟨_, ⟨rfl⟩⟩
  rw [HM.out] at m0 m1
  have HO : Hd (ofP c n = (⟨5, q, m - (10 * c.L + 7) + 1, 0⟩, true)) := ⟨by
    unfold ofP
    rw [if_pos ⟨n0, n1⟩]
    simp only [HM.out, HQ.out]
    have e : kpl c.L m = (5, m - (10 * c.L + 7) + 1, 0) := by
      unfold kpl
      rw [if_neg (by omega)]; rw [if_neg (by omega)]; rw [if_neg (by omega)]; rw [if_neg (by omega)]; rw [if_neg (by omega)]; rw [if_pos (by omega)]
    rw [e]⟩
  have HMz : Hd (n % z = m) := ⟨by rw [← HZ.out]; exact HM.out⟩
  have HQz : Hd (n / z = q) := ⟨by rw [← HZ.out]; exact HQ.out⟩
  clear n1
  have i0 : ∀ W : World, (Instr.index 67 (.agg #[.int .i64 (5 * c.L), .int .i64 (5 * c.L), .int .i64 5, .int .i64 1, .int .i64 1, .int .i64 4, .int .i64 4]) (.int .i64 0)).run Try.prog W = .ok (.int .i64 (5 * c.L)) W := fun _ => by kernel_rfl
  have i1 : ∀ W : World, (Instr.index 67 (.agg #[.int .i64 (5 * c.L), .int .i64 (5 * c.L), .int .i64 5, .int .i64 1, .int .i64 1, .int .i64 4, .int .i64 4]) (.int .i64 1)).run Try.prog W = .ok (.int .i64 (5 * c.L)) W := fun _ => by kernel_rfl
  have i2 : ∀ W : World, (Instr.index 67 (.agg #[.int .i64 (5 * c.L), .int .i64 (5 * c.L), .int .i64 5, .int .i64 1, .int .i64 1, .int .i64 4, .int .i64 4]) (.int .i64 2)).run Try.prog W = .ok (.int .i64 (5)) W := fun _ => by kernel_rfl
  have i3 : ∀ W : World, (Instr.index 67 (.agg #[.int .i64 (5 * c.L), .int .i64 (5 * c.L), .int .i64 5, .int .i64 1, .int .i64 1, .int .i64 4, .int .i64 4]) (.int .i64 3)).run Try.prog W = .ok (.int .i64 (1)) W := fun _ => by kernel_rfl
  have i4 : ∀ W : World, (Instr.index 67 (.agg #[.int .i64 (5 * c.L), .int .i64 (5 * c.L), .int .i64 5, .int .i64 1, .int .i64 1, .int .i64 4, .int .i64 4]) (.int .i64 4)).run Try.prog W = .ok (.int .i64 (1)) W := fun _ => by kernel_rfl
  have i5 : ∀ W : World, (Instr.index 67 (.agg #[.int .i64 (5 * c.L), .int .i64 (5 * c.L), .int .i64 5, .int .i64 1, .int .i64 1, .int .i64 4, .int .i64 4]) (.int .i64 5)).run Try.prog W = .ok (.int .i64 (4)) W := fun _ => by kernel_rfl
  have i6 : ∀ W : World, (Instr.index 67 (.agg #[.int .i64 (5 * c.L), .int .i64 (5 * c.L), .int .i64 5, .int .i64 1, .int .i64 1, .int .i64 4, .int .i64 4]) (.int .i64 6)).run Try.prog W = .ok (.int .i64 (4)) W := fun _ => by kernel_rfl
  go_enter Try.func48, Try.ntmps48
  go_wp2_with fail
  refine (f54_is c N HN.out _).mono ?_
  rintro e w1 ⟨rfl, hb1⟩
  have S1 := keepS hb1 (allocS _ (s0 c w))
  have P1 := keepP (g := w.heap.size + 1) hb1 (p0 0 0 0 0 51 _ (by simp))
  clear hb1
  go_wp2_with fail
  refine (f52_is c z HZ.out _).mono ?_
  rintro e w2 ⟨rfl, hb2⟩
  have S2 := keepS hb2 S1
  have P2 := keepP hb2 P1
  clear hb2 S1 P1
  go_wp2_with fail
  rw [HQz.out]
  refine (f52_is c z HZ.out _).mono ?_
  rintro e w3 ⟨rfl, hb3⟩
  have S3 := keepS hb3 (allocS _ S2)
  have P3 := keepP hb3 (allocP _ P2)
  have Q3 := keepP (g := w2.heap.size) hb3 (p0 0 q 0 0 51 _ rfl)
  have hd : w.heap.size + 1 < w2.heap.size := P2.2.2.2.2.2.2.2.2
  clear hb3 S2 P2
  go_wp2_with fail
  rw [HMz.out]
  refine (f85_any c l1 l2 _).mono ?_
  rintro e w4 ⟨rfl, hb4⟩
  have S4 := keepS hb4 S3
  have P4 := keepP hb4 P3
  have Q4 := keepP hb4 Q3
  clear hb4 S3 P3 Q3
  generalize hg6 : w2.heap.size = g6 at *
  have hg1 : w.heap.size + 1 < g6 := by omega
  clear hg6
  go_wp2_with fail
  refine wp_loop_rounds 8 ?_
  rw [rounds_succ]
  go_wp2
  rw [rounds_succ]
  go_wp2
  rw [rounds_succ]
  go_wp2
  rw [rounds_succ]
  go_wp2
  rw [rounds_succ]
  go_wp2
  rw [rounds_succ]
  go_wp2
  exact bodyPost_ret (v := .tuple #[pv ⟨5, q, m - (10 * c.L + 7) + 1, 0⟩, .bool true]) (by simp [results, Try.results48, go_sem, P4, Q4, World.cell?_setCell_same', World.cell?_setCell_far]; try omega) rfl ⟨by rw [HO.out], (bset (bset (bset (bset (bset (bset (sB S4) (show w.heap.size ≤ g6 by omega) _) (show w.heap.size ≤ g6 by omega) _) (Nat.le_succ _) _) (Nat.le_succ _) _) (Nat.le_succ _) _) (Nat.le_succ _) _)⟩

set_option maxHeartbeats 1000000 in
set_option maxRecDepth 20000 in
theorem f48_6 (c : Cfg) (n : Int) (h : chk c = 0) (n0 : 0 ≤ n) (n1 : n < countP c) (m0 : 10 * c.L + 11 ≤ n % eachP c) (m1 : n % eachP c < 10 * c.L + 15) (w : World) :
    Calls Try.prog 48 #[cv c, .int .i64 n] w fun e w' => e = .returned (.tuple #[pv (ofP c n).1, .bool (ofP c n).2]) ∧ Below w.heap.size w w' := by
  obtain ⟨z, HZ⟩ : ∃ r, Hd (eachP c = r) := ⟨_, ⟨rfl⟩⟩
  obtain ⟨N, HN⟩ : ∃ r, Hd (countP c = r) := ⟨_, ⟨rfl⟩⟩
  have l1 := (chk_okc h).L1
  have l2 := (chk_okc h).L2
  have hz := each_bd c
  have hz1 : 1 ≤ z := by rw [← HZ.out, each_ok h]; omega
  have hN := count_bd c
  rw [HZ.out] at hz
  rw [HN.out] at hN
  have n1' : n < N := by rw [← HN.out]; exact n1
  obtain ⟨m, HM⟩ : ∃ r, Hd (n % eachP c = r) := ⟨_, ⟨rfl⟩⟩
  obtain ⟨q, HQ⟩ : ∃ r, Hd (n / eachP c = r) := ⟨_, ⟨rfl⟩⟩
  rw [HM.out] at m0 m1
  have HO : Hd (ofP c n = (⟨6, q, m - (10 * c.L + 11) + 1, 0⟩, true)) := ⟨by
    unfold ofP
    rw [if_pos ⟨n0, n1⟩]
    simp only [HM.out, HQ.out]
    have e : kpl c.L m = (6, m - (10 * c.L + 11) + 1, 0) := by
      unfold kpl
      rw [if_neg (by omega)]; rw [if_neg (by omega)]; rw [if_neg (by omega)]; rw [if_neg (by omega)]; rw [if_neg (by omega)]; rw [if_neg (by omega)]
    rw [e]⟩
  have HMz : Hd (n % z = m) := ⟨by rw [← HZ.out]; exact HM.out⟩
  have HQz : Hd (n / z = q) := ⟨by rw [← HZ.out]; exact HQ.out⟩
  clear n1
  have i0 : ∀ W : World, (Instr.index 67 (.agg #[.int .i64 (5 * c.L), .int .i64 (5 * c.L), .int .i64 5, .int .i64 1, .int .i64 1, .int .i64 4, .int .i64 4]) (.int .i64 0)).run Try.prog W = .ok (.int .i64 (5 * c.L)) W := fun _ => by kernel_rfl
  have i1 : ∀ W : World, (Instr.index 67 (.agg #[.int .i64 (5 * c.L), .int .i64 (5 * c.L), .int .i64 5, .int .i64 1, .int .i64 1, .int .i64 4, .int .i64 4]) (.int .i64 1)).run Try.prog W = .ok (.int .i64 (5 * c.L)) W := fun _ => by kernel_rfl
  have i2 : ∀ W : World, (Instr.index 67 (.agg #[.int .i64 (5 * c.L), .int .i64 (5 * c.L), .int .i64 5, .int .i64 1, .int .i64 1, .int .i64 4, .int .i64 4]) (.int .i64 2)).run Try.prog W = .ok (.int .i64 (5)) W := fun _ => by kernel_rfl
  have i3 : ∀ W : World, (Instr.index 67 (.agg #[.int .i64 (5 * c.L), .int .i64 (5 * c.L), .int .i64 5, .int .i64 1, .int .i64 1, .int .i64 4, .int .i64 4]) (.int .i64 3)).run Try.prog W = .ok (.int .i64 (1)) W := fun _ => by kernel_rfl
  have i4 : ∀ W : World, (Instr.index 67 (.agg #[.int .i64 (5 * c.L), .int .i64 (5 * c.L), .int .i64 5, .int .i64 1, .int .i64 1, .int .i64 4, .int .i64 4]) (.int .i64 4)).run Try.prog W = .ok (.int .i64 (1)) W := fun _ => by kernel_rfl
  have i5 : ∀ W : World, (Instr.index 67 (.agg #[.int .i64 (5 * c.L), .int .i64 (5 * c.L), .int .i64 5, .int .i64 1, .int .i64 1, .int .i64 4, .int .i64 4]) (.int .i64 5)).run Try.prog W = .ok (.int .i64 (4)) W := fun _ => by kernel_rfl
  have i6 : ∀ W : World, (Instr.index 67 (.agg #[.int .i64 (5 * c.L), .int .i64 (5 * c.L), .int .i64 5, .int .i64 1, .int .i64 1, .int .i64 4, .int .i64 4]) (.int .i64 6)).run Try.prog W = .ok (.int .i64 (4)) W := fun _ => by kernel_rfl
  go_enter Try.func48, Try.ntmps48
  go_wp2_with fail
  refine (f54_is c N HN.out _).mono ?_
  rintro e w1 ⟨rfl, hb1⟩
  have S1 := keepS hb1 (allocS _ (s0 c w))
  have P1 := keepP (g := w.heap.size + 1) hb1 (p0 0 0 0 0 51 _ (by simp))
  clear hb1
  go_wp2_with fail
  refine (f52_is c z HZ.out _).mono ?_
  rintro e w2 ⟨rfl, hb2⟩
  have S2 := keepS hb2 S1
  have P2 := keepP hb2 P1
  clear hb2 S1 P1
  go_wp2_with fail
  rw [HQz.out]
  refine (f52_is c z HZ.out _).mono ?_
  rintro e w3 ⟨rfl, hb3⟩
  have S3 := keepS hb3 (allocS _ S2)
  have P3 := keepP hb3 (allocP _ P2)
  have Q3 := keepP (g := w2.heap.size) hb3 (p0 0 q 0 0 51 _ rfl)
  have hd : w.heap.size + 1 < w2.heap.size := P2.2.2.2.2.2.2.2.2
  clear hb3 S2 P2
  go_wp2_with fail
  rw [HMz.out]
  refine (f85_any c l1 l2 _).mono ?_
  rintro e w4 ⟨rfl, hb4⟩
  have S4 := keepS hb4 S3
  have P4 := keepP hb4 P3
  have Q4 := keepP hb4 Q3
  clear hb4 S3 P3 Q3
  generalize hg6 : w2.heap.size = g6 at *
  have hg1 : w.heap.size + 1 < g6 := by omega
  clear hg6
  go_wp2_with fail
  refine wp_loop_rounds 8 ?_
  rw [rounds_succ]
  go_wp2
  rw [rounds_succ]
  go_wp2
  rw [rounds_succ]
  go_wp2
  rw [rounds_succ]
  go_wp2
  rw [rounds_succ]
  go_wp2
  rw [rounds_succ]
  go_wp2
  rw [rounds_succ]
  go_wp2
  exact bodyPost_ret (v := .tuple #[pv ⟨6, q, m - (10 * c.L + 11) + 1, 0⟩, .bool true]) (by simp [results, Try.results48, go_sem, P4, Q4, World.cell?_setCell_same', World.cell?_setCell_far]; try omega) rfl ⟨by rw [HO.out], (bset (bset (bset (bset (bset (bset (sB S4) (show w.heap.size ≤ g6 by omega) _) (show w.heap.size ≤ g6 by omega) _) (Nat.le_succ _) _) (Nat.le_succ _) _) (Nat.le_succ _) _) (Nat.le_succ _) _)⟩

set_option maxHeartbeats 1000000 in
set_option maxRecDepth 20000 in
theorem f48_neg (c : Cfg) (n : Int) (h : n < 0) (w : World) :
    Calls Try.prog 48 #[cv c, .int .i64 n] w fun e w' => e = .returned (.tuple #[pv (ofP c n).1, .bool (ofP c n).2]) ∧ Below w.heap.size w w' := by
  have HO : Hd (ofP c n = (⟨0, 0, 0, 0⟩, false)) := ⟨by unfold ofP; rw [if_neg (by omega)]⟩
  go_enter Try.func48, Try.ntmps48
  go_wp2
  have B := balloc (balloc (Below.refl w.heap.size w) (.cells #[.int .i64 c.W, .int .i64 c.H, .int .i64 c.L, .int .i64 c.D, .int .i64 c.R, .int .i64 c.I, .int .i64 c.B, .bool c.ws, .bool c.cs] 23)) (.cells #[.int .i64 0, .int .i64 0, .int .i64 0, .int .i64 0] 51)
  exact bodyPost_ret (v := (.tuple #[.agg #[.int .i64 0, .int .i64 0, .int .i64 0, .int .i64 0], .bool false])) (by simp [results, Try.results48, go_sem]) rfl ⟨by rw [HO.out], by first | exact B | exact bset (bset (bset (bset B (Nat.le_succ _) _) (Nat.le_succ _) _) (Nat.le_succ _) _) (Nat.le_succ _) _⟩

set_option maxHeartbeats 1000000 in
set_option maxRecDepth 20000 in
theorem f48_out (c : Cfg) (n : Int) (n0 : 0 ≤ n) (h : countP c ≤ n) (w : World) :
    Calls Try.prog 48 #[cv c, .int .i64 n] w fun e w' => e = .returned (.tuple #[pv (ofP c n).1, .bool (ofP c n).2]) ∧ Below w.heap.size w w' := by
  have HO : Hd (ofP c n = (⟨0, 0, 0, 0⟩, false)) := ⟨by unfold ofP; rw [if_neg (by omega)]⟩
  obtain ⟨N, HN⟩ : ∃ r, Hd (countP c = r) := ⟨_, ⟨rfl⟩⟩
  rw [HN.out] at h
  go_enter Try.func48, Try.ntmps48
  go_wp2_with fail
  refine (f54_is c N HN.out _).mono ?_
  rintro e w1 ⟨rfl, hb1⟩
  have S1 := keepS hb1 (allocS _ (s0 c w))
  have P1 := keepP (g := w.heap.size + 1) hb1 (p0 0 0 0 0 51 _ (by simp))
  clear hb1
  go_wp2
  exact bodyPost_ret (v := (.tuple #[.agg #[.int .i64 0, .int .i64 0, .int .i64 0, .int .i64 0], .bool false])) (by simp [results, Try.results48, go_sem, P1, World.cell?_setCell_same']) rfl ⟨by rw [HO.out], by first | exact sB S1 | exact bset (bset (bset (bset (sB S1) (Nat.le_succ _) _) (Nat.le_succ _) _) (Nat.le_succ _) _) (Nat.le_succ _) _⟩

theorem f48_any (c : Cfg) (n : Int) (w : World) :
    Calls Try.prog 48 #[cv c, .int .i64 n] w fun e w' => e = .returned (.tuple #[pv (ofP c n).1, .bool (ofP c n).2]) ∧ Below w.heap.size w w' := by
  by_cases n0 : 0 ≤ n
  · by_cases n1 : n < countP c
    · obtain ⟨_, m0, m1, _, h⟩ := count_split n0 n1
      have he := each_ok h
      have hL := (chk_okc h).L1
      by_cases a1 : n % eachP c < 5 * c.L
      · exact f48_0 c n h n0 n1 m0 a1 w
      by_cases a2 : n % eachP c < 10 * c.L
      · exact f48_1 c n h n0 n1 (by omega) a2 w
      by_cases a3 : n % eachP c < 10 * c.L + 5
      · exact f48_2 c n h n0 n1 (by omega) a3 w
      by_cases a4 : n % eachP c < 10 * c.L + 6
      · exact f48_3 c n h n0 n1 (by omega) a4 w
      by_cases a5 : n % eachP c < 10 * c.L + 7
      · exact f48_4 c n h n0 n1 (by omega) a5 w
      by_cases a6 : n % eachP c < 10 * c.L + 11
      · exact f48_5 c n h n0 n1 (by omega) a6 w
      exact f48_6 c n h n0 n1 (by omega) (by omega) w
    · exact f48_out c n n0 (by omega) w
  · exact f48_neg c n (by omega) w
theorem f48_is (c : Cfg) (n : Int) (x : Prt) (b : Bool) (h : ofP c n = (x, b)) (w : World) :
    Calls Try.prog 48 #[cv c, .int .i64 n] w fun e w' => e = .returned (.tuple #[pv x, .bool b]) ∧ Below w.heap.size w w' := by
  have := f48_any c n w
  rw [h] at this
  exact this

end Go.Proofs.Ytnbogjiddildaaa

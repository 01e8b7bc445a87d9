/- Contracts of pick.sizes, Each, Count, round, Kind. -/
import Derived.Test.YtnbogjiddildaaaL0
import Derived.Test.YtnbogjiddildaaaP0
import Derived.LoopN
namespace Go.Proofs.Ytnbogjiddildaaa
open Go.RowKit
set_option linter.unusedSimpArgs false
set_option linter.unusedVariables false

abbrev szV (c : Cfg) : Value := .agg #[.int .i64 (5 * c.L), .int .i64 (5 * c.L), .int .i64 5, .int .i64 1, .int .i64 1, .int .i64 4, .int .i64 4]

set_option maxHeartbeats 1000000 in
set_option maxRecDepth 20000 in
theorem f85_any (c : Cfg) (l1 : 1 ≤ c.L) (l2 : c.L ≤ 8) (w : World) :
    Calls Try.prog 85 #[cv c] w fun e w' => e = .returned (szV c) ∧ Below w.heap.size w w' := by
  go_enter Try.func85, Try.ntmps85
  go_wp2
  exact bodyPost_ret (v := .agg #[.int .i64 (5 * c.L), .int .i64 (5 * c.L), .int .i64 5, .int .i64 1, .int .i64 1, .int .i64 4, .int .i64 4]) (by simp [results, Try.results85, go_sem]) rfl ⟨rfl, by repeat (first | exact Below.refl _ _ | assumption | refine balloc ?_ _ | (refine bset ?_ (by simp; done) _) | (refine bset ?_ (by simp; omega) _))⟩

set_option maxHeartbeats 1000000 in
set_option maxRecDepth 20000 in
theorem f52_ok (c : Cfg) (h : chk c = 0) (w : World) :
    Calls Try.prog 52 #[cv c] w fun e w' => e = .returned (.int .i64 (eachP c)) ∧ Below w.heap.size w w' := by
  have HC := Hd.mk h
  have l1 := (chk_okc h).L1
  have l2 := (chk_okc h).L2
  have HE := Hd.mk (each_ok h)
  clear h
  have i0 : ∀ W : World, (Instr.index 67 (.agg #[.int .i64 (5 * c.L), .int .i64 (5 * c.L), .int .i64 5, .int .i64 1, .int .i64 1, .int .i64 4, .int .i64 4]) (.int .i64 0)).run Try.prog W = .ok (.int .i64 (5 * c.L)) W := fun _ => by kernel_rfl
  have i1 : ∀ W : World, (Instr.index 67 (.agg #[.int .i64 (5 * c.L), .int .i64 (5 * c.L), .int .i64 5, .int .i64 1, .int .i64 1, .int .i64 4, .int .i64 4]) (.int .i64 1)).run Try.prog W = .ok (.int .i64 (5 * c.L)) W := fun _ => by kernel_rfl
  have i2 : ∀ W : World, (Instr.index 67 (.agg #[.int .i64 (5 * c.L), .int .i64 (5 * c.L), .int .i64 5, .int .i64 1, .int .i64 1, .int .i64 4, .int .i64 4]) (.int .i64 2)).run Try.prog W = .ok (.int .i64 (5)) W := fun _ => by kernel_rfl
  have i3 : ∀ W : World, (Instr.index 67 (.agg #[.int .i64 (5 * c.L), .int .i64 (5 * c.L), .int .i64 5, .int .i64 1, .int .i64 1, .int .i64 4, .int .i64 4]) (.int .i64 3)).run Try.prog W = .ok (.int .i64 (1)) W := fun _ => by kernel_rfl
  have i4 : ∀ W : World, (Instr.index 67 (.agg #[.int .i64 (5 * c.L), .int .i64 (5 * c.L), .int .i64 5, .int .i64 1, .int .i64 1, .int .i64 4, .int .i64 4]) (.int .i64 4)).run Try.prog W = .ok (.int .i64 (1)) W := fun _ => by kernel_rfl
  have i5 : ∀ W : World, (Instr.index 67 (.agg #[.int .i64 (5 * c.L), .int .i64 (5 * c.L), .int .i64 5, .int .i64 1, .int .i64 1, .int .i64 4, .int .i64 4]) (.int .i64 5)).run Try.prog W = .ok (.int .i64 (4)) W := fun _ => by kernel_rfl
  have i6 : ∀ W : World, (Instr.index 67 (.agg #[.int .i64 (5 * c.L), .int .i64 (5 * c.L), .int .i64 5, .int .i64 1, .int .i64 1, .int .i64 4, .int .i64 4]) (.int .i64 6)).run Try.prog W = .ok (.int .i64 (4)) W := fun _ => by kernel_rfl
  go_enter Try.func52, Try.ntmps52
  go_wp2_with fail
  refine (check_is c 0 HC.out _).mono ?_
  rintro e w1 ⟨rfl, hb1⟩
  have S1 := keepS hb1 (s0 c w)
  clear hb1
  go_wp2_with fail
  refine (f85_any c l1 l2 _).mono ?_
  rintro e w2 ⟨rfl, hb2⟩
  have S2 := keepS hb2 S1
  clear hb2
  clear S1
  go_wp2_with fail
  refine wp_loop_rounds 8 ?_
  rw [rounds_succ]
  go_wp2
  rw [rounds_succ]
  go_wp2
  rw [rounds_succ]
  go_wp2
  rw [rounds_succ]
  go_wp2
  rw [rounds_succ]
  go_wp2
  rw [rounds_succ]
  go_wp2
  rw [rounds_succ]
  go_wp2
  rw [rounds_succ]
  go_wp2
  go_ret
  exact ⟨ret_int (by rw [HE.out]; omega), sB S2⟩

set_option maxHeartbeats 1000000 in
set_option maxRecDepth 20000 in
theorem f52_no (c : Cfg) (h : chk c ≠ 0) (w : World) :
    Calls Try.prog 52 #[cv c] w fun e w' => e = .returned (.int .i64 (eachP c)) ∧ Below w.heap.size w w' := by
  have HE := Hd.mk (each_no h)
  have hx : (chk c == 0) = false := by simpa using h
  clear h
  go_enter Try.func52, Try.ntmps52
  go_wp2_with fail
  refine (check_is c (chk c) rfl _).mono ?_
  rintro e w1 ⟨rfl, hb1⟩
  have S1 := keepS hb1 (s0 c w)
  clear hb1
  go_wp2
  go_ret
  exact ⟨ret_int (by rw [HE.out]), sB S1⟩

theorem f52_any (c : Cfg) (w : World) :
    Calls Try.prog 52 #[cv c] w fun e w' => e = .returned (.int .i64 (eachP c)) ∧ Below w.heap.size w w' := by
  by_cases h : chk c = 0
  · exact f52_ok c h w
  · exact f52_no c h w
theorem f52_is (c : Cfg) (r : Int) (hr : eachP c = r) (w : World) :
    Calls Try.prog 52 #[cv c] w fun e w' => e = .returned (.int .i64 r) ∧ Below w.heap.size w w' := by
  subst hr; exact f52_any c w
theorem f80_is (c : Cfg) (r : Int) (hr : nodes c = r) (w : World) :
    Calls Try.prog 80 #[cv c] w fun e w' => e = .returned (.int .i64 r) ∧ Below w.heap.size w w' := by
  subst hr; exact f80_any c w

set_option maxHeartbeats 1000000 in
set_option maxRecDepth 20000 in
theorem f54_any (c : Cfg) (w : World) :
    Calls Try.prog 54 #[cv c] w fun e w' => e = .returned (.int .i64 (countP c)) ∧ Below w.heap.size w w' := by
  obtain ⟨n, HN⟩ : ∃ n, Hd (nodes c = n) := ⟨_, ⟨rfl⟩⟩
  obtain ⟨z, HZ⟩ : ∃ n, Hd (eachP c = n) := ⟨_, ⟨rfl⟩⟩
  have hb := count_bd c
  have HC : Hd (countP c = n * z) := ⟨by unfold countP; rw [HN.out, HZ.out]⟩
  rw [HC.out] at hb
  have HW : IntKind.i64.wrap (n * z) = n * z := IntWalk.i64_in _ (by omega)
  go_enter Try.func54, Try.ntmps54
  go_wp2_with fail
  have S0 := s0 c w
  have HS1 := Hd.mk S0
  clear S0
  go_region_held3 (fun W => W.cell? ⟨w.heap.size, 0, none⟩ = some (.int .i64 c.W) ∧ W.cell? ⟨w.heap.size, 1, none⟩ = some (.int .i64 c.H) ∧ W.cell? ⟨w.heap.size, 2, none⟩ = some (.int .i64 c.L) ∧ W.cell? ⟨w.heap.size, 3, none⟩ = some (.int .i64 c.D) ∧ W.cell? ⟨w.heap.size, 4, none⟩ = some (.int .i64 c.R) ∧ W.cell? ⟨w.heap.size, 5, none⟩ = some (.int .i64 c.I) ∧ W.cell? ⟨w.heap.size, 6, none⟩ = some (.int .i64 c.B) ∧ W.cell? ⟨w.heap.size, 7, none⟩ = some (.bool c.ws) ∧ W.cell? ⟨w.heap.size, 8, none⟩ = some (.bool c.cs) ∧ w.heap.size < W.heap.size ∧ Below w.heap.size w W) (first | exact dS HS1.out | exact keepS (by assumption) (by assumption))
    (first | (go_at_call 80; (with_reducible refine (f80_is c n HN.out _).mono ?_); rintro e wq ⟨rfl, hbq⟩) | (go_at_call 52; (with_reducible refine (f52_is c z HZ.out _).mono ?_); rintro e wq ⟨rfl, hbq⟩))
  rename_i S1
  clear HS1
  go_wp2
  go_ret
  exact ⟨ret_int HC.out.symm, sB S1⟩

theorem f54_is (c : Cfg) (r : Int) (hr : countP c = r) (w : World) :
    Calls Try.prog 54 #[cv c] w fun e w' => e = .returned (.int .i64 r) ∧ Below w.heap.size w w' := by
  subst hr; exact f54_any c w

def roundP (n m : Int) : Int := (if n < 0 then -(n + 1) else n) % m

set_option maxHeartbeats 1000000 in
set_option maxRecDepth 20000 in
theorem f87_any (n m : Int) (n0 : -9223372036854775808 ≤ n) (n1 : n ≤ 9223372036854775807) (m1 : 1 ≤ m) (m2 : m ≤ 400000) (w : World) :
    Calls Try.prog 87 #[.int .i64 n, .int .i64 m] w fun e w' => e = .returned (.int .i64 (roundP n m)) ∧ w = w' := by
  have HR : Hd (roundP n m = (if n < 0 then -(n + 1) else n) % m) := ⟨rfl⟩
  by_cases h : n < 0
  · have H := Hd.mk h
    go_enter Try.func87, Try.ntmps87
    go_wp2
    go_ret
    exact ⟨ret_int (by rw [HR.out, if_pos H.out]; rw [← Int.neg_tmod, Int.tmod_eq_emod_of_nonneg (by have := H.out; omega)]), rfl⟩
  · have H := Hd.mk h
    go_enter Try.func87, Try.ntmps87
    go_wp2
    go_ret
    exact ⟨ret_int (by rw [HR.out, if_neg (by have := H.out; omega)]), rfl⟩

end Go.Proofs.Ytnbogjiddildaaa

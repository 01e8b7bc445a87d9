/- '==' of parts; contracts of pick.Number, pick.Kind; the example of layer 18's laws. -/
import Derived.Test.YtnbogjiddildaaaP2
import Derived.Laws.StructEq
namespace Go.Proofs.Ytnbogjiddildaaa
open Go.RowKit
set_option linter.unusedSimpArgs false
set_option linter.unusedVariables false

theorem fields50 : Try.prog.fieldsOf 50 = #[{ name := "Kind", type := 3, offset := 0, embedded := false, tag := "", pkgPath := "", byteOffset := 0 }, { name := "Node", type := 3, offset := 1, embedded := false, tag := "", pkgPath := "", byteOffset := 8 }, { name := "Port", type := 3, offset := 2, embedded := false, tag := "", pkgPath := "", byteOffset := 16 }, { name := "Lane", type := 3, offset := 3, embedded := false, tag := "", pkgPath := "", byteOffset := 24 }] := by kernel_rfl
theorem run_eq50 (a b c d a' b' c' d' : Int) (w : World) : (Op.equalIn 10000 50 (.agg #[.int .i64 a, .int .i64 b, .int .i64 c, .int .i64 d]) (.agg #[.int .i64 a', .int .i64 b', .int .i64 c', .int .i64 d'])).run Try.prog w = .ok (a == a' && (b == b' && (c == c' && d == d'))) w := by
  have h3 := fun (x y : Int) => run_equalIn_int (P := Try.prog) w 9998 3 .i64 .i64 x y Try.underlying3
  have p0 : ∀ x y z u : Int, (part 3 #[Value.int IntKind.i64 x, Value.int IntKind.i64 y, Value.int IntKind.i64 z, Value.int IntKind.i64 u] 0).run Try.prog w = .ok (.int .i64 x) w := fun x y z u => by kernel_rfl
  have p1 : ∀ x y z u : Int, (part 3 #[Value.int IntKind.i64 x, Value.int IntKind.i64 y, Value.int IntKind.i64 z, Value.int IntKind.i64 u] 1).run Try.prog w = .ok (.int .i64 y) w := fun x y z u => by kernel_rfl
  have p2 : ∀ x y z u : Int, (part 3 #[Value.int IntKind.i64 x, Value.int IntKind.i64 y, Value.int IntKind.i64 z, Value.int IntKind.i64 u] 2).run Try.prog w = .ok (.int .i64 z) w := fun x y z u => by kernel_rfl
  have p3 : ∀ x y z u : Int, (part 3 #[Value.int IntKind.i64 x, Value.int IntKind.i64 y, Value.int IntKind.i64 z, Value.int IntKind.i64 u] 3).run Try.prog w = .ok (.int .i64 u) w := fun x y z u => by kernel_rfl
  rw [show (10000 : Nat) = 9999 + 1 from rfl, run_equalIn_struct (P := Try.prog) w 9999 50 _ _ (by rw [fields50]; exact Try.underlying50) (by kernel_rfl), fields50]
  simp only [Op.eqFields, ne_eq, String.reduceEq, not_false_eq_true, if_true, Sem.run_bind, Result.andThen_ok, p0, p1, p2, p3, h3]
  cases a == a'
  · rfl
  simp only [Bool.not_true, Bool.false_eq_true, if_false, Sem.run_bind, Sem.run_pure, Result.andThen_ok, p1, h3, Bool.true_and]
  cases b == b'
  · rfl
  simp only [Bool.not_true, Bool.false_eq_true, if_false, Sem.run_bind, Sem.run_pure, Result.andThen_ok, p2, h3, Bool.true_and]
  cases c == c'
  · rfl
  simp only [Bool.not_true, Bool.false_eq_true, if_false, Sem.run_bind, Sem.run_pure, Result.andThen_ok, p3, h3, Bool.true_and]
  cases d == d'
  · rfl
  rfl
theorem eq50_run (a b c d a' b' c' d' : Int) (w : World) : (binOp .eql 50 (.agg #[.int .i64 a, .int .i64 b, .int .i64 c, .int .i64 d]) (.agg #[.int .i64 a', .int .i64 b', .int .i64 c', .int .i64 d'])).run Try.prog w = .ok (.bool (a == a' && (b == b' && (c == c' && d == d')))) w := by
  rw [run_eql_struct, run_eq50]; rfl
theorem neq50_run (a b c d a' b' c' d' : Int) (w : World) : (binOp .neq 50 (.agg #[.int .i64 a, .int .i64 b, .int .i64 c, .int .i64 d]) (.agg #[.int .i64 a', .int .i64 b', .int .i64 c', .int .i64 d'])).run Try.prog w = .ok (.bool (!(a == a' && (b == b' && (c == c' && d == d'))))) w := by
  rw [run_neq_struct, run_eq50]; rfl

theorem fields51 : Try.prog.fieldsOf 51 = #[{ name := "Kind", type := 3, offset := 0, embedded := false, tag := "", pkgPath := "", byteOffset := 0 }, { name := "Node", type := 3, offset := 1, embedded := false, tag := "", pkgPath := "", byteOffset := 8 }, { name := "Port", type := 3, offset := 2, embedded := false, tag := "", pkgPath := "", byteOffset := 16 }, { name := "Lane", type := 3, offset := 3, embedded := false, tag := "", pkgPath := "", byteOffset := 24 }] := by kernel_rfl
theorem run_eq51 (a b c d a' b' c' d' : Int) (w : World) : (Op.equalIn 10000 51 (.agg #[.int .i64 a, .int .i64 b, .int .i64 c, .int .i64 d]) (.agg #[.int .i64 a', .int .i64 b', .int .i64 c', .int .i64 d'])).run Try.prog w = .ok (a == a' && (b == b' && (c == c' && d == d'))) w := by
  have h3 := fun (x y : Int) => run_equalIn_int (P := Try.prog) w 9998 3 .i64 .i64 x y Try.underlying3
  have p0 : ∀ x y z u : Int, (part 3 #[Value.int IntKind.i64 x, Value.int IntKind.i64 y, Value.int IntKind.i64 z, Value.int IntKind.i64 u] 0).run Try.prog w = .ok (.int .i64 x) w := fun x y z u => by kernel_rfl
  have p1 : ∀ x y z u : Int, (part 3 #[Value.int IntKind.i64 x, Value.int IntKind.i64 y, Value.int IntKind.i64 z, Value.int IntKind.i64 u] 1).run Try.prog w = .ok (.int .i64 y) w := fun x y z u => by kernel_rfl
  have p2 : ∀ x y z u : Int, (part 3 #[Value.int IntKind.i64 x, Value.int IntKind.i64 y, Value.int IntKind.i64 z, Value.int IntKind.i64 u] 2).run Try.prog w = .ok (.int .i64 z) w := fun x y z u => by kernel_rfl
  have p3 : ∀ x y z u : Int, (part 3 #[Value.int IntKind.i64 x, Value.int IntKind.i64 y, Value.int IntKind.i64 z, Value.int IntKind.i64 u] 3).run Try.prog w = .ok (.int .i64 u) w := fun x y z u => by kernel_rfl
  rw [show (10000 : Nat) = 9999 + 1 from rfl, run_equalIn_struct (P := Try.prog) w 9999 51 _ _ (by rw [fields51]; exact Try.underlying51) (by kernel_rfl), fields51]
  simp only [Op.eqFields, ne_eq, String.reduceEq, not_false_eq_true, if_true, Sem.run_bind, Result.andThen_ok, p0, p1, p2, p3, h3]
  cases a == a'
  · rfl
  simp only [Bool.not_true, Bool.false_eq_true, if_false, Sem.run_bind, Sem.run_pure, Result.andThen_ok, p1, h3, Bool.true_and]
  cases b == b'
  · rfl
  simp only [Bool.not_true, Bool.false_eq_true, if_false, Sem.run_bind, Sem.run_pure, Result.andThen_ok, p2, h3, Bool.true_and]
  cases c == c'
  · rfl
  simp only [Bool.not_true, Bool.false_eq_true, if_false, Sem.run_bind, Sem.run_pure, Result.andThen_ok, p3, h3, Bool.true_and]
  cases d == d'
  · rfl
  rfl
theorem eq51_run (a b c d a' b' c' d' : Int) (w : World) : (binOp .eql 51 (.agg #[.int .i64 a, .int .i64 b, .int .i64 c, .int .i64 d]) (.agg #[.int .i64 a', .int .i64 b', .int .i64 c', .int .i64 d'])).run Try.prog w = .ok (.bool (a == a' && (b == b' && (c == c' && d == d')))) w := by
  rw [run_eql_struct, run_eq51]; rfl
theorem neq51_run (a b c d a' b' c' d' : Int) (w : World) : (binOp .neq 51 (.agg #[.int .i64 a, .int .i64 b, .int .i64 c, .int .i64 d]) (.agg #[.int .i64 a', .int .i64 b', .int .i64 c', .int .i64 d'])).run Try.prog w = .ok (.bool (!(a == a' && (b == b' && (c == c' && d == d'))))) w := by
  rw [run_neq_struct, run_eq51]; rfl

theorem keepSP {c : Cfg} {g h : Nat} {k n p l : Int} {w W W' : World} (hb : Below W.heap.size W W') (H : (W.cell? ⟨g, 0, none⟩ = some (.int .i64 c.W) ∧ W.cell? ⟨g, 1, none⟩ = some (.int .i64 c.H) ∧ W.cell? ⟨g, 2, none⟩ = some (.int .i64 c.L) ∧ W.cell? ⟨g, 3, none⟩ = some (.int .i64 c.D) ∧ W.cell? ⟨g, 4, none⟩ = some (.int .i64 c.R) ∧ W.cell? ⟨g, 5, none⟩ = some (.int .i64 c.I) ∧ W.cell? ⟨g, 6, none⟩ = some (.int .i64 c.B) ∧ W.cell? ⟨g, 7, none⟩ = some (.bool c.ws) ∧ W.cell? ⟨g, 8, none⟩ = some (.bool c.cs) ∧ g < W.heap.size ∧ Below w.heap.size w W) ∧ (W.cell? ⟨h, 0, none⟩ = some (.int .i64 (k)) ∧ W.cell? ⟨h, 1, none⟩ = some (.int .i64 (n)) ∧ W.cell? ⟨h, 2, none⟩ = some (.int .i64 (p)) ∧ W.cell? ⟨h, 3, none⟩ = some (.int .i64 (l)) ∧ W.frozen? ⟨h, 0, none⟩ = false ∧ W.frozen? ⟨h, 1, none⟩ = false ∧ W.frozen? ⟨h, 2, none⟩ = false ∧ W.frozen? ⟨h, 3, none⟩ = false ∧ h < W.heap.size)) : (W'.cell? ⟨g, 0, none⟩ = some (.int .i64 c.W) ∧ W'.cell? ⟨g, 1, none⟩ = some (.int .i64 c.H) ∧ W'.cell? ⟨g, 2, none⟩ = some (.int .i64 c.L) ∧ W'.cell? ⟨g, 3, none⟩ = some (.int .i64 c.D) ∧ W'.cell? ⟨g, 4, none⟩ = some (.int .i64 c.R) ∧ W'.cell? ⟨g, 5, none⟩ = some (.int .i64 c.I) ∧ W'.cell? ⟨g, 6, none⟩ = some (.int .i64 c.B) ∧ W'.cell? ⟨g, 7, none⟩ = some (.bool c.ws) ∧ W'.cell? ⟨g, 8, none⟩ = some (.bool c.cs) ∧ g < W'.heap.size ∧ Below w.heap.size w W') ∧ (W'.cell? ⟨h, 0, none⟩ = some (.int .i64 (k)) ∧ W'.cell? ⟨h, 1, none⟩ = some (.int .i64 (n)) ∧ W'.cell? ⟨h, 2, none⟩ = some (.int .i64 (p)) ∧ W'.cell? ⟨h, 3, none⟩ = some (.int .i64 (l)) ∧ W'.frozen? ⟨h, 0, none⟩ = false ∧ W'.frozen? ⟨h, 1, none⟩ = false ∧ W'.frozen? ⟨h, 2, none⟩ = false ∧ W'.frozen? ⟨h, 3, none⟩ = false ∧ h < W'.heap.size) := ⟨keepS hb H.1, keepP hb H.2⟩

theorem calls48_arg {c : Cfg} {E r : Int} {W : World} {Q : Ending → World → Prop} (h : E = r) (H : Calls Try.prog 48 #[cv c, .int .i64 r] W Q) : Calls Try.prog 48 #[cv c, .int .i64 E] W Q := by rw [h]; exact H

theorem ret2_num {a x r : Int} {b y : Bool} (h : (a, b) = (r, y)) (e : x = r) : Ending.returned (.tuple #[.int .i64 x, .bool y]) = .returned (.tuple #[.int .i64 a, .bool b]) := by
  injection h with h1 h2; rw [h1, h2, e]

set_option maxHeartbeats 1000000 in
set_option maxRecDepth 20000 in
theorem f50_0 (c : Cfg) (n p l : Int) (hn : isB c n = true) (w : World) :
    Calls Try.prog 50 #[cv c, .agg #[.int .i64 0, .int .i64 n, .int .i64 p, .int .i64 l]] w fun e w' => e = .returned (.tuple #[.int .i64 (numberP c ⟨0, n, p, l⟩).1, .bool (numberP c ⟨0, n, p, l⟩).2]) ∧ Below w.heap.size w w' := by
  obtain ⟨z, HZ⟩ : ∃ r, Hd (eachP c = r) := ⟨_, ⟨rfl⟩⟩
  have hk := isB_chk hn
  have l1 := (chk_okc hk).L1
  have l2 := (chk_okc hk).L2
  have hz := each_bd c
  rw [HZ.out] at hz
  have n0 := (inn hn).n0
  have n1 := (inn hn).n1
  have nz0 : 0 ≤ n * z := Int.mul_nonneg n0 hz.1
  have nz1 : n * z ≤ 389120 := by have := Int.mul_le_mul n1 hz.2 hz.1 (by omega); omega
  have HW : IntKind.i64.wrap (n * z) = n * z := IntWalk.i64_in _ (by omega)
  have HB := Hd.mk hn
  obtain ⟨r, HR⟩ : ∃ r, Hd (numW c ⟨0, n, p, l⟩ = r) := ⟨_, ⟨rfl⟩⟩
  have HR2 := HR.out
  simp only [numW, offP, HZ.out] at HR2
  simp at HR2
  have HR3 := Hd.mk HR2
  obtain ⟨y, b, HY⟩ : ∃ y b, Hd (ofP c r = (y, b)) := ⟨_, _, ⟨rfl⟩⟩
  clear hk hn HR2
  have i0 : ∀ W : World, (Instr.index 67 (.agg #[.int .i64 (5 * c.L), .int .i64 (5 * c.L), .int .i64 5, .int .i64 1, .int .i64 1, .int .i64 4, .int .i64 4]) (.int .i64 0)).run Try.prog W = .ok (.int .i64 (5 * c.L)) W := fun _ => by kernel_rfl
  have i1 : ∀ W : World, (Instr.index 67 (.agg #[.int .i64 (5 * c.L), .int .i64 (5 * c.L), .int .i64 5, .int .i64 1, .int .i64 1, .int .i64 4, .int .i64 4]) (.int .i64 1)).run Try.prog W = .ok (.int .i64 (5 * c.L)) W := fun _ => by kernel_rfl
  have i2 : ∀ W : World, (Instr.index 67 (.agg #[.int .i64 (5 * c.L), .int .i64 (5 * c.L), .int .i64 5, .int .i64 1, .int .i64 1, .int .i64 4, .int .i64 4]) (.int .i64 2)).run Try.prog W = .ok (.int .i64 (5)) W := fun _ => by kernel_rfl
  have i3 : ∀ W : World, (Instr.index 67 (.agg #[.int .i64 (5 * c.L), .int .i64 (5 * c.L), .int .i64 5, .int .i64 1, .int .i64 1, .int .i64 4, .int .i64 4]) (.int .i64 3)).run Try.prog W = .ok (.int .i64 (1)) W := fun _ => by kernel_rfl
  have i4 : ∀ W : World, (Instr.index 67 (.agg #[.int .i64 (5 * c.L), .int .i64 (5 * c.L), .int .i64 5, .int .i64 1, .int .i64 1, .int .i64 4, .int .i64 4]) (.int .i64 4)).run Try.prog W = .ok (.int .i64 (1)) W := fun _ => by kernel_rfl
  have i5 : ∀ W : World, (Instr.index 67 (.agg #[.int .i64 (5 * c.L), .int .i64 (5 * c.L), .int .i64 5, .int .i64 1, .int .i64 1, .int .i64 4, .int .i64 4]) (.int .i64 5)).run Try.prog W = .ok (.int .i64 (4)) W := fun _ => by kernel_rfl
  have i6 : ∀ W : World, (Instr.index 67 (.agg #[.int .i64 (5 * c.L), .int .i64 (5 * c.L), .int .i64 5, .int .i64 1, .int .i64 1, .int .i64 4, .int .i64 4]) (.int .i64 6)).run Try.prog W = .ok (.int .i64 (4)) W := fun _ => by kernel_rfl
  go_enter Try.func50, Try.ntmps50
  go_wp2_with fail
  refine (f42_is c n true HB.out _).mono ?_
  rintro e w1 ⟨rfl, hb1⟩
  have T1 := And.intro (keepS hb1 (allocS _ (s0 c w))) (keepP (g := w.heap.size + 1) hb1 (p0 0 n p l 51 _ (by simp)))
  clear hb1
  go_wp2_with fail
  refine (f85_any c l1 l2 _).mono ?_
  rintro e w2 ⟨rfl, hb2⟩
  have T2 := keepSP hb2 T1
  clear hb2 T1
  go_wp2_with fail
  refine wp_loop_rounds 8 ?_
  rw [rounds_succ]
  go_wp2
  rw [rounds_succ]
  go_wp2
  rw [rounds_succ]
  go_wp2
  rw [rounds_succ]
  go_wp2
  rw [rounds_succ]
  go_wp2
  rw [rounds_succ]
  go_wp2
  rw [rounds_succ]
  go_wp2
  rw [rounds_succ]
  go_wp2_with fail
  have HS3 := Hd.mk T2
  clear T2
  go_region_held3 (fun W => (W.cell? ⟨w.heap.size, 0, none⟩ = some (.int .i64 c.W) ∧ W.cell? ⟨w.heap.size, 1, none⟩ = some (.int .i64 c.H) ∧ W.cell? ⟨w.heap.size, 2, none⟩ = some (.int .i64 c.L) ∧ W.cell? ⟨w.heap.size, 3, none⟩ = some (.int .i64 c.D) ∧ W.cell? ⟨w.heap.size, 4, none⟩ = some (.int .i64 c.R) ∧ W.cell? ⟨w.heap.size, 5, none⟩ = some (.int .i64 c.I) ∧ W.cell? ⟨w.heap.size, 6, none⟩ = some (.int .i64 c.B) ∧ W.cell? ⟨w.heap.size, 7, none⟩ = some (.bool c.ws) ∧ W.cell? ⟨w.heap.size, 8, none⟩ = some (.bool c.cs) ∧ w.heap.size < W.heap.size ∧ Below w.heap.size w W) ∧ (W.cell? ⟨w.heap.size + 1, 0, none⟩ = some (.int .i64 (0)) ∧ W.cell? ⟨w.heap.size + 1, 1, none⟩ = some (.int .i64 (n)) ∧ W.cell? ⟨w.heap.size + 1, 2, none⟩ = some (.int .i64 (p)) ∧ W.cell? ⟨w.heap.size + 1, 3, none⟩ = some (.int .i64 (l)) ∧ W.frozen? ⟨w.heap.size + 1, 0, none⟩ = false ∧ W.frozen? ⟨w.heap.size + 1, 1, none⟩ = false ∧ W.frozen? ⟨w.heap.size + 1, 2, none⟩ = false ∧ W.frozen? ⟨w.heap.size + 1, 3, none⟩ = false ∧ w.heap.size + 1 < W.heap.size)) (first | exact ⟨dS HS3.out.1, HS3.out.2⟩ | exact keepSP (by assumption) (by assumption))
    (first | (go_at_call 52; (with_reducible refine (f52_is c z HZ.out _).mono ?_); rintro e wq ⟨rfl, hbq⟩))
  rename_i T3
  clear HS3
  go_wp2_with fail
  refine calls48_arg (r := r) ?eq ?_
  case eq => have hh := HR3.out; (try simp only [IntKind.wrap_i64]); (first | exact hh | ((try unfold wrap64); unfold wrap64 at hh; omega))
  refine (f48_is c r y b HY.out _).mono ?_
  rintro e w5 ⟨rfl, hb5⟩
  have T5 := keepSP hb5 T3
  clear hb5 T3
  cases b
  · have HN : Hd (numberP c ⟨0, n, p, l⟩ = (0, false)) := ⟨by
      unfold numberP; rw [if_neg]; rw [HR.out, HY.out]; simp⟩
    go_wp2
    go_ret2
    exact ⟨ret2_ib HN.out, balloc (sB T5.1) _⟩
  · rcases hd : (y.k == 0 && (y.n == n && (y.p == p && y.l == l))) with _ | _
    · have HN : Hd (numberP c ⟨0, n, p, l⟩ = (0, false)) := ⟨by
        unfold numberP; rw [if_neg]; rw [HR.out, HY.out]; rintro ⟨_, _, _, h4⟩
        injection h4 with h4 _
        rw [h4] at hd
        simp at hd⟩
      have q1 := fun W => neq51_run y.k y.n y.p y.l 0 n p l W
      have q2 := fun W => run_eq51 y.k y.n y.p y.l 0 n p l W
      rw [hd] at q1 q2
      clear hd
      go_wp2
      go_ret2
      exact ⟨ret2_ib HN.out, balloc (sB T5.1) _⟩
    · have HN : Hd (numberP c ⟨0, n, p, l⟩ = (r, true)) := ⟨by
        unfold numberP; rw [HR.out, HY.out]
        simp only [Bool.and_eq_true, beq_iff_eq] at hd
        rw [if_pos ⟨HB.out, by simp, by simp, by rw [← hd.1, ← hd.2.1, ← hd.2.2.1, ← hd.2.2.2]⟩]⟩
      have q1 := fun W => neq51_run y.k y.n y.p y.l 0 n p l W
      have q2 := fun W => run_eq51 y.k y.n y.p y.l 0 n p l W
      rw [hd] at q1 q2
      clear hd
      go_wp2
      go_ret2
      exact ⟨ret2_num HN.out (by have hh := HR3.out; (try simp only [IntKind.wrap_i64]); (first | exact hh | ((try unfold wrap64); unfold wrap64 at hh; omega))), balloc (sB T5.1) _⟩

set_option maxHeartbeats 1000000 in
set_option maxRecDepth 20000 in
theorem f50_1 (c : Cfg) (n p l : Int) (hn : isB c n = true) (w : World) :
    Calls Try.prog 50 #[cv c, .agg #[.int .i64 1, .int .i64 n, .int .i64 p, .int .i64 l]] w fun e w' => e = .returned (.tuple #[.int .i64 (numberP c ⟨1, n, p, l⟩).1, .bool (numberP c ⟨1, n, p, l⟩).2]) ∧ Below w.heap.size w w' := by
  obtain ⟨z, HZ⟩ : ∃ r, Hd (eachP c = r) := ⟨_, ⟨rfl⟩⟩
  have hk := isB_chk hn
  have l1 := (chk_okc hk).L1
  have l2 := (chk_okc hk).L2
  have hz := each_bd c
  rw [HZ.out] at hz
  have n0 := (inn hn).n0
  have n1 := (inn hn).n1
  have nz0 : 0 ≤ n * z := Int.mul_nonneg n0 hz.1
  have nz1 : n * z ≤ 389120 := by have := Int.mul_le_mul n1 hz.2 hz.1 (by omega); omega
  have HW : IntKind.i64.wrap (n * z) = n * z := IntWalk.i64_in _ (by omega)
  have HB := Hd.mk hn
  obtain ⟨r, HR⟩ : ∃ r, Hd (numW c ⟨1, n, p, l⟩ = r) := ⟨_, ⟨rfl⟩⟩
  have HR2 := HR.out
  simp only [numW, offP, HZ.out] at HR2
  simp at HR2
  have HR3 := Hd.mk HR2
  obtain ⟨y, b, HY⟩ : ∃ y b, Hd (ofP c r = (y, b)) := ⟨_, _, ⟨rfl⟩⟩
  clear hk hn HR2
  have i0 : ∀ W : World, (Instr.index 67 (.agg #[.int .i64 (5 * c.L), .int .i64 (5 * c.L), .int .i64 5, .int .i64 1, .int .i64 1, .int .i64 4, .int .i64 4]) (.int .i64 0)).run Try.prog W = .ok (.int .i64 (5 * c.L)) W := fun _ => by kernel_rfl
  have i1 : ∀ W : World, (Instr.index 67 (.agg #[.int .i64 (5 * c.L), .int .i64 (5 * c.L), .int .i64 5, .int .i64 1, .int .i64 1, .int .i64 4, .int .i64 4]) (.int .i64 1)).run Try.prog W = .ok (.int .i64 (5 * c.L)) W := fun _ => by kernel_rfl
  have i2 : ∀ W : World, (Instr.index 67 (.agg #[.int .i64 (5 * c.L), .int .i64 (5 * c.L), .int .i64 5, .int .i64 1, .int .i64 1, .int .i64 4, .int .i64 4]) (.int .i64 2)).run Try.prog W = .ok (.int .i64 (5)) W := fun _ => by kernel_rfl
  have i3 : ∀ W : World, (Instr.index 67 (.agg #[.int .i64 (5 * c.L), .int .i64 (5 * c.L), .int .i64 5, .int .i64 1, .int .i64 1, .int .i64 4, .int .i64 4]) (.int .i64 3)).run Try.prog W = .ok (.int .i64 (1)) W := fun _ => by kernel_rfl
  have i4 : ∀ W : World, (Instr.index 67 (.agg #[.int .i64 (5 * c.L), .int .i64 (5 * c.L), .int .i64 5, .int .i64 1, .int .i64 1, .int .i64 4, .int .i64 4]) (.int .i64 4)).run Try.prog W = .ok (.int .i64 (1)) W := fun _ => by kernel_rfl
  have i5 : ∀ W : World, (Instr.index 67 (.agg #[.int .i64 (5 * c.L), .int .i64 (5 * c.L), .int .i64 5, .int .i64 1, .int .i64 1, .int .i64 4, .int .i64 4]) (.int .i64 5)).run Try.prog W = .ok (.int .i64 (4)) W := fun _ => by kernel_rfl
  have i6 : ∀ W : World, (Instr.index 67 (.agg #[.int .i64 (5 * c.L), .int .i64 (5 * c.L), .int .i64 5, .int .i64 1, .int .i64 1, .int .i64 4, .int .i64 4]) (.int .i64 6)).run Try.prog W = .ok (.int .i64 (4)) W := fun _ => by kernel_rfl
  go_enter Try.func50, Try.ntmps50
  go_wp2_with fail
  refine (f42_is c n true HB.out _).mono ?_
  rintro e w1 ⟨rfl, hb1⟩
  have T1 := And.intro (keepS hb1 (allocS _ (s0 c w))) (keepP (g := w.heap.size + 1) hb1 (p0 1 n p l 51 _ (by simp)))
  clear hb1
  go_wp2_with fail
  refine (f85_any c l1 l2 _).mono ?_
  rintro e w2 ⟨rfl, hb2⟩
  have T2 := keepSP hb2 T1
  clear hb2 T1
  go_wp2_with fail
  refine wp_loop_rounds 8 ?_
  rw [rounds_succ]
  go_wp2
  rw [rounds_succ]
  go_wp2
  rw [rounds_succ]
  go_wp2
  rw [rounds_succ]
  go_wp2
  rw [rounds_succ]
  go_wp2
  rw [rounds_succ]
  go_wp2
  rw [rounds_succ]
  go_wp2
  rw [rounds_succ]
  go_wp2_with fail
  have HS3 := Hd.mk T2
  clear T2
  go_region_held3 (fun W => (W.cell? ⟨w.heap.size, 0, none⟩ = some (.int .i64 c.W) ∧ W.cell? ⟨w.heap.size, 1, none⟩ = some (.int .i64 c.H) ∧ W.cell? ⟨w.heap.size, 2, none⟩ = some (.int .i64 c.L) ∧ W.cell? ⟨w.heap.size, 3, none⟩ = some (.int .i64 c.D) ∧ W.cell? ⟨w.heap.size, 4, none⟩ = some (.int .i64 c.R) ∧ W.cell? ⟨w.heap.size, 5, none⟩ = some (.int .i64 c.I) ∧ W.cell? ⟨w.heap.size, 6, none⟩ = some (.int .i64 c.B) ∧ W.cell? ⟨w.heap.size, 7, none⟩ = some (.bool c.ws) ∧ W.cell? ⟨w.heap.size, 8, none⟩ = some (.bool c.cs) ∧ w.heap.size < W.heap.size ∧ Below w.heap.size w W) ∧ (W.cell? ⟨w.heap.size + 1, 0, none⟩ = some (.int .i64 (1)) ∧ W.cell? ⟨w.heap.size + 1, 1, none⟩ = some (.int .i64 (n)) ∧ W.cell? ⟨w.heap.size + 1, 2, none⟩ = some (.int .i64 (p)) ∧ W.cell? ⟨w.heap.size + 1, 3, none⟩ = some (.int .i64 (l)) ∧ W.frozen? ⟨w.heap.size + 1, 0, none⟩ = false ∧ W.frozen? ⟨w.heap.size + 1, 1, none⟩ = false ∧ W.frozen? ⟨w.heap.size + 1, 2, none⟩ = false ∧ W.frozen? ⟨w.heap.size + 1, 3, none⟩ = false ∧ w.heap.size + 1 < W.heap.size)) (first | exact ⟨dS HS3.out.1, HS3.out.2⟩ | exact keepSP (by assumption) (by assumption))
    (first | (go_at_call 52; (with_reducible refine (f52_is c z HZ.out _).mono ?_); rintro e wq ⟨rfl, hbq⟩))
  rename_i T3
  clear HS3
  go_wp2_with fail
  refine calls48_arg (r := r) ?eq ?_
  case eq => have hh := HR3.out; (try simp only [IntKind.wrap_i64]); (first | exact hh | ((try unfold wrap64); unfold wrap64 at hh; omega))
  refine (f48_is c r y b HY.out _).mono ?_
  rintro e w5 ⟨rfl, hb5⟩
  have T5 := keepSP hb5 T3
  clear hb5 T3
  cases b
  · have HN : Hd (numberP c ⟨1, n, p, l⟩ = (0, false)) := ⟨by
      unfold numberP; rw [if_neg]; rw [HR.out, HY.out]; simp⟩
    go_wp2
    go_ret2
    exact ⟨ret2_ib HN.out, balloc (sB T5.1) _⟩
  · rcases hd : (y.k == 1 && (y.n == n && (y.p == p && y.l == l))) with _ | _
    · have HN : Hd (numberP c ⟨1, n, p, l⟩ = (0, false)) := ⟨by
        unfold numberP; rw [if_neg]; rw [HR.out, HY.out]; rintro ⟨_, _, _, h4⟩
        injection h4 with h4 _
        rw [h4] at hd
        simp at hd⟩
      have q1 := fun W => neq51_run y.k y.n y.p y.l 1 n p l W
      have q2 := fun W => run_eq51 y.k y.n y.p y.l 1 n p l W
      rw [hd] at q1 q2
      clear hd
      go_wp2
      go_ret2
      exact ⟨ret2_ib HN.out, balloc (sB T5.1) _⟩
    · have HN : Hd (numberP c ⟨1, n, p, l⟩ = (r, true)) := ⟨by
        unfold numberP; rw [HR.out, HY.out]
        simp only [Bool.and_eq_true, beq_iff_eq] at hd
        rw [if_pos ⟨HB.out, by simp, by simp, by rw [← hd.1, ← hd.2.1, ← hd.2.2.1, ← hd.2.2.2]⟩]⟩
      have q1 := fun W => neq51_run y.k y.n y.p y.l 1 n p l W
      have q2 := fun W => run_eq51 y.k y.n y.p y.l 1 n p l W
      rw [hd] at q1 q2
      clear hd
      go_wp2
      go_ret2
      exact ⟨ret2_num HN.out (by have hh := HR3.out; (try simp only [IntKind.wrap_i64]); (first | exact hh | ((try unfold wrap64); unfold wrap64 at hh; omega))), balloc (sB T5.1) _⟩

set_option maxHeartbeats 1000000 in
set_option maxRecDepth 20000 in
theorem f50_2 (c : Cfg) (n p l : Int) (hn : isB c n = true) (w : World) :
    Calls Try.prog 50 #[cv c, .agg #[.int .i64 2, .int .i64 n, .int .i64 p, .int .i64 l]] w fun e w' => e = .returned (.tuple #[.int .i64 (numberP c ⟨2, n, p, l⟩).1, .bool (numberP c ⟨2, n, p, l⟩).2]) ∧ Below w.heap.size w w' := by
  obtain ⟨z, HZ⟩ : ∃ r, Hd (eachP c = r) := ⟨_, ⟨rfl⟩⟩
  have hk := isB_chk hn
  have l1 := (chk_okc hk).L1
  have l2 := (chk_okc hk).L2
  have hz := each_bd c
  rw [HZ.out] at hz
  have n0 := (inn hn).n0
  have n1 := (inn hn).n1
  have nz0 : 0 ≤ n * z := Int.mul_nonneg n0 hz.1
  have nz1 : n * z ≤ 389120 := by have := Int.mul_le_mul n1 hz.2 hz.1 (by omega); omega
  have HW : IntKind.i64.wrap (n * z) = n * z := IntWalk.i64_in _ (by omega)
  have HB := Hd.mk hn
  obtain ⟨r, HR⟩ : ∃ r, Hd (numW c ⟨2, n, p, l⟩ = r) := ⟨_, ⟨rfl⟩⟩
  have HR2 := HR.out
  simp only [numW, offP, HZ.out] at HR2
  simp at HR2
  have HR3 := Hd.mk HR2
  obtain ⟨y, b, HY⟩ : ∃ y b, Hd (ofP c r = (y, b)) := ⟨_, _, ⟨rfl⟩⟩
  clear hk hn HR2
  have i0 : ∀ W : World, (Instr.index 67 (.agg #[.int .i64 (5 * c.L), .int .i64 (5 * c.L), .int .i64 5, .int .i64 1, .int .i64 1, .int .i64 4, .int .i64 4]) (.int .i64 0)).run Try.prog W = .ok (.int .i64 (5 * c.L)) W := fun _ => by kernel_rfl
  have i1 : ∀ W : World, (Instr.index 67 (.agg #[.int .i64 (5 * c.L), .int .i64 (5 * c.L), .int .i64 5, .int .i64 1, .int .i64 1, .int .i64 4, .int .i64 4]) (.int .i64 1)).run Try.prog W = .ok (.int .i64 (5 * c.L)) W := fun _ => by kernel_rfl
  have i2 : ∀ W : World, (Instr.index 67 (.agg #[.int .i64 (5 * c.L), .int .i64 (5 * c.L), .int .i64 5, .int .i64 1, .int .i64 1, .int .i64 4, .int .i64 4]) (.int .i64 2)).run Try.prog W = .ok (.int .i64 (5)) W := fun _ => by kernel_rfl
  have i3 : ∀ W : World, (Instr.index 67 (.agg #[.int .i64 (5 * c.L), .int .i64 (5 * c.L), .int .i64 5, .int .i64 1, .int .i64 1, .int .i64 4, .int .i64 4]) (.int .i64 3)).run Try.prog W = .ok (.int .i64 (1)) W := fun _ => by kernel_rfl
  have i4 : ∀ W : World, (Instr.index 67 (.agg #[.int .i64 (5 * c.L), .int .i64 (5 * c.L), .int .i64 5, .int .i64 1, .int .i64 1, .int .i64 4, .int .i64 4]) (.int .i64 4)).run Try.prog W = .ok (.int .i64 (1)) W := fun _ => by kernel_rfl
  have i5 : ∀ W : World, (Instr.index 67 (.agg #[.int .i64 (5 * c.L), .int .i64 (5 * c.L), .int .i64 5, .int .i64 1, .int .i64 1, .int .i64 4, .int .i64 4]) (.int .i64 5)).run Try.prog W = .ok (.int .i64 (4)) W := fun _ => by kernel_rfl
  have i6 : ∀ W : World, (Instr.index 67 (.agg #[.int .i64 (5 * c.L), .int .i64 (5 * c.L), .int .i64 5, .int .i64 1, .int .i64 1, .int .i64 4, .int .i64 4]) (.int .i64 6)).run Try.prog W = .ok (.int .i64 (4)) W := fun _ => by kernel_rfl
  go_enter Try.func50, Try.ntmps50
  go_wp2_with fail
  refine (f42_is c n true HB.out _).mono ?_
  rintro e w1 ⟨rfl, hb1⟩
  have T1 := And.intro (keepS hb1 (allocS _ (s0 c w))) (keepP (g := w.heap.size + 1) hb1 (p0 2 n p l 51 _ (by simp)))
  clear hb1
  go_wp2_with fail
  refine (f85_any c l1 l2 _).mono ?_
  rintro e w2 ⟨rfl, hb2⟩
  have T2 := keepSP hb2 T1
  clear hb2 T1
  go_wp2_with fail
  refine wp_loop_rounds 8 ?_
  rw [rounds_succ]
  go_wp2
  rw [rounds_succ]
  go_wp2
  rw [rounds_succ]
  go_wp2
  rw [rounds_succ]
  go_wp2
  rw [rounds_succ]
  go_wp2
  rw [rounds_succ]
  go_wp2
  rw [rounds_succ]
  go_wp2
  rw [rounds_succ]
  go_wp2_with fail
  have HS3 := Hd.mk T2
  clear T2
  go_region_held3 (fun W => (W.cell? ⟨w.heap.size, 0, none⟩ = some (.int .i64 c.W) ∧ W.cell? ⟨w.heap.size, 1, none⟩ = some (.int .i64 c.H) ∧ W.cell? ⟨w.heap.size, 2, none⟩ = some (.int .i64 c.L) ∧ W.cell? ⟨w.heap.size, 3, none⟩ = some (.int .i64 c.D) ∧ W.cell? ⟨w.heap.size, 4, none⟩ = some (.int .i64 c.R) ∧ W.cell? ⟨w.heap.size, 5, none⟩ = some (.int .i64 c.I) ∧ W.cell? ⟨w.heap.size, 6, none⟩ = some (.int .i64 c.B) ∧ W.cell? ⟨w.heap.size, 7, none⟩ = some (.bool c.ws) ∧ W.cell? ⟨w.heap.size, 8, none⟩ = some (.bool c.cs) ∧ w.heap.size < W.heap.size ∧ Below w.heap.size w W) ∧ (W.cell? ⟨w.heap.size + 1, 0, none⟩ = some (.int .i64 (2)) ∧ W.cell? ⟨w.heap.size + 1, 1, none⟩ = some (.int .i64 (n)) ∧ W.cell? ⟨w.heap.size + 1, 2, none⟩ = some (.int .i64 (p)) ∧ W.cell? ⟨w.heap.size + 1, 3, none⟩ = some (.int .i64 (l)) ∧ W.frozen? ⟨w.heap.size + 1, 0, none⟩ = false ∧ W.frozen? ⟨w.heap.size + 1, 1, none⟩ = false ∧ W.frozen? ⟨w.heap.size + 1, 2, none⟩ = false ∧ W.frozen? ⟨w.heap.size + 1, 3, none⟩ = false ∧ w.heap.size + 1 < W.heap.size)) (first | exact ⟨dS HS3.out.1, HS3.out.2⟩ | exact keepSP (by assumption) (by assumption))
    (first | (go_at_call 52; (with_reducible refine (f52_is c z HZ.out _).mono ?_); rintro e wq ⟨rfl, hbq⟩))
  rename_i T3
  clear HS3
  go_wp2_with fail
  refine calls48_arg (r := r) ?eq ?_
  case eq => have hh := HR3.out; (try simp only [IntKind.wrap_i64]); (first | exact hh | ((try unfold wrap64); unfold wrap64 at hh; omega))
  refine (f48_is c r y b HY.out _).mono ?_
  rintro e w5 ⟨rfl, hb5⟩
  have T5 := keepSP hb5 T3
  clear hb5 T3
  cases b
  · have HN : Hd (numberP c ⟨2, n, p, l⟩ = (0, false)) := ⟨by
      unfold numberP; rw [if_neg]; rw [HR.out, HY.out]; simp⟩
    go_wp2
    go_ret2
    exact ⟨ret2_ib HN.out, balloc (sB T5.1) _⟩
  · rcases hd : (y.k == 2 && (y.n == n && (y.p == p && y.l == l))) with _ | _
    · have HN : Hd (numberP c ⟨2, n, p, l⟩ = (0, false)) := ⟨by
        unfold numberP; rw [if_neg]; rw [HR.out, HY.out]; rintro ⟨_, _, _, h4⟩
        injection h4 with h4 _
        rw [h4] at hd
        simp at hd⟩
      have q1 := fun W => neq51_run y.k y.n y.p y.l 2 n p l W
      have q2 := fun W => run_eq51 y.k y.n y.p y.l 2 n p l W
      rw [hd] at q1 q2
      clear hd
      go_wp2
      go_ret2
      exact ⟨ret2_ib HN.out, balloc (sB T5.1) _⟩
    · have HN : Hd (numberP c ⟨2, n, p, l⟩ = (r, true)) := ⟨by
        unfold numberP; rw [HR.out, HY.out]
        simp only [Bool.and_eq_true, beq_iff_eq] at hd
        rw [if_pos ⟨HB.out, by simp, by simp, by rw [← hd.1, ← hd.2.1, ← hd.2.2.1, ← hd.2.2.2]⟩]⟩
      have q1 := fun W => neq51_run y.k y.n y.p y.l 2 n p l W
      have q2 := fun W => run_eq51 y.k y.n y.p y.l 2 n p l W
      rw [hd] at q1 q2
      clear hd
      go_wp2
      go_ret2
      exact ⟨ret2_num HN.out (by have hh := HR3.out; (try simp only [IntKind.wrap_i64]); (first | exact hh | ((try unfold wrap64); unfold wrap64 at hh; omega))), balloc (sB T5.1) _⟩

set_option maxHeartbeats 1000000 in
set_option maxRecDepth 20000 in
theorem f50_3 (c : Cfg) (n p l : Int) (hn : isB c n = true) (w : World) :
    Calls Try.prog 50 #[cv c, .agg #[.int .i64 3, .int .i64 n, .int .i64 p, .int .i64 l]] w fun e w' => e = .returned (.tuple #[.int .i64 (numberP c ⟨3, n, p, l⟩).1, .bool (numberP c ⟨3, n, p, l⟩).2]) ∧ Below w.heap.size w w' := by
  obtain ⟨z, HZ⟩ : ∃ r, Hd (eachP c = r) := ⟨_, ⟨rfl⟩⟩
  have hk := isB_chk hn
  have l1 := (chk_okc hk).L1
  have l2 := (chk_okc hk).L2
  have hz := each_bd c
  rw [HZ.out] at hz
  have n0 := (inn hn).n0
  have n1 := (inn hn).n1
  have nz0 : 0 ≤ n * z := Int.mul_nonneg n0 hz.1
  have nz1 : n * z ≤ 389120 := by have := Int.mul_le_mul n1 hz.2 hz.1 (by omega); omega
  have HW : IntKind.i64.wrap (n * z) = n * z := IntWalk.i64_in _ (by omega)
  have HB := Hd.mk hn
  obtain ⟨r, HR⟩ : ∃ r, Hd (numW c ⟨3, n, p, l⟩ = r) := ⟨_, ⟨rfl⟩⟩
  have HR2 := HR.out
  simp only [numW, offP, HZ.out] at HR2
  simp at HR2
  have HR3 := Hd.mk HR2
  obtain ⟨y, b, HY⟩ : ∃ y b, Hd (ofP c r = (y, b)) := ⟨_, _, ⟨rfl⟩⟩
  clear hk hn HR2
  have i0 : ∀ W : World, (Instr.index 67 (.agg #[.int .i64 (5 * c.L), .int .i64 (5 * c.L), .int .i64 5, .int .i64 1, .int .i64 1, .int .i64 4, .int .i64 4]) (.int .i64 0)).run Try.prog W = .ok (.int .i64 (5 * c.L)) W := fun _ => by kernel_rfl
  have i1 : ∀ W : World, (Instr.index 67 (.agg #[.int .i64 (5 * c.L), .int .i64 (5 * c.L), .int .i64 5, .int .i64 1, .int .i64 1, .int .i64 4, .int .i64 4]) (.int .i64 1)).run Try.prog W = .ok (.int .i64 (5 * c.L)) W := fun _ => by kernel_rfl
  have i2 : ∀ W : World, (Instr.index 67 (.agg #[.int .i64 (5 * c.L), .int .i64 (5 * c.L), .int .i64 5, .int .i64 1, .int .i64 1, .int .i64 4, .int .i64 4]) (.int .i64 2)).run Try.prog W = .ok (.int .i64 (5)) W := fun _ => by kernel_rfl
  have i3 : ∀ W : World, (Instr.index 67 (.agg #[.int .i64 (5 * c.L), .int .i64 (5 * c.L), .int .i64 5, .int .i64 1, .int .i64 1, .int .i64 4, .int .i64 4]) (.int .i64 3)).run Try.prog W = .ok (.int .i64 (1)) W := fun _ => by kernel_rfl
  have i4 : ∀ W : World, (Instr.index 67 (.agg #[.int .i64 (5 * c.L), .int .i64 (5 * c.L), .int .i64 5, .int .i64 1, .int .i64 1, .int .i64 4, .int .i64 4]) (.int .i64 4)).run Try.prog W = .ok (.int .i64 (1)) W := fun _ => by kernel_rfl
  have i5 : ∀ W : World, (Instr.index 67 (.agg #[.int .i64 (5 * c.L), .int .i64 (5 * c.L), .int .i64 5, .int .i64 1, .int .i64 1, .int .i64 4, .int .i64 4]) (.int .i64 5)).run Try.prog W = .ok (.int .i64 (4)) W := fun _ => by kernel_rfl
  have i6 : ∀ W : World, (Instr.index 67 (.agg #[.int .i64 (5 * c.L), .int .i64 (5 * c.L), .int .i64 5, .int .i64 1, .int .i64 1, .int .i64 4, .int .i64 4]) (.int .i64 6)).run Try.prog W = .ok (.int .i64 (4)) W := fun _ => by kernel_rfl
  go_enter Try.func50, Try.ntmps50
  go_wp2_with fail
  refine (f42_is c n true HB.out _).mono ?_
  rintro e w1 ⟨rfl, hb1⟩
  have T1 := And.intro (keepS hb1 (allocS _ (s0 c w))) (keepP (g := w.heap.size + 1) hb1 (p0 3 n p l 51 _ (by simp)))
  clear hb1
  go_wp2_with fail
  refine (f85_any c l1 l2 _).mono ?_
  rintro e w2 ⟨rfl, hb2⟩
  have T2 := keepSP hb2 T1
  clear hb2 T1
  go_wp2_with fail
  refine wp_loop_rounds 8 ?_
  rw [rounds_succ]
  go_wp2
  rw [rounds_succ]
  go_wp2
  rw [rounds_succ]
  go_wp2
  rw [rounds_succ]
  go_wp2
  rw [rounds_succ]
  go_wp2
  rw [rounds_succ]
  go_wp2
  rw [rounds_succ]
  go_wp2
  rw [rounds_succ]
  go_wp2_with fail
  have HS3 := Hd.mk T2
  clear T2
  go_region_held3 (fun W => (W.cell? ⟨w.heap.size, 0, none⟩ = some (.int .i64 c.W) ∧ W.cell? ⟨w.heap.size, 1, none⟩ = some (.int .i64 c.H) ∧ W.cell? ⟨w.heap.size, 2, none⟩ = some (.int .i64 c.L) ∧ W.cell? ⟨w.heap.size, 3, none⟩ = some (.int .i64 c.D) ∧ W.cell? ⟨w.heap.size, 4, none⟩ = some (.int .i64 c.R) ∧ W.cell? ⟨w.heap.size, 5, none⟩ = some (.int .i64 c.I) ∧ W.cell? ⟨w.heap.size, 6, none⟩ = some (.int .i64 c.B) ∧ W.cell? ⟨w.heap.size, 7, none⟩ = some (.bool c.ws) ∧ W.cell? ⟨w.heap.size, 8, none⟩ = some (.bool c.cs) ∧ w.heap.size < W.heap.size ∧ Below w.heap.size w W) ∧ (W.cell? ⟨w.heap.size + 1, 0, none⟩ = some (.int .i64 (3)) ∧ W.cell? ⟨w.heap.size + 1, 1, none⟩ = some (.int .i64 (n)) ∧ W.cell? ⟨w.heap.size + 1, 2, none⟩ = some (.int .i64 (p)) ∧ W.cell? ⟨w.heap.size + 1, 3, none⟩ = some (.int .i64 (l)) ∧ W.frozen? ⟨w.heap.size + 1, 0, none⟩ = false ∧ W.frozen? ⟨w.heap.size + 1, 1, none⟩ = false ∧ W.frozen? ⟨w.heap.size + 1, 2, none⟩ = false ∧ W.frozen? ⟨w.heap.size + 1, 3, none⟩ = false ∧ w.heap.size + 1 < W.heap.size)) (first | exact ⟨dS HS3.out.1, HS3.out.2⟩ | exact keepSP (by assumption) (by assumption))
    (first | (go_at_call 52; (with_reducible refine (f52_is c z HZ.out _).mono ?_); rintro e wq ⟨rfl, hbq⟩))
  rename_i T3
  clear HS3
  go_wp2_with fail
  refine calls48_arg (r := r) ?eq ?_
  case eq => have hh := HR3.out; (try simp only [IntKind.wrap_i64]); (first | exact hh | ((try unfold wrap64); unfold wrap64 at hh; omega))
  refine (f48_is c r y b HY.out _).mono ?_
  rintro e w5 ⟨rfl, hb5⟩
  have T5 := keepSP hb5 T3
  clear hb5 T3
  cases b
  · have HN : Hd (numberP c ⟨3, n, p, l⟩ = (0, false)) := ⟨by
      unfold numberP; rw [if_neg]; rw [HR.out, HY.out]; simp⟩
    go_wp2
    go_ret2
    exact ⟨ret2_ib HN.out, balloc (sB T5.1) _⟩
  · rcases hd : (y.k == 3 && (y.n == n && (y.p == p && y.l == l))) with _ | _
    · have HN : Hd (numberP c ⟨3, n, p, l⟩ = (0, false)) := ⟨by
        unfold numberP; rw [if_neg]; rw [HR.out, HY.out]; rintro ⟨_, _, _, h4⟩
        injection h4 with h4 _
        rw [h4] at hd
        simp at hd⟩
      have q1 := fun W => neq51_run y.k y.n y.p y.l 3 n p l W
      have q2 := fun W => run_eq51 y.k y.n y.p y.l 3 n p l W
      rw [hd] at q1 q2
      clear hd
      go_wp2
      go_ret2
      exact ⟨ret2_ib HN.out, balloc (sB T5.1) _⟩
    · have HN : Hd (numberP c ⟨3, n, p, l⟩ = (r, true)) := ⟨by
        unfold numberP; rw [HR.out, HY.out]
        simp only [Bool.and_eq_true, beq_iff_eq] at hd
        rw [if_pos ⟨HB.out, by simp, by simp, by rw [← hd.1, ← hd.2.1, ← hd.2.2.1, ← hd.2.2.2]⟩]⟩
      have q1 := fun W => neq51_run y.k y.n y.p y.l 3 n p l W
      have q2 := fun W => run_eq51 y.k y.n y.p y.l 3 n p l W
      rw [hd] at q1 q2
      clear hd
      go_wp2
      go_ret2
      exact ⟨ret2_num HN.out (by have hh := HR3.out; (try simp only [IntKind.wrap_i64]); (first | exact hh | ((try unfold wrap64); unfold wrap64 at hh; omega))), balloc (sB T5.1) _⟩

set_option maxHeartbeats 1000000 in
set_option maxRecDepth 20000 in
theorem f50_4 (c : Cfg) (n p l : Int) (hn : isB c n = true) (w : World) :
    Calls Try.prog 50 #[cv c, .agg #[.int .i64 4, .int .i64 n, .int .i64 p, .int .i64 l]] w fun e w' => e = .returned (.tuple #[.int .i64 (numberP c ⟨4, n, p, l⟩).1, .bool (numberP c ⟨4, n, p, l⟩).2]) ∧ Below w.heap.size w w' := by
  obtain ⟨z, HZ⟩ : ∃ r, Hd (eachP c = r) := ⟨_, ⟨rfl⟩⟩
  have hk := isB_chk hn
  have l1 := (chk_okc hk).L1
  have l2 := (chk_okc hk).L2
  have hz := each_bd c
  rw [HZ.out] at hz
  have n0 := (inn hn).n0
  have n1 := (inn hn).n1
  have nz0 : 0 ≤ n * z := Int.mul_nonneg n0 hz.1
  have nz1 : n * z ≤ 389120 := by have := Int.mul_le_mul n1 hz.2 hz.1 (by omega); omega
  have HW : IntKind.i64.wrap (n * z) = n * z := IntWalk.i64_in _ (by omega)
  have HB := Hd.mk hn
  obtain ⟨r, HR⟩ : ∃ r, Hd (numW c ⟨4, n, p, l⟩ = r) := ⟨_, ⟨rfl⟩⟩
  have HR2 := HR.out
  simp only [numW, offP, HZ.out] at HR2
  simp at HR2
  have HR3 := Hd.mk HR2
  obtain ⟨y, b, HY⟩ : ∃ y b, Hd (ofP c r = (y, b)) := ⟨_, _, ⟨rfl⟩⟩
  clear hk hn HR2
  have i0 : ∀ W : World, (Instr.index 67 (.agg #[.int .i64 (5 * c.L), .int .i64 (5 * c.L), .int .i64 5, .int .i64 1, .int .i64 1, .int .i64 4, .int .i64 4]) (.int .i64 0)).run Try.prog W = .ok (.int .i64 (5 * c.L)) W := fun _ => by kernel_rfl
  have i1 : ∀ W : World, (Instr.index 67 (.agg #[.int .i64 (5 * c.L), .int .i64 (5 * c.L), .int .i64 5, .int .i64 1, .int .i64 1, .int .i64 4, .int .i64 4]) (.int .i64 1)).run Try.prog W = .ok (.int .i64 (5 * c.L)) W := fun _ => by kernel_rfl
  have i2 : ∀ W : World, (Instr.index 67 (.agg #[.int .i64 (5 * c.L), .int .i64 (5 * c.L), .int .i64 5, .int .i64 1, .int .i64 1, .int .i64 4, .int .i64 4]) (.int .i64 2)).run Try.prog W = .ok (.int .i64 (5)) W := fun _ => by kernel_rfl
  have i3 : ∀ W : World, (Instr.index 67 (.agg #[.int .i64 (5 * c.L), .int .i64 (5 * c.L), .int .i64 5, .int .i64 1, .int .i64 1, .int .i64 4, .int .i64 4]) (.int .i64 3)).run Try.prog W = .ok (.int .i64 (1)) W := fun _ => by kernel_rfl
  have i4 : ∀ W : World, (Instr.index 67 (.agg #[.int .i64 (5 * c.L), .int .i64 (5 * c.L), .int .i64 5, .int .i64 1, .int .i64 1, .int .i64 4, .int .i64 4]) (.int .i64 4)).run Try.prog W = .ok (.int .i64 (1)) W := fun _ => by kernel_rfl
  have i5 : ∀ W : World, (Instr.index 67 (.agg #[.int .i64 (5 * c.L), .int .i64 (5 * c.L), .int .i64 5, .int .i64 1, .int .i64 1, .int .i64 4, .int .i64 4]) (.int .i64 5)).run Try.prog W = .ok (.int .i64 (4)) W := fun _ => by kernel_rfl
  have i6 : ∀ W : World, (Instr.index 67 (.agg #[.int .i64 (5 * c.L), .int .i64 (5 * c.L), .int .i64 5, .int .i64 1, .int .i64 1, .int .i64 4, .int .i64 4]) (.int .i64 6)).run Try.prog W = .ok (.int .i64 (4)) W := fun _ => by kernel_rfl
  go_enter Try.func50, Try.ntmps50
  go_wp2_with fail
  refine (f42_is c n true HB.out _).mono ?_
  rintro e w1 ⟨rfl, hb1⟩
  have T1 := And.intro (keepS hb1 (allocS _ (s0 c w))) (keepP (g := w.heap.size + 1) hb1 (p0 4 n p l 51 _ (by simp)))
  clear hb1
  go_wp2_with fail
  refine (f85_any c l1 l2 _).mono ?_
  rintro e w2 ⟨rfl, hb2⟩
  have T2 := keepSP hb2 T1
  clear hb2 T1
  go_wp2_with fail
  refine wp_loop_rounds 8 ?_
  rw [rounds_succ]
  go_wp2
  rw [rounds_succ]
  go_wp2
  rw [rounds_succ]
  go_wp2
  rw [rounds_succ]
  go_wp2
  rw [rounds_succ]
  go_wp2
  rw [rounds_succ]
  go_wp2
  rw [rounds_succ]
  go_wp2
  rw [rounds_succ]
  go_wp2_with fail
  have HS3 := Hd.mk T2
  clear T2
  go_region_held3 (fun W => (W.cell? ⟨w.heap.size, 0, none⟩ = some (.int .i64 c.W) ∧ W.cell? ⟨w.heap.size, 1, none⟩ = some (.int .i64 c.H) ∧ W.cell? ⟨w.heap.size, 2, none⟩ = some (.int .i64 c.L) ∧ W.cell? ⟨w.heap.size, 3, none⟩ = some (.int .i64 c.D) ∧ W.cell? ⟨w.heap.size, 4, none⟩ = some (.int .i64 c.R) ∧ W.cell? ⟨w.heap.size, 5, none⟩ = some (.int .i64 c.I) ∧ W.cell? ⟨w.heap.size, 6, none⟩ = some (.int .i64 c.B) ∧ W.cell? ⟨w.heap.size, 7, none⟩ = some (.bool c.ws) ∧ W.cell? ⟨w.heap.size, 8, none⟩ = some (.bool c.cs) ∧ w.heap.size < W.heap.size ∧ Below w.heap.size w W) ∧ (W.cell? ⟨w.heap.size + 1, 0, none⟩ = some (.int .i64 (4)) ∧ W.cell? ⟨w.heap.size + 1, 1, none⟩ = some (.int .i64 (n)) ∧ W.cell? ⟨w.heap.size + 1, 2, none⟩ = some (.int .i64 (p)) ∧ W.cell? ⟨w.heap.size + 1, 3, none⟩ = some (.int .i64 (l)) ∧ W.frozen? ⟨w.heap.size + 1, 0, none⟩ = false ∧ W.frozen? ⟨w.heap.size + 1, 1, none⟩ = false ∧ W.frozen? ⟨w.heap.size + 1, 2, none⟩ = false ∧ W.frozen? ⟨w.heap.size + 1, 3, none⟩ = false ∧ w.heap.size + 1 < W.heap.size)) (first | exact ⟨dS HS3.out.1, HS3.out.2⟩ | exact keepSP (by assumption) (by assumption))
    (first | (go_at_call 52; (with_reducible refine (f52_is c z HZ.out _).mono ?_); rintro e wq ⟨rfl, hbq⟩))
  rename_i T3
  clear HS3
  go_wp2_with fail
  refine calls48_arg (r := r) ?eq ?_
  case eq => have hh := HR3.out; (try simp only [IntKind.wrap_i64]); (first | exact hh | ((try unfold wrap64); unfold wrap64 at hh; omega))
  refine (f48_is c r y b HY.out _).mono ?_
  rintro e w5 ⟨rfl, hb5⟩
  have T5 := keepSP hb5 T3
  clear hb5 T3
  cases b
  · have HN : Hd (numberP c ⟨4, n, p, l⟩ = (0, false)) := ⟨by
      unfold numberP; rw [if_neg]; rw [HR.out, HY.out]; simp⟩
    go_wp2
    go_ret2
    exact ⟨ret2_ib HN.out, balloc (sB T5.1) _⟩
  · rcases hd : (y.k == 4 && (y.n == n && (y.p == p && y.l == l))) with _ | _
    · have HN : Hd (numberP c ⟨4, n, p, l⟩ = (0, false)) := ⟨by
        unfold numberP; rw [if_neg]; rw [HR.out, HY.out]; rintro ⟨_, _, _, h4⟩
        injection h4 with h4 _
        rw [h4] at hd
        simp at hd⟩
      have q1 := fun W => neq51_run y.k y.n y.p y.l 4 n p l W
      have q2 := fun W => run_eq51 y.k y.n y.p y.l 4 n p l W
      rw [hd] at q1 q2
      clear hd
      go_wp2
      go_ret2
      exact ⟨ret2_ib HN.out, balloc (sB T5.1) _⟩
    · have HN : Hd (numberP c ⟨4, n, p, l⟩ = (r, true)) := ⟨by
        unfold numberP; rw [HR.out, HY.out]
        simp only [Bool.and_eq_true, beq_iff_eq] at hd
        rw [if_pos ⟨HB.out, by simp, by simp, by rw [← hd.1, ← hd.2.1, ← hd.2.2.1, ← hd.2.2.2]⟩]⟩
      have q1 := fun W => neq51_run y.k y.n y.p y.l 4 n p l W
      have q2 := fun W => run_eq51 y.k y.n y.p y.l 4 n p l W
      rw [hd] at q1 q2
      clear hd
      go_wp2
      go_ret2
      exact ⟨ret2_num HN.out (by have hh := HR3.out; (try simp only [IntKind.wrap_i64]); (first | exact hh | ((try unfold wrap64); unfold wrap64 at hh; omega))), balloc (sB T5.1) _⟩

set_option maxHeartbeats 1000000 in
set_option maxRecDepth 20000 in
theorem f50_5 (c : Cfg) (n p l : Int) (hn : isB c n = true) (w : World) :
    Calls Try.prog 50 #[cv c, .agg #[.int .i64 5, .int .i64 n, .int .i64 p, .int .i64 l]] w fun e w' => e = .returned (.tuple #[.int .i64 (numberP c ⟨5, n, p, l⟩).1, .bool (numberP c ⟨5, n, p, l⟩).2]) ∧ Below w.heap.size w w' := by
  obtain ⟨z, HZ⟩ : ∃ r, Hd (eachP c = r) := ⟨_, ⟨rfl⟩⟩
  have hk := isB_chk hn
  have l1 := (chk_okc hk).L1
  have l2 := (chk_okc hk).L2
  have hz := each_bd c
  rw [HZ.out] at hz
  have n0 := (inn hn).n0
  have n1 := (inn hn).n1
  have nz0 : 0 ≤ n * z := Int.mul_nonneg n0 hz.1
  have nz1 : n * z ≤ 389120 := by have := Int.mul_le_mul n1 hz.2 hz.1 (by omega); omega
  have HW : IntKind.i64.wrap (n * z) = n * z := IntWalk.i64_in _ (by omega)
  have HB := Hd.mk hn
  obtain ⟨r, HR⟩ : ∃ r, Hd (numW c ⟨5, n, p, l⟩ = r) := ⟨_, ⟨rfl⟩⟩
  have HR2 := HR.out
  simp only [numW, offP, HZ.out] at HR2
  simp at HR2
  have HR3 := Hd.mk HR2
  obtain ⟨y, b, HY⟩ : ∃ y b, Hd (ofP c r = (y, b)) := ⟨_, _, ⟨rfl⟩⟩
  clear hk hn HR2
  have i0 : ∀ W : World, (Instr.index 67 (.agg #[.int .i64 (5 * c.L), .int .i64 (5 * c.L), .int .i64 5, .int .i64 1, .int .i64 1, .int .i64 4, .int .i64 4]) (.int .i64 0)).run Try.prog W = .ok (.int .i64 (5 * c.L)) W := fun _ => by kernel_rfl
  have i1 : ∀ W : World, (Instr.index 67 (.agg #[.int .i64 (5 * c.L), .int .i64 (5 * c.L), .int .i64 5, .int .i64 1, .int .i64 1, .int .i64 4, .int .i64 4]) (.int .i64 1)).run Try.prog W = .ok (.int .i64 (5 * c.L)) W := fun _ => by kernel_rfl
  have i2 : ∀ W : World, (Instr.index 67 (.agg #[.int .i64 (5 * c.L), .int .i64 (5 * c.L), .int .i64 5, .int .i64 1, .int .i64 1, .int .i64 4, .int .i64 4]) (.int .i64 2)).run Try.prog W = .ok (.int .i64 (5)) W := fun _ => by kernel_rfl
  have i3 : ∀ W : World, (Instr.index 67 (.agg #[.int .i64 (5 * c.L), .int .i64 (5 * c.L), .int .i64 5, .int .i64 1, .int .i64 1, .int .i64 4, .int .i64 4]) (.int .i64 3)).run Try.prog W = .ok (.int .i64 (1)) W := fun _ => by kernel_rfl
  have i4 : ∀ W : World, (Instr.index 67 (.agg #[.int .i64 (5 * c.L), .int .i64 (5 * c.L), .int .i64 5, .int .i64 1, .int .i64 1, .int .i64 4, .int .i64 4]) (.int .i64 4)).run Try.prog W = .ok (.int .i64 (1)) W := fun _ => by kernel_rfl
  have i5 : ∀ W : World, (Instr.index 67 (.agg #[.int .i64 (5 * c.L), .int .i64 (5 * c.L), .int .i64 5, .int .i64 1, .int .i64 1, .int .i64 4, .int .i64 4]) (.int .i64 5)).run Try.prog W = .ok (.int .i64 (4)) W := fun _ => by kernel_rfl
  have i6 : ∀ W : World, (Instr.index 67 (.agg #[.int .i64 (5 * c.L), .int .i64 (5 * c.L), .int .i64 5, .int .i64 1, .int .i64 1, .int .i64 4, .int .i64 4]) (.int .i64 6)).run Try.prog W = .ok (.int .i64 (4)) W := fun _ => by kernel_rfl
  go_enter Try.func50, Try.ntmps50
  go_wp2_with fail
  refine (f42_is c n true HB.out _).mono ?_
  rintro e w1 ⟨rfl, hb1⟩
  have T1 := And.intro (keepS hb1 (allocS _ (s0 c w))) (keepP (g := w.heap.size + 1) hb1 (p0 5 n p l 51 _ (by simp)))
  clear hb1
  go_wp2_with fail
  refine (f85_any c l1 l2 _).mono ?_
  rintro e w2 ⟨rfl, hb2⟩
  have T2 := keepSP hb2 T1
  clear hb2 T1
  go_wp2_with fail
  refine wp_loop_rounds 8 ?_
  rw [rounds_succ]
  go_wp2
  rw [rounds_succ]
  go_wp2
  rw [rounds_succ]
  go_wp2
  rw [rounds_succ]
  go_wp2
  rw [rounds_succ]
  go_wp2
  rw [rounds_succ]
  go_wp2
  rw [rounds_succ]
  go_wp2
  rw [rounds_succ]
  go_wp2_with fail
  have HS3 := Hd.mk T2
  clear T2
  go_region_held3 (fun W => (W.cell? ⟨w.heap.size, 0, none⟩ = some (.int .i64 c.W) ∧ W.cell? ⟨w.heap.size, 1, none⟩ = some (.int .i64 c.H) ∧ W.cell? ⟨w.heap.size, 2, none⟩ = some (.int .i64 c.L) ∧ W.cell? ⟨w.heap.size, 3, none⟩ = some (.int .i64 c.D) ∧ W.cell? ⟨w.heap.size, 4, none⟩ = some (.int .i64 c.R) ∧ W.cell? ⟨w.heap.size, 5, none⟩ = some (.int .i64 c.I) ∧ W.cell? ⟨w.heap.size, 6, none⟩ = some (.int .i64 c.B) ∧ W.cell? ⟨w.heap.size, 7, none⟩ = some (.bool c.ws) ∧ W.cell? ⟨w.heap.size, 8, none⟩ = some (.bool c.cs) ∧ w.heap.size < W.heap.size ∧ Below w.heap.size w W) ∧ (W.cell? ⟨w.heap.size + 1, 0, none⟩ = some (.int .i64 (5)) ∧ W.cell? ⟨w.heap.size + 1, 1, none⟩ = some (.int .i64 (n)) ∧ W.cell? ⟨w.heap.size + 1, 2, none⟩ = some (.int .i64 (p)) ∧ W.cell? ⟨w.heap.size + 1, 3, none⟩ = some (.int .i64 (l)) ∧ W.frozen? ⟨w.heap.size + 1, 0, none⟩ = false ∧ W.frozen? ⟨w.heap.size + 1, 1, none⟩ = false ∧ W.frozen? ⟨w.heap.size + 1, 2, none⟩ = false ∧ W.frozen? ⟨w.heap.size + 1, 3, none⟩ = false ∧ w.heap.size + 1 < W.heap.size)) (first | exact ⟨dS HS3.out.1, HS3.out.2⟩ | exact keepSP (by assumption) (by assumption))
    (first | (go_at_call 52; (with_reducible refine (f52_is c z HZ.out _).mono ?_); rintro e wq ⟨rfl, hbq⟩))
  rename_i T3
  clear HS3
  go_wp2_with fail
  refine calls48_arg (r := r) ?eq ?_
  case eq => have hh := HR3.out; (try simp only [IntKind.wrap_i64]); (first | exact hh | ((try unfold wrap64); unfold wrap64 at hh; omega))
  refine (f48_is c r y b HY.out _).mono ?_
  rintro e w5 ⟨rfl, hb5⟩
  have T5 := keepSP hb5 T3
  clear hb5 T3
  cases b
  · have HN : Hd (numberP c ⟨5, n, p, l⟩ = (0, false)) := ⟨by
      unfold numberP; rw [if_neg]; rw [HR.out, HY.out]; simp⟩
    go_wp2
    go_ret2
    exact ⟨ret2_ib HN.out, balloc (sB T5.1) _⟩
  · rcases hd : (y.k == 5 && (y.n == n && (y.p == p && y.l == l))) with _ | _
    · have HN : Hd (numberP c ⟨5, n, p, l⟩ = (0, false)) := ⟨by
        unfold numberP; rw [if_neg]; rw [HR.out, HY.out]; rintro ⟨_, _, _, h4⟩
        injection h4 with h4 _
        rw [h4] at hd
        simp at hd⟩
      have q1 := fun W => neq51_run y.k y.n y.p y.l 5 n p l W
      have q2 := fun W => run_eq51 y.k y.n y.p y.l 5 n p l W
      rw [hd] at q1 q2
      clear hd
      go_wp2
      go_ret2
      exact ⟨ret2_ib HN.out, balloc (sB T5.1) _⟩
    · have HN : Hd (numberP c ⟨5, n, p, l⟩ = (r, true)) := ⟨by
        unfold numberP; rw [HR.out, HY.out]
        simp only [Bool.and_eq_true, beq_iff_eq] at hd
        rw [if_pos ⟨HB.out, by simp, by simp, by rw [← hd.1, ← hd.2.1, ← hd.2.2.1, ← hd.2.2.2]⟩]⟩
      have q1 := fun W => neq51_run y.k y.n y.p y.l 5 n p l W
      have q2 := fun W => run_eq51 y.k y.n y.p y.l 5 n p l W
      rw [hd] at q1 q2
      clear hd
      go_wp2
      go_ret2
      exact ⟨ret2_num HN.out (by have hh := HR3.out; (try simp only [IntKind.wrap_i64]); (first | exact hh | ((try unfold wrap64); unfold wrap64 at hh; omega))), balloc (sB T5.1) _⟩

set_option maxHeartbeats 1000000 in
set_option maxRecDepth 20000 in
theorem f50_6 (c : Cfg) (n p l : Int) (hn : isB c n = true) (w : World) :
    Calls Try.prog 50 #[cv c, .agg #[.int .i64 6, .int .i64 n, .int .i64 p, .int .i64 l]] w fun e w' => e = .returned (.tuple #[.int .i64 (numberP c ⟨6, n, p, l⟩).1, .bool (numberP c ⟨6, n, p, l⟩).2]) ∧ Below w.heap.size w w' := by
  obtain ⟨z, HZ⟩ : ∃ r, Hd (eachP c = r) := ⟨_, ⟨rfl⟩⟩
  have hk := isB_chk hn
  have l1 := (chk_okc hk).L1
  have l2 := (chk_okc hk).L2
  have hz := each_bd c
  rw [HZ.out] at hz
  have n0 := (inn hn).n0
  have n1 := (inn hn).n1
  have nz0 : 0 ≤ n * z := Int.mul_nonneg n0 hz.1
  have nz1 : n * z ≤ 389120 := by have := Int.mul_le_mul n1 hz.2 hz.1 (by omega); omega
  have HW : IntKind.i64.wrap (n * z) = n * z := IntWalk.i64_in _ (by omega)
  have HB := Hd.mk hn
  obtain ⟨r, HR⟩ : ∃ r, Hd (numW c ⟨6, n, p, l⟩ = r) := ⟨_, ⟨rfl⟩⟩
  have HR2 := HR.out
  simp only [numW, offP, HZ.out] at HR2
  simp at HR2
  have HR3 := Hd.mk HR2
  obtain ⟨y, b, HY⟩ : ∃ y b, Hd (ofP c r = (y, b)) := ⟨_, _, ⟨rfl⟩⟩
  clear hk hn HR2
  have i0 : ∀ W : World, (Instr.index 67 (.agg #[.int .i64 (5 * c.L), .int .i64 (5 * c.L), .int .i64 5, .int .i64 1, .int .i64 1, .int .i64 4, .int .i64 4]) (.int .i64 0)).run Try.prog W = .ok (.int .i64 (5 * c.L)) W := fun _ => by kernel_rfl
  have i1 : ∀ W : World, (Instr.index 67 (.agg #[.int .i64 (5 * c.L), .int .i64 (5 * c.L), .int .i64 5, .int .i64 1, .int .i64 1, .int .i64 4, .int .i64 4]) (.int .i64 1)).run Try.prog W = .ok (.int .i64 (5 * c.L)) W := fun _ => by kernel_rfl
  have i2 : ∀ W : World, (Instr.index 67 (.agg #[.int .i64 (5 * c.L), .int .i64 (5 * c.L), .int .i64 5, .int .i64 1, .int .i64 1, .int .i64 4, .int .i64 4]) (.int .i64 2)).run Try.prog W = .ok (.int .i64 (5)) W := fun _ => by kernel_rfl
  have i3 : ∀ W : World, (Instr.index 67 (.agg #[.int .i64 (5 * c.L), .int .i64 (5 * c.L), .int .i64 5, .int .i64 1, .int .i64 1, .int .i64 4, .int .i64 4]) (.int .i64 3)).run Try.prog W = .ok (.int .i64 (1)) W := fun _ => by kernel_rfl
  have i4 : ∀ W : World, (Instr.index 67 (.agg #[.int .i64 (5 * c.L), .int .i64 (5 * c.L), .int .i64 5, .int .i64 1, .int .i64 1, .int .i64 4, .int .i64 4]) (.int .i64 4)).run Try.prog W = .ok (.int .i64 (1)) W := fun _ => by kernel_rfl
  have i5 : ∀ W : World, (Instr.index 67 (.agg #[.int .i64 (5 * c.L), .int .i64 (5 * c.L), .int .i64 5, .int .i64 1, .int .i64 1, .int .i64 4, .int .i64 4]) (.int .i64 5)).run Try.prog W = .ok (.int .i64 (4)) W := fun _ => by kernel_rfl
  have i6 : ∀ W : World, (Instr.index 67 (.agg #[.int .i64 (5 * c.L), .int .i64 (5 * c.L), .int .i64 5, .int .i64 1, .int .i64 1, .int .i64 4, .int .i64 4]) (.int .i64 6)).run Try.prog W = .ok (.int .i64 (4)) W := fun _ => by kernel_rfl
  go_enter Try.func50, Try.ntmps50
  go_wp2_with fail
  refine (f42_is c n true HB.out _).mono ?_
  rintro e w1 ⟨rfl, hb1⟩
  have T1 := And.intro (keepS hb1 (allocS _ (s0 c w))) (keepP (g := w.heap.size + 1) hb1 (p0 6 n p l 51 _ (by simp)))
  clear hb1
  go_wp2_with fail
  refine (f85_any c l1 l2 _).mono ?_
  rintro e w2 ⟨rfl, hb2⟩
  have T2 := keepSP hb2 T1
  clear hb2 T1
  go_wp2_with fail
  refine wp_loop_rounds 8 ?_
  rw [rounds_succ]
  go_wp2
  rw [rounds_succ]
  go_wp2
  rw [rounds_succ]
  go_wp2
  rw [rounds_succ]
  go_wp2
  rw [rounds_succ]
  go_wp2
  rw [rounds_succ]
  go_wp2
  rw [rounds_succ]
  go_wp2
  rw [rounds_succ]
  go_wp2_with fail
  have HS3 := Hd.mk T2
  clear T2
  go_region_held3 (fun W => (W.cell? ⟨w.heap.size, 0, none⟩ = some (.int .i64 c.W) ∧ W.cell? ⟨w.heap.size, 1, none⟩ = some (.int .i64 c.H) ∧ W.cell? ⟨w.heap.size, 2, none⟩ = some (.int .i64 c.L) ∧ W.cell? ⟨w.heap.size, 3, none⟩ = some (.int .i64 c.D) ∧ W.cell? ⟨w.heap.size, 4, none⟩ = some (.int .i64 c.R) ∧ W.cell? ⟨w.heap.size, 5, none⟩ = some (.int .i64 c.I) ∧ W.cell? ⟨w.heap.size, 6, none⟩ = some (.int .i64 c.B) ∧ W.cell? ⟨w.heap.size, 7, none⟩ = some (.bool c.ws) ∧ W.cell? ⟨w.heap.size, 8, none⟩ = some (.bool c.cs) ∧ w.heap.size < W.heap.size ∧ Below w.heap.size w W) ∧ (W.cell? ⟨w.heap.size + 1, 0, none⟩ = some (.int .i64 (6)) ∧ W.cell? ⟨w.heap.size + 1, 1, none⟩ = some (.int .i64 (n)) ∧ W.cell? ⟨w.heap.size + 1, 2, none⟩ = some (.int .i64 (p)) ∧ W.cell? ⟨w.heap.size + 1, 3, none⟩ = some (.int .i64 (l)) ∧ W.frozen? ⟨w.heap.size + 1, 0, none⟩ = false ∧ W.frozen? ⟨w.heap.size + 1, 1, none⟩ = false ∧ W.frozen? ⟨w.heap.size + 1, 2, none⟩ = false ∧ W.frozen? ⟨w.heap.size + 1, 3, none⟩ = false ∧ w.heap.size + 1 < W.heap.size)) (first | exact ⟨dS HS3.out.1, HS3.out.2⟩ | exact keepSP (by assumption) (by assumption))
    (first | (go_at_call 52; (with_reducible refine (f52_is c z HZ.out _).mono ?_); rintro e wq ⟨rfl, hbq⟩))
  rename_i T3
  clear HS3
  go_wp2_with fail
  refine calls48_arg (r := r) ?eq ?_
  case eq => have hh := HR3.out; (try simp only [IntKind.wrap_i64]); (first | exact hh | ((try unfold wrap64); unfold wrap64 at hh; omega))
  refine (f48_is c r y b HY.out _).mono ?_
  rintro e w5 ⟨rfl, hb5⟩
  have T5 := keepSP hb5 T3
  clear hb5 T3
  cases b
  · have HN : Hd (numberP c ⟨6, n, p, l⟩ = (0, false)) := ⟨by
      unfold numberP; rw [if_neg]; rw [HR.out, HY.out]; simp⟩
    go_wp2
    go_ret2
    exact ⟨ret2_ib HN.out, balloc (sB T5.1) _⟩
  · rcases hd : (y.k == 6 && (y.n == n && (y.p == p && y.l == l))) with _ | _
    · have HN : Hd (numberP c ⟨6, n, p, l⟩ = (0, false)) := ⟨by
        unfold numberP; rw [if_neg]; rw [HR.out, HY.out]; rintro ⟨_, _, _, h4⟩
        injection h4 with h4 _
        rw [h4] at hd
        simp at hd⟩
      have q1 := fun W => neq51_run y.k y.n y.p y.l 6 n p l W
      have q2 := fun W => run_eq51 y.k y.n y.p y.l 6 n p l W
      rw [hd] at q1 q2
      clear hd
      go_wp2
      go_ret2
      exact ⟨ret2_ib HN.out, balloc (sB T5.1) _⟩
    · have HN : Hd (numberP c ⟨6, n, p, l⟩ = (r, true)) := ⟨by
        unfold numberP; rw [HR.out, HY.out]
        simp only [Bool.and_eq_true, beq_iff_eq] at hd
        rw [if_pos ⟨HB.out, by simp, by simp, by rw [← hd.1, ← hd.2.1, ← hd.2.2.1, ← hd.2.2.2]⟩]⟩
      have q1 := fun W => neq51_run y.k y.n y.p y.l 6 n p l W
      have q2 := fun W => run_eq51 y.k y.n y.p y.l 6 n p l W
      rw [hd] at q1 q2
      clear hd
      go_wp2
      go_ret2
      exact ⟨ret2_num HN.out (by have hh := HR3.out; (try simp only [IntKind.wrap_i64]); (first | exact hh | ((try unfold wrap64); unfold wrap64 at hh; omega))), balloc (sB T5.1) _⟩

set_option maxHeartbeats 1000000 in
set_option maxRecDepth 20000 in
theorem f50_no (c : Cfg) (x : Prt) (h : isB c x.n = false) (w : World) :
    Calls Try.prog 50 #[cv c, pv x] w fun e w' => e = .returned (.tuple #[.int .i64 (numberP c x).1, .bool (numberP c x).2]) ∧ Below w.heap.size w w' := by
  have HN : Hd (numberP c x = (0, false)) := ⟨by unfold numberP; rw [if_neg]; rw [h]; simp⟩
  have HB := Hd.mk h
  clear h
  go_enter Try.func50, Try.ntmps50
  go_wp2_with fail
  refine (f42_is c x.n false HB.out _).mono ?_
  rintro e w1 ⟨rfl, hb1⟩
  have T1 := And.intro (keepS hb1 (allocS _ (s0 c w))) (keepP (g := w.heap.size + 1) hb1 (p0 x.k x.n x.p x.l 51 _ (by simp)))
  clear hb1
  go_wp2
  go_ret2
  exact ⟨ret2_ib HN.out, sB T1.1⟩

set_option maxHeartbeats 1000000 in
set_option maxRecDepth 20000 in
theorem f50_lo (c : Cfg) (x : Prt) (h : isB c x.n = true) (hk : x.k < 0) (w : World) :
    Calls Try.prog 50 #[cv c, pv x] w fun e w' => e = .returned (.tuple #[.int .i64 (numberP c x).1, .bool (numberP c x).2]) ∧ Below w.heap.size w w' := by
  have HN : Hd (numberP c x = (0, false)) := ⟨by unfold numberP; rw [if_neg]; omega⟩
  have HB := Hd.mk h
  clear h
  go_enter Try.func50, Try.ntmps50
  go_wp2_with fail
  refine (f42_is c x.n true HB.out _).mono ?_
  rintro e w1 ⟨rfl, hb1⟩
  have T1 := And.intro (keepS hb1 (allocS _ (s0 c w))) (keepP (g := w.heap.size + 1) hb1 (p0 x.k x.n x.p x.l 51 _ (by simp)))
  clear hb1
  go_wp2
  go_ret2
  exact ⟨ret2_ib HN.out, sB T1.1⟩

set_option maxHeartbeats 1000000 in
set_option maxRecDepth 20000 in
theorem f50_hi (c : Cfg) (x : Prt) (h : isB c x.n = true) (hk0 : 0 ≤ x.k) (hk : 6 < x.k) (w : World) :
    Calls Try.prog 50 #[cv c, pv x] w fun e w' => e = .returned (.tuple #[.int .i64 (numberP c x).1, .bool (numberP c x).2]) ∧ Below w.heap.size w w' := by
  have HN : Hd (numberP c x = (0, false)) := ⟨by unfold numberP; rw [if_neg]; omega⟩
  have HB := Hd.mk h
  clear h
  go_enter Try.func50, Try.ntmps50
  go_wp2_with fail
  refine (f42_is c x.n true HB.out _).mono ?_
  rintro e w1 ⟨rfl, hb1⟩
  have T1 := And.intro (keepS hb1 (allocS _ (s0 c w))) (keepP (g := w.heap.size + 1) hb1 (p0 x.k x.n x.p x.l 51 _ (by simp)))
  clear hb1
  go_wp2
  go_ret2
  exact ⟨ret2_ib HN.out, sB T1.1⟩

theorem f50_any (c : Cfg) (x : Prt) (w : World) :
    Calls Try.prog 50 #[cv c, pv x] w fun e w' => e = .returned (.tuple #[.int .i64 (numberP c x).1, .bool (numberP c x).2]) ∧ Below w.heap.size w w' := by
  rcases h : isB c x.n with _ | _
  · exact f50_no c x h w
  · by_cases h0 : x.k < 0
    · exact f50_lo c x h h0 w
    · by_cases h6 : 6 < x.k
      · exact f50_hi c x h (by omega) h6 w
      · obtain ⟨k, n, p, l⟩ := x
        have hk : k = 0 ∨ k = 1 ∨ k = 2 ∨ k = 3 ∨ k = 4 ∨ k = 5 ∨ k = 6 := by simp at h0 h6; omega
        rcases hk with rfl | rfl | rfl | rfl | rfl | rfl | rfl
        · exact f50_0 c n p l h w
        · exact f50_1 c n p l h w
        · exact f50_2 c n p l h w
        · exact f50_3 c n p l h w
        · exact f50_4 c n p l h w
        · exact f50_5 c n p l h w
        · exact f50_6 c n p l h w
theorem f50_is (c : Cfg) (x : Prt) (n : Int) (b : Bool) (h : numberP c x = (n, b)) (w : World) :
    Calls Try.prog 50 #[cv c, pv x] w fun e w' => e = .returned (.tuple #[.int .i64 n, .bool b]) ∧ Below w.heap.size w w' := by
  have := f50_any c x w
  rw [h] at this
  exact this

end Go.Proofs.Ytnbogjiddildaaa

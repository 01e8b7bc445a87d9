/- Contracts of the reference's Same and of the example of layer 5's laws. -/
import Derived.Test.YtnbogjiddildaaaI
namespace Go.Proofs.Ytnbogjiddildaaa
open Go.RowKit
set_option linter.unusedSimpArgs false
set_option linter.unusedVariables false

theorem forIn2 {β : Type} (f : Nat → β → Sem (ForInStep β)) (b : β) :
    (forIn [:2] b f : Sem β) = (do match ← f 0 b with | .done c => pure c | .yield c => match ← f 1 c with | .done e => pure e | .yield e => pure e) := by
  simp [Std.Legacy.Range.forIn_eq_forIn_range', List.range']
  rfl
theorem run_eq30 (d : Nat) (a b a' b' : Int) (w : World) : (Op.equalIn (d + 1 + 1) 30 (.agg #[.int .i64 a, .int .i64 b]) (.agg #[.int .i64 a', .int .i64 b'])).run Try.prog w = .ok (a == a' && b == b') w := by
  have h3 := fun (x y : Int) => run_equalIn_int (P := Try.prog) w d 3 .i64 .i64 x y Try.underlying3
  have hs : Sem.run Try.prog (sizeOf 3) w = .ok 1 w := by kernel_rfl
  have p0 : ∀ x y : Int, (part 3 #[Value.int IntKind.i64 x, Value.int IntKind.i64 y] 0).run Try.prog w = .ok (.int .i64 x) w := fun x y => by kernel_rfl
  have p1 : ∀ x y : Int, (part 3 #[Value.int IntKind.i64 x, Value.int IntKind.i64 y] 1).run Try.prog w = .ok (.int .i64 y) w := fun x y => by kernel_rfl
  rw [Op.equalIn]
  simp only [Sem.run_bind, run_underlying Try.underlying30, Result.andThen_ok, hs]
  rw [forIn2]
  simp only [Sem.run_bind, Result.andThen_ok, Nat.zero_mul, Nat.one_mul, p0, p1, h3]
  cases a == a'
  · rfl
  · simp only [Bool.not_true, Bool.false_eq_true, if_false, Sem.run_bind, Sem.run_pure, Result.andThen_ok, Nat.one_mul, p1, h3, Bool.true_and]
    cases b == b'
    · rfl
    · rfl
/-- '!=' of two arrays of two numbers. -/
theorem run_neq30 (a b a' b' : Int) (w : World) : (binOp .neq 30 (.agg #[.int .i64 a, .int .i64 b]) (.agg #[.int .i64 a', .int .i64 b'])).run Try.prog w = .ok (.bool (!(a == a' && b == b'))) w := by
  rw [run_neq_struct, show (10000 : Nat) = 9998 + 1 + 1 from rfl, run_eq30]
  rfl

theorem eq30_same (x : Int × Int) (w : World) : (Op.equalIn 10000 30 (.agg #[.int .i64 x.1, .int .i64 x.2]) (.agg #[.int .i64 x.1, .int .i64 x.2])).run Try.prog w = .ok true w := by
  rw [show (10000 : Nat) = 9998 + 1 + 1 from rfl, run_eq30]; simp
theorem neq30_same (x : Int × Int) (w : World) : (binOp .neq 30 (.agg #[.int .i64 x.1, .int .i64 x.2]) (.agg #[.int .i64 x.1, .int .i64 x.2])).run Try.prog w = .ok (.bool false) w := by
  rw [run_neq30]; simp

theorem take_eq_succ {xs ys : List Int} {k : Nat} {x : Int} (h : xs.take k = ys.take k) (hx : xs[k]? = some x) (hy : ys[k]? = some x) : xs.take (k + 1) = ys.take (k + 1) := by
  rw [List.take_add_one, List.take_add_one, h, hx, hy]
theorem ne_at {xs ys : List Int} {k : Nat} {x y : Int} (hx : xs[k]? = some x) (hy : ys[k]? = some y) (hne : x ≠ y) : xs ≠ ys := fun e => by
  subst e; rw [hx] at hy; injection hy with h; exact hne h

structure RelSame (xs ys : List Int) (A B : Option Addr) (w : World) (i : Value) (W : World) (k : Nat) : Prop where
  kn : k ≤ xs.length
  hi : i = .int .i64 (k : Int)
  ra : Rd W A xs
  rb : Rd W B ys
  e : Hd (xs.take k = ys.take k)
  b : Below w.heap.size w W

set_option maxHeartbeats 1000000 in
set_option maxRecDepth 20000 in
theorem f28_any (A B : Option Addr) (ca cb : Nat) (xs ys : List Int) (ha0 : xs.length ≤ 4000000000000000000) (hb0 : ys.length ≤ 4000000000000000000) (w : World) (ha : Rd w A xs) (hb : Rd w B ys) :
    Calls Try.prog 28 #[.slice A xs.length ca, .slice B ys.length cb] w fun e w' => e = .returned (.bool (decide (xs = ys))) ∧ Below w.heap.size w w' := by
  have HA := Hd.mk ha
  have HB := Hd.mk hb
  clear ha hb
  by_cases hl : xs.length = ys.length
  · have HL := Hd.mk hl
    have hl0 : ((xs.length : Int) != (ys.length : Int)) = false := by rw [hl]; simp
    have hle1 : xs.length ≤ ys.length := by omega
    have hle2 : ys.length ≤ xs.length := by omega
    clear hl
    go_enter Try.func28, Try.ntmps28
    go_wp2_with fail
    go_loopw [5] (fun i W => ∃ k : Nat, RelSame xs ys A B w i W k) (fun i _ => xs.length - (intOf i).toNat)
    case atStart => exact ⟨0, by omega, rfl, HA.out, HB.out, ⟨rfl⟩, Below.refl _ _⟩
    case round =>
      obtain ⟨k, hk, rfl, hra, hrb, HE, hbw⟩ := hrel
      have RA := Hd.mk hra
      have RB := Hd.mk hrb
      clear hra hrb hl0
      by_cases hlt : k < xs.length
      · obtain ⟨x, HX⟩ : ∃ x, Hd (xs[k]? = some x) := ⟨xs[k], ⟨List.getElem?_eq_getElem hlt⟩⟩
        obtain ⟨y, HY⟩ : ∃ y, Hd (ys[k]? = some y) := ⟨ys[k]'(by omega), ⟨List.getElem?_eq_getElem (by omega)⟩⟩
        obtain ⟨ga, oa, rfl, hga, hca⟩ := RA.out (by omega)
        obtain ⟨gb, ob, rfl, hgb, hcb⟩ := RB.out (by omega)
        have hx := hca k x HX.out
        have hy := hcb k y HY.out
        have hi1 : (k : Int) < (xs.length : Int) := by omega
        have hi2 : (k : Int) < (ys.length : Int) := by omega
        clear hca hcb
        by_cases hxy : x = y
        · subst hxy
          go_wp2_with fail
          go_quiet (fail)
          go_wp2
          go_roundw
          case rel => exact ⟨k + 1, by omega, by go_num, Rd.drewN RA.out _, Rd.drewN RB.out _, ⟨take_eq_succ HE.out HX.out HY.out⟩, bdrewN hbw _⟩
          case measure => simp [intOf]; omega
        · have HN := Hd.mk hxy
          have hb0 : (x != y) = true := bne_iff_ne.2 hxy
          clear hxy
          go_wp2_with fail
          go_quiet (fail)
          go_wp2
          go_ret
          exact ⟨ret_bool (by rw [decide_eq_false (ne_at HX.out HY.out HN.out)]), bdrewN hbw _⟩
      · have hk2 : k = xs.length := by omega
        go_wp2
        go_ret
        refine ⟨ret_bool ?_, hbw⟩
        have h := HE.out
        rw [List.take_of_length_le (by omega), List.take_of_length_le (by omega)] at h
        rw [decide_eq_true h]
  · have HL := Hd.mk hl
    have hl0 : ((xs.length : Int) != (ys.length : Int)) = true := by rw [bne_iff_ne]; omega
    clear hl
    go_enter Try.func28, Try.ntmps28
    go_wp2
    go_ret
    exact ⟨ret_bool (by rw [decide_eq_false (fun e => HL.out (by rw [e]))]), Below.refl _ _⟩

theorem f28_eq (A B : Option Addr) (ca cb : Nat) (xs : List Int) (ha0 : xs.length ≤ 4000000000000000000) (w : World) (ha : Rd w A xs) (hb : Rd w B xs) :
    Calls Try.prog 28 #[.slice A xs.length ca, .slice B xs.length cb] w fun e w' => e = .returned (.bool true) ∧ Below w.heap.size w w' := by
  have := f28_any A B ca cb xs xs ha0 ha0 w ha hb
  rw [decide_eq_true rfl] at this
  exact this

set_option maxHeartbeats 1000000 in
set_option maxRecDepth 20000 in
theorem f25_any  (w : World) :
    Calls Try.prog 25 #[] w fun e w' => e = .returned (.bool true) ∧ Below w.heap.size w w' := by
  go_enter Try.func25, Try.ntmps25
  go_wp2_with fail
  refine (f79_any _).mono ?_
  rintro e w1 ⟨rfl, hb1⟩
  have B1 : Below w.heap.size w w1 := bstep (by repeat (first | exact Below.refl _ _ | assumption | refine balloc ?_ _ | (refine bset ?_ (by simp; done) _) | (refine bset ?_ (by simp; omega) _))) hb1
  go_wp2_with fail
  refine (f35_is some4 5 1 1 0 (by decide +kernel) _).mono ?_
  rintro e w2 ⟨rfl, hb2⟩
  have B2 : Below w.heap.size w w2 := bstep (by repeat (first | exact Below.refl _ _ | assumption | refine balloc ?_ _ | (refine bset ?_ (by simp; done) _) | (refine bset ?_ (by simp; omega) _))) hb2
  go_wp2_with fail
  refine (f79_any _).mono ?_
  rintro e w3 ⟨rfl, hb3⟩
  have B3 : Below w.heap.size w w3 := bstep (by repeat (first | exact Below.refl _ _ | assumption | refine balloc ?_ _ | (refine bset ?_ (by simp; done) _) | (refine bset ?_ (by simp; omega) _))) hb3
  go_wp2_with fail
  refine (f34_is some4 5 1 6 true (by decide +kernel) _).mono ?_
  rintro e w4 ⟨rfl, hb4⟩
  have B4 : Below w.heap.size w w4 := bstep (by repeat (first | exact Below.refl _ _ | assumption | refine balloc ?_ _ | (refine bset ?_ (by simp; done) _) | (refine bset ?_ (by simp; omega) _))) hb4
  go_wp2_with fail
  refine (f79_any _).mono ?_
  rintro e w5 ⟨rfl, hb5⟩
  have B5 : Below w.heap.size w w5 := bstep (by repeat (first | exact Below.refl _ _ | assumption | refine balloc ?_ _ | (refine bset ?_ (by simp; done) _) | (refine bset ?_ (by simp; omega) _))) hb5
  go_wp2_with fail
  refine (f34_is some4 5 3 9 true (by decide +kernel) _).mono ?_
  rintro e w6 ⟨rfl, hb6⟩
  have B6 : Below w.heap.size w w6 := bstep (by repeat (first | exact Below.refl _ _ | assumption | refine balloc ?_ _ | (refine bset ?_ (by simp; done) _) | (refine bset ?_ (by simp; omega) _))) hb6
  go_wp2_with fail
  refine (f79_any _).mono ?_
  rintro e w7 ⟨rfl, hb7⟩
  have B7 : Below w.heap.size w w7 := bstep (by repeat (first | exact Below.refl _ _ | assumption | refine balloc ?_ _ | (refine bset ?_ (by simp; done) _) | (refine bset ?_ (by simp; omega) _))) hb7
  have HF : farP some4 0 15 = 6 := by decide +kernel
  have f33_is := f33_any some4 0 15
  rw [HF] at f33_is
  clear HF
  go_wp2_with fail
  refine (f33_is _).mono ?_
  rintro e w8 ⟨rfl, hb8⟩
  have B8 : Below w.heap.size w w8 := bstep (by repeat (first | exact Below.refl _ _ | assumption | refine balloc ?_ _ | (refine bset ?_ (by simp; done) _) | (refine bset ?_ (by simp; omega) _))) hb8
  go_wp2_with fail
  refine (f79_any _).mono ?_
  rintro e w9 ⟨rfl, hb9⟩
  have B9 : Below w.heap.size w w9 := bstep (by repeat (first | exact Below.refl _ _ | assumption | refine balloc ?_ _ | (refine bset ?_ (by simp; done) _) | (refine bset ?_ (by simp; omega) _))) hb9
  go_wp2_with fail
  refine (f26_any some4 _).mono ?_
  rintro e w10 ⟨v, rfl, hr, hb10⟩
  have B10 := bstep B9 hb10
  obtain ⟨A, cap, e, -, -, -⟩ := hr.rd
  rw [show (linksP some4).length = 48 from by decide +kernel] at e
  subst e
  clear hr hb10
  go_wp2
  go_ret
  exact ⟨rfl, B10⟩

end Go.Proofs.Ytnbogjiddildaaa

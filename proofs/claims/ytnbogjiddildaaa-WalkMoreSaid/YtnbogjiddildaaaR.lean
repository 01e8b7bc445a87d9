/- The arguments of the laws, opened: a config, arrays of two and three numbers, a part, a slice of numbers. -/
import Derived.Test.YtnbogjiddildaaaM
import Derived.Test.YtnbogjiddildaaaRows
import Derived.ProofKit
import Derived.OpenShut
import Derived.ShutString
import Derived.ChangeOld
import Derived.Below
import Derived.SizedLaws
import Derived.Lib.SmallJoins
namespace Go.Proofs.Ytnbogjiddildaaa
open Go.Joins Go.ChangeShapes Go.WideShapes Go.RowKit Go.Deep Go.ChangeAt
set_option linter.unusedSimpArgs false
set_option linter.unusedVariables false

theorem Try.own : ownKnob Try.prog.godebug = none := by kernel_rfl
theorem Try.laidOut : laidOutB Try.prog = true := by kernel_rfl
theorem Try.cells23 : Try.prog.cellsOf 23 = 9 := by kernel_rfl
theorem Try.cells30 : Try.prog.cellsOf 30 = 2 := by kernel_rfl
theorem Try.cells32 : Try.prog.cellsOf 32 = 3 := by kernel_rfl
theorem Try.cells50 : Try.prog.cellsOf 50 = 4 := by kernel_rfl
theorem Try.cells3 : Try.prog.cellsOf 3 = 1 := by kernel_rfl
theorem Try.cells4 : Try.prog.cellsOf 4 = 1 := by kernel_rfl

/-- A number of kind int. -/
def In64 (n : Int) : Prop := -9223372036854775808 ≤ n ∧ n ≤ 9223372036854775807

section
variable {H : Type} {enc : TypeId × Value → H} {P : Program} {w : World} {base : Nat} {spare : Nat → Bool} {held : Bool}
theorem okWide_arr {r : Reach} {b0 n : Nat} {e t : TypeId} {v : Value} (ht : P.underlying t = some (.array n e)) (h : Value.okWide P w r b0 t v) : ∃ cs, v = .agg cs ∧ cs.size = P.cellsOf t := by
  simp only [Value.okWide, ht] at h
  obtain ⟨cs, h1, h2, _⟩ := h
  exact ⟨cs, h1, h2⟩
end

section
variable {H : Type} {enc : TypeId × Value → H} {w : World} {base : Nat} {spare : Nat → Bool} {held : Bool}
theorem one_int {m : Nat} {v : Value} {y : DataW H × List MemPlace} (h : DataW.trod enc Try.prog w base spare held m 3 [v] = some y) : ∃ n, v = .int .i64 n ∧ In64 n := by
  obtain ⟨n, e, _, wf⟩ := DataW.trod_int Try.underlying3 h
  injection e with e _
  exact ⟨n, e, bounds_i64 wf⟩
theorem one_bool {m : Nat} {v : Value} {y : DataW H × List MemPlace} (h : DataW.trod enc Try.prog w base spare held m 4 [v] = some y) : ∃ b, v = .bool b := by
  obtain ⟨b, e, _⟩ := DataW.trod_bool Try.underlying4 h
  injection e with e _
  exact ⟨b, e⟩
theorem open_cfg {r : Reach} {b0 : Nat} {v : Value} {d : DataW H} {p : List MemPlace} (hv : Value.okWide Try.prog w r b0 23 v) (h : DataW.Trod enc Try.prog w base spare held 23 v d p) : ∃ c : Cfg, v = cv c := by
  obtain ⟨cs, rfl, hsz⟩ := okWide_struct Try.underlying23 hv
  obtain ⟨l⟩ := cs
  match l, hsz.trans Try.cells23 with
  | [c0, c1, c2, c3, c4, c5, c6, c7, c8], _ =>
    obtain ⟨fuel, hf⟩ := h
    obtain ⟨xs, n, _, hx, _, hlen, hg⟩ := DataW.trod_struct Try.underlying23 hf
    match xs, hlen with
    | [y0, y1, y2, y3, y4, y5, y6, y7, y8], _ =>
      obtain ⟨a0, rfl, -⟩ := one_int (by simpa [Value.cells, Try.cells3] using hg 0 _ rfl)
      obtain ⟨a1, rfl, -⟩ := one_int (by simpa [Value.cells, Try.cells3] using hg 1 _ rfl)
      obtain ⟨a2, rfl, -⟩ := one_int (by simpa [Value.cells, Try.cells3] using hg 2 _ rfl)
      obtain ⟨a3, rfl, -⟩ := one_int (by simpa [Value.cells, Try.cells3] using hg 3 _ rfl)
      obtain ⟨a4, rfl, -⟩ := one_int (by simpa [Value.cells, Try.cells3] using hg 4 _ rfl)
      obtain ⟨a5, rfl, -⟩ := one_int (by simpa [Value.cells, Try.cells3] using hg 5 _ rfl)
      obtain ⟨a6, rfl, -⟩ := one_int (by simpa [Value.cells, Try.cells3] using hg 6 _ rfl)
      obtain ⟨a7, rfl⟩ := one_bool (by simpa [Value.cells, Try.cells4] using hg 7 _ rfl)
      obtain ⟨a8, rfl⟩ := one_bool (by simpa [Value.cells, Try.cells4] using hg 8 _ rfl)
      exact ⟨⟨a0, a1, a2, a3, a4, a5, a6, a7, a8⟩, rfl⟩
theorem open_arr2 {r : Reach} {b0 : Nat} {v : Value} {d : DataW H} {p : List MemPlace} (hv : Value.okWide Try.prog w r b0 30 v) (h : DataW.Trod enc Try.prog w base spare held 30 v d p) : ∃ a b : Int, v = .agg #[.int .i64 a, .int .i64 b] ∧ In64 a ∧ In64 b := by
  obtain ⟨cs, rfl, hsz⟩ := okWide_arr Try.underlying30 hv
  obtain ⟨l⟩ := cs
  match l, hsz.trans Try.cells30 with
  | [c0, c1], _ =>
    obtain ⟨fuel, hf⟩ := h
    obtain ⟨xs, n, _, hx, _, hlen, hg⟩ := DataW.trod_array Try.underlying30 hf
    match xs, hlen with
    | [y0, y1], _ =>
      obtain ⟨a0, rfl, b0⟩ := one_int (by simpa [Value.cells, Try.cells3] using hg 0 (by omega))
      obtain ⟨a1, rfl, b1⟩ := one_int (by simpa [Value.cells, Try.cells3] using hg 1 (by omega))
      exact ⟨a0, a1, rfl, b0, b1⟩
theorem open_arr3 {r : Reach} {b0 : Nat} {v : Value} {d : DataW H} {p : List MemPlace} (hv : Value.okWide Try.prog w r b0 32 v) (h : DataW.Trod enc Try.prog w base spare held 32 v d p) : ∃ a b c : Int, v = .agg #[.int .i64 a, .int .i64 b, .int .i64 c] ∧ In64 a ∧ In64 b ∧ In64 c := by
  obtain ⟨cs, rfl, hsz⟩ := okWide_arr Try.underlying32 hv
  obtain ⟨l⟩ := cs
  match l, hsz.trans Try.cells32 with
  | [c0, c1, c2], _ =>
    obtain ⟨fuel, hf⟩ := h
    obtain ⟨xs, n, _, hx, _, hlen, hg⟩ := DataW.trod_array Try.underlying32 hf
    match xs, hlen with
    | [y0, y1, y2], _ =>
      obtain ⟨a0, rfl, b0⟩ := one_int (by simpa [Value.cells, Try.cells3] using hg 0 (by omega))
      obtain ⟨a1, rfl, b1⟩ := one_int (by simpa [Value.cells, Try.cells3] using hg 1 (by omega))
      obtain ⟨a2, rfl, b2⟩ := one_int (by simpa [Value.cells, Try.cells3] using hg 2 (by omega))
      exact ⟨a0, a1, a2, rfl, b0, b1, b2⟩
theorem open_part {r : Reach} {b0 : Nat} {v : Value} {d : DataW H} {p : List MemPlace} (hv : Value.okWide Try.prog w r b0 50 v) (h : DataW.Trod enc Try.prog w base spare held 50 v d p) :
    ∃ a b c e : Int, v = .agg #[.int .i64 a, .int .i64 b, .int .i64 c, .int .i64 e] ∧ In64 a ∧ In64 b ∧ In64 c ∧ In64 e := by
  obtain ⟨cs, rfl, hsz⟩ := okWide_struct Try.underlying50 hv
  obtain ⟨l⟩ := cs
  match l, hsz.trans Try.cells50 with
  | [c0, c1, c2, c3], _ =>
    obtain ⟨fuel, hf⟩ := h
    obtain ⟨xs, n, _, hx, _, hlen, hg⟩ := DataW.trod_struct Try.underlying50 hf
    match xs, hlen with
    | [y0, y1, y2, y3], _ =>
      obtain ⟨a0, rfl, b0⟩ := one_int (by simpa [Value.cells, Try.cells3] using hg 0 _ rfl)
      obtain ⟨a1, rfl, b1⟩ := one_int (by simpa [Value.cells, Try.cells3] using hg 1 _ rfl)
      obtain ⟨a2, rfl, b2⟩ := one_int (by simpa [Value.cells, Try.cells3] using hg 2 _ rfl)
      obtain ⟨a3, rfl, b3⟩ := one_int (by simpa [Value.cells, Try.cells3] using hg 3 _ rfl)
      exact ⟨a0, a1, a2, a3, rfl, b0, b1, b2, b3⟩
end

end Go.Proofs.Ytnbogjiddildaaa

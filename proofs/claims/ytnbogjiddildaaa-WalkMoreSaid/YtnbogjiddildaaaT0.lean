/- Plain facts on where a packet may go. -/
import Derived.Test.YtnbogjiddildaaaN
namespace Go.Proofs.Ytnbogjiddildaaa
open Go.RowKit
set_option linter.unusedSimpArgs false
set_option linter.unusedVariables false

def sgn (x y m l : Int) : Int := if y < x then l else if y = x then 0 else m
/-- The ports by which a packet may go. -/
def optP (c : Cfg) (a b : Int) : List Int :=
  if isB c a = true ∧ isB c b = true then
    if b % c.W < a % c.W then [2]
    else if b % c.W = a % c.W then [sgn (a / c.W) (b / c.W) 3 4]
    else if c.ws = true ∧ b / c.W ≠ a / c.W then [1, sgn (a / c.W) (b / c.W) 3 4] else [1]
  else []
def rnd (n : Int) : Int := if n < 0 then -(n + 1) else n
def chooseP (c : Cfg) (a b ch : Int) : Int × Bool :=
  match optP c a b with
  | [] => (0, false)
  | [x] => (x, true)
  | x :: y :: _ => (if rnd ch % 2 = 0 then x else y, true)
theorem opt_no {c : Cfg} {a b : Int} (h : ¬ (isB c a = true ∧ isB c b = true)) : optP c a b = [] := by unfold optP; rw [if_neg h]
theorem opt_len (c : Cfg) (a b : Int) : (optP c a b).length ≤ 2 := by
  unfold optP
  split
  · split
    · simp
    · split
      · simp
      · split <;> simp
  · simp
theorem opt_cases (c : Cfg) (a b : Int) : optP c a b = [] ∨ (∃ x, optP c a b = [x]) ∨ ∃ x y, optP c a b = [x, y] := by
  have h := opt_len c a b
  rcases hl : optP c a b with _ | ⟨x, _ | ⟨y, _ | ⟨z, l⟩⟩⟩
  · exact .inl rfl
  · exact .inr (.inl ⟨x, rfl⟩)
  · exact .inr (.inr ⟨x, y, rfl⟩)
  · rw [hl] at h; simp at h

end Go.Proofs.Ytnbogjiddildaaa

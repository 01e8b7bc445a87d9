/- Plain facts on the way along x first, and on options. -/
import Derived.Test.YtnbogjiddildaaaT0
namespace Go.Proofs.Ytnbogjiddildaaa
open Go.RowKit
set_option linter.unusedSimpArgs false
set_option linter.unusedVariables false

/-- The first option: along x first. -/
def hdP (c : Cfg) (a b : Int) : Int := if b % c.W < a % c.W then 2 else if b % c.W = a % c.W then sgn (a / c.W) (b / c.W) 3 4 else 1
abbrev xf (c : Cfg) : Cfg := { c with ws := false }
theorem opt_xf {c : Cfg} {a b : Int} (ha : isB c a = true) (hb : isB c b = true) : optP (xf c) a b = [hdP c a b] := by
  unfold optP
  rw [if_pos ⟨ha, hb⟩]
  unfold hdP
  split
  · rfl
  · split
    · rfl
    · rw [if_neg (by simp)]
theorem choose_xf {c : Cfg} {a b : Int} (ch : Int) (ha : isB c a = true) (hb : isB c b = true) : chooseP (xf c) a b ch = (hdP c a b, true) := by
  unfold chooseP; rw [opt_xf ha hb]
theorem choose_no {c : Cfg} {a b : Int} (ch : Int) (h : ¬ (isB c a = true ∧ isB c b = true)) : chooseP c a b ch = (0, false) := by
  unfold chooseP; rw [opt_no h]

/-- An option leads one step nearer (Local: there already). -/
structure Near (c : Cfg) (a b p : Int) : Prop where
  p0 : 0 ≤ p
  p4 : p ≤ 4
  loc : p = 0 ↔ a = b
  step : ∃ m, besideP c a p = (m, true) ∧ (a ≠ b → farP c m b = farP c a b - 1)
theorem near_of {c : Cfg} {a b p : Int} (ha : isB c a = true) (hb : isB c b = true) (p0 : 0 ≤ p) (p4 : p ≤ 4) (loc : p = 0 ↔ a = b)
    (hx : 0 ≤ a % c.W + dxP p ∧ a % c.W + dxP p < c.W) (hy : 0 ≤ a / c.W + dyP p ∧ a / c.W + dyP p < c.H)
    (hf : a ≠ b → absI (a % c.W + dxP p - b % c.W) + absI (a / c.W + dyP p - b / c.W) = absI (a % c.W - b % c.W) + absI (a / c.W - b / c.W) - 1) : Near c a b p := by
  have hin : inP c (a % c.W + dxP p) (a / c.W + dyP p) = true := inP_iff.2 ⟨isB_chk ha, hx.1, hx.2, hy.1, hy.2⟩
  have hxy := @node_xy c.W _ (a / c.W + dyP p) hx.1 hx.2
  refine ⟨p0, p4, loc, _, by rw [besideP_yes ha p0 (by omega), if_pos hin], fun hne => ?_⟩
  rw [farP_yes (isB_xy hin) hb, farP_yes ha hb, hxy.1, hxy.2]
  exact hf hne
theorem near_x {c : Cfg} {a b : Int} (ha : isB c a = true) (hb : isB c b = true) : Near c a b (hdP c a b) := by
  have h1 := inn ha
  have h2 := inn hb
  have := h1.x0; have := h1.x1; have := h1.y0; have := h1.y1
  have := h2.x0; have := h2.x1; have := h2.y0; have := h2.y1
  unfold hdP
  by_cases w1 : b % c.W < a % c.W
  · rw [if_pos w1]
    refine near_of ha hb (by omega) (by omega) ⟨by omega, fun e => by subst e; omega⟩ ?_ ?_ ?_
    all_goals simp only [dxP, dyP]; simp
    all_goals first | omega | (intro; unfold absI; omega)
  · rw [if_neg w1]
    by_cases w2 : b % c.W = a % c.W
    · rw [if_pos w2]
      unfold sgn
      by_cases w3 : b / c.W < a / c.W
      · rw [if_pos w3]
        refine near_of ha hb (by omega) (by omega) ⟨by omega, fun e => by subst e; omega⟩ ?_ ?_ ?_
        all_goals simp only [dxP, dyP]; simp
        all_goals first | omega | (intro; unfold absI; omega)
      · rw [if_neg w3]
        by_cases w4 : b / c.W = a / c.W
        · rw [if_pos w4]
          have he : a = b := same_node ha hb w2.symm w4.symm
          refine near_of ha hb (by omega) (by omega) ⟨fun _ => he, fun _ => rfl⟩ ?_ ?_ (fun h => absurd he h)
          all_goals simp only [dxP, dyP]; simp
          all_goals omega
        · rw [if_neg w4]
          refine near_of ha hb (by omega) (by omega) ⟨by omega, fun e => by subst e; omega⟩ ?_ ?_ ?_
          all_goals simp only [dxP, dyP]; simp
          all_goals first | omega | (intro; unfold absI; omega)
    · rw [if_neg w2]
      refine near_of ha hb (by omega) (by omega) ⟨by omega, fun e => by subst e; omega⟩ ?_ ?_ ?_
      all_goals simp only [dxP, dyP]; simp
      all_goals first | omega | (intro; unfold absI; omega)
/-- The second option of West first. -/
theorem near_y {c : Cfg} {a b : Int} (ha : isB c a = true) (hb : isB c b = true) (hx : a % c.W < b % c.W) (hy : b / c.W ≠ a / c.W) : Near c a b (sgn (a / c.W) (b / c.W) 3 4) := by
  have h1 := inn ha
  have h2 := inn hb
  have := h1.x0; have := h1.x1; have := h1.y0; have := h1.y1
  have := h2.x0; have := h2.x1; have := h2.y0; have := h2.y1
  unfold sgn
  by_cases w3 : b / c.W < a / c.W
  · rw [if_pos w3]
    refine near_of ha hb (by omega) (by omega) ⟨by omega, fun e => by subst e; omega⟩ ?_ ?_ ?_
    all_goals simp only [dxP, dyP]; simp
    all_goals first | omega | (intro; unfold absI; omega)
  · rw [if_neg w3, if_neg hy]
    refine near_of ha hb (by omega) (by omega) ⟨by omega, fun e => by subst e; omega⟩ ?_ ?_ ?_
    all_goals simp only [dxP, dyP]; simp
    all_goals first | omega | (intro; unfold absI; omega)

/-- All options, in one word: the first along x, and perhaps a second one. -/
theorem opt_is {c : Cfg} {a b : Int} (ha : isB c a = true) (hb : isB c b = true) :
    (optP c a b = [hdP c a b] ∧ ¬ (c.ws = true ∧ a % c.W < b % c.W ∧ b / c.W ≠ a / c.W)) ∨
    (optP c a b = [1, sgn (a / c.W) (b / c.W) 3 4] ∧ hdP c a b = 1 ∧ c.ws = true ∧ a % c.W < b % c.W ∧ b / c.W ≠ a / c.W) := by
  unfold optP hdP
  rw [if_pos ⟨ha, hb⟩]
  by_cases w1 : b % c.W < a % c.W
  · rw [if_pos w1, if_pos w1]; exact .inl ⟨rfl, by omega⟩
  · rw [if_neg w1, if_neg w1]
    by_cases w2 : b % c.W = a % c.W
    · rw [if_pos w2, if_pos w2]; exact .inl ⟨rfl, by omega⟩
    · rw [if_neg w2, if_neg w2]
      by_cases w3 : c.ws = true ∧ b / c.W ≠ a / c.W
      · rw [if_pos w3]; exact .inr ⟨rfl, rfl, w3.1, by omega, w3.2⟩
      · rw [if_neg w3]; exact .inl ⟨rfl, fun h => w3 ⟨h.1, h.2.2⟩⟩

end Go.Proofs.Ytnbogjiddildaaa

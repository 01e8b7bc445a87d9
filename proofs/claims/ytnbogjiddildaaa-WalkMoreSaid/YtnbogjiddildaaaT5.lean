/- Plain facts on the way along x first. -/
import Derived.Test.YtnbogjiddildaaaT4
namespace Go.Proofs.Ytnbogjiddildaaa
open Go.RowKit
set_option linter.unusedSimpArgs false
set_option linter.unusedVariables false

/-- The ports of the way along x first. -/
def strD (dx dy : Int) : List Int := List.replicate dx.natAbs (if 0 < dx then 1 else 2) ++ (List.replicate dy.natAbs (if 0 < dy then 3 else 4) ++ [0])
def strP (c : Cfg) (a b : Int) : List Int := if isB c a = true ∧ isB c b = true then strD (b % c.W - a % c.W) (b / c.W - a / c.W) else []
theorem str_no {c : Cfg} {a b : Int} (h : ¬ (isB c a = true ∧ isB c b = true)) : strP c a b = [] := by unfold strP; rw [if_neg h]
theorem strD_w {dx : Int} (dy : Int) (h : dx < 0) : strD dx dy = 2 :: strD (dx + 1) dy := by
  unfold strD
  rw [if_neg (by omega), show dx.natAbs = (dx + 1).natAbs + 1 from by omega, List.replicate_succ]
  by_cases e : dx + 1 = 0
  · rw [e]; simp
  · rw [if_neg (by omega : ¬ 0 < dx + 1)]; simp
theorem strD_e {dx : Int} (dy : Int) (h : 0 < dx) : strD dx dy = 1 :: strD (dx - 1) dy := by
  unfold strD
  rw [if_pos h, show dx.natAbs = (dx - 1).natAbs + 1 from by omega, List.replicate_succ]
  by_cases e : dx - 1 = 0
  · rw [e]; simp
  · rw [if_pos (by omega : 0 < dx - 1)]; simp
theorem strD_n {dy : Int} (h : dy < 0) : strD 0 dy = 4 :: strD 0 (dy + 1) := by
  unfold strD
  rw [if_neg (by omega : ¬ 0 < dy), show dy.natAbs = (dy + 1).natAbs + 1 from by omega, List.replicate_succ]
  by_cases e : dy + 1 = 0
  · rw [e]; simp
  · rw [if_neg (by omega : ¬ 0 < dy + 1)]; simp
theorem strD_s {dy : Int} (h : 0 < dy) : strD 0 dy = 3 :: strD 0 (dy - 1) := by
  unfold strD
  rw [if_pos h, show dy.natAbs = (dy - 1).natAbs + 1 from by omega, List.replicate_succ]
  by_cases e : dy - 1 = 0
  · rw [e]; simp
  · rw [if_pos (by omega : 0 < dy - 1)]; simp
theorem str_here {c : Cfg} {a : Int} (ha : isB c a = true) : strP c a a = [0] := by
  unfold strP; rw [if_pos ⟨ha, ha⟩]; unfold strD; simp
theorem str_step {c : Cfg} {a b m : Int} (ha : isB c a = true) (hb : isB c b = true) (hne : a ≠ b) (hm : besideP c a (hdP c a b) = (m, true)) : strP c a b = hdP c a b :: strP c m b := by
  have hs := step_of hm
  have hx := hs.x
  have hy := hs.y
  unfold strP
  rw [if_pos ⟨ha, hb⟩, if_pos ⟨hs.vm, hb⟩, hx, hy]
  unfold hdP sgn
  by_cases w1 : b % c.W < a % c.W
  · rw [if_pos w1, strD_w _ (by omega)]
    rw [show dxP 2 = -1 from rfl, show dyP 2 = 0 from rfl]
    congr 2 <;> omega
  · by_cases w2 : b % c.W = a % c.W
    · rw [if_neg w1, if_pos w2]
      by_cases w3 : b / c.W < a / c.W
      · rw [if_pos w3, w2, show a % c.W - a % c.W = 0 from by omega, show dxP 4 = 0 from rfl, show dyP 4 = -1 from rfl, show a % c.W - (a % c.W + 0) = 0 from by omega, strD_n (by omega)]
        congr 2; omega
      · rw [if_neg w3]
        by_cases w4 : b / c.W = a / c.W
        · exact absurd (same_node ha hb w2.symm w4.symm) hne
        · rw [if_neg w4, w2, show a % c.W - a % c.W = 0 from by omega, show dxP 3 = 0 from rfl, show dyP 3 = 1 from rfl, show a % c.W - (a % c.W + 0) = 0 from by omega, strD_s (by omega)]
          congr 2; omega
    · rw [if_neg w1, if_neg w2, strD_e _ (by omega)]
      rw [show dxP 1 = 1 from rfl, show dyP 1 = 0 from rfl]
      congr 2 <;> omega
theorem str_len {c : Cfg} {a b : Int} (ha : isB c a = true) (hb : isB c b = true) : ((strP c a b).length : Int) = farP c a b + 1 := by
  rw [farP_yes ha hb]
  unfold strP strD
  rw [if_pos ⟨ha, hb⟩]
  simp only [List.length_append, List.length_replicate, List.length_cons, List.length_nil]
  unfold absI; omega

end Go.Proofs.Ytnbogjiddildaaa

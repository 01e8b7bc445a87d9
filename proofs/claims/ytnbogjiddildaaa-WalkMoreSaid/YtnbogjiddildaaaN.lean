/- Plain facts on the grid: steps and distances. -/
import Derived.Test.YtnbogjiddildaaaM
namespace Go.Proofs.Ytnbogjiddildaaa
open Go.RowKit
set_option linter.unusedSimpArgs false
set_option linter.unusedVariables false

/-- The node of a place that is there has that place. -/
theorem node_xy {W x y : Int} (x0 : 0 ≤ x) (x1 : x < W) : (y * W + x) % W = x ∧ (y * W + x) / W = y := by
  constructor
  · rw [Int.mul_comm, Int.mul_add_emod_self_left]
    exact Int.emod_eq_of_lt x0 x1
  · rw [Int.mul_comm, Int.mul_add_ediv_left _ _ (by omega), Int.ediv_eq_zero_of_lt x0 x1]
    omega
theorem isB_xy {c : Cfg} {x y : Int} (h : inP c x y = true) : isB c (y * c.W + x) = true := by
  obtain ⟨hk, x0, x1, y0, y1⟩ := inP_iff.1 h
  have h1 := Int.mul_nonneg y0 (show (0 : Int) ≤ c.W by omega)
  have h2 := Int.mul_le_mul_of_nonneg_right (show y + 1 ≤ c.H by omega) (show (0 : Int) ≤ c.W by omega)
  rw [Int.add_mul] at h2
  rw [isB_iff, nodes_ok hk, Int.mul_comm c.W c.H]
  omega
theorem inP_of {c : Cfg} {n : Int} (h : isB c n = true) : inP c (n % c.W) (n / c.W) = true := by
  have hi := inn h
  rw [inP_iff]
  exact ⟨isB_chk h, hi.x0, hi.x1, hi.y0, hi.y1⟩

/-- A step that is there. -/
structure Step (c : Cfg) (n p m : Int) : Prop where
  vn : isB c n = true
  vm : isB c m = true
  p0 : 0 ≤ p
  p4 : p ≤ 4
  x : m % c.W = n % c.W + dxP p
  y : m / c.W = n / c.W + dyP p
theorem step_of {c : Cfg} {n p m : Int} (h : besideP c n p = (m, true)) : Step c n p m := by
  unfold besideP at h
  split at h
  · rename_i hp
    split at h
    · rename_i hi
      injection h with h1 _
      obtain ⟨hk, x0, x1, y0, y1⟩ := inP_iff.1 hi
      have hxy := @node_xy c.W _ (n / c.W + dyP p) x0 x1
      subst h1
      exact ⟨hp.1, isB_xy hi, hp.2.1, by omega, hxy.1, hxy.2⟩
    · injection h with _ h2; cases h2
  · injection h with _ h2; cases h2
theorem of_step {c : Cfg} {n p m : Int} (hn : isB c n = true) (hm : isB c m = true) (p0 : 0 ≤ p) (p4 : p ≤ 4) (x : m % c.W = n % c.W + dxP p) (y : m / c.W = n / c.W + dyP p) : besideP c n p = (m, true) := by
  rw [besideP_yes hn p0 (by omega), ← x, ← y, if_pos (inP_of hm), (inn hm).e]
theorem beside_no {c : Cfg} {n p : Int} (h : (besideP c n p).2 = false) : (besideP c n p).1 = 0 := by
  unfold besideP at *
  split
  · split
    · simp_all
    · rfl
  · rfl
theorem beside_cases (c : Cfg) (n p : Int) : besideP c n p = (0, false) ∨ ∃ m, besideP c n p = (m, true) := by
  rcases h : besideP c n p with ⟨m, b⟩
  cases b
  · have := beside_no (c := c) (n := n) (p := p) (by rw [h])
    rw [h] at this
    simp at this
    subst this
    exact .inl rfl
  · exact .inr ⟨m, rfl⟩
theorem back_dx {p : Int} : dxP (backP p) = -dxP p := by
  unfold backP dxP; repeat' split
  all_goals omega
theorem back_dy {p : Int} : dyP (backP p) = -dyP p := by
  unfold backP dyP; repeat' split
  all_goals omega
theorem back_bd {p : Int} (p0 : 0 ≤ p) (p4 : p ≤ 4) : 0 ≤ backP p ∧ backP p ≤ 4 := by
  unfold backP; repeat' split
  all_goals omega
theorem Step.back {c : Cfg} {n p m : Int} (h : Step c n p m) : besideP c m (backP p) = (n, true) := by
  have hb := back_bd h.p0 h.p4
  refine of_step h.vm h.vn hb.1 hb.2 ?_ ?_
  · rw [back_dx, h.x]; omega
  · rw [back_dy, h.y]; omega

theorem same_node {c : Cfg} {a b : Int} (ha : isB c a = true) (hb : isB c b = true) (hx : a % c.W = b % c.W) (hy : a / c.W = b / c.W) : a = b := by
  have h1 := (inn ha).e
  have h2 := (inn hb).e
  rw [hx, hy] at h1
  omega
theorem farP_yes {c : Cfg} {a b : Int} (ha : isB c a = true) (hb : isB c b = true) : farP c a b = absI (a % c.W - b % c.W) + absI (a / c.W - b / c.W) := by
  unfold farP; rw [if_pos ⟨ha, hb⟩]
theorem far_sym {c : Cfg} {a b : Int} (ha : isB c a = true) (hb : isB c b = true) : farP c b a = farP c a b := by
  rw [farP_yes ha hb, farP_yes hb ha]; unfold absI; omega
theorem far_bd {c : Cfg} {a b : Int} (ha : isB c a = true) (hb : isB c b = true) : 0 ≤ farP c a b ∧ farP c a b ≤ 126 := by
  rw [farP_yes ha hb]
  have h1 := inn ha
  have h2 := inn hb
  have := h1.x0; have := h1.x2; have := h1.y0; have := h1.y2
  have := h2.x0; have := h2.x2; have := h2.y0; have := h2.y2
  unfold absI; omega
theorem far_zero {c : Cfg} {a b : Int} (ha : isB c a = true) (hb : isB c b = true) : farP c a b = 0 ↔ a = b := by
  rw [farP_yes ha hb]
  constructor
  · intro h
    exact same_node ha hb (by unfold absI at h; omega) (by unfold absI at h; omega)
  · rintro rfl
    unfold absI; omega
theorem far_tri {c : Cfg} {a b k : Int} (ha : isB c a = true) (hb : isB c b = true) (hk : isB c k = true) : farP c a b ≤ farP c a k + farP c k b := by
  rw [farP_yes ha hb, farP_yes ha hk, farP_yes hk hb]; unfold absI; omega
theorem far_step {c : Cfg} {a b m p : Int} (h : Step c a p m) (hb : isB c b = true) (p1 : 1 ≤ p) : farP c m b = farP c a b + 1 ∨ farP c m b = farP c a b - 1 := by
  rw [farP_yes h.vn hb, farP_yes h.vm hb, h.x, h.y]
  have := h.p4
  have hp : p = 1 ∨ p = 2 ∨ p = 3 ∨ p = 4 := by omega
  rcases hp with rfl | rfl | rfl | rfl
  all_goals simp only [dxP, dyP]; unfold absI; simp; omega

/-- Of a step's port: made of any number. -/
def portP (p : Int) : Int := 1 + (p % 18446744073709551616) % 4
theorem portP_bd (p : Int) : 1 ≤ portP p ∧ portP p ≤ 4 := by unfold portP; omega

end Go.Proofs.Ytnbogjiddildaaa

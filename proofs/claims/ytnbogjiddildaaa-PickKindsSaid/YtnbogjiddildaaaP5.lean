/- Plain facts: a number's part has that number. -/
import Derived.Test.YtnbogjiddildaaaP0
namespace Go.Proofs.Ytnbogjiddildaaa
open Go.RowKit
set_option linter.unusedSimpArgs false
set_option linter.unusedVariables false

theorem w64 {n : Int} (h0 : -9223372036854775808 ≤ n) (h1 : n ≤ 9223372036854775807) : wrap64 n = n := IntWalk.wrap64_in n ⟨h0, h1⟩

theorem kpl_cases {L m : Int} (l1 : 1 ≤ L) (m0 : 0 ≤ m) (m1 : m < 10 * L + 15) :
    (kpl L m).1 = 0 ∧ m < 5 * L ∧ kpl L m = (0, m / L, m % L) ∨ (kpl L m).1 = 1 ∧ 5 * L ≤ m ∧ m < 10 * L ∧ kpl L m = (1, (m - 5 * L) / L, (m - 5 * L) % L) ∨
    (kpl L m).1 = 2 ∧ 10 * L ≤ m ∧ m < 10 * L + 5 ∧ kpl L m = (2, m - 10 * L, 0) ∨ (kpl L m).1 = 3 ∧ m = 10 * L + 5 ∧ kpl L m = (3, 0, 0) ∨ (kpl L m).1 = 4 ∧ m = 10 * L + 6 ∧ kpl L m = (4, 0, 0) ∨
    (kpl L m).1 = 5 ∧ 10 * L + 7 ≤ m ∧ m < 10 * L + 11 ∧ kpl L m = (5, m - (10 * L + 7) + 1, 0) ∨ (kpl L m).1 = 6 ∧ 10 * L + 11 ≤ m ∧ kpl L m = (6, m - (10 * L + 11) + 1, 0) := by
  unfold kpl
  by_cases a1 : m < 5 * L
  · rw [if_pos a1]; exact .inl ⟨rfl, a1, rfl⟩
  · rw [if_neg a1]
    by_cases a2 : m < 10 * L
    · rw [if_pos a2]; exact .inr (.inl ⟨rfl, by omega, a2, rfl⟩)
    · rw [if_neg a2]
      by_cases a3 : m < 10 * L + 5
      · rw [if_pos a3]; exact .inr (.inr (.inl ⟨rfl, by omega, a3, rfl⟩))
      · rw [if_neg a3]
        by_cases a4 : m < 10 * L + 6
        · rw [if_pos a4]; exact .inr (.inr (.inr (.inl ⟨rfl, by omega, rfl⟩)))
        · rw [if_neg a4]
          by_cases a5 : m < 10 * L + 7
          · rw [if_pos a5]; exact .inr (.inr (.inr (.inr (.inl ⟨rfl, by omega, rfl⟩))))
          · rw [if_neg a5]
            by_cases a6 : m < 10 * L + 11
            · rw [if_pos a6]; exact .inr (.inr (.inr (.inr (.inr (.inl ⟨rfl, by omega, a6, rfl⟩)))))
            · rw [if_neg a6]; exact .inr (.inr (.inr (.inr (.inr (.inr ⟨rfl, by omega, rfl⟩)))))

/-- A part of a node's row has its place's number. -/
theorem numW_kpl {c : Cfg} {x m : Int} (hx : isB c x = true) (m0 : 0 ≤ m) (m1 : m < eachP c) : numW c (prt x (kpl c.L m)) = x * eachP c + m := by
  have hk := isB_chk hx
  have he := each_ok hk
  have l1 := (chk_okc hk).L1
  have l2 := (chk_okc hk).L2
  have hj := count_join hx m0 m1
  have hc := count_bd c
  have n0 := Int.mul_nonneg (isB_iff.1 hx).1 (show 0 ≤ eachP c by omega)
  unfold numW prt
  rw [he] at m1
  rcases kpl_cases l1 m0 m1 with ⟨_, h1, e⟩ | ⟨_, h0, h1, e⟩ | ⟨_, h0, h1, e⟩ | ⟨_, h0, e⟩ | ⟨_, h0, e⟩ | ⟨_, h0, h1, e⟩ | ⟨_, h0, e⟩
  · have d := Int.ediv_mul_add_emod m c.L
    have d1 := Int.emod_nonneg m (show c.L ≠ 0 by omega)
    have d2 := Int.emod_lt_of_pos m (show 0 < c.L by omega)
    rw [e]
    simp only [offP]
    simp
    unfold wrap64
    omega
  · have d := Int.ediv_mul_add_emod (m - 5 * c.L) c.L
    have d1 := Int.emod_nonneg (m - 5 * c.L) (show c.L ≠ 0 by omega)
    have d2 := Int.emod_lt_of_pos (m - 5 * c.L) (show 0 < c.L by omega)
    rw [e]
    simp only [offP]
    simp
    have d4 : (m - 5 * c.L) % c.L = m % c.L := by simp
    unfold wrap64
    omega
  · rw [e]; simp only [offP]; simp
    rw [w64 (n := 10 * c.L + (m - 10 * c.L)) (by omega) (by omega), w64 (by omega) (by omega)]; omega
  · rw [e]; simp only [offP]; simp
    rw [w64 (by omega) (by omega)]; omega
  · rw [e]; simp only [offP]; simp
    rw [w64 (by omega) (by omega)]; omega
  · rw [e]; simp only [offP]; simp
    rw [w64 (n := m - (10 * c.L + 7)) (by omega) (by omega), w64 (n := 10 * c.L + 7 + (m - (10 * c.L + 7))) (by omega) (by omega), w64 (by omega) (by omega)]; omega
  · rw [e]; simp only [offP]; simp
    rw [w64 (n := m - (10 * c.L + 11)) (by omega) (by omega), w64 (n := 10 * c.L + 11 + (m - (10 * c.L + 11))) (by omega) (by omega), w64 (by omega) (by omega)]; omega

theorem ofP_yes {c : Cfg} {n : Int} (h0 : 0 ≤ n) (h1 : n < countP c) : ofP c n = (prt (n / eachP c) (kpl c.L (n % eachP c)), true) := by
  unfold ofP; rw [if_pos ⟨h0, h1⟩]; rfl
theorem ofP_no {c : Cfg} {n : Int} (h : ¬ (0 ≤ n ∧ n < countP c)) : ofP c n = (⟨0, 0, 0, 0⟩, false) := by
  unfold ofP; rw [if_neg h]
theorem kpl_kind {L m : Int} (l1 : 1 ≤ L) (m0 : 0 ≤ m) (m1 : m < 10 * L + 15) : 0 ≤ (kpl L m).1 ∧ (kpl L m).1 ≤ 6 := by
  rcases kpl_cases l1 m0 m1 with h | h | h | h | h | h | h <;> omega
theorem number_of {c : Cfg} {n : Int} (h0 : 0 ≤ n) (h1 : n < countP c) : numberP c (ofP c n).1 = (n, true) ∧ 0 ≤ (ofP c n).1.k ∧ (ofP c n).1.k ≤ 6 := by
  obtain ⟨hb, m0, m1, e, hk⟩ := count_split h0 h1
  have l1 := (chk_okc hk).L1
  have hw := numW_kpl hb m0 m1
  rw [e] at hw
  have m1' : n % eachP c < 10 * c.L + 15 := by have := each_ok hk; omega
  have hkk := kpl_kind l1 m0 m1'
  rw [ofP_yes h0 h1]
  refine ⟨?_, hkk.1, hkk.2⟩
  unfold numberP
  rw [hw, if_pos ⟨hb, hkk.1, hkk.2, ofP_yes h0 h1⟩]
theorem of_number {c : Cfg} {x : Prt} {k : Int} (h : numberP c x = (k, true)) : ofP c k = (x, true) := by
  unfold numberP at h
  split at h
  · rename_i hh
    injection h with h1 _
    rw [← h1]; exact hh.2.2.2
  · injection h with _ h2; cases h2

end Go.Proofs.Ytnbogjiddildaaa

/- Plain facts on the parts of a mesh and their numbers. -/
import Derived.Test.YtnbogjiddildaaaN
namespace Go.Proofs.Ytnbogjiddildaaa
open Go.RowKit
set_option linter.unusedSimpArgs false
set_option linter.unusedVariables false

structure Prt where
  k : Int
  n : Int
  p : Int
  l : Int
deriving DecidableEq

abbrev pv (x : Prt) : Value := .agg #[.int .i64 x.k, .int .i64 x.n, .int .i64 x.p, .int .i64 x.l]

def eachP (c : Cfg) : Int := if chk c = 0 then 10 * c.L + 15 else 0
def countP (c : Cfg) : Int := nodes c * eachP c
theorem each_bd (c : Cfg) : 0 ≤ eachP c ∧ eachP c ≤ 95 := by
  unfold eachP
  split
  · have := chk_okc ‹_›
    have := this.L1; have := (chk_okc ‹chk c = 0›).L2; omega
  · omega
theorem count_bd (c : Cfg) : 0 ≤ countP c ∧ countP c ≤ 389120 := by
  have h1 := nodes_bd c
  have h2 := each_bd c
  unfold countP
  refine ⟨Int.mul_nonneg h1.1 h2.1, ?_⟩
  have := Int.mul_le_mul h1.2 h2.2 h2.1 (by omega)
  omega
theorem each_ok {c : Cfg} (h : chk c = 0) : eachP c = 10 * c.L + 15 := by unfold eachP; rw [if_pos h]
theorem each_no {c : Cfg} (h : chk c ≠ 0) : eachP c = 0 := by unfold eachP; rw [if_neg h]
theorem count_no {c : Cfg} (h : chk c ≠ 0) : countP c = 0 := by unfold countP; rw [each_no h]; simp

/-- Kind, port and lane of a place in a node's row. -/
def kpl (L m : Int) : Int × Int × Int :=
  if m < 5 * L then (0, m / L, m % L)
  else if m < 10 * L then (1, (m - 5 * L) / L, (m - 5 * L) % L)
  else if m < 10 * L + 5 then (2, m - 10 * L, 0)
  else if m < 10 * L + 6 then (3, 0, 0)
  else if m < 10 * L + 7 then (4, 0, 0)
  else if m < 10 * L + 11 then (5, m - (10 * L + 7) + 1, 0)
  else (6, m - (10 * L + 11) + 1, 0)
def ofP (c : Cfg) (n : Int) : Prt × Bool :=
  if 0 ≤ n ∧ n < countP c then
    let t := kpl c.L (n % eachP c)
    (⟨t.1, n / eachP c, t.2.1, t.2.2⟩, true)
  else (⟨0, 0, 0, 0⟩, false)

/-- Where a kind begins in a node's row. -/
def offP (L k : Int) : Int := if k = 0 then 0 else if k = 1 then 5 * L else if k = 2 then 10 * L else if k = 3 then 10 * L + 5 else if k = 4 then 10 * L + 6 else if k = 5 then 10 * L + 7 else 10 * L + 11
/-- A part's number as the program reckons it, wrapping round. -/
def numW (c : Cfg) (x : Prt) : Int :=
  wrap64 ((if x.k = 0 ∨ x.k = 1 then wrap64 (offP c.L x.k + wrap64 (wrap64 (x.p * c.L) + x.l))
    else if x.k = 2 then wrap64 (offP c.L x.k + x.p)
    else if x.k = 5 ∨ x.k = 6 then wrap64 (offP c.L x.k + wrap64 (x.p - 1)) else offP c.L x.k) + x.n * eachP c)
def numberP (c : Cfg) (x : Prt) : Int × Bool :=
  if isB c x.n = true ∧ 0 ≤ x.k ∧ x.k ≤ 6 ∧ ofP c (numW c x) = (x, true) then (numW c x, true) else (0, false)

/-- A node's row, kind, port and lane alone. -/
def row0 (L : Nat) : List (Int × Int × Int) :=
  ((List.range 2).flatMap fun k : Nat => (List.range 5).flatMap fun p : Nat => (List.range L).map fun l : Nat => ((k : Int), (p : Int), (l : Int))) ++
  ((List.range 5).map fun p : Nat => ((2 : Int), (p : Int), (0 : Int))) ++ [(3, 0, 0), (4, 0, 0)] ++
  ((List.range 2).flatMap fun k : Nat => (List.range 4).map fun p : Nat => ((k : Int) + 5, (p : Int) + 1, (0 : Int)))
def prt (n : Int) (t : Int × Int × Int) : Prt := ⟨t.1, n, t.2.1, t.2.2⟩
def rowP (c : Cfg) (n : Int) : List Prt := if isB c n = true then (row0 c.L.toNat).map (prt n) else []

theorem row0_is : ∀ L : Nat, 1 ≤ L → L ≤ 8 → row0 L = (List.range (10 * L + 15)).map fun m : Nat => kpl L m := by
  intro L h1 h2
  have h : L = 1 ∨ L = 2 ∨ L = 3 ∨ L = 4 ∨ L = 5 ∨ L = 6 ∨ L = 7 ∨ L = 8 := by omega
  rcases h with rfl | rfl | rfl | rfl | rfl | rfl | rfl | rfl <;> decide +kernel
theorem toNat_L {c : Cfg} (h : chk c = 0) : 1 ≤ c.L.toNat ∧ c.L.toNat ≤ 8 ∧ (c.L.toNat : Int) = c.L := by
  have h1 := (chk_okc h).L1
  have h2 := (chk_okc h).L2
  omega
theorem row_len {c : Cfg} {n : Int} (h : isB c n = true) : ((rowP c n).length : Int) = eachP c := by
  have hl := toNat_L (isB_chk h)
  unfold rowP
  rw [if_pos h, List.length_map, row0_is _ hl.1 hl.2.1, List.length_map, List.length_range, each_ok (isB_chk h)]
  omega
theorem row_at {c : Cfg} {n : Int} {i : Nat} (h : isB c n = true) (hi : (i : Int) < eachP c) : (rowP c n)[i]? = some (prt n (kpl c.L i)) := by
  have hl := toNat_L (isB_chk h)
  rw [each_ok (isB_chk h)] at hi
  unfold rowP
  rw [if_pos h, row0_is _ hl.1 hl.2.1, List.map_map, List.getElem?_map, List.getElem?_range (by omega)]
  simp only [Option.map_some, Function.comp]
  rw [hl.2.2]

/-- The number's node and place. -/
theorem count_split {c : Cfg} {n : Int} (h0 : 0 ≤ n) (h1 : n < countP c) : isB c (n / eachP c) = true ∧ 0 ≤ n % eachP c ∧ n % eachP c < eachP c ∧ n / eachP c * eachP c + n % eachP c = n ∧ chk c = 0 := by
  have hk : chk c = 0 := by
    rcases Decidable.em (chk c = 0) with h | h
    · exact h
    · rw [count_no h] at h1; omega
  have he := each_ok hk
  have hL := (chk_okc hk).L1
  have e0 : 0 < eachP c := by omega
  refine ⟨?_, Int.emod_nonneg _ (by omega), Int.emod_lt_of_pos _ e0, Int.ediv_mul_add_emod _ _, hk⟩
  rw [isB_iff]
  refine ⟨Int.ediv_nonneg h0 (by omega), Int.ediv_lt_of_lt_mul e0 ?_⟩
  unfold countP at h1
  exact h1
theorem count_join {c : Cfg} {x i : Int} (hx : isB c x = true) (i0 : 0 ≤ i) (i1 : i < eachP c) : 0 ≤ x * eachP c + i ∧ x * eachP c + i < countP c ∧ (x * eachP c + i) / eachP c = x ∧ (x * eachP c + i) % eachP c = i := by
  have hb := isB_iff.1 hx
  have h1 := Int.mul_nonneg hb.1 (show 0 ≤ eachP c by omega)
  have h2 := Int.mul_le_mul_of_nonneg_right (show x + 1 ≤ nodes c by omega) (show 0 ≤ eachP c by omega)
  rw [Int.add_mul] at h2
  have h3 := @node_xy (eachP c) i x i0 i1
  unfold countP
  exact ⟨by omega, by omega, h3.2, h3.1⟩

end Go.Proofs.Ytnbogjiddildaaa

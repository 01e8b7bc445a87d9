/- Plain facts on configs, nodes and places: no program in sight. -/
import Derived.Below
import Derived.WalkKit
namespace Go.Proofs.Ytnbogjiddildaaa
open Go.RowKit
set_option linter.unusedSimpArgs false
set_option linter.unusedVariables false

structure Hd (p : Prop) : Prop where
  out : p

structure Cfg where
  W : Int
  H : Int
  L : Int
  D : Int
  R : Int
  I : Int
  B : Int
  ws : Bool
  cs : Bool

abbrev cv (c : Cfg) : Value := .agg #[.int .i64 c.W, .int .i64 c.H, .int .i64 c.L, .int .i64 c.D, .int .i64 c.R, .int .i64 c.I, .int .i64 c.B, .bool c.ws, .bool c.cs]

def outB (m n : Int) : Bool := decide (n < 1) || decide (m < n)

def chk (c : Cfg) : Int :=
  if (!(outB 64 c.W || outB 64 c.H)) = true then
    if (!(outB 8 c.L)) = true then
      if (c.cs && c.L == 1) = true then 10
      else if (!(outB 64 c.D || (outB 64 c.R || outB 64 c.I))) = true then
        if (!(outB 16 c.B)) = true then 0 else 10
      else 10
    else 10
  else 4

theorem outB_iff {m n : Int} : outB m n = false ↔ 1 ≤ n ∧ n ≤ m := by
  unfold outB; simp

structure Okc (c : Cfg) : Prop where
  W1 : 1 ≤ c.W
  W2 : c.W ≤ 64
  H1 : 1 ≤ c.H
  H2 : c.H ≤ 64
  L1 : 1 ≤ c.L
  L2 : c.L ≤ 8
  D1 : 1 ≤ c.D
  D2 : c.D ≤ 64
  R1 : 1 ≤ c.R
  R2 : c.R ≤ 64
  I1 : 1 ≤ c.I
  I2 : c.I ≤ 64
  B1 : 1 ≤ c.B
  B2 : c.B ≤ 16
  C : c.cs = true → c.L ≠ 1

theorem chk_okc {c : Cfg} (h : chk c = 0) : Okc c := by
  unfold chk at h
  repeat' split at h
  all_goals first | omega | skip
  all_goals
    simp only [Bool.not_eq_true', Bool.or_eq_false_iff, outB_iff, Bool.not_eq_true, Bool.and_eq_true, beq_iff_eq] at *
  rename_i a b d e f
  refine ⟨a.1.1, a.1.2, a.2.1, a.2.2, b.1, b.2, e.1.1, e.1.2, e.2.1.1, e.2.1.2, e.2.2.1, e.2.2.2, f.1, f.2, ?_⟩
  intro hc hL
  simp [hc, hL] at d

theorem okc_chk {c : Cfg} (h : Okc c) : chk c = 0 := by
  obtain ⟨a1, a2, a3, a4, a5, a6, a7, a8, a9, a10, a11, a12, a13, a14, a15⟩ := h
  unfold chk
  have e1 : outB 64 c.W = false := outB_iff.2 ⟨a1, a2⟩
  have e2 : outB 64 c.H = false := outB_iff.2 ⟨a3, a4⟩
  have e3 : outB 8 c.L = false := outB_iff.2 ⟨a5, a6⟩
  have e4 : outB 64 c.D = false := outB_iff.2 ⟨a7, a8⟩
  have e5 : outB 64 c.R = false := outB_iff.2 ⟨a9, a10⟩
  have e6 : outB 64 c.I = false := outB_iff.2 ⟨a11, a12⟩
  have e7 : outB 16 c.B = false := outB_iff.2 ⟨a13, a14⟩
  have e8 : (c.cs && c.L == 1) = false := by
    rcases hc : c.cs with _ | _
    · rfl
    · simpa using a15 hc
  simp [e1, e2, e3, e4, e5, e6, e7, e8]

def nodes (c : Cfg) : Int := if chk c = 0 then c.W * c.H else 0

theorem mul_bd {a b m n : Int} (a1 : 1 ≤ a) (a2 : a ≤ m) (b1 : 1 ≤ b) (b2 : b ≤ n) : 1 ≤ a * b ∧ a * b ≤ m * n := by
  refine ⟨?_, Int.mul_le_mul a2 b2 (by omega) (by omega)⟩
  have := Int.mul_le_mul a1 b1 (by omega) (by omega)
  omega

theorem nodes_ok {c : Cfg} (h : chk c = 0) : nodes c = c.W * c.H := by unfold nodes; rw [if_pos h]
theorem nodes_no {c : Cfg} (h : chk c ≠ 0) : nodes c = 0 := by unfold nodes; rw [if_neg h]
theorem wh_bd {c : Cfg} (h : Okc c) : 1 ≤ c.W * c.H ∧ c.W * c.H ≤ 4096 := by
  have := mul_bd h.W1 h.W2 h.H1 h.H2; omega
theorem nodes_bd (c : Cfg) : 0 ≤ nodes c ∧ nodes c ≤ 4096 := by
  unfold nodes
  split
  · have := wh_bd (chk_okc ‹_›); omega
  · omega
theorem nodes_pos {c : Cfg} (h : 0 < nodes c) : chk c = 0 := by
  unfold nodes at h
  split at h
  · assumption
  · omega
theorem nodes_zero {c : Cfg} : nodes c = 0 ↔ chk c ≠ 0 := by
  unfold nodes
  split
  · have := wh_bd (chk_okc ‹_›); constructor <;> intro <;> first | omega | contradiction
  · simp [*]

def isB (c : Cfg) (n : Int) : Bool := decide (0 ≤ n) && decide (n < nodes c)
theorem isB_iff {c : Cfg} {n : Int} : isB c n = true ↔ 0 ≤ n ∧ n < nodes c := by unfold isB; simp
theorem isB_chk {c : Cfg} {n : Int} (h : isB c n = true) : chk c = 0 := nodes_pos (by have := isB_iff.1 h; omega)

/-- A node's place. -/
def placeP (c : Cfg) (n : Int) : Int × Int × Int := if isB c n = true then (n % c.W, n / c.W, 0) else (0, 0, 5)
/-- The node at a place. -/
def inP (c : Cfg) (x y : Int) : Bool := decide (chk c = 0) && (decide (0 ≤ x) && decide (x < c.W) && (decide (0 ≤ y) && decide (y < c.H)))
def atP (c : Cfg) (x y : Int) : Int × Int := if inP c x y = true then (y * c.W + x, 0) else (0, 5)
theorem inP_iff {c : Cfg} {x y : Int} : inP c x y = true ↔ chk c = 0 ∧ 0 ≤ x ∧ x < c.W ∧ 0 ≤ y ∧ y < c.H := by unfold inP; simp; omega

def dxP (p : Int) : Int := if p = 1 then 1 else if p = 2 then -1 else 0
def dyP (p : Int) : Int := if p = 3 then 1 else if p = 4 then -1 else 0
def besideP (c : Cfg) (n p : Int) : Int × Bool :=
  if isB c n = true ∧ 0 ≤ p ∧ p < 5 then
    if inP c (n % c.W + dxP p) (n / c.W + dyP p) = true then ((n / c.W + dyP p) * c.W + (n % c.W + dxP p), true) else (0, false)
  else (0, false)
def backP (p : Int) : Int := if p = 0 then 0 else if p = 1 then 2 else if p = 2 then 1 else if p = 3 then 4 else if p = 4 then 3 else -1
def absI (a : Int) : Int := max a (-a)
def farP (c : Cfg) (a b : Int) : Int := if isB c a = true ∧ isB c b = true then absI (a % c.W - b % c.W) + absI (a / c.W - b / c.W) else -1

theorem besideP_at {c : Cfg} {n p : Int} (h : isB c n = true) (p0 : 0 ≤ p) (p1 : p < 5) :
    besideP c n p = ((atP c (n % c.W + dxP p) (n / c.W + dyP p)).1, (atP c (n % c.W + dxP p) (n / c.W + dyP p)).2 == 0) := by
  unfold besideP atP
  rw [if_pos ⟨h, p0, p1⟩]
  split <;> rfl
theorem besideP_no {c : Cfg} {n p : Int} (h : ¬ (isB c n = true ∧ 0 ≤ p ∧ p < 5)) : besideP c n p = (0, false) := by
  unfold besideP; rw [if_neg h]
theorem place_yes {c : Cfg} {n : Int} (h : isB c n = true) : placeP c n = (n % c.W, n / c.W, 0) := by unfold placeP; rw [if_pos h]
theorem place_no {c : Cfg} {n : Int} (h : isB c n = false) : placeP c n = (0, 0, 5) := by unfold placeP; rw [h]; rfl

/-- What a node's place lies within. -/
structure Inn (c : Cfg) (n : Int) : Prop where
  n0 : 0 ≤ n
  n1 : n ≤ 4096
  x0 : 0 ≤ n % c.W
  x1 : n % c.W < c.W
  x2 : n % c.W ≤ 63
  y0 : 0 ≤ n / c.W
  y1 : n / c.W < c.H
  y2 : n / c.W ≤ 63
  e : n / c.W * c.W + n % c.W = n
theorem inn {c : Cfg} {n : Int} (h : isB c n = true) : Inn c n := by
  have hk := chk_okc (isB_chk h)
  have h1 := (isB_iff.1 h).1
  have h2 := (isB_iff.1 h).2
  have hb := nodes_bd c
  rw [nodes_ok (isB_chk h)] at h2
  have k1 := hk.W1
  have k2 := hk.W2
  have k3 := hk.H1
  have k4 := hk.H2
  have m0 := Int.emod_nonneg n (show c.W ≠ 0 by omega)
  have m1 := Int.emod_lt_of_pos n (show 0 < c.W by omega)
  have d0 := Int.ediv_nonneg h1 (show 0 ≤ c.W by omega)
  have d1 : n / c.W < c.H := Int.ediv_lt_of_lt_mul (by omega) (by rw [Int.mul_comm]; exact h2)
  have de := Int.ediv_mul_add_emod n c.W
  have := (isB_iff.1 h).2
  exact ⟨h1, by omega, m0, m1, by omega, d0, d1, by omega, de⟩

theorem besideP_yes {c : Cfg} {n p : Int} (h : isB c n = true) (p0 : 0 ≤ p) (p1 : p < 5) : besideP c n p = if inP c (n % c.W + dxP p) (n / c.W + dyP p) = true then ((n / c.W + dyP p) * c.W + (n % c.W + dxP p), true) else (0, false) := by
  unfold besideP; rw [if_pos ⟨h, p0, p1⟩]

/-- A node made of any number. -/
def nodeP (c : Cfg) (n : Int) : Int := (n % 18446744073709551616) % nodes c
theorem nodeP_is {c : Cfg} (h : chk c = 0) (n : Int) : isB c (nodeP c n) = true := by
  have := wh_bd (chk_okc h)
  rw [isB_iff]
  unfold nodeP
  rw [nodes_ok h]
  exact ⟨Int.emod_nonneg _ (by omega), Int.emod_lt_of_pos _ (by omega)⟩

/-- A small config made of any. -/
def smI (m x : Int) : Int := 1 + (x % 18446744073709551616) % m
def smL (c : Cfg) : Int := if c.cs = true ∧ smI 3 c.L < 2 then 2 else smI 3 c.L
def small (c : Cfg) : Cfg := { W := smI 4 c.W, H := smI 4 c.H, L := smL c, D := smI 3 c.D, R := smI 3 c.R, I := smI 3 c.I, B := smI 4 c.B, ws := c.ws, cs := c.cs }
theorem smI_bd {m x : Int} (h : 0 < m) : 1 ≤ smI m x ∧ smI m x ≤ m := by
  unfold smI
  have h0 := Int.emod_nonneg (x % 18446744073709551616) (show m ≠ 0 by omega)
  have h1 := Int.emod_lt_of_pos (x % 18446744073709551616) h
  omega
theorem smL_bd (c : Cfg) : 1 ≤ smL c ∧ smL c ≤ 3 ∧ (c.cs = true → 2 ≤ smL c) := by
  have := @smI_bd 3 c.L (by omega)
  unfold smL
  split
  · omega
  · refine ⟨by omega, by omega, fun h => ?_⟩
    simp only [h, true_and] at *
    omega
/-- What is known of a small config. -/
structure Smc (c : Cfg) : Prop where
  W1 : 1 ≤ c.W
  W2 : c.W ≤ 4
  H1 : 1 ≤ c.H
  H2 : c.H ≤ 4
  L1 : 1 ≤ c.L
  L2 : c.L ≤ 3
  ok : chk c = 0
theorem small_is (c : Cfg) : Smc (small c) := by
  have a1 := @smI_bd 4 c.W (by omega)
  have a2 := @smI_bd 4 c.H (by omega)
  have a3 := smL_bd c
  have a4 := @smI_bd 3 c.D (by omega)
  have a5 := @smI_bd 3 c.R (by omega)
  have a6 := @smI_bd 3 c.I (by omega)
  have a7 := @smI_bd 4 c.B (by omega)
  refine ⟨a1.1, a1.2, a2.1, a2.2, a3.1, a3.2.1, okc_chk ⟨a1.1, ?_, a2.1, ?_, a3.1, ?_, a4.1, ?_, a5.1, ?_, a6.1, ?_, a7.1, ?_, ?_⟩⟩
  all_goals simp only [small]
  all_goals first | omega | skip
  intro h
  have := a3.2.2 h
  omega

end Go.Proofs.Ytnbogjiddildaaa

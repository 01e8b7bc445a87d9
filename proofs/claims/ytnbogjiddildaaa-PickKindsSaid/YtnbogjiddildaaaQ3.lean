/- Plain facts on rounds: all numbers, each once. -/
import Derived.Test.YtnbogjiddildaaaP0
namespace Go.Proofs.Ytnbogjiddildaaa
open Go.RowKit
set_option linter.unusedSimpArgs false
set_option linter.unusedVariables false

/-- How far the next free number is. -/
def seekD (had : Nat → Bool) (N : Nat) : Nat → Nat → Nat
  | 0, _ => 0
  | f + 1, a => if had (a % N) = true then seekD had N f (a + 1) + 1 else 0
theorem seek_le (had : Nat → Bool) (N f a : Nat) : seekD had N f a ≤ f := by
  induction f generalizing a with
  | zero => simp [seekD]
  | succ f ih => rw [seekD]; split
                 · have := ih (a + 1); omega
                 · omega
theorem seek_true {had : Nat → Bool} {N f a d : Nat} (h : d < seekD had N f a) : had ((a + d) % N) = true := by
  induction f generalizing a d with
  | zero => simp [seekD] at h
  | succ f ih =>
    rw [seekD] at h
    split at h
    · rename_i h1
      rcases d with _ | d
      · exact h1
      · have := ih (a := a + 1) (d := d) (by omega)
        rw [show a + (d + 1) = a + 1 + d from by omega]; exact this
    · omega
theorem seek_false {had : Nat → Bool} {N f a : Nat} (h : seekD had N f a < f) : had ((a + seekD had N f a) % N) = false := by
  induction f generalizing a with
  | zero => omega
  | succ f ih =>
    rw [seekD] at h ⊢
    split at h
    · rename_i h1
      rw [if_pos h1]
      have := ih (a := a + 1) (by omega)
      rw [show a + (seekD had N f (a + 1) + 1) = a + 1 + seekD had N f (a + 1) from by omega]; exact this
    · rename_i h1
      rw [if_neg h1, Nat.add_zero]
      simpa using h1
theorem seek_fuel {had : Nat → Bool} {N f a : Nat} (h : seekD had N f a < f) : seekD had N (f + 1) a = seekD had N f a := by
  induction f generalizing a with
  | zero => omega
  | succ f ih =>
    rw [seekD] at h
    have e1 : seekD had N (f + 1 + 1) a = if had (a % N) = true then seekD had N (f + 1) (a + 1) + 1 else 0 := rfl
    have e2 : seekD had N (f + 1) a = if had (a % N) = true then seekD had N f (a + 1) + 1 else 0 := rfl
    rw [e1, e2]
    split at h
    · rename_i h1
      rw [if_pos h1, if_pos h1, ih (by omega)]
    · rename_i h1
      rw [if_neg h1, if_neg h1]
theorem seek_mod {had : Nat → Bool} {N f a b : Nat} (h : a % N = b % N) : seekD had N f a = seekD had N f b := by
  induction f generalizing a b with
  | zero => rfl
  | succ f ih =>
    rw [seekD, seekD, h]
    have h1 : (a + 1) % N = (b + 1) % N := by rw [Nat.add_mod, h, ← Nat.add_mod]
    rw [ih h1]
theorem seek_lt {had : Nat → Bool} {N a j : Nat} (ha : a < N) (hj : j < N) (hf : had j = false) : seekD had N N a < N := by
  rcases Nat.lt_or_ge (seekD had N N a) N with h | h
  · exact h
  · exfalso
    have hd : ∃ d, d < N ∧ (a + d) % N = j := by
      rcases Nat.lt_or_ge j a with h1 | h1
      · exact ⟨j + N - a, by omega, by rw [show a + (j + N - a) = j + N from by omega, Nat.add_mod_right, Nat.mod_eq_of_lt hj]⟩
      · exact ⟨j - a, by omega, by rw [show a + (j - a) = j from by omega, Nat.mod_eq_of_lt hj]⟩
    obtain ⟨d, hd1, hd2⟩ := hd
    have := seek_true (had := had) (N := N) (f := N) (a := a) (d := d) (by omega)
    rw [hd2, hf] at this
    cases this
/-- One step of the search. -/
theorem seek_step {had : Nat → Bool} {N a : Nat} (ha : a < N) (h : had a = true) (hlt : seekD had N N ((a + 1) % N) < N) : seekD had N N a = seekD had N N ((a + 1) % N) + 1 ∧ (a + seekD had N N a) % N = ((a + 1) % N + seekD had N N ((a + 1) % N)) % N := by
  have h1 : seekD had N N ((a + 1) % N) = seekD had N N (a + 1) := seek_mod (Nat.mod_mod _ _)
  have h2 : seekD had N (N + 1) a = seekD had N N (a + 1) + 1 := by rw [seekD, if_pos (by rw [Nat.mod_eq_of_lt ha]; exact h)]
  have h3 : seekD had N N a < N → seekD had N N a = seekD had N N (a + 1) + 1 := fun h => by rw [← h2, seek_fuel h]
  have h4 : seekD had N N a = seekD had N N (a + 1) + 1 := by
    rcases Nat.lt_or_ge (seekD had N N a) N with h5 | h5
    · exact h3 h5
    · have h6 := seek_le had N N a
      obtain ⟨f, rfl⟩ : ∃ f, N = f + 1 := ⟨N - 1, by omega⟩
      have h7 : seekD had (f + 1) (f + 1) a = seekD had (f + 1) f (a + 1) + 1 := by rw [seekD, if_pos (by rw [Nat.mod_eq_of_lt ha]; exact h)]
      rw [h1] at hlt
      have h8 := seek_le had (f + 1) f (a + 1)
      have h9 : seekD had (f + 1) f (a + 1) = f := by omega
      have h10 : ∀ d, d < f → had ((a + 1 + d) % (f + 1)) = true := fun d hd => seek_true (f := f) (by omega)
      have h11 := seek_false (had := had) (N := f + 1) (f := f + 1) (a := a + 1) (by omega)
      have h12 : seekD had (f + 1) (f + 1) (a + 1) = f := by
        rcases Nat.lt_or_ge (seekD had (f + 1) (f + 1) (a + 1)) f with h13 | h13
        · rw [h10 _ h13] at h11; cases h11
        · omega
      omega
  rw [h1, h4]
  refine ⟨rfl, ?_⟩
  rw [show a + (seekD had N N (a + 1) + 1) = a + 1 + seekD had N N (a + 1) from by omega, Nat.mod_add_mod]
theorem seek_here {had : Nat → Bool} {N a : Nat} (ha : a < N) (h : had a = false) : seekD had N N a = 0 := by
  obtain ⟨f, rfl⟩ : ∃ f, N = f + 1 := ⟨N - 1, by omega⟩
  rw [seekD, if_neg (by rw [Nat.mod_eq_of_lt ha, h]; simp)]

def cntT (had : Nat → Bool) : Nat → Nat
  | 0 => 0
  | n + 1 => cntT had n + if had n = true then 1 else 0
def setT (had : Nat → Bool) (p : Nat) : Nat → Bool := fun j => if j = p then true else had j
theorem cnt_far {had : Nat → Bool} {p : Nat} (n : Nat) (h : n ≤ p) : cntT (setT had p) n = cntT had n := by
  induction n with
  | zero => rfl
  | succ n ih =>
    have e : setT had p n = had n := by unfold setT; rw [if_neg (by omega : ¬ n = p)]
    rw [cntT, cntT, ih (by omega), e]
theorem cnt_set {had : Nat → Bool} {p n : Nat} (hp : p < n) (h : had p = false) : cntT (setT had p) n = cntT had n + 1 := by
  induction n with
  | zero => omega
  | succ n ih =>
    rw [cntT, cntT]
    by_cases e : n = p
    · subst e
      rw [cnt_far n (Nat.le_refl _), h]
      unfold setT; simp
    · rw [ih (by omega)]
      unfold setT; rw [if_neg e]; omega
theorem cnt_all {had : Nat → Bool} (n : Nat) (h : ∀ j, j < n → had j = true) : cntT had n = n := by
  induction n with
  | zero => rfl
  | succ n ih => rw [cntT, ih (fun j hj => h j (by omega)), h n (by omega)]; rfl
theorem cnt_none (n : Nat) : cntT (fun _ => false) n = 0 := by
  induction n with
  | zero => rfl
  | succ n ih => rw [cntT, ih]; rfl
theorem cnt_free {had : Nat → Bool} {N : Nat} (h : cntT had N < N) : ∃ j, j < N ∧ had j = false := by
  rcases Classical.em (∃ j, j < N ∧ had j = false) with h1 | h1
  · exact h1
  · exfalso
    have := cnt_all (had := had) N (fun j hj => by
      rcases hh : had j with _ | _
      · exact absurd ⟨j, hj, hh⟩ h1
      · rfl)
    omega

structure St where
  had : Nat → Bool
  pos : Nat
  l : List Nat
/-- The next number. -/
def nextP (N : Nat) (σ : St) : Nat := (σ.pos + seekD σ.had N N σ.pos) % N
def stepR (N s : Nat) (σ : St) : St := ⟨setT σ.had (nextP N σ), (nextP N σ + s) % N, σ.l ++ [nextP N σ]⟩
def runR (N s a : Nat) : Nat → St
  | 0 => ⟨fun _ => false, a, []⟩
  | k + 1 => stepR N s (runR N s a k)
/-- What is known behind k rounds. -/
structure Inv (N k : Nat) (σ : St) : Prop where
  pos : σ.pos < N
  len : σ.l.length = k
  cnt : cntT σ.had N = k
theorem inv_next {N k : Nat} {σ : St} (h : Inv N k σ) (hk : k < N) : nextP N σ < N ∧ σ.had (nextP N σ) = false ∧ seekD σ.had N N σ.pos < N := by
  obtain ⟨j, hj, hf⟩ := cnt_free (by rw [h.cnt]; exact hk)
  have hlt := seek_lt h.pos hj hf
  exact ⟨Nat.mod_lt _ (by omega), seek_false hlt, hlt⟩
theorem inv_step {N k : Nat} {σ : St} (s : Nat) (h : Inv N k σ) (hk : k < N) : Inv N (k + 1) (stepR N s σ) := by
  obtain ⟨h1, h2, _⟩ := inv_next h hk
  refine ⟨Nat.mod_lt _ (by omega), ?_, ?_⟩
  · show (σ.l ++ [nextP N σ]).length = k + 1
    rw [List.length_append, h.len]; rfl
  · show cntT (setT σ.had (nextP N σ)) N = k + 1
    rw [cnt_set h1 h2, h.cnt]
theorem run_inv {N s a : Nat} (ha : a < N) (k : Nat) (hk : k ≤ N) : Inv N k (runR N s a k) := by
  induction k with
  | zero => exact ⟨ha, rfl, cnt_none N⟩
  | succ k ih => exact inv_step s (ih (by omega)) (by omega)
def roundL (N s a : Nat) : List Nat := (runR N s a N).l
theorem run_mono {N s a : Nat} (i k : Nat) (h : i ≤ k) : ∃ t, (runR N s a k).l = (runR N s a i).l ++ t := by
  induction k with
  | zero => obtain rfl : i = 0 := by omega
            exact ⟨[], by simp⟩
  | succ k ih =>
    by_cases e : i = k + 1
    · subst e; exact ⟨[], by simp⟩
    · obtain ⟨t, ht⟩ := ih (by omega)
      refine ⟨t ++ [nextP N (runR N s a k)], ?_⟩
      show (runR N s a k).l ++ [nextP N (runR N s a k)] = _
      rw [ht, List.append_assoc]
theorem round_at {N s a : Nat} (ha : a < N) {i : Nat} (hi : i < N) : (roundL N s a)[i]? = some (nextP N (runR N s a i)) := by
  obtain ⟨t, ht⟩ := run_mono (N := N) (s := s) (a := a) (i + 1) N (by omega)
  unfold roundL
  rw [ht]
  show ((runR N s a i).l ++ [nextP N (runR N s a i)] ++ t)[i]? = _
  have hl := (run_inv (s := s) ha i (by omega)).len
  rw [List.append_assoc, List.getElem?_append_right (by omega), hl, Nat.sub_self]
  rfl
theorem round_len {N s a : Nat} (ha : a < N) : (roundL N s a).length = N := (run_inv ha N (Nat.le_refl _)).len
/-- Along one by one from 0 on. -/
theorem run_one {N : Nat} (hN : 0 < N) (k : Nat) (hk : k ≤ N) : (∀ j, j < N → (runR N 1 0 k).had j = decide (j < k)) ∧ (runR N 1 0 k).pos = k % N ∧ (runR N 1 0 k).l = List.range k := by
  induction k with
  | zero => exact ⟨fun j _ => rfl, by rw [Nat.zero_mod]; rfl, rfl⟩
  | succ k ih =>
    obtain ⟨h1, h2, h3⟩ := ih (by omega)
    have hkk : k % N = k := Nat.mod_eq_of_lt (by omega)
    have hn : nextP N (runR N 1 0 k) = k := by
      unfold nextP
      rw [h2, hkk, seek_here (by omega) (by rw [h1 k (by omega)]; simp), Nat.add_zero, hkk]
    refine ⟨fun j hj => ?_, ?_, ?_⟩
    · show setT (runR N 1 0 k).had (nextP N (runR N 1 0 k)) j = _
      rw [hn]
      unfold setT
      rw [h1 j hj, Bool.eq_iff_iff]
      split <;> simp <;> omega
    · show (nextP N (runR N 1 0 k) + 1) % N = _
      rw [hn]
    · show (runR N 1 0 k).l ++ [nextP N (runR N 1 0 k)] = _
      rw [hn, h3, List.range_succ]

def rndI (n : Int) : Int := if n < 0 then -(n + 1) else n
/-- A round's numbers. -/
def roundsP (c : Cfg) (f b : Int) : List Int :=
  (roundL (countP c).toNat (1 + (rndI b % (countP c)).toNat) (rndI f % countP c).toNat).map Int.ofNat

end Go.Proofs.Ytnbogjiddildaaa

/- Plain facts on ways: their nodes, ports and ranks. -/
import Derived.Test.YtnbogjiddildaaaT12
namespace Go.Proofs.Ytnbogjiddildaaa
open Go.RowKit
set_option linter.unusedSimpArgs false
set_option linter.unusedVariables false

def chAt (ch : List Int) (i : Nat) : Int := ch.getD i 0
theorem ch_in {ch : List Int} {i : Nat} {x : Int} (h : ch[i]? = some x) : chAt ch i = x := by unfold chAt List.getD; rw [h]; rfl
theorem ch_out {ch : List Int} {i : Nat} (h : ch.length ≤ i) : chAt ch i = 0 := by unfold chAt List.getD; rw [List.getElem?_eq_none h]; rfl
theorem ch_bd {ch : List Int} (h : ∀ x ∈ ch, -9223372036854775808 ≤ x ∧ x ≤ 9223372036854775807) (i : Nat) : -9223372036854775808 ≤ chAt ch i ∧ chAt ch i ≤ 9223372036854775807 := by
  rcases Nat.lt_or_ge i ch.length with hl | hl
  · have hx : ch[i]? = some ch[i] := List.getElem?_eq_getElem hl
    rw [ch_in hx]; exact h _ (List.mem_of_getElem? hx)
  · rw [ch_out hl]; omega

/-- The next node of a way, by a choice. -/
def goP (c : Cfg) (b : Int) (m ch : Int) : Int := (besideP c m (chooseP c m b ch).1).1
def wayGo (c : Cfg) (b : Int) (ch : List Int) : Nat → Int → Nat → List Int
  | 0, _, _ => []
  | f + 1, m, i => goP c b m (chAt ch i) :: wayGo c b ch f (goP c b m (chAt ch i)) (i + 1)
def wayP (c : Cfg) (a b : Int) (ch : List Int) : List Int := if isB c a = true ∧ isB c b = true then a :: wayGo c b ch (farP c a b).toNat a 0 else []
theorem go_of {c : Cfg} {a b p m ch : Int} (h : chooseP c a b ch = (p, true)) (g : Go1 c a b p m) : goP c b a ch = m := by
  unfold goP; rw [h, g.st]
theorem way_no {c : Cfg} {a b : Int} {ch : List Int} (h : ¬ (isB c a = true ∧ isB c b = true)) : wayP c a b ch = [] := by unfold wayP; rw [if_neg h]
theorem way_yes {c : Cfg} {a b : Int} {ch : List Int} (ha : isB c a = true) (hb : isB c b = true) : wayP c a b ch = a :: wayGo c b ch (farP c a b).toNat a 0 := by unfold wayP; rw [if_pos ⟨ha, hb⟩]
theorem wayGo_len (c : Cfg) (b : Int) (ch : List Int) (f : Nat) (m : Int) (i : Nat) : (wayGo c b ch f m i).length = f := by
  induction f generalizing m i with
  | zero => rfl
  | succ f ih => rw [wayGo, List.length_cons, ih]
theorem way_len {c : Cfg} {a b : Int} {ch : List Int} (ha : isB c a = true) (hb : isB c b = true) : (wayP c a b ch).length = (farP c a b).toNat + 1 := by
  rw [way_yes ha hb, List.length_cons, wayGo_len]
/-- One step of a way. -/
theorem way_step {c : Cfg} {m b p m2 : Int} {chs : List Int} {i : Nat} (hm : isB c m = true) (hb : isB c b = true) (h : chooseP c m b (chAt chs i) = (p, true)) (g : Go1 c m b p m2) :
    wayGo c b chs (farP c m b).toNat m i = m2 :: wayGo c b chs (farP c m2 b).toNat m2 (i + 1) := by
  have h1 := g.far
  have h2 := far_bd (step_of g.st).vm hb
  obtain ⟨f, hf⟩ : ∃ f : Nat, (farP c m b).toNat = f + 1 := ⟨(farP c m b).toNat - 1, by omega⟩
  rw [hf, wayGo, go_of h g, show (farP c m2 b).toNat = f from by omega]

/-- Neighbours all along, by ports. -/
structure Adj (c : Cfg) (ws ps : List Int) : Prop where
  len : ws.length = ps.length + 1
  st : ∀ (i : Nat) (x y p : Int), ws[i]? = some x → ws[i + 1]? = some y → ps[i]? = some p → besideP c x p = (y, true) ∧ 1 ≤ p ∧ p ≤ 4
/-- Allowed turns all along. -/
def Tn (ps : List Int) : Prop := ∀ (i : Nat) (p q : Int), ps[i]? = some p → ps[i + 1]? = some q → allowP p q = true
theorem wayGo_adj {c : Cfg} {b : Int} (ch : List Int) (hb : isB c b = true) (f : Nat) : ∀ (m l : Int) (i : Nat), isB c m = true → farP c m b = (f : Int) → Lst c b l m →
    ∃ ps, Adj c (m :: wayGo c b ch f m i) ps ∧ Tn (l :: ps) ∧ (m :: wayGo c b ch f m i)[f]? = some b := by
  induction f with
  | zero =>
    intro m l i hm hf hl
    have := (far_zero hm hb).1 hf
    subst this
    exact ⟨[], ⟨rfl, fun i x y p h1 h2 h3 => by simp at h3⟩, fun i p q h1 h2 => by simp at h2, rfl⟩
  | succ f ih =>
    intro m l i hm hf hl
    have hne : m ≠ b := fun h => by have := (far_zero hm hb).2 h; omega
    obtain ⟨p, m2, hch, hg⟩ := go_any (chAt ch i) hm hb hne
    have hf2 := hg.far
    obtain ⟨ps, had, htn, hla⟩ := ih m2 p (i + 1) (step_of hg.st).vm (by omega) (lst_step hg)
    rw [wayGo, go_of hch hg]
    refine ⟨p :: ps, ⟨by have := had.len; simp at this ⊢; omega, fun j x y q h1 h2 h3 => ?_⟩, fun j u v h1 h2 => ?_, by simpa using hla⟩
    · rcases j with _ | j
      · simp at h1 h2 h3
        subst h1 h2 h3
        exact ⟨hg.st, hg.p1, hg.p4⟩
      · exact had.st j x y q (by simpa using h1) (by simpa using h2) (by simpa using h3)
    · rcases j with _ | j
      · simp at h1 h2
        subst h1 h2
        exact lst_allow hl hg
      · exact htn j u v (by simpa using h1) (by simpa using h2)
theorem lst_0 (c : Cfg) (b m : Int) : Lst c b 0 m := ⟨by omega, by omega, by omega, by omega, by omega, by omega⟩
theorem way_adj {c : Cfg} {a b : Int} (ch : List Int) (ha : isB c a = true) (hb : isB c b = true) : ∃ ps, Adj c (wayP c a b ch) ps ∧ Tn ps ∧ (wayP c a b ch)[(farP c a b).toNat]? = some b := by
  have hf := far_bd ha hb
  obtain ⟨ps, h1, h2, h3⟩ := wayGo_adj ch hb (farP c a b).toNat a 0 0 ha (by omega) (lst_0 c b a)
  rw [way_yes ha hb]
  exact ⟨ps, h1, fun i p q hp hq => h2 (i + 1) p q (by simpa using hp) (by simpa using hq), h3⟩

/-- Only choices ahead of the way's end matter. -/
theorem wayGo_ch {c : Cfg} {b : Int} {ch ch' : List Int} (f : Nat) : ∀ (m : Int) (i : Nat), (∀ j, j < f → chAt ch (i + j) = chAt ch' (i + j)) → wayGo c b ch f m i = wayGo c b ch' f m i := by
  induction f with
  | zero => intro m i _; rfl
  | succ f ih =>
    intro m i h
    have h0 : chAt ch i = chAt ch' i := by simpa using h 0 (by omega)
    rw [wayGo, wayGo, h0, ih _ (i + 1) (fun j hj => by have := h (j + 1) (by omega); rw [show i + 1 + j = i + (j + 1) from by omega]; exact this)]
theorem way_cut {c : Cfg} {a b : Int} {ch : List Int} (ha : isB c a = true) (hb : isB c b = true) (n : Nat) (hn : n = min (wayP c a b ch).length ch.length) : wayP c a b (ch.take n) = wayP c a b ch := by
  rw [way_len ha hb] at hn
  rw [way_yes ha hb, way_yes ha hb, wayGo_ch (ch := ch.take n) (ch' := ch)]
  intro j hj
  rw [Nat.zero_add]
  rcases Nat.lt_or_ge j n with h | h
  · unfold chAt List.getD; rw [List.getElem?_take_of_lt h]
  · rw [ch_out (by rw [List.length_take]; omega), ch_out (by omega)]
theorem wayGo_xf {c : Cfg} {b : Int} {ch ch' : List Int} (hb : isB c b = true) (f : Nat) : ∀ (m : Int) (i i' : Nat), isB c m = true → farP c m b = (f : Int) → wayGo (xf c) b ch f m i = wayGo (xf c) b ch' f m i' := by
  induction f with
  | zero => intro m i i' _ _; rfl
  | succ f ih =>
    intro m i i' hm hf
    have hne : m ≠ b := fun h => by have := (far_zero hm hb).2 h; omega
    obtain ⟨m2, hg⟩ := go_x (c := xf c) hm hb hne
    have e1 : goP (xf c) b m (chAt ch i) = m2 := go_of (choose_xf _ hm hb) hg
    have e2 : goP (xf c) b m (chAt ch' i') = m2 := go_of (choose_xf _ hm hb) hg
    have hf2 := hg.far
    rw [wayGo, wayGo, e1, e2, ih m2 (i + 1) (i' + 1) (step_of hg.st).vm (by have h3 : farP (xf c) m b = farP c m b := rfl; have h4 : farP (xf c) m2 b = farP c m2 b := rfl; omega)]
theorem way_xf {c : Cfg} {a b : Int} (ch ch' : List Int) (ha : isB c a = true) (hb : isB c b = true) : wayP (xf c) a b ch = wayP (xf c) a b ch' := by
  have hf := far_bd ha hb
  rw [way_yes (c := xf c) ha hb, way_yes (c := xf c) ha hb, wayGo_xf hb _ a 0 0 ha (by have h3 : farP (xf c) a b = farP c a b := rfl; omega)]

/-- A step's port is told by its ends. -/
theorem port_one {c : Cfg} {m n p q : Int} (hp : besideP c m p = (n, true)) (hq : besideP c m q = (n, true)) (p1 : 1 ≤ p) (q1 : 1 ≤ q) : q = p := by
  have h1 := step_of hp
  have h2 := step_of hq
  have hx := h1.x.symm.trans h2.x
  have hy := h1.y.symm.trans h2.y
  have hp' : p = 1 ∨ p = 2 ∨ p = 3 ∨ p = 4 := by have := h1.p4; omega
  have hq' : q = 1 ∨ q = 2 ∨ q = 3 ∨ q = 4 := by have := h2.p4; omega
  rcases hp' with rfl | rfl | rfl | rfl <;> rcases hq' with rfl | rfl | rfl | rfl
  all_goals first | rfl | (exfalso; simp only [dxP, dyP] at hx hy; simp at hx hy; omega) | (exfalso; simp only [dxP, dyP] at hx hy; simp at hx hy)
theorem ports_mem {c : Cfg} {m n p : Int} (h : besideP c m p = (n, true)) (p1 : 1 ≤ p) (p4 : p ≤ 4) : p ∈ portsP c m := by
  unfold portsP plP
  rw [List.mem_filter]
  refine ⟨?_, by rw [h]⟩
  rw [List.mem_map]
  exact ⟨(p - 1).toNat, by rw [List.mem_range]; omega, by omega⟩
theorem ports_is {c : Cfg} {m q : Int} (h : q ∈ portsP c m) : 1 ≤ q ∧ q ≤ 4 ∧ ∃ n, besideP c m q = (n, true) := by
  unfold portsP plP at h
  rw [List.mem_filter, List.mem_map] at h
  obtain ⟨⟨k, hk, rfl⟩, h2⟩ := h
  rw [List.mem_range] at hk
  refine ⟨by omega, by omega, (besideP c m ((k : Int) + 1)).1, ?_⟩
  rcases hb : besideP c m ((k : Int) + 1) with ⟨x, b⟩
  rw [hb] at h2
  simp at h2
  subst h2; rfl

/-- The way back. -/
theorem adj_back {c : Cfg} {ws ps : List Int} (h : Adj c ws ps) : Adj c ws.reverse ((ps.map backP).reverse) := by
  have hl := h.len
  refine ⟨by simp; omega, fun i x y p h1 h2 h3 => ?_⟩
  have hi : i < ps.length := by
    rcases Nat.lt_or_ge i ps.length with h4 | h4
    · exact h4
    · rw [List.getElem?_eq_none (by simp; omega)] at h3; cases h3
  rw [List.getElem?_reverse (by omega)] at h1 h2
  rw [List.getElem?_reverse (by simpa using hi), List.length_map, List.getElem?_map] at h3
  obtain ⟨q, hq, rfl⟩ : ∃ q, ps[ps.length - 1 - i]? = some q ∧ backP q = p := by
    rcases hq : ps[ps.length - 1 - i]? with _ | q
    · rw [hq] at h3; cases h3
    · rw [hq] at h3; exact ⟨q, rfl, by injection h3⟩
  rw [show ws.length - 1 - i = ps.length - 1 - i + 1 from by omega] at h1
  rw [show ws.length - 1 - (i + 1) = ps.length - 1 - i from by omega] at h2
  obtain ⟨s1, s2, s3⟩ := h.st _ _ _ _ h2 h1 hq
  refine ⟨(step_of s1).back, ?_, (back_bd (by omega) s3).2⟩
  unfold backP; repeat' split
  all_goals omega

/-- A channel's rank. -/
def rankP (c : Cfg) (n p : Int) : Int :=
  if p = 2 then c.W - 1 - n % c.W
  else if p = 3 then c.W + 2 * (n % c.W) * c.H + n / c.W
  else if p = 4 then c.W + 2 * (n % c.W) * c.H + c.H - 1 - n / c.W
  else c.W + 2 * (n % c.W) * c.H + c.H
theorem rank_up {c : Cfg} {m n k p q : Int} (h1 : besideP c m p = (n, true)) (h2 : besideP c n q = (k, true)) (p1 : 1 ≤ p) (q1 : 1 ≤ q) (ht : allowP p q = true) : rankP c m p < rankP c n q := by
  have s1 := step_of h1
  have s2 := step_of h2
  have i1 := inn s1.vn
  have i2 := inn s1.vm
  have i3 := inn s2.vm
  have hx := s1.x
  have hy := s1.y
  have hx2 := s2.x
  have hy2 := s2.y
  have hH := (chk_okc (isB_chk s1.vn)).H1
  have x0 := i1.x0
  have x1 := i1.x1
  have y0 := i1.y0
  have y1 := i1.y1
  have nx0 := i2.x0
  have nx1 := i2.x1
  have ny0 := i2.y0
  have ny1 := i2.y1
  have kx0 := i3.x0
  have kx1 := i3.x1
  have ky0 := i3.y0
  have ky1 := i3.y1
  obtain ⟨u, hu⟩ : ∃ u, 2 * (m % c.W) * c.H = u := ⟨_, rfl⟩
  have u0 : 0 ≤ 2 * (n % c.W) * c.H := Int.mul_nonneg (by omega) (by omega)
  unfold rankP
  have hp' : p = 1 ∨ p = 2 ∨ p = 3 ∨ p = 4 := by have := s1.p4; omega
  have hq' : q = 1 ∨ q = 2 ∨ q = 3 ∨ q = 4 := by have := s2.p4; omega
  rcases hp' with rfl | rfl | rfl | rfl
  · have hn : 2 * (n % c.W) * c.H = u + 2 * c.H := by
      rw [hx, show dxP 1 = 1 from rfl, show 2 * (m % c.W + 1) = 2 * (m % c.W) + 2 from by omega, Int.add_mul, hu]
    rcases hq' with rfl | rfl | rfl | rfl
    · simp [hu, hn]; omega
    · exact absurd ht (by decide)
    · simp [hu, hn]; omega
    · simp [hu, hn]; omega
  · rw [show dxP 2 = -1 from rfl] at hx
    rcases hq' with rfl | rfl | rfl | rfl
    · simp; omega
    · simp; omega
    · simp; omega
    · simp; omega
  · rw [show dxP 3 = 0 from rfl, Int.add_zero] at hx
    rw [show dyP 3 = 1 from rfl] at hy
    rw [hx, hu] at u0
    rcases hq' with rfl | rfl | rfl | rfl
    · simp [hx, hu]; omega
    · exact absurd ht (by decide)
    · simp [hx, hu]; omega
    · exact absurd ht (by decide)
  · rw [show dxP 4 = 0 from rfl, Int.add_zero] at hx
    rw [show dyP 4 = -1 from rfl] at hy
    rw [hx, hu] at u0
    rcases hq' with rfl | rfl | rfl | rfl
    · simp [hx, hu]; omega
    · exact absurd ht (by decide)
    · exact absurd ht (by decide)
    · simp [hx, hu]; omega

end Go.Proofs.Ytnbogjiddildaaa

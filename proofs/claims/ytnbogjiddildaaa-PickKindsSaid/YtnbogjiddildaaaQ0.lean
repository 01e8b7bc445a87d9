/- Slices of parts; contracts of the reference's Row and Count of layer 18. -/
import Derived.Test.YtnbogjiddildaaaI
import Derived.Test.YtnbogjiddildaaaP5
import Derived.Test.YtnbogjiddildaaaP3
namespace Go.Proofs.Ytnbogjiddildaaa
open Go.RowKit
set_option linter.unusedSimpArgs false
set_option linter.unusedVariables false

/-- The slice value v is a row of the call's own, from block base on: it holds the parts xs. -/
def cells4 (xs : List Prt) : List Value := xs.flatMap fun p => [.int .i64 p.k, .int .i64 p.n, .int .i64 p.p, .int .i64 p.l]
def Row4 (W : World) (base : Nat) (v : Value) (xs : List Prt) : Prop := W.ownsRow base 50 4 v xs.length (cells4 xs)
theorem info50 : (Try.prog.info? 50).map (fun i => (i.zero, i.size, i.bytes)) = some (some (.agg #[.int .i64 0, .int .i64 0, .int .i64 0, .int .i64 0]), 4, 32) := by kernel_rfl
theorem Row4.nil_ (W : World) (base : Nat) : Row4 W base (.slice none 0 0) [] := World.ownsRow_nil W base 50 4
theorem Row4.alloc {W : World} {base : Nat} {v : Value} {xs : List Prt} (h : Row4 W base v xs) (o : Obj) : Row4 (W.alloc o) base v xs := World.ownsRow.alloc h o
theorem Row4.drew {W : World} {base : Nat} {v : Value} {xs : List Prt} (h : Row4 W base v xs) : Row4 W.drew base v xs := h
theorem Row4.below {W W' : World} {base : Nat} {v : Value} {xs : List Prt} (h : Row4 W base v xs) (hb : Below W.heap.size W W') : Row4 W' base v xs := owns_below h hb
theorem Row4.mono {W : World} {base base' : Nat} {v : Value} {xs : List Prt} (h : Row4 W base v xs) (hb : base' ≤ base) : Row4 W base' v xs := owns_mono h hb
theorem Row4.lt {W : World} {base : Nat} {v : Value} {xs : List Prt} (h : Row4 W base v xs) : ∀ k, v.ownBlock = some k → base ≤ k ∧ k < W.heap.size := World.ownsRow.lt h
theorem cells4_len (xs : List Prt) : (cells4 xs).length = xs.length * 4 := by
  induction xs with
  | nil => rfl
  | cons x xs ih => simp [cells4] at *; omega
theorem cells4_append (xs ys : List Prt) : cells4 (xs ++ ys) = cells4 xs ++ cells4 ys := by simp [cells4]
theorem cells4_at {xs : List Prt} {k : Nat} {p : Prt} (h : xs[k]? = some p) : (cells4 xs)[k * 4]? = some (.int .i64 p.k) ∧ (cells4 xs)[k * 4 + 1]? = some (.int .i64 p.n) ∧ (cells4 xs)[k * 4 + 2]? = some (.int .i64 p.p) ∧ (cells4 xs)[k * 4 + 3]? = some (.int .i64 p.l) := by
  induction xs generalizing k with
  | nil => simp at h
  | cons x xs ih =>
    rcases k with _ | k
    · simp at h; subst h; exact ⟨rfl, rfl, rfl, rfl⟩
    · have h' : xs[k]? = some p := by simpa using h
      have := ih h'
      rw [show (k + 1) * 4 = k * 4 + 1 + 1 + 1 + 1 from by omega]
      exact ⟨this.1, this.2.1, this.2.2.1, this.2.2.2⟩
/-- A slice value that reads as the parts xs (nil too). -/
def Rd4 (W : World) (A : Option Addr) (xs : List Prt) : Prop :=
  0 < xs.length → ∃ g off, A = some ⟨g, off, none⟩ ∧ g < W.heap.size ∧ ∀ (j : Nat) (u : Prt), xs[j]? = some u → W.cell? ⟨g, off + j * 4, none⟩ = some (.int .i64 u.k) ∧ W.cell? ⟨g, off + j * 4 + 1, none⟩ = some (.int .i64 u.n) ∧ W.cell? ⟨g, off + j * 4 + 2, none⟩ = some (.int .i64 u.p) ∧ W.cell? ⟨g, off + j * 4 + 3, none⟩ = some (.int .i64 u.l)
theorem Rd4.below {W W' : World} {A : Option Addr} {xs : List Prt} (h : Rd4 W A xs) (hb : Below W.heap.size W W') : Rd4 W' A xs := fun hn => by
  obtain ⟨g, off, e, hg, hc⟩ := h hn
  have := hb.size
  refine ⟨g, off, e, by omega, fun j u hu => ?_⟩
  have hk := fun o => hb.cell (p := ⟨g, o, none⟩) hg
  simp only [hk]
  exact hc j u hu
theorem Rd4.drewN {W : World} {A : Option Addr} {xs : List Prt} (h : Rd4 W A xs) (q : Nat) : Rd4 (W.drewN q) A xs := h
theorem Row4.rd {W : World} {base : Nat} {v : Value} {xs : List Prt} (h : Row4 W base v xs) : ∃ A cap, v = .slice A xs.length cap ∧ xs.length ≤ cap ∧ cap ≤ maxLen ∧ Rd4 W A xs := by
  obtain ⟨h1, h2⟩ := h
  rcases h2 with ⟨e, e0⟩ | ⟨g, cap, cur, e, hg, hh, hn, hm, hs, ht⟩
  · exact ⟨none, 0, by rw [e, e0], by omega, by omega, fun hn => absurd hn (by omega)⟩
  · refine ⟨some ⟨g, 0, none⟩, cap, e, hn, hm, fun _ => ⟨g, 0, rfl, ?_, ?_⟩⟩
    · rcases Nat.lt_or_ge g W.heap.size with h | h
      · exact h
      · rw [Array.getElem?_eq_none h] at hh; cases hh
    · intro j u hu
      have hown : W.ownsRow base 50 4 v xs.length (cells4 xs) := ⟨h1, .inr ⟨g, cap, cur, e, hg, hh, hn, hm, hs, ht⟩⟩
      have hj : j < xs.length := by
        rcases Nat.lt_or_ge j xs.length with h | h
        · exact h
        · rw [List.getElem?_eq_none h] at hu; cases hu
      subst e
      rw [Nat.zero_add]
      have hc := cells4_at hu
      exact ⟨(World.ownsRow.cellAt hown (j * 4) (by omega)).trans hc.1, (World.ownsRow.cellAt hown (j * 4 + 1) (by omega)).trans hc.2.1, (World.ownsRow.cellAt hown (j * 4 + 2) (by omega)).trans hc.2.2.1, (World.ownsRow.cellAt hown (j * 4 + 3) (by omega)).trans hc.2.2.2⟩

theorem wpList_app4 {ops : Array Oper} {rest : List Oper} {o : Oper} {a : Act} {Q : Exit → Act → World → Prop} {W : World} (hgd : o.guard = none) (s x : Operand)
    (ho : o.op = .call { callee := .builtin .append, args := #[s, x], argTypes := #[59, 59] })
    (base : Nat) (v : Value) (xs : List Prt) (hs : a.eval s = v) (g : Nat) (hx : a.eval x = .slice (some ⟨g, 0, none⟩) 1 1) (y : Prt)
    (hown : Row4 W base v xs) (hc0 : W.cell? ⟨g, 0, none⟩ = some (.int .i64 y.k)) (hc1 : W.cell? ⟨g, 1, none⟩ = some (.int .i64 y.n)) (hc2 : W.cell? ⟨g, 2, none⟩ = some (.int .i64 y.p)) (hc3 : W.cell? ⟨g, 3, none⟩ = some (.int .i64 y.l)) (hlen : xs.length ≤ 1000000) (hbase : base ≤ W.heap.size)
    (h : ∀ v' W', Row4 W' base v' (xs ++ [y]) → W.grownBy W' v.ownBlock → wpList Try.prog ops Q rest (a.put o.dst v') W') : wpList Try.prog ops Q (o :: rest) a W := by
  obtain ⟨i0, hi0, hz0, hz1, hz2⟩ := info_parts info50
  refine wpList_append_own W hgd s x 59 ho base 50 i0 (.agg #[.int .i64 0, .int .i64 0, .int .i64 0, .int .i64 0]) 4 32 Try.underlying59 hi0 hz0 hz1 hz2 rfl (by decide) v xs.length _ hs hown ⟨g, 0, none⟩ 1 1 (cells4 [y]) hx rfl ?_ ?_ ?_ ?_ hbase ?_
  · intro j u hu
    rcases j with _ | _ | _ | _ | j
    · simp [cells4] at hu; subst hu; exact hc0
    · simp [cells4] at hu; subst hu; simpa [Addr.add] using hc1
    · simp [cells4] at hu; subst hu; simpa [Addr.add] using hc2
    · simp [cells4] at hu; subst hu; simpa [Addr.add] using hc3
    · simp [cells4] at hu
  · intro u hu; simp [cells4] at hu; rcases hu with rfl | rfl | rfl | rfl <;> rfl
  · unfold maxLen; omega
  · omega
  · intro v' W' h1 h2 _
    refine h v' W' ?_ h2
    unfold Row4
    rw [List.length_append, cells4_append]
    exact h1
theorem wpList_app4b {ops : Array Oper} {rest : List Oper} {o : Oper} {a : Act} {Q : Exit → Act → World → Prop} {W : World} (hgd : o.guard = none) (s x : Operand)
    (ho : o.op = .call { callee := .builtin .append, args := #[s, x], argTypes := #[59, 59] })
    (base : Nat) (v : Value) (xs : List Prt) (hs : a.eval s = v) (g : Nat) (hx : a.eval x = .slice (some ⟨g, 0, none⟩) 2 2) (y z : Prt)
    (hown : Row4 W base v xs) (hc0 : W.cell? ⟨g, 0, none⟩ = some (.int .i64 y.k)) (hc1 : W.cell? ⟨g, 1, none⟩ = some (.int .i64 y.n)) (hc2 : W.cell? ⟨g, 2, none⟩ = some (.int .i64 y.p)) (hc3 : W.cell? ⟨g, 3, none⟩ = some (.int .i64 y.l))
    (hc4 : W.cell? ⟨g, 4, none⟩ = some (.int .i64 z.k)) (hc5 : W.cell? ⟨g, 5, none⟩ = some (.int .i64 z.n)) (hc6 : W.cell? ⟨g, 6, none⟩ = some (.int .i64 z.p)) (hc7 : W.cell? ⟨g, 7, none⟩ = some (.int .i64 z.l)) (hlen : xs.length ≤ 1000000) (hbase : base ≤ W.heap.size)
    (h : ∀ v' W', Row4 W' base v' (xs ++ [y, z]) → W.grownBy W' v.ownBlock → wpList Try.prog ops Q rest (a.put o.dst v') W') : wpList Try.prog ops Q (o :: rest) a W := by
  obtain ⟨i0, hi0, hz0, hz1, hz2⟩ := info_parts info50
  refine wpList_append_own W hgd s x 59 ho base 50 i0 (.agg #[.int .i64 0, .int .i64 0, .int .i64 0, .int .i64 0]) 4 32 Try.underlying59 hi0 hz0 hz1 hz2 rfl (by decide) v xs.length _ hs hown ⟨g, 0, none⟩ 2 2 (cells4 [y, z]) hx rfl ?_ ?_ ?_ ?_ hbase ?_
  · intro j u hu
    rcases j with _ | _ | _ | _ | _ | _ | _ | _ | j
    · simp [cells4] at hu; subst hu; exact hc0
    · simp [cells4] at hu; subst hu; simpa [Addr.add] using hc1
    · simp [cells4] at hu; subst hu; simpa [Addr.add] using hc2
    · simp [cells4] at hu; subst hu; simpa [Addr.add] using hc3
    · simp [cells4] at hu; subst hu; simpa [Addr.add] using hc4
    · simp [cells4] at hu; subst hu; simpa [Addr.add] using hc5
    · simp [cells4] at hu; subst hu; simpa [Addr.add] using hc6
    · simp [cells4] at hu; subst hu; simpa [Addr.add] using hc7
    · simp [cells4] at hu
  · intro u hu; simp [cells4] at hu; rcases hu with rfl | rfl | rfl | rfl | rfl | rfl | rfl | rfl <;> rfl
  · unfold maxLen; omega
  · omega
  · intro v' W' h1 h2 _
    refine h v' W' ?_ h2
    unfold Row4
    rw [List.length_append, cells4_append]
    exact h1

theorem keepGw {c : Cfg} {g base : Nat} {w W W' : World} {u : Option Nat} (hg : W.grownBy W' u) (hr : ∀ k, u = some k → base ≤ k ∧ k < W.heap.size) (hb : g < base) (hw : w.heap.size ≤ base) (h : W.cell? ⟨g, 0, none⟩ = some (.int .i64 c.W) ∧ W.cell? ⟨g, 1, none⟩ = some (.int .i64 c.H) ∧ W.cell? ⟨g, 2, none⟩ = some (.int .i64 c.L) ∧ W.cell? ⟨g, 3, none⟩ = some (.int .i64 c.D) ∧ W.cell? ⟨g, 4, none⟩ = some (.int .i64 c.R) ∧ W.cell? ⟨g, 5, none⟩ = some (.int .i64 c.I) ∧ W.cell? ⟨g, 6, none⟩ = some (.int .i64 c.B) ∧ W.cell? ⟨g, 7, none⟩ = some (.bool c.ws) ∧ W.cell? ⟨g, 8, none⟩ = some (.bool c.cs) ∧ g < W.heap.size ∧ Below w.heap.size w W) : W'.cell? ⟨g, 0, none⟩ = some (.int .i64 c.W) ∧ W'.cell? ⟨g, 1, none⟩ = some (.int .i64 c.H) ∧ W'.cell? ⟨g, 2, none⟩ = some (.int .i64 c.L) ∧ W'.cell? ⟨g, 3, none⟩ = some (.int .i64 c.D) ∧ W'.cell? ⟨g, 4, none⟩ = some (.int .i64 c.R) ∧ W'.cell? ⟨g, 5, none⟩ = some (.int .i64 c.I) ∧ W'.cell? ⟨g, 6, none⟩ = some (.int .i64 c.B) ∧ W'.cell? ⟨g, 7, none⟩ = some (.bool c.ws) ∧ W'.cell? ⟨g, 8, none⟩ = some (.bool c.cs) ∧ g < W'.heap.size ∧ Below w.heap.size w W' := by
  obtain ⟨h0, h1, h2, h3, h4, h5, h6, h7, h8, hl, hB⟩ := h
  have hs := hg.size
  have hne : some g ≠ u := fun e => by have := (hr g e.symm).1; omega
  have hcell : ∀ i u, W.cell? ⟨g, i, none⟩ = some u → W'.cell? ⟨g, i, none⟩ = some u := fun i u hu => hg.cell hu hne
  refine ⟨hcell _ _ h0, hcell _ _ h1, hcell _ _ h2, hcell _ _ h3, hcell _ _ h4, hcell _ _ h5, hcell _ _ h6, hcell _ _ h7, hcell _ _ h8, by omega, hB.grown hg hB.size fun k hk => ?_⟩
  have := (hr k hk).1
  omega

/-- The first m parts of a node's row. -/
def preP (c : Cfg) (n : Int) (m : Nat) : List Prt := (List.range m).map fun i : Nat => prt n (kpl c.L i)
theorem pre_len (c : Cfg) (n : Int) (m : Nat) : (preP c n m).length = m := by unfold preP; simp
theorem pre_succ (c : Cfg) (n : Int) (m : Nat) : preP c n (m + 1) = preP c n m ++ [prt n (kpl c.L m)] := by unfold preP; rw [List.range_succ, List.map_append]; rfl
theorem pre_row {c : Cfg} {n : Int} (h : isB c n = true) : preP c n (10 * c.L.toNat + 15) = rowP c n := by
  have hl := toNat_L (isB_chk h)
  unfold rowP preP
  rw [if_pos h, row0_is _ hl.1 hl.2.1, List.map_map]
  refine List.map_congr_left fun i _ => ?_
  simp only [Function.comp]
  rw [hl.2.2]
theorem kpl_lo {L : Int} {k p l : Nat} (hk : k < 2) (hp : p < 5) (hl : (l : Int) < L) : kpl L ((k * (5 * L.toNat) + p * L.toNat + l : Nat) : Int) = ((k : Int), (p : Int), (l : Int)) := by
  have e0 : ((k * (5 * L.toNat) + p * L.toNat + l : Nat) : Int) - (k : Int) * (5 * L) = (p : Int) * L + l := by
    have hp : p = 0 ∨ p = 1 ∨ p = 2 ∨ p = 3 ∨ p = 4 := by omega
    have hk : k = 0 ∨ k = 1 := by omega
    rcases hk with rfl | rfl <;> rcases hp with rfl | rfl | rfl | rfl | rfl <;> simp <;> omega
  have e1 : 0 ≤ (p : Int) * L ∧ (p : Int) * L + L ≤ 5 * L := by
    have hp : p = 0 ∨ p = 1 ∨ p = 2 ∨ p = 3 ∨ p = 4 := by omega
    rcases hp with rfl | rfl | rfl | rfl | rfl <;> simp <;> omega
  have hxy := @node_xy L l p (by omega) hl
  have hk' : k = 0 ∨ k = 1 := by omega
  generalize ((k * (5 * L.toNat) + p * L.toNat + l : Nat) : Int) = m at e0
  generalize (p : Int) * L = q at e0 e1 hxy
  unfold kpl
  rcases hk' with rfl | rfl
  · simp at e0
    rw [if_pos (by omega), e0, hxy.1, hxy.2]; rfl
  · simp at e0
    rw [if_neg (by omega), if_pos (by omega), e0, hxy.1, hxy.2]; rfl
theorem pre_lo (c : Cfg) (n : Int) {k p l : Nat} (hk : k < 2) (hp : p < 5) (hl : (l : Int) < c.L) : preP c n (k * (5 * c.L.toNat) + p * c.L.toNat + (l + 1)) = preP c n (k * (5 * c.L.toNat) + p * c.L.toNat + l) ++ [⟨k, n, p, l⟩] := by
  rw [← Nat.add_assoc, pre_succ, kpl_lo hk hp hl]; rfl
theorem kpl_hi {L : Int} (hL : 1 ≤ L) {m : Nat} : (m < 5 → kpl L ((10 * L.toNat + m : Nat) : Int) = (2, (m : Int), 0)) ∧ (m = 5 → kpl L ((10 * L.toNat + m : Nat) : Int) = (3, 0, 0)) ∧ (m = 6 → kpl L ((10 * L.toNat + m : Nat) : Int) = (4, 0, 0)) ∧ (7 ≤ m → m < 11 → kpl L ((10 * L.toNat + m : Nat) : Int) = (5, (m : Int) - 6, 0)) ∧ (11 ≤ m → m < 15 → kpl L ((10 * L.toNat + m : Nat) : Int) = (6, (m : Int) - 10, 0)) := by
  unfold kpl
  refine ⟨fun h => ?_, fun h => ?_, fun h => ?_, fun h h' => ?_, fun h h' => ?_⟩
  · rw [if_neg (by omega), if_neg (by omega), if_pos (by omega), show ((10 * L.toNat + m : Nat) : Int) - 10 * L = m from by omega]
  · rw [if_neg (by omega), if_neg (by omega), if_neg (by omega), if_pos (by omega)]
  · rw [if_neg (by omega), if_neg (by omega), if_neg (by omega), if_neg (by omega), if_pos (by omega)]
  · rw [if_neg (by omega), if_neg (by omega), if_neg (by omega), if_neg (by omega), if_neg (by omega), if_pos (by omega), show ((10 * L.toNat + m : Nat) : Int) - (10 * L + 7) + 1 = (m : Int) - 6 from by omega]
  · rw [if_neg (by omega), if_neg (by omega), if_neg (by omega), if_neg (by omega), if_neg (by omega), if_neg (by omega), show ((10 * L.toNat + m : Nat) : Int) - (10 * L + 11) + 1 = (m : Int) - 10 from by omega]
theorem pre_mv (c : Cfg) (n : Int) (hL : 1 ≤ c.L) {p : Nat} (hp : p < 5) : preP c n (10 * c.L.toNat + (p + 1)) = preP c n (10 * c.L.toNat + p) ++ [⟨2, n, p, 0⟩] := by
  rw [← Nat.add_assoc, pre_succ, (kpl_hi hL).1 hp]; rfl
theorem pre_pt (c : Cfg) (n : Int) (hL : 1 ≤ c.L) : preP c n (10 * c.L.toNat + 7) = preP c n (10 * c.L.toNat + 5) ++ [⟨3, n, 0, 0⟩, ⟨4, n, 0, 0⟩] := by
  rw [show 10 * c.L.toNat + 7 = (10 * c.L.toNat + 5) + 1 + 1 from by omega, pre_succ, pre_succ, (kpl_hi hL).2.1 rfl, show 10 * c.L.toNat + 5 + 1 = 10 * c.L.toNat + 6 from by omega, (kpl_hi hL).2.2.1 rfl, List.append_assoc]; rfl
theorem pre_cc (c : Cfg) (n : Int) (hL : 1 ≤ c.L) {k p : Nat} (hk : k < 2) (hp : p < 4) : preP c n (10 * c.L.toNat + 7 + k * 4 + (p + 1)) = preP c n (10 * c.L.toNat + 7 + k * 4 + p) ++ [⟨(k : Int) + 5, n, (p : Int) + 1, 0⟩] := by
  rw [← Nat.add_assoc, pre_succ]
  have hk' : k = 0 ∨ k = 1 := by omega
  rcases hk' with rfl | rfl
  · rw [show 10 * c.L.toNat + 7 + 0 * 4 + p = 10 * c.L.toNat + (7 + p) from by omega, (kpl_hi hL).2.2.2.1 (by omega) (by omega)]
    unfold prt
    rw [show (((7 + p : Nat) : Int)) - 6 = (p : Int) + 1 from by omega]; rfl
  · rw [show 10 * c.L.toNat + 7 + 1 * 4 + p = 10 * c.L.toNat + (11 + p) from by omega, (kpl_hi hL).2.2.2.2 (by omega) (by omega)]
    unfold prt
    rw [show (((11 + p : Nat) : Int)) - 10 = (p : Int) + 1 from by omega]; rfl
theorem m_bd {k p l L : Nat} (hk : k < 2) (hp : p < 5) (hl : l ≤ L) (hL : L ≤ 8) : k * (5 * L) + p * L + l ≤ 1000 := by
  have h1 := Nat.mul_le_mul (show k ≤ 1 by omega) (show 5 * L ≤ 40 by omega)
  have h2 := Nat.mul_le_mul (show p ≤ 4 by omega) hL
  omega
structure RelRow (c : Cfg) (n : Int) (w : World) (v : Value) (W : World) (m : Nat) : Prop where
  row : Row4 W (w.heap.size + 1) v (preP c n m)
  s : W.cell? ⟨w.heap.size, 0, none⟩ = some (.int .i64 c.W) ∧ W.cell? ⟨w.heap.size, 1, none⟩ = some (.int .i64 c.H) ∧ W.cell? ⟨w.heap.size, 2, none⟩ = some (.int .i64 c.L) ∧ W.cell? ⟨w.heap.size, 3, none⟩ = some (.int .i64 c.D) ∧ W.cell? ⟨w.heap.size, 4, none⟩ = some (.int .i64 c.R) ∧ W.cell? ⟨w.heap.size, 5, none⟩ = some (.int .i64 c.I) ∧ W.cell? ⟨w.heap.size, 6, none⟩ = some (.int .i64 c.B) ∧ W.cell? ⟨w.heap.size, 7, none⟩ = some (.bool c.ws) ∧ W.cell? ⟨w.heap.size, 8, none⟩ = some (.bool c.cs) ∧ w.heap.size < W.heap.size ∧ Below w.heap.size w W

set_option maxHeartbeats 1000000 in
set_option maxRecDepth 20000 in
theorem f53_neg (c : Cfg) (n : Int) (h : n < 0) (w : World) :
    Calls Try.prog 53 #[cv c, .int .i64 n] w fun e w' => ∃ v, e = .returned v ∧ Row4 w' w.heap.size v (rowP c n) ∧ Below w.heap.size w w' := by
  have HN : Hd (isB c n = false) := ⟨by unfold isB; simp; omega⟩
  go_enter Try.func53, Try.ntmps53
  go_wp2
  go_ret
  exact ⟨_, rfl, by unfold rowP; rw [HN.out]; exact Row4.nil_ _ _, balloc (Below.refl _ _) _⟩

set_option maxHeartbeats 1000000 in
set_option maxRecDepth 20000 in
theorem f53_out (c : Cfg) (n : Int) (h0 : 0 ≤ n) (h : nodes c ≤ n) (w : World) :
    Calls Try.prog 53 #[cv c, .int .i64 n] w fun e w' => ∃ v, e = .returned v ∧ Row4 w' w.heap.size v (rowP c n) ∧ Below w.heap.size w w' := by
  have HN : Hd (isB c n = false) := ⟨by unfold isB; simp; omega⟩
  have hn : ¬ n < 0 := by omega
  go_enter Try.func53, Try.ntmps53
  go_wp2_with fail
  refine (f81_any c _).mono ?_
  rintro e w1 ⟨rfl, hb1⟩
  have S1 := keepS hb1 (s0 c w)
  clear hb1
  go_wp2
  go_ret
  exact ⟨_, rfl, by unfold rowP; rw [HN.out]; exact Row4.nil_ _ _, sB S1⟩

set_option maxHeartbeats 1000000 in
set_option maxRecDepth 20000 in
theorem f53_in (c : Cfg) (n : Int) (h : isB c n = true) (w : World) :
    Calls Try.prog 53 #[cv c, .int .i64 n] w fun e w' => ∃ v, e = .returned v ∧ Row4 w' w.heap.size v (rowP c n) ∧ Below w.heap.size w w' := by
  have hk := isB_chk h
  have hL1 := (chk_okc hk).L1
  have hL2 := (chk_okc hk).L2
  have hb := isB_iff.1 h
  have hn0 : ¬ n < 0 := by omega
  have hn1 : n < nodes c := hb.2
  have HB := Hd.mk h
  clear hk hb h
  go_enter Try.func53, Try.ntmps53
  go_wp2_with fail
  refine (f81_any c _).mono ?_
  rintro e w1 ⟨rfl, hb1⟩
  have S1 := keepS hb1 (s0 c w)
  clear hb1
  go_wp2_with fail
  clear hn0 hn1
  go_loopw [5, 6] (fun v i W => ∃ kk : Nat, kk ≤ 2 ∧ i = .int .i64 ((kk : Int)) ∧ RelRow c n w v W (kk * (5 * c.L.toNat))) (fun _ i _ => 2 - (intOf i).toNat)
  case atStart => exact ⟨0, by omega, rfl, by rw [Nat.zero_mul]; exact Row4.nil_ _ _, S1⟩
  case round =>
    obtain ⟨kk, hkk, rfl, hrow, hS⟩ := hrel
    clear S1
    have HR := Hd.mk hrow
    clear hrow
    by_cases hlt : kk < 2
    · have hbk : decide ((kk : Int) < 2) = true := decide_eq_true (by omega)
      go_wp2_with fail
      go_loopw [5, 7] (fun v i W => ∃ pp : Nat, pp ≤ 5 ∧ i = .int .i64 ((pp : Int)) ∧ RelRow c n w v W (kk * (5 * c.L.toNat) + pp * c.L.toNat)) (fun _ i _ => 5 - (intOf i).toNat)
      case atStart => exact ⟨0, by omega, rfl, by rw [Nat.zero_mul, Nat.add_zero]; exact HR.out, hS⟩
      case round =>
        clear HR hS
        obtain ⟨pp, hpp, rfl, hrow, hS⟩ := hrel
        have HR := Hd.mk hrow
        clear hrow
        by_cases hlp : pp < 5
        · have hbp : decide ((pp : Int) < 5) = true := decide_eq_true (by omega)
          go_wp2_with fail
          go_loopw [5, 8] (fun v i W => ∃ ll : Nat, (ll : Int) ≤ c.L ∧ i = .int .i64 ((ll : Int)) ∧ RelRow c n w v W (kk * (5 * c.L.toNat) + pp * c.L.toNat + ll)) (fun _ i _ => c.L.toNat - (intOf i).toNat)
          case atStart => exact ⟨0, by omega, rfl, HR.out, hS⟩
          case round =>
            clear HR hS
            obtain ⟨ll, hll, rfl, hrow, hS⟩ := hrel
            have HR := Hd.mk hrow
            clear hrow
            by_cases hl : (ll : Int) < c.L
            · have hz := hS.2.2.2.2.2.2.2.2.2.1
              have hm := m_bd hlt hlp (show ll ≤ c.L.toNat by omega) (show c.L.toNat ≤ 8 by omega)
              have HM := Hd.mk hm
              clear hm
              go_wp2_with (at_builtin; refine wpList_app4 rfl (.tmp 34) (.tmp 40) rfl (w.heap.size + 1) _ _ rfl _ rfl (⟨kk, n, pp, ll⟩ : Prt) (HR.out.alloc _) (by simp) (by simp) (by simp) (by simp) (by rw [pre_len]; have := HM.out; omega) (by simp; omega) ?_; intro v' W2 hr2 hg2; have S2 := keepGw hg2 (HR.out.alloc _).lt (by omega) (by omega) (allocS _ hS); have HR2 := Hd.mk hr2; clear hr2 hg2 hS HR)
              go_roundw
              case rel => exact ⟨ll + 1, by omega, by go_num, by rw [pre_lo c n hlt hlp hl]; exact HR2.out, S2⟩
              case measure => simp [intOf]; omega
            · have hlL : ll = c.L.toNat := by omega
              have HLL := Hd.mk hlL
              clear hlL
              go_wp2
              go_roundw
              case rel => exact ⟨pp + 1, by omega, by go_num, by have h := HR.out; rw [HLL.out] at h; rw [Nat.succ_mul pp, ← Nat.add_assoc]; exact h, hS⟩
              case measure => simp [intOf]; omega
        · have hp5 : pp = 5 := by omega
          have HP5 := Hd.mk hp5
          clear hp5
          go_wp2
          go_roundw
          case rel => exact ⟨kk + 1, by omega, by go_num, by have h := HR.out; rw [HP5.out] at h; rw [Nat.succ_mul kk]; exact h, hS⟩
          case measure => simp [intOf]; omega
    · have hk2 : kk = 2 := by omega
      have HK2 := Hd.mk hk2
      have HR0 : Hd (Row4 _ _ _ (preP c n (10 * c.L.toNat))) := ⟨by have h := HR.out; rw [HK2.out, show 2 * (5 * c.L.toNat) = 10 * c.L.toNat from by omega] at h; exact h⟩
      have hbk : decide ((kk : Int) < 2) = false := decide_eq_false (by omega)
      clear hk2 HR
      go_wp2_with fail
      go_loopw [5, 9] (fun v i W => ∃ pp : Nat, pp ≤ 5 ∧ i = .int .i64 ((pp : Int)) ∧ RelRow c n w v W (10 * c.L.toNat + pp)) (fun _ i _ => 5 - (intOf i).toNat)
      case atStart => exact ⟨0, by omega, rfl, HR0.out, hS⟩
      case round =>
        clear HR0 hS
        obtain ⟨pp, hpp, rfl, hrow, hS⟩ := hrel
        have HR := Hd.mk hrow
        clear hrow
        have hz := hS.2.2.2.2.2.2.2.2.2.1
        by_cases hlp : pp < 5
        · go_wp2_with (at_builtin; refine wpList_app4 rfl (.tmp 46) (.tmp 50) rfl (w.heap.size + 1) _ _ rfl _ rfl (⟨2, n, pp, 0⟩ : Prt) (HR.out.alloc _) (by simp) (by simp) (by simp) (by simp) (by rw [pre_len]; omega) (by simp; omega) ?_; intro v' W2 hr2 hg2; have S2 := keepGw hg2 (HR.out.alloc _).lt (by omega) (by omega) (allocS _ hS); have HR2 := Hd.mk hr2; clear hr2 hg2 hS HR)
          go_roundw
          case rel => exact ⟨pp + 1, by omega, by go_num, by rw [pre_mv c n hL1 hlp]; exact HR2.out, S2⟩
          case measure => simp [intOf]; omega
        · have hp5 : pp = 5 := by omega
          have hbp : decide ((pp : Int) < 5) = false := decide_eq_false (by omega)
          have HP5 := Hd.mk hp5
          have HR0 : Hd (Row4 _ _ _ (preP c n (10 * c.L.toNat + 5))) := ⟨by have h := HR.out; rw [HP5.out] at h; exact h⟩
          clear hp5 HR
          have HR := HR0
          clear HR0
          go_wp2_with (at_builtin; refine wpList_app4b rfl (.tmp 52) (.tmp 57) rfl (w.heap.size + 1) _ _ rfl _ rfl (⟨3, n, 0, 0⟩ : Prt) (⟨4, n, 0, 0⟩ : Prt) (HR.out.alloc _) (by simp) (by simp) (by simp) (by simp) (by simp) (by simp) (by simp) (by simp) (by rw [pre_len]; omega) (by simp; omega) ?_; intro v' W2 hr2 hg2; have S2 := keepGw hg2 (HR.out.alloc _).lt (by omega) (by omega) (allocS _ hS); have HR2 := Hd.mk hr2; clear hr2 hg2 hS HR)
          have HR3 : Hd (Row4 W2 (w.heap.size + 1) v' (preP c n (10 * c.L.toNat + 7))) := ⟨by rw [pre_pt c n hL1]; exact HR2.out⟩
          clear HR2 hz
          go_loopw [5, 10] (fun v i W => ∃ jj : Nat, jj ≤ 2 ∧ i = .int .i64 ((jj : Int) + 5) ∧ RelRow c n w v W (10 * c.L.toNat + 7 + jj * 4)) (fun _ i _ => 7 - (intOf i).toNat)
          case atStart => exact ⟨0, by omega, rfl, HR3.out, S2⟩
          case round =>
            clear HR3 S2
            obtain ⟨jj, hjj, rfl, hrow, hS⟩ := hrel
            have HR := Hd.mk hrow
            clear hrow
            by_cases hlj : jj < 2
            · have hbj : decide ((jj : Int) + 5 < 7) = true := decide_eq_true (by omega)
              go_wp2_with fail
              go_loopw [5, 11] (fun v i W => ∃ qq : Nat, qq ≤ 4 ∧ i = .int .i64 ((qq : Int) + 1) ∧ RelRow c n w v W (10 * c.L.toNat + 7 + jj * 4 + qq)) (fun _ i _ => 5 - (intOf i).toNat)
              case atStart => exact ⟨0, by omega, rfl, HR.out, hS⟩
              case round =>
                clear HR hS
                obtain ⟨qq, hqq, rfl, hrow, hS⟩ := hrel
                have HR := Hd.mk hrow
                clear hrow
                have hz := hS.2.2.2.2.2.2.2.2.2.1
                by_cases hlq : qq < 4
                · go_wp2_with (at_builtin; refine wpList_app4 rfl (.tmp 67) (.tmp 72) rfl (w.heap.size + 1) _ _ rfl _ rfl (⟨(jj : Int) + 5, n, (qq : Int) + 1, 0⟩ : Prt) (HR.out.alloc _) (by simp) (by simp) (by simp) (by simp) (by rw [pre_len]; omega) (by simp; omega) ?_; intro v' W2 hr2 hg2; have S2 := keepGw hg2 (HR.out.alloc _).lt (by omega) (by omega) (allocS _ hS); have HR2 := Hd.mk hr2; clear hr2 hg2 hS HR)
                  go_roundw
                  case rel => exact ⟨qq + 1, by omega, by go_num, by rw [pre_cc c n hL1 hlj hlq]; exact HR2.out, S2⟩
                  case measure => simp [intOf]; omega
                · have hq4 : qq = 4 := by omega
                  have HQ4 := Hd.mk hq4
                  clear hq4
                  go_wp2
                  go_roundw
                  case rel => exact ⟨jj + 1, by omega, by go_num, by have h := HR.out; rw [HQ4.out] at h; rw [Nat.succ_mul jj, ← Nat.add_assoc]; exact h, hS⟩
                  case measure => simp [intOf]; omega
            · have hj2 : jj = 2 := by omega
              have HJ2 := Hd.mk hj2
              clear hj2
              go_wp2
              go_ret
              exact ⟨_, rfl, by have h := HR.out.mono (base' := w.heap.size) (by omega); rw [HJ2.out, show 10 * c.L.toNat + 7 + 2 * 4 = 10 * c.L.toNat + 15 from by omega, pre_row HB.out] at h; exact h, sB hS⟩

theorem f53_any (c : Cfg) (n : Int) (w : World) : Calls Try.prog 53 #[cv c, .int .i64 n] w fun e w' => ∃ v, e = .returned v ∧ Row4 w' w.heap.size v (rowP c n) ∧ Below w.heap.size w w' := by
  by_cases h0 : n < 0
  · exact f53_neg c n h0 w
  · by_cases h1 : nodes c ≤ n
    · exact f53_out c n (by omega) h1 w
    · exact f53_in c n (isB_iff.2 ⟨by omega, by omega⟩) w

end Go.Proofs.Ytnbogjiddildaaa

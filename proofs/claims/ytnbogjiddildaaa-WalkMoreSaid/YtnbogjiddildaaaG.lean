/- Slices of ints: what a row of the call's own is good for, and append of one number. -/
import Derived.Test.YtnbogjiddildaaaF
import Derived.OwnWalk
namespace Go.Proofs.Ytnbogjiddildaaa
open Go.RowKit
set_option linter.unusedSimpArgs false
set_option linter.unusedVariables false

/-- The slice value v is a row of the call's own, from block base on: it holds the numbers xs. -/
def Row (W : World) (base : Nat) (v : Value) (xs : List Int) : Prop := W.ownsRow base 3 1 v xs.length (xs.map (Value.int .i64))

theorem info3 : (Try.prog.info? 3).map (fun i => (i.zero, i.size, i.bytes)) = some (some (.int .i64 0), 1, 8) := by kernel_rfl

theorem Row.nil_ (W : World) (base : Nat) : Row W base (.slice none 0 0) [] := World.ownsRow_nil W base 3 1
theorem Row.alloc {W : World} {base : Nat} {v : Value} {xs : List Int} (h : Row W base v xs) (o : Obj) : Row (W.alloc o) base v xs := World.ownsRow.alloc h o
theorem Row.drewN {W : World} {base : Nat} {v : Value} {xs : List Int} (h : Row W base v xs) (q : Nat) : Row (W.drewN q) base v xs := h
theorem Row.drew {W : World} {base : Nat} {v : Value} {xs : List Int} (h : Row W base v xs) : Row W.drew base v xs := h
theorem Row.lt {W : World} {base : Nat} {v : Value} {xs : List Int} (h : Row W base v xs) : ∀ k, v.ownBlock = some k → base ≤ k ∧ k < W.heap.size := World.ownsRow.lt h
theorem Row.below {W W' : World} {base : Nat} {v : Value} {xs : List Int} (h : Row W base v xs) (hb : Below W.heap.size W W') : Row W' base v xs := by
  obtain ⟨h1, h2⟩ := h
  refine ⟨h1, ?_⟩
  rcases h2 with h2 | ⟨g, cap, cur, e, hg, hh, r⟩
  · exact .inl h2
  · refine .inr ⟨g, cap, cur, e, hg, ?_, r⟩
    have hlt : g < W.heap.size := by
      rcases Nat.lt_or_ge g W.heap.size with h | h
      · exact h
      · rw [Array.getElem?_eq_none h] at hh; cases hh
    rw [hb.block g hlt]; exact hh
theorem Row.mono {W : World} {base base' : Nat} {v : Value} {xs : List Int} (h : Row W base v xs) (hb : base' ≤ base) : Row W base' v xs := by
  obtain ⟨h1, h2⟩ := h
  refine ⟨h1, ?_⟩
  rcases h2 with h2 | ⟨g, cap, cur, e, hg, r⟩
  · exact .inl h2
  · exact .inr ⟨g, cap, cur, e, by omega, r⟩
theorem Row.far {W W' : World} {base : Nat} {v u : Value} {xs : List Int} (h : Row W base v xs) (hg : W.grownBy W' u.ownBlock) (hne : v.ownBlock = none ∨ v.ownBlock ≠ u.ownBlock) : Row W' base v xs := World.ownsRow.kept h hg hne

/-- A slice value that reads as the numbers xs (nil too). -/
def Rd (W : World) (A : Option Addr) (xs : List Int) : Prop :=
  0 < xs.length → ∃ g off, A = some ⟨g, off, none⟩ ∧ g < W.heap.size ∧ ∀ (j : Nat) (u : Int), xs[j]? = some u → W.cell? ⟨g, off + j, none⟩ = some (.int .i64 u)

theorem Rd.below {W W' : World} {A : Option Addr} {xs : List Int} (h : Rd W A xs) (hb : Below W.heap.size W W') : Rd W' A xs := fun hn => by
  obtain ⟨g, off, e, hg, hc⟩ := h hn
  have := hb.size
  exact ⟨g, off, e, by omega, fun j u hu => (hb.cell (p := ⟨g, off + j, none⟩) hg).trans (hc j u hu)⟩
theorem Rd.alloc {W : World} {A : Option Addr} {xs : List Int} (h : Rd W A xs) (o : Obj) : Rd (W.alloc o) A xs := fun hn => by
  obtain ⟨g, off, e, hg, hc⟩ := h hn
  exact ⟨g, off, e, by simp; omega, fun j u hu => (World.cell?_alloc_lt W o _ (by exact hg)).trans (hc j u hu)⟩
theorem Rd.drewN {W : World} {A : Option Addr} {xs : List Int} (h : Rd W A xs) (q : Nat) : Rd (W.drewN q) A xs := h
theorem Rd.drew {W : World} {A : Option Addr} {xs : List Int} (h : Rd W A xs) : Rd W.drew A xs := h
theorem Rd.nil_ (W : World) (A : Option Addr) : Rd W A [] := fun h => absurd h (by simp)

theorem Row.rd {W : World} {base : Nat} {v : Value} {xs : List Int} (h : Row W base v xs) : ∃ A cap, v = .slice A xs.length cap ∧ xs.length ≤ cap ∧ Rd W A xs := by
  obtain ⟨h1, h2⟩ := h
  rcases h2 with ⟨e, e0⟩ | ⟨g, cap, cur, e, hg, hh, hn, hm, hs, ht⟩
  · exact ⟨none, 0, by rw [e, e0], by omega, fun hn => absurd hn (by omega)⟩
  · refine ⟨some ⟨g, 0, none⟩, cap, e, hn, fun _ => ⟨g, 0, rfl, ?_, ?_⟩⟩
    · rcases Nat.lt_or_ge g W.heap.size with h | h
      · exact h
      · rw [Array.getElem?_eq_none h] at hh; cases hh
    · intro j u hu
      have hown : W.ownsRow base 3 1 v xs.length (xs.map (Value.int .i64)) := ⟨h1, .inr ⟨g, cap, cur, e, hg, hh, hn, hm, hs, ht⟩⟩
      have := World.ownsRow.cells hown (g := g) (by rw [e]; rfl) j (.int .i64 u) (by rw [List.getElem?_map, hu]; rfl)
      rw [Nat.zero_add]
      unfold Addr.add at this
      split at this
      · subst_vars; exact this
      · simpa using this

theorem wpList_app1 {ops : Array Oper} {rest : List Oper} {o : Oper} {a : Act} {Q : Exit → Act → World → Prop} {W : World} (hgd : o.guard = none) (s x : Operand)
    (ho : o.op = .call { callee := .builtin .append, args := #[s, x], argTypes := #[28, 28] })
    (base : Nat) (v : Value) (xs : List Int) (hs : a.eval s = v) (g : Nat) (hx : a.eval x = .slice (some ⟨g, 0, none⟩) 1 1) (y : Int)
    (hown : Row W base v xs) (hcell : W.cell? ⟨g, 0, none⟩ = some (.int .i64 y)) (hlen : xs.length ≤ 1000000) (hbase : base ≤ W.heap.size)
    (h : ∀ v' W', Row W' base v' (xs ++ [y]) → W.grownBy W' v.ownBlock → wpList Try.prog ops Q rest (a.put o.dst v') W') : wpList Try.prog ops Q (o :: rest) a W := by
  obtain ⟨i0, hi0, hz0, hz1, hz2⟩ := info_parts info3
  refine wpList_append_own W hgd s x 28 ho base 3 i0 (.int .i64 0) 1 8 Try.underlying28 hi0 hz0 hz1 hz2 rfl (by decide) v xs.length _ hs hown ⟨g, 0, none⟩ 1 1 [.int .i64 y] hx rfl ?_ ?_ ?_ ?_ hbase ?_
  · intro j u hu
    rcases j with _ | j
    · simp at hu; subst hu; exact hcell
    · simp at hu
  · intro u hu; simp at hu; subst hu; rfl
  · unfold maxLen; omega
  · omega
  · intro v' W' h1 h2 _
    exact h v' W' (by unfold Row; rw [List.length_append, List.map_append]; exact h1) h2

end Go.Proofs.Ytnbogjiddildaaa

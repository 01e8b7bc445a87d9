/- The argument of a law that is a slice of numbers, opened. -/
import Derived.Test.YtnbogjiddildaaaG
import Derived.Test.YtnbogjiddildaaaR
namespace Go.Proofs.Ytnbogjiddildaaa
open Go.Joins Go.ChangeShapes Go.WideShapes Go.RowKit Go.Deep Go.ChangeAt
set_option linter.unusedSimpArgs false
set_option linter.unusedVariables false

theorem add_block (a : Addr) (n : Nat) : (a.add n).block = a.block := by unfold Addr.add; split <;> rfl
theorem spot_none {w : World} {a : Addr} {v : Value} (h : w.cell? a = some v) : a.spot = none ∧ a.block < w.heap.size := by
  unfold World.cell? at h
  rcases hb : w.heap[a.block]? with _ | o
  · rw [hb] at h; cases h
  · have hlt : a.block < w.heap.size := by
      rcases Nat.lt_or_ge a.block w.heap.size with h | h
      · exact h
      · rw [Array.getElem?_eq_none h] at hb; cases hb
    refine ⟨?_, hlt⟩
    rw [hb] at h
    cases o <;> simp at h
    rename_i c e f
    rcases hs : a.spot with _ | s
    · rfl
    · rw [hs] at h; simp at h

section
variable {H : Type} {enc : TypeId × Value → H} {w : World} {base : Nat} {spare : Nat → Bool} {held : Bool}
theorem open_slice_i {r : Reach} {b0 : Nat} {v : Value} {d : DataW H} {p : List MemPlace} (hv : Value.okWide Try.prog w r b0 28 v) (h : DataW.Trod enc Try.prog w base spare held 28 v d p) :
    ∃ A xs cap, v = .slice A xs.length cap ∧ Rd w A xs ∧ (∀ x ∈ xs, In64 x) ∧ xs.length ≤ cap ∧ cap ≤ 9223372036854775807 := by
  obtain ⟨a0, len, cap, rfl⟩ := okWide_slice Try.underlying28 hv
  obtain ⟨fuel, hf⟩ := h
  rcases open_ints Try.underlying28 Try.underlying3 Try.cells3 hf with ⟨hcs, hx⟩ | ⟨a, len', cap', zs, hcs, _, hl, hm, hz, hx, hcell, hwz⟩
  · simp [Value.cells] at hcs
    obtain ⟨rfl, rfl, rfl⟩ := hcs
    exact ⟨none, [], 0, rfl, Rd.nil_ _ _, by simp, by simp, by omega⟩
  · simp [Value.cells] at hcs
    obtain ⟨rfl, rfl, rfl⟩ := hcs
    have hlz : len ≤ zs.length := by rw [hz]; split <;> omega
    have hlen : (zs.take len).length = len := by rw [List.length_take]; omega
    refine ⟨some a, zs.take len, cap, by rw [hlen], fun hn => ?_, fun x hx => ?_, by rw [hlen]; exact hl, by unfold maxLen at hm; omega⟩
    · rw [hlen] at hn
      have h0 := hcell 0 (by omega)
      have e0 : a.add 0 = a := rfl
      rw [e0] at h0
      obtain ⟨hs, hb⟩ := spot_none h0
      obtain ⟨g, off, sp⟩ := a
      obtain rfl : sp = none := hs
      refine ⟨g, off, rfl, hb, fun j u hu => ?_⟩
      have hj : j < len := by
        rcases Nat.lt_or_ge j len with h | h
        · exact h
        · rw [List.getElem?_eq_none (by rw [hlen]; exact h)] at hu; cases hu
      rw [List.getElem?_take_of_lt hj] at hu
      have hc := hcell j (by omega)
      rw [List.getD, hu] at hc
      have e : (⟨g, off, none⟩ : Addr).add j = ⟨g, off + j, none⟩ := by
        unfold Addr.add
        split
        · subst_vars; rfl
        · rfl
      rw [e] at hc
      exact hc
    · exact bounds_i64 (hwz x (List.mem_of_mem_take hx))
end

end Go.Proofs.Ytnbogjiddildaaa

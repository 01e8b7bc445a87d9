/- The contracts with their answers under names of their own. -/
import Derived.Test.YtnbogjiddildaaaJ
import Derived.Test.YtnbogjiddildaaaL0
import Derived.Test.YtnbogjiddildaaaN2
namespace Go.Proofs.Ytnbogjiddildaaa
open Go.RowKit
set_option linter.unusedSimpArgs false
set_option linter.unusedVariables false

theorem h33_is (c : Cfg) (a b d : Int) (h : farP c a b = d) (w : World) : Calls Try.prog 33 #[cv c, .int .i64 a, .int .i64 b] w fun e w' => e = .returned (.int .i64 d) ∧ Below w.heap.size w w' := by
  subst h; exact f33_any c a b w

theorem h45_is (c : Cfg) (a b d : Int) (h : farP c a b = d) (w : World) : Calls Try.prog 45 #[cv c, .int .i64 a, .int .i64 b] w fun e w' => e = .returned (.int .i64 d) ∧ Below w.heap.size w w' := by
  subst h; exact f45_any c a b w

theorem h43_is (p q : Int) (h : backP p = q) (w : World) : Calls Try.prog 43 #[.int .i64 p] w fun e w' => e = .returned (.int .i64 q) ∧ Below w.heap.size w w' := by
  subst h; exact f43_any p w

theorem h44_is (p q : Int) (h : backP p = q) (w : World) : Calls Try.prog 44 #[.int .i64 p] w fun e w' => e = .returned (.int .i64 q) ∧ Below w.heap.size w w' := by
  subst h; exact f44_any p w

theorem h46_is (p q : Int) (h : turnP p = q) (w : World) : Calls Try.prog 46 #[.int .i64 p] w fun e w' => e = .returned (.int .i64 q) ∧ Below w.heap.size w w' := by
  subst h; exact f46_any p w

/-- A law's own small config: what holds behind 'c = Small(c)', of a law that has no other box. -/
theorem links_row (c : Cfg) (w : World) : Calls Try.prog 26 #[cv c] w fun e w' => ∃ A cap, e = .returned (.slice A (linksP c).length cap) ∧ Below w.heap.size w w' :=
  (f26_any c w).mono fun _ _ ⟨v, h1, h2, h3⟩ => by
    obtain ⟨A, cap, rfl, _⟩ := h2.rd
    exact ⟨A, cap, h1, h3⟩

end Go.Proofs.Ytnbogjiddildaaa

/- Contracts of the small functions of package config, over whatever config: what each call returns, and that nothing that was there has changed. -/
import Derived.Test.YtnbogjiddildaaaRows
import Derived.Test.YtnbogjiddildaaaM
import Derived.WalkKit
import Derived.WalkSpells
import Derived.WalkLawsBesides
import Derived.Shelf.Abstract
namespace Go.Proofs.Ytnbogjiddildaaa
open Go.RowKit
set_option linter.unusedSimpArgs false
set_option linter.unusedVariables false

theorem bcell {W w1 : World} (hb : Below W.heap.size W w1) : (∀ b o, b < W.heap.size → w1.cell? ⟨b, o, none⟩ = W.cell? ⟨b, o, none⟩) ∧ (∀ b o, b < W.heap.size → w1.frozen? ⟨b, o, none⟩ = W.frozen? ⟨b, o, none⟩) :=
  ⟨fun b o h => hb.cell (p := ⟨b, o, none⟩) h, fun b o h => hb.frozen (p := ⟨b, o, none⟩) h⟩

theorem bstep {w W w1 : World} (h : Below w.heap.size w W) (hb : Below W.heap.size W w1) : Below w.heap.size w w1 := h.trans (hb.mono h.size)
theorem balloc {w W : World} (h : Below w.heap.size w W) (o : Obj) : Below w.heap.size w (W.alloc o) := h.alloc h.size o
theorem bset {w W : World} (h : Below w.heap.size w W) {p : Addr} (hp : w.heap.size ≤ p.block) (u : Value) : Below w.heap.size w (W.setCell p u) := h.setCell hp u

theorem ret_bool {a b : Bool} (h : a = b) : Ending.returned (.bool a) = .returned (.bool b) := by rw [h]
theorem ret_int {k : IntKind} {a b : Int} (h : a = b) : Ending.returned (.int k a) = .returned (.int k b) := by rw [h]

set_option maxHeartbeats 400000 in
theorem within1_any (n m : Int) (b : Nat) (w : World) (hc : w.cell? ⟨b, 0, none⟩ = some (.int .i64 m)) :
    Calls Try.prog 103 #[.int .i64 n, .pointer (some ⟨b, 0, none⟩)] w fun e w' => e = .returned (.bool (outB m n)) ∧ w = w' := by
  unfold outB
  by_cases h1 : n < 1
  · go_enter Try.func103, Try.ntmps103
    go_wp2
    go_ret
    exact ⟨by simp [h1], rfl⟩
  · by_cases h2 : m < n
    · go_enter Try.func103, Try.ntmps103
      go_wp2
      go_ret
      exact ⟨by simp [h1, h2], rfl⟩
    · go_enter Try.func103, Try.ntmps103
      go_wp2
      go_ret
      exact ⟨by simp [h1, h2], rfl⟩

def IdxPost (m : Int) (xs : List Int) (w : World) (e : Ending) (w' : World) : Prop :=
  ∃ r : Int, e = .returned (.int .i64 r) ∧ decide (0 ≤ r) = xs.any (outB m) ∧ w = w'

theorem any_take_succ (p : Int → Bool) (xs : List Int) (k : Nat) (x : Int) (h : xs[k]? = some x) (h0 : (xs.take k).any p = false) : (xs.take (k + 1)).any p = p x := by
  rw [List.take_add_one, h, List.any_append, h0]; simp

theorem any_hit (p : Int → Bool) (xs : List Int) (k : Nat) (x : Int) (h : xs[k]? = some x) (hp : p x = true) : xs.any p = true := by
  rw [List.any_eq_true]; exact ⟨x, List.mem_of_getElem? h, hp⟩

set_option maxHeartbeats 400000 in
theorem indexFunc_any (m : Int) (xs : List Int) (b g : Nat) (w : World) (hc : w.cell? ⟨b, 0, none⟩ = some (.int .i64 m)) (hl : xs.length ≤ 1000)
    (hx : ∀ (j : Nat) (u : Int), xs[j]? = some u → w.cell? ⟨g, j, none⟩ = some (.int .i64 u)) :
    Calls Try.prog 105 #[.slice (some ⟨g, 0, none⟩) xs.length xs.length, .func (.func 103) #[] #[.pointer (some ⟨b, 0, none⟩)]] w (IdxPost m xs w) := by
  have HX := Hd.mk hx
  have HC := Hd.mk hc
  clear hx hc
  go_enter Try.func105, Try.ntmps105
  go_wp2
  go_loop [5, 8] (fun _ v => ∃ k : Nat, k ≤ xs.length ∧ v = .int .i64 k ∧ Hd ((xs.take k).any (outB m) = false)) (fun _ v => xs.length - (intOf v).toNat)
  case atStart => exact ⟨0, Nat.zero_le _, rfl, ⟨rfl⟩⟩
  case round =>
    obtain ⟨k, hk, rfl, HA⟩ := hrel
    by_cases hlt : k < xs.length
    · obtain ⟨x, HXk⟩ : ∃ x, Hd (xs[k]? = some x) := ⟨xs[k], ⟨List.getElem?_eq_getElem hlt⟩⟩
      have hcell := HX.out k x HXk.out
      rcases hb : outB m x with _ | _
      · have HB := Hd.mk hb
        clear hb
        go_wp2_with (go_at_call 103; refine (within1_any x m b _ HC.out).mono ?_; rintro e w' ⟨rfl, rfl⟩; rw [HB.out])
        go_round
        case rel => exact ⟨k + 1, by omega, by go_num, ⟨by rw [any_take_succ _ _ _ _ HXk.out HA.out]; exact HB.out⟩⟩
        case measure => simp [intOf]; omega
      · have HB := Hd.mk hb
        clear hb
        go_wp2_with (go_at_call 103; refine (within1_any x m b _ HC.out).mono ?_; rintro e w' ⟨rfl, rfl⟩; rw [HB.out])
        go_ret
        exact ⟨k, rfl, by rw [any_hit _ _ _ _ HXk.out HB.out]; simp, rfl⟩
    · go_wp2
      go_ret
      refine ⟨-1, rfl, ?_, rfl⟩
      have := HA.out
      rw [List.take_of_length_le (by omega)] at this
      rw [this]; rfl

set_option maxHeartbeats 400000 in
theorem containsFunc_any (m : Int) (xs : List Int) (b g : Nat) (w : World) (hc : w.cell? ⟨b, 0, none⟩ = some (.int .i64 m)) (hl : xs.length ≤ 1000)
    (hx : ∀ (j : Nat) (u : Int), xs[j]? = some u → w.cell? ⟨g, j, none⟩ = some (.int .i64 u)) :
    Calls Try.prog 102 #[.slice (some ⟨g, 0, none⟩) xs.length xs.length, .func (.func 103) #[] #[.pointer (some ⟨b, 0, none⟩)]] w fun e w' => e = .returned (.bool (xs.any (outB m))) ∧ w = w' := by
  have HX := Hd.mk hx
  have HC := Hd.mk hc
  clear hx hc
  go_enter Try.func102, Try.ntmps102
  go_wp2_with fail
  refine (indexFunc_any m xs b g _ HC.out hl HX.out).mono ?_
  rintro e w1 ⟨r, rfl, hr, rfl⟩
  have HR := Hd.mk hr
  clear hr
  go_wp2
  go_ret
  exact ⟨ret_bool HR.out, rfl⟩

set_option maxHeartbeats 400000 in
theorem within_any (m : Int) (xs : List Int) (g : Nat) (w : World) (hg : g < w.heap.size) (hl : xs.length ≤ 1000)
    (hx : ∀ (j : Nat) (u : Int), xs[j]? = some u → w.cell? ⟨g, j, none⟩ = some (.int .i64 u)) :
    Calls Try.prog 98 #[.int .i64 m, .slice (some ⟨g, 0, none⟩) xs.length xs.length] w fun e w' => e = .returned (.bool (!xs.any (outB m))) ∧ Below w.heap.size w w' := by
  have HX := Hd.mk hx
  clear hx
  go_enter Try.func98, Try.ntmps98
  go_wp2_with fail
  refine (containsFunc_any m xs w.heap.size g _ (by simp) hl (fun j u hu => (World.cell?_alloc_lt w _ _ hg).trans (HX.out j u hu))).mono ?_
  rintro e w1 ⟨rfl, rfl⟩
  generalize hr : xs.any (outB m) = r
  have HR := Hd.mk hr
  clear hr
  go_wp2
  go_ret
  exact ⟨ret_bool (by rw [HR.out]), (Below.refl _ _).alloc (Nat.le_refl _) _⟩

theorem within1 (m a : Int) (r : Bool) (g : Nat) (w : World) (hr : (!(outB m a)) = r) (hg : g < w.heap.size) (h0 : w.cell? ⟨g, 0, none⟩ = some (.int .i64 a)) :
    Calls Try.prog 98 #[.int .i64 m, .slice (some ⟨g, 0, none⟩) 1 1] w fun e w' => e = .returned (.bool r) ∧ Below w.heap.size w w' := by
  subst hr
  refine (within_any m [a] g w hg (by simp) ?_).mono ?_
  · intro j u hu
    rcases j with _ | j
    · simp at hu; subst hu; exact h0
    · simp at hu
  · rintro e w1 ⟨rfl, hb⟩
    exact ⟨by simp, hb⟩

theorem within2 (m a b : Int) (r : Bool) (g : Nat) (w : World) (hr : (!(outB m a || outB m b)) = r) (hg : g < w.heap.size) (h0 : w.cell? ⟨g, 0, none⟩ = some (.int .i64 a)) (h1 : w.cell? ⟨g, 1, none⟩ = some (.int .i64 b)) :
    Calls Try.prog 98 #[.int .i64 m, .slice (some ⟨g, 0, none⟩) 2 2] w fun e w' => e = .returned (.bool r) ∧ Below w.heap.size w w' := by
  subst hr
  refine (within_any m [a, b] g w hg (by simp) ?_).mono ?_
  · intro j u hu
    rcases j with _ | _ | j
    · simp at hu; subst hu; exact h0
    · simp at hu; subst hu; exact h1
    · simp at hu
  · rintro e w1 ⟨rfl, hb⟩
    exact ⟨by simp, hb⟩

theorem within3 (m a b c : Int) (r : Bool) (g : Nat) (w : World) (hr : (!(outB m a || (outB m b || outB m c))) = r) (hg : g < w.heap.size) (h0 : w.cell? ⟨g, 0, none⟩ = some (.int .i64 a)) (h1 : w.cell? ⟨g, 1, none⟩ = some (.int .i64 b))
    (h2 : w.cell? ⟨g, 2, none⟩ = some (.int .i64 c)) :
    Calls Try.prog 98 #[.int .i64 m, .slice (some ⟨g, 0, none⟩) 3 3] w fun e w' => e = .returned (.bool r) ∧ Below w.heap.size w w' := by
  subst hr
  refine (within_any m [a, b, c] g w hg (by simp) ?_).mono ?_
  · intro j u hu
    rcases j with _ | _ | _ | j
    · simp at hu; subst hu; exact h0
    · simp at hu; subst hu; exact h1
    · simp at hu; subst hu; exact h2
    · simp at hu
  · rintro e w1 ⟨rfl, hb⟩
    exact ⟨by simp, hb⟩

end Go.Proofs.Ytnbogjiddildaaa

/- The work of a packet: contracts of walk.Work and its reference; of the laws' small. -/
import Derived.Test.YtnbogjiddildaaaU1
namespace Go.Proofs.Ytnbogjiddildaaa
open Go.RowKit
set_option linter.unusedSimpArgs false
set_option linter.unusedVariables false

theorem new_cell' {W : World} {n : Nat} {v : Value} {t : TypeId} (h : n = W.heap.size) : (W.alloc (.cells #[v] t)).cell? ⟨n, 0, none⟩ = some v := by subst h; simp
def sumT (xs : List Int) (k : Nat) : Int := (xs.take k).sum
theorem sum_succ {xs : List Int} {k : Nat} {x : Int} (h : xs[k]? = some x) : sumT xs (k + 1) = sumT xs k + x := by
  unfold sumT; rw [List.take_add_one, h, List.sum_append]; simp
theorem sum_end {xs : List Int} {k : Nat} (h : xs.length ≤ k) : sumT xs k = xs.sum := by unfold sumT; rw [List.take_of_length_le h]
theorem sum_zero (xs : List Int) : sumT xs 0 = 0 := rfl
/-- Few small numbers. -/
structure Few (xs : List Int) : Prop where
  len : xs.length ≤ 100
  lo : ∀ x ∈ xs, -1000 ≤ x
  hi : ∀ x ∈ xs, x ≤ 1000
theorem sum_bd {xs : List Int} (h : Few xs) (k : Nat) (hk : k ≤ xs.length) : -(1000 * (k : Int)) ≤ sumT xs k ∧ sumT xs k ≤ 1000 * (k : Int) := by
  induction k with
  | zero => rw [sum_zero]; omega
  | succ k ih =>
    have ih := ih (by omega)
    have hx : xs[k]? = some (xs[k]'(by omega)) := List.getElem?_eq_getElem (by omega)
    have h1 := h.lo _ (List.mem_of_getElem? hx)
    have h2 := h.hi _ (List.mem_of_getElem? hx)
    rw [sum_succ hx]
    omega
noncomputable def workP (xs : List Int) (b : Int) : Int :=
  if xs.length = 0 ∨ xs.getD 0 0 < 0 ∨ srtB xs = false ∨ sizeB b = false then -1
  else wordsP xs.length b * 2 + (xs.length : Int) * 2 + 2 * xs.getD (xs.length - 1) 0 + (wordsP xs.length b - xs.length) * 3 * xs.getD (xs.length - 1) 0 + 3 * xs.sum
theorem getD_of {xs : List Int} {i : Nat} {x : Int} (h : xs[i]? = some x) : xs.getD i 0 = x := by unfold List.getD; rw [h]; rfl
theorem work_nil {xs : List Int} {b : Int} (h : xs.length = 0) : workP xs b = -1 := by unfold workP; rw [if_pos (.inl h)]
theorem work_neg {xs : List Int} {b x : Int} (hx : xs[0]? = some x) (h : x < 0) : workP xs b = -1 := by unfold workP; rw [if_pos (.inr (.inl (by rw [getD_of hx]; exact h)))]
theorem work_srt {xs : List Int} {b : Int} (h : srtB xs = false) : workP xs b = -1 := by unfold workP; rw [if_pos (.inr (.inr (.inl h)))]
theorem work_size {xs : List Int} {b : Int} (h : sizeB b = false) : workP xs b = -1 := by unfold workP; rw [if_pos (.inr (.inr (.inr h)))]
theorem size_is {b : Int} (h : sizeB b = true) : 0 ≤ b ∧ b ≤ 64 := by unfold sizeB at h; simpa using h
theorem work_yes {xs : List Int} {b x la wd : Int} {n : Nat} (hn : xs.length = n + 1) (hx : xs[0]? = some x) (h0 : 0 ≤ x) (hs : srtB xs = true) (hb : sizeB b = true) (hla : xs[n]? = some la) (hw : wordsP ((n + 1 : Nat) : Int) b = wd) :
    workP xs b = wd * 2 + ((n + 1 : Nat) : Int) * 2 + 2 * la + (wd - ((n + 1 : Nat) : Int)) * 3 * la + 3 * xs.sum := by
  have hg : xs.getD (xs.length - 1) 0 = la := getD_of (by rw [hn]; exact hla)
  unfold workP
  rw [if_neg, hg, hn, hw]
  rintro (h | h | h | h)
  · omega
  · rw [getD_of hx] at h; omega
  · rw [hs] at h; cases h
  · rw [hb] at h; cases h
theorem words_bd {h b : Int} (hh : 1 ≤ h) (hb : sizeB b = true) : h + 1 ≤ wordsP h b ∧ wordsP h b ≤ h + 11 := by
  have := size_is hb
  rw [words_yes hh this.1 this.2]; omega
/-- The last of rising numbers is the greatest. -/
theorem srt_last {xs : List Int} (h : Srt xs) {i j : Nat} {x y : Int} (hij : i ≤ j) (hx : xs[i]? = some x) (hy : xs[j]? = some y) : x ≤ y := by
  induction j generalizing y with
  | zero => obtain rfl : i = 0 := by omega
            rw [hx] at hy; injection hy with hy; omega
  | succ j ih =>
    by_cases e : i = j + 1
    · subst e; rw [hx] at hy; injection hy with hy; omega
    · have hj : j < xs.length := by
        rcases Nat.lt_or_ge (j + 1) xs.length with h1 | h1
        · omega
        · rw [List.getElem?_eq_none h1] at hy; cases hy
      have h1 := ih (by omega) (List.getElem?_eq_getElem hj)
      have h2 := h j _ _ (List.getElem?_eq_getElem hj) hy
      omega

set_option maxHeartbeats 1000000 in
set_option maxRecDepth 20000 in
theorem f72_nil (w : World) (A : Option Addr) (cap : Nat) (xs : List Int) (b : Int) (hf : Few xs) (hr : Rd w A xs) (hl : xs.length = 0) :
    Calls Try.prog 72 #[.slice A xs.length cap, .int .i64 b] w fun e w' => e = .returned (.int .i64 (workP xs b)) ∧ Below w.heap.size w w' := by
  have hlen := hf.len
  have HF := Hd.mk hf
  have HR := Hd.mk hr
  clear hf hr
  have HW : Hd (workP xs b = -1) := ⟨work_nil hl⟩
  rw [hl]
  go_enter Try.func72, Try.ntmps72
  go_wp2
  go_ret
  exact ⟨ret_int HW.out.symm, Below.refl _ _⟩

set_option maxHeartbeats 1000000 in
set_option maxRecDepth 20000 in
theorem f73_nil (w : World) (A : Option Addr) (cap : Nat) (xs : List Int) (b : Int) (hf : Few xs) (hr : Rd w A xs) (hl : xs.length = 0) :
    Calls Try.prog 73 #[.slice A xs.length cap, .int .i64 b] w fun e w' => e = .returned (.int .i64 (workP xs b)) ∧ Below w.heap.size w w' := by
  have hlen := hf.len
  have HF := Hd.mk hf
  have HR := Hd.mk hr
  clear hf hr
  have HW : Hd (workP xs b = -1) := ⟨work_nil hl⟩
  rw [hl]
  go_enter Try.func73, Try.ntmps73
  go_wp2
  go_ret
  exact ⟨ret_int HW.out.symm, Below.refl _ _⟩

set_option maxHeartbeats 1000000 in
set_option maxRecDepth 20000 in
theorem f72_neg (w : World) (A : Option Addr) (cap : Nat) (xs : List Int) (b : Int) (hf : Few xs) (hr : Rd w A xs) (hl : 0 < xs.length) (x : Int) (hx0 : xs[0]? = some x) (h : x < 0) :
    Calls Try.prog 72 #[.slice A xs.length cap, .int .i64 b] w fun e w' => e = .returned (.int .i64 (workP xs b)) ∧ Below w.heap.size w w' := by
  have hlen := hf.len
  have HF := Hd.mk hf
  have HR := Hd.mk hr
  clear hf hr
  have HX := Hd.mk hx0
  obtain ⟨g, off, rfl, hg, hc⟩ := HR.out (by omega)
  have hx := hc 0 x HX.out
  simp only [Nat.add_zero] at hx
  clear hc
  have HW : Hd (workP xs b = -1) := ⟨work_neg hx0 h⟩
  obtain ⟨n, hn⟩ : ∃ n, xs.length = n + 1 := ⟨xs.length - 1, by omega⟩
  rw [hn] at hlen ⊢
  clear hn hl hx0
  go_enter Try.func72, Try.ntmps72
  go_wp2
  go_ret
  exact ⟨ret_int HW.out.symm, Below.refl _ _⟩

set_option maxHeartbeats 1000000 in
set_option maxRecDepth 20000 in
theorem f72_srt (w : World) (A : Option Addr) (cap : Nat) (xs : List Int) (b : Int) (hf : Few xs) (hr : Rd w A xs) (hl : 0 < xs.length) (x : Int) (hx0 : xs[0]? = some x) (h0 : 0 ≤ x) (h : srtB xs = false) :
    Calls Try.prog 72 #[.slice A xs.length cap, .int .i64 b] w fun e w' => e = .returned (.int .i64 (workP xs b)) ∧ Below w.heap.size w w' := by
  have hlen := hf.len
  have HF := Hd.mk hf
  have HR := Hd.mk hr
  clear hf hr
  have HX := Hd.mk hx0
  obtain ⟨g, off, rfl, hg, hc⟩ := HR.out (by omega)
  have hx := hc 0 x HX.out
  simp only [Nat.add_zero] at hx
  clear hc
  obtain ⟨n, hn⟩ : ∃ n, xs.length = n + 1 := ⟨xs.length - 1, by omega⟩
  have HS := Hd.mk h
  have HW : Hd (workP xs b = -1) := ⟨work_srt h⟩
  clear h
  have c92 := fun (W : World) (hr : Rd W (some ⟨g, off, none⟩) xs) => f92_is W (some ⟨g, off, none⟩) cap xs false HS.out (by have := HF.out.len; omega) hr
  have HN := Hd.mk hn
  rw [hn] at c92 hlen ⊢
  have HC92 := Hd.mk c92
  clear c92 hn hl hx0 hg
  go_enter Try.func72, Try.ntmps72
  go_wp2_with fail
  refine (HC92.out _ HR.out).mono ?_
  rintro e w1 ⟨rfl, hb1⟩
  go_wp2
  go_ret
  exact ⟨ret_int HW.out.symm, hb1⟩

set_option maxHeartbeats 1000000 in
set_option maxRecDepth 20000 in
theorem f72_size (w : World) (A : Option Addr) (cap : Nat) (xs : List Int) (b : Int) (hf : Few xs) (hr : Rd w A xs) (hl : 0 < xs.length) (x : Int) (hx0 : xs[0]? = some x) (h0 : 0 ≤ x) (h : srtB xs = true) (hz : sizeB b = false) :
    Calls Try.prog 72 #[.slice A xs.length cap, .int .i64 b] w fun e w' => e = .returned (.int .i64 (workP xs b)) ∧ Below w.heap.size w w' := by
  have hlen := hf.len
  have HF := Hd.mk hf
  have HR := Hd.mk hr
  clear hf hr
  have HX := Hd.mk hx0
  obtain ⟨g, off, rfl, hg, hc⟩ := HR.out (by omega)
  have hx := hc 0 x HX.out
  simp only [Nat.add_zero] at hx
  clear hc
  obtain ⟨n, hn⟩ : ∃ n, xs.length = n + 1 := ⟨xs.length - 1, by omega⟩
  have HS := Hd.mk h
  have HZ := Hd.mk hz
  have HW : Hd (workP xs b = -1) := ⟨work_size hz⟩
  clear h hz
  have c92 := fun (W : World) (hr : Rd W (some ⟨g, off, none⟩) xs) => f92_is W (some ⟨g, off, none⟩) cap xs true HS.out (by have := HF.out.len; omega) hr
  have HN := Hd.mk hn
  rw [hn] at c92 hlen ⊢
  have HC92 := Hd.mk c92
  clear c92 hn hl hx0 hg
  go_enter Try.func72, Try.ntmps72
  go_wp2_with fail
  refine (HC92.out _ HR.out).mono ?_
  rintro e w1 ⟨rfl, hb1⟩
  go_wp2_with fail
  refine (f91_is b false HZ.out _).mono ?_
  rintro e w2 ⟨rfl, rfl⟩
  go_wp2
  go_ret
  exact ⟨ret_int HW.out.symm, hb1⟩

set_option maxHeartbeats 1000000 in
set_option maxRecDepth 20000 in
theorem f72_in (w : World) (A : Option Addr) (cap : Nat) (xs : List Int) (b : Int) (hf : Few xs) (hr : Rd w A xs) (hl : 0 < xs.length) (x : Int) (hx0 : xs[0]? = some x) (h0 : 0 ≤ x) (h : srtB xs = true) (hz : sizeB b = true) :
    Calls Try.prog 72 #[.slice A xs.length cap, .int .i64 b] w fun e w' => e = .returned (.int .i64 (workP xs b)) ∧ Below w.heap.size w w' := by
  obtain ⟨n, hn⟩ : ∃ n, xs.length = n + 1 := ⟨xs.length - 1, by omega⟩
  obtain ⟨la, hla⟩ : ∃ x, xs[n]? = some x := ⟨_, List.getElem?_eq_getElem (by omega)⟩
  obtain ⟨wd, hwd⟩ : ∃ z, wordsP ((n + 1 : Nat) : Int) b = z := ⟨_, rfl⟩
  have hwb := words_bd (h := ((n + 1 : Nat) : Int)) (b := b) (by omega) hz
  rw [hwd] at hwb
  have hla1 := hf.hi _ (List.mem_of_getElem? hla)
  have hla0 := srt_last (srt_is h) (Nat.zero_le n) hx0 hla
  obtain ⟨wb1, wb2⟩ := hwb
  have HWK := Hd.mk (work_yes hn hx0 h0 h hz hla hwd)
  have HLA := Hd.mk hla
  have HWD := Hd.mk hwd
  have hsz := size_is hz
  have hlen := hf.len
  have HF := Hd.mk hf
  have HR := Hd.mk hr
  clear hf hr
  have HX := Hd.mk hx0
  obtain ⟨g, off, rfl, hg, hc⟩ := HR.out (by omega)
  have hx := hc 0 x HX.out
  simp only [Nat.add_zero] at hx
  clear hc
  have hl2 := HR.out
  have HS := Hd.mk h
  have HZ := Hd.mk hz
  have hq0 : ((n : Int) + 1 == 0) = false := by rw [beq_eq_false_iff_ne]; omega
  have hq1 : decide (x < 0) = false := decide_eq_false (by omega)
  clear h hz hla hwd hl2
  have p0 : 0 ≤ (wd - ((n + 1 : Nat) : Int)) * 3 * la := Int.mul_nonneg (by omega) (by omega)
  have p1 : (wd - ((n + 1 : Nat) : Int)) * 3 * la ≤ 33000 := by have := Int.mul_le_mul (show (wd - ((n + 1 : Nat) : Int)) * 3 ≤ 33 by omega) hla1 (by omega) (by omega); omega
  have c92 := fun (W : World) (hr : Rd W (some ⟨g, off, none⟩) xs) => f92_is W (some ⟨g, off, none⟩) cap xs true HS.out (by have := HF.out.len; omega) hr
  have HN := Hd.mk hn
  rw [hn] at c92 hlen ⊢
  have HC92 := Hd.mk c92
  clear c92 hn hl hx0 hg
  go_enter Try.func72, Try.ntmps72
  go_wp2_with fail
  refine (HC92.out _ HR.out).mono ?_
  rintro e w1 ⟨rfl, hb1⟩
  have R1 := Hd.mk (Rd.below HR.out hb1)
  have B1 := Hd.mk hb1
  clear hb1 hx HR
  go_wp2_with fail
  refine (f91_is b true HZ.out _).mono ?_
  rintro e w2 ⟨rfl, rfl⟩
  obtain ⟨g', off', he, hg, hc⟩ := R1.out (by have := HN.out; omega)
  injection he with he
  injection he with he1 he2
  subst he1 he2
  have hx := hc n la HLA.out
  clear hc hg
  go_wp2_with fail
  refine (f70_is ((n + 1 : Nat) : Int) b wd HWD.out (by omega) _).mono ?_
  rintro e w2 ⟨rfl, rfl⟩
  clear hx
  have e1 : (((n + 1 : Nat) : Int)) = (n : Int) + 1 := by omega
  rw [e1] at p0 p1
  go_wp2_with fail
  go_loop [7, 58] (fun t i => ∃ k : Nat, k ≤ n + 1 ∧ i = .int .i64 (k : Int) ∧ t = .int .i64 (wd * 2 + ((n : Int) + 1) * 2 + 2 * la + (wd - ((n : Int) + 1)) * 3 * la + 3 * sumT xs k)) (fun _ i => n + 1 - (intOf i).toNat)
  case atStart => exact ⟨0, by omega, rfl, by rw [sum_zero]; simp⟩
  case round =>
    obtain ⟨k, hk, rfl, rfl⟩ := hrel
    have hsb := sum_bd HF.out k (by have := HN.out; omega)
    have sb0 := hsb.1
    have sb1 := hsb.2
    clear hsb
    by_cases hlt : k < n + 1
    · obtain ⟨y, HY⟩ : ∃ x, Hd (xs[k]? = some x) := ⟨_, ⟨List.getElem?_eq_getElem (by have := HN.out; omega)⟩⟩
      have y0 := HF.out.lo _ (List.mem_of_getElem? HY.out)
      have y1 := HF.out.hi _ (List.mem_of_getElem? HY.out)
      have HSS := Hd.mk (sum_succ HY.out)
      obtain ⟨g', off', he, hg, hc⟩ := R1.out (by have := HN.out; omega)
      injection he with he
      injection he with he1 he2
      subst he1 he2
      have hx := hc k y HY.out
      clear hc hg
      go_wp2
      go_round
      case rel => exact ⟨k + 1, by omega, by go_num, by rw [HSS.out]; go_num⟩
      case measure => simp [intOf]; omega
    · have HK : Hd (k = n + 1) := ⟨by omega⟩
      go_wp2
      go_ret
      exact ⟨ret_int (by rw [HWK.out, HK.out, sum_end (by have := HN.out; omega), e1]), B1.out⟩

theorem f72_any (w : World) (A : Option Addr) (cap : Nat) (xs : List Int) (b : Int) (hf : Few xs) (hr : Rd w A xs) : Calls Try.prog 72 #[.slice A xs.length cap, .int .i64 b] w fun e w' => e = .returned (.int .i64 (workP xs b)) ∧ Below w.heap.size w w' := by
  rcases Nat.eq_zero_or_pos xs.length with hl | hl
  · exact f72_nil w A cap xs b hf hr hl
  · obtain ⟨x, hx0⟩ : ∃ x, xs[0]? = some x := ⟨_, List.getElem?_eq_getElem hl⟩
    by_cases h0 : x < 0
    · exact f72_neg w A cap xs b hf hr hl x hx0 h0
    · rcases h : srtB xs with _ | _
      · exact f72_srt w A cap xs b hf hr hl x hx0 (by omega) h
      · rcases hz : sizeB b with _ | _
        · exact f72_size w A cap xs b hf hr hl x hx0 (by omega) h hz
        · exact f72_in w A cap xs b hf hr hl x hx0 (by omega) h hz
theorem f72_is (w : World) (A : Option Addr) (cap : Nat) (xs : List Int) (b : Int) (hf : Few xs) (hr : Rd w A xs) (r : Int) (hr' : workP xs b = r) : Calls Try.prog 72 #[.slice A xs.length cap, .int .i64 b] w fun e w' => e = .returned (.int .i64 r) ∧ Below w.heap.size w w' := by
  subst hr'; exact f72_any w A cap xs b hf hr

set_option maxHeartbeats 1000000 in
set_option maxRecDepth 20000 in
theorem f73_b0 (w : World) (A : Option Addr) (cap : Nat) (xs : List Int) (b : Int) (hf : Few xs) (hr : Rd w A xs) (hl : 0 < xs.length) (hb : b < 0) :
    Calls Try.prog 73 #[.slice A xs.length cap, .int .i64 b] w fun e w' => e = .returned (.int .i64 (workP xs b)) ∧ Below w.heap.size w w' := by
  have hlen := hf.len
  have HF := Hd.mk hf
  have HR := Hd.mk hr
  clear hf hr
  have HW : Hd (workP xs b = -1) := ⟨work_size (size_no (.inl hb))⟩
  obtain ⟨n, hn⟩ : ∃ n, xs.length = n + 1 := ⟨xs.length - 1, by omega⟩
  rw [hn] at hlen ⊢
  clear hn hl
  go_enter Try.func73, Try.ntmps73
  go_wp2
  go_ret
  exact ⟨ret_int HW.out.symm, Below.refl _ _⟩

set_option maxHeartbeats 1000000 in
set_option maxRecDepth 20000 in
theorem f73_b1 (w : World) (A : Option Addr) (cap : Nat) (xs : List Int) (b : Int) (hf : Few xs) (hr : Rd w A xs) (hl : 0 < xs.length) (hb : 64 < b) :
    Calls Try.prog 73 #[.slice A xs.length cap, .int .i64 b] w fun e w' => e = .returned (.int .i64 (workP xs b)) ∧ Below w.heap.size w w' := by
  have hlen := hf.len
  have HF := Hd.mk hf
  have HR := Hd.mk hr
  clear hf hr
  have HW : Hd (workP xs b = -1) := ⟨work_size (size_no (.inr hb))⟩
  have hb' : ¬ b < 0 := by omega
  obtain ⟨n, hn⟩ : ∃ n, xs.length = n + 1 := ⟨xs.length - 1, by omega⟩
  rw [hn] at hlen ⊢
  clear hn hl
  go_enter Try.func73, Try.ntmps73
  go_wp2
  go_ret
  exact ⟨ret_int HW.out.symm, Below.refl _ _⟩

theorem po_one {xs : List Int} {x : Int} (hx : xs[0]? = some x) (h : 0 ≤ x) : ∀ (j : Nat) (u : Int), j < 0 + 1 → xs[j]? = some u → 0 ≤ u := fun j u hj hu => by
  obtain rfl : j = 0 := by omega
  rw [hx] at hu; injection hu with hu; omega
structure RelWk (xs : List Int) (A : Option Addr) (w : World) (i : Value) (W : World) (k : Nat) : Prop where
  kl : k ≤ xs.length
  hi : i = .int .i64 (k : Int)
  rd : Rd W A xs
  po : Hd (∀ (j : Nat) (x : Int), j < k → xs[j]? = some x → 0 ≤ x)
  so : Hd (∀ (j : Nat) (x y : Int), j + 1 < k → xs[j]? = some x → xs[j + 1]? = some y → x ≤ y)
  b : Below w.heap.size w W

set_option maxHeartbeats 1000000 in
set_option maxRecDepth 20000 in
theorem f73_in (w : World) (A : Option Addr) (cap : Nat) (xs : List Int) (b : Int) (hf : Few xs) (hr : Rd w A xs) (hl : 0 < xs.length) (b0 : 0 ≤ b) (b1 : b ≤ 64) :
    Calls Try.prog 73 #[.slice A xs.length cap, .int .i64 b] w fun e w' => e = .returned (.int .i64 (workP xs b)) ∧ Below w.heap.size w w' := by
  have hlen := hf.len
  have HF := Hd.mk hf
  have HR := Hd.mk hr
  clear hf hr
  have b0' : ¬ b < 0 := by omega
  have b1' : ¬ 64 < b := by omega
  have HZ := Hd.mk (size_yes b0 b1)
  obtain ⟨n, hn⟩ : ∃ n, xs.length = n + 1 := ⟨xs.length - 1, by omega⟩
  have HN := Hd.mk hn
  rw [hn] at hlen ⊢
  clear hn hl
  go_enter Try.func73, Try.ntmps73
  go_wp2_with fail
  go_loopw [5] (fun i W => ∃ k : Nat, RelWk xs A w i W k) (fun i _ => n + 1 - (intOf i).toNat)
  case atStart => exact ⟨0, by omega, rfl, HR.out, ⟨fun j x hj => by omega⟩, ⟨fun j x y hj => by omega⟩, Below.refl _ _⟩
  case round =>
    obtain ⟨k, hk, rfl, hrd, HPO, HSO, hbw⟩ := hrel
    rw [HN.out] at hk
    have RD := Hd.mk hrd
    have HB := Hd.mk hbw
    clear hrd hbw HR
    by_cases hlt : k < n + 1
    · obtain ⟨x, HX⟩ : ∃ x, Hd (xs[k]? = some x) := ⟨_, ⟨List.getElem?_eq_getElem (by have := HN.out; omega)⟩⟩
      obtain ⟨g, off, rfl, hg, hc⟩ := RD.out (by have := HN.out; omega)
      have hx := hc k x HX.out
      have i1 : (0 : Int) ≤ (k : Int) := by omega
      have i2 : (k : Int) < ((n + 1 : Nat) : Int) := by omega
      have i2n : (k : Int) < (n : Int) + 1 := by omega
      by_cases hx0 : x < 0
      · have hd : decide (x < 0) = true := decide_eq_true hx0
        have HW : Hd (workP xs b = -1) := ⟨by
          rcases k with _ | k
          · exact work_neg HX.out hx0
          · obtain ⟨y, hy⟩ : ∃ y, xs[k]? = some y := ⟨_, List.getElem?_eq_getElem (by have := HN.out; omega)⟩
            have := HPO.out k y (by omega) hy
            exact work_srt (srt_no hy HX.out (by omega))⟩
        clear hc hg hx0
        go_wp2_with fail
        go_quiet (fail)
        go_wp2
        go_ret
        exact ⟨ret_int HW.out.symm, bdrewN HB.out _⟩
      · have hd : decide (x < 0) = false := decide_eq_false hx0
        have HX0 : Hd (0 ≤ x) := ⟨by omega⟩
        rcases k with _ | k
        · simp only [Nat.add_zero] at hx
          rw [show ((0 : Nat) : Int) = 0 from rfl] at i1 i2 ⊢
          have i2' : (0 : Int) < (n : Int) + 1 := by omega
          clear hc hg hx0
          go_wp2_with fail
          go_quiet (fail)
          go_wp2
          go_roundw
          case rel => exact ⟨1, by have := HN.out; omega, by go_num, RD.out.drewN _, ⟨po_one HX.out HX0.out⟩, ⟨fun j u v hj => by omega⟩, bdrewN HB.out _⟩
          case measure => first | (simp [intOf]; done) | (simp [intOf]; omega)
        · obtain ⟨y, HY⟩ : ∃ y, Hd (xs[k]? = some y) := ⟨_, ⟨List.getElem?_eq_getElem (by have := HN.out; omega)⟩⟩
          have hy := hc k y HY.out
          have e1 : (((k + 1 : Nat) : Int)) = (k : Int) + 1 := by omega
          rw [e1] at i1 i2 ⊢
          have hk0 : decide ((0 : Int) < (k : Int) + 1) = true := decide_eq_true (by omega)
          have hk1 : decide ((k : Int) + 1 > 0) = true := decide_eq_true (by omega)
          have i3 : (0 : Int) ≤ (k : Int) := by omega
          have i4 : (k : Int) < ((n + 1 : Nat) : Int) := by omega
          have i4' : (k : Int) < (n : Int) + 1 := by omega
          have i2' : (k : Int) + 1 < (n : Int) + 1 := by omega
          have i5 : IntKind.i64.wrap ((k : Int) + 1 - 1) = (k : Int) := by rw [IntWalk.i64_in _ (by omega)]; omega
          have i6 : ((k : Int) + 1).toNat = k + 1 := by omega
          clear hc hg hx0
          by_cases hxy : x < y
          · have hd2 : decide (x < y) = true := decide_eq_true hxy
            have HW := Hd.mk (work_srt (b := b) (srt_no HY.out HX.out hxy))
            clear hxy e1
            go_wp2_with fail
            go_quiet (fail)
            clear i5 i6
            go_wp2
            go_ret
            exact ⟨ret_int HW.out.symm, bdrewN HB.out _⟩
          · have hd2 : decide (x < y) = false := decide_eq_false hxy
            have HXY := Hd.mk hxy
            clear hxy e1
            go_wp2_with fail
            go_quiet (fail)
            clear i5 i6
            go_wp2
            go_roundw
            case rel => exact ⟨k + 2, by have := HN.out; omega, by go_num, RD.out.drewN _, ⟨fun j u hj hu => by
              rcases Nat.lt_or_ge j (k + 1) with h | h
              · exact HPO.out j u h hu
              · obtain rfl : j = k + 1 := by omega
                rw [HX.out] at hu; injection hu with hu; have := HX0.out; omega⟩, ⟨fun j u v hj hu hv => by
              rcases Nat.lt_or_ge (j + 1) (k + 1) with h | h
              · exact HSO.out j u v h hu hv
              · obtain rfl : j = k := by omega
                rw [HY.out] at hu
                rw [HX.out] at hv
                injection hu with hu
                injection hv with hv
                have := HXY.out
                omega⟩, bdrewN HB.out _⟩
            case measure => simp [intOf]; omega
    · obtain rfl : k = n + 1 := by omega
      have hN := HN.out
      obtain ⟨x, hx0⟩ : ∃ x, xs[0]? = some x := ⟨_, List.getElem?_eq_getElem (by omega)⟩
      have h0 := HPO.out 0 x (by omega) hx0
      have h := srt_yes (xs := xs) (fun i u v hu hv => HSO.out i u v (by
        rcases Nat.lt_or_ge (i + 1) xs.length with h | h
        · omega
        · rw [List.getElem?_eq_none h] at hv; cases hv) hu hv)
      have hz := HZ.out
      have hf := HF.out
      obtain ⟨la, hla⟩ : ∃ x, xs[n]? = some x := ⟨_, List.getElem?_eq_getElem (by omega)⟩
      obtain ⟨wd, hwd⟩ : ∃ z, wordsP ((n + 1 : Nat) : Int) b = z := ⟨_, rfl⟩
      have hwb := words_bd (h := ((n + 1 : Nat) : Int)) (b := b) (by omega) hz
      rw [hwd] at hwb
      have hla1 := hf.hi _ (List.mem_of_getElem? hla)
      have hla0 := srt_last (srt_is h) (Nat.zero_le n) hx0 hla
      obtain ⟨wb1, wb2⟩ := hwb
      have HWK := Hd.mk (work_yes hN hx0 h0 h hz hla hwd)
      have HLA := Hd.mk hla
      have HWD := Hd.mk hwd
      have hsz := size_is hz
      have p0 : ∀ j : Nat, j ≤ 11 → 0 ≤ (j : Int) * (2 + 3 * la) ∧ (j : Int) * (2 + 3 * la) ≤ 33022 := fun j hj => by
        refine ⟨Int.mul_nonneg (by omega) (by omega), ?_⟩
        have := Int.mul_le_mul (show (j : Int) ≤ 11 by omega) (show 2 + 3 * la ≤ 3002 by omega) (by omega) (by omega)
        omega
      have HP0 := Hd.mk p0
      clear hN hx0 h hz hf hla hwd p0 HPO HSO
      obtain ⟨g, off, rfl, hg, hc⟩ := RD.out (by have := HN.out; omega)
      have hx := hc n la HLA.out
      have HC := Hd.mk hc
      clear hc hg
      go_wp2_with fail
      clear hx
      go_loop [7, 8] (fun t i => ∃ k : Nat, k ≤ n + 1 ∧ i = .int .i64 (k : Int) ∧ t = .int .i64 (4 * (k : Int) + 3 * sumT xs k)) (fun _ i => n + 1 - (intOf i).toNat)
      case atStart => exact ⟨0, by omega, rfl, by rw [sum_zero]; simp⟩
      case round =>
        obtain ⟨k, hk, rfl, rfl⟩ := hrel
        have hsb := sum_bd HF.out k (by have := HN.out; omega)
        have sb0 := hsb.1
        have sb1 := hsb.2
        clear hsb
        by_cases hlt : k < n + 1
        · obtain ⟨y, HY⟩ : ∃ x, Hd (xs[k]? = some x) := ⟨_, ⟨List.getElem?_eq_getElem (by have := HN.out; omega)⟩⟩
          have y0 := HF.out.lo _ (List.mem_of_getElem? HY.out)
          have y1 := HF.out.hi _ (List.mem_of_getElem? HY.out)
          have HSS := Hd.mk (sum_succ HY.out)
          have hx := HC.out k y HY.out
          go_wp2
          go_round
          case rel => exact ⟨k + 1, by omega, by go_num, by rw [HSS.out]; go_num⟩
          case measure => simp [intOf]; omega
        · obtain rfl : k = n + 1 := by omega
          obtain ⟨sm, HSM⟩ : ∃ z, Hd (sumT xs (n + 1) = z) := ⟨_, ⟨rfl⟩⟩
          rw [HSM.out] at sb0 sb1 ⊢
          go_wp2_with fail
          go_loop [7, 9] (fun t i => ∃ j : Nat, (j : Int) ≤ wd - ((n + 1 : Nat) : Int) ∧ i = .int .i64 (((n + 1 : Nat) : Int) + j) ∧ t = .int .i64 (4 * ((n + 1 : Nat) : Int) + 3 * sm + (j : Int) * (2 + 3 * la))) (fun _ i => (wd - intOf i).toNat)
          case atStart => exact ⟨0, by omega, by go_num, by simp⟩
          case round =>
            obtain ⟨j, hj, rfl, rfl⟩ := hrel
            have hp := HP0.out j (by omega)
            have hp0 := hp.1
            have hp1 := hp.2
            have HPS : Hd (((j + 1 : Nat) : Int) * (2 + 3 * la) = (j : Int) * (2 + 3 * la) + (2 + 3 * la)) := ⟨by rw [Int.natCast_add, Int.add_mul]; simp⟩
            clear hp
            by_cases hjl : (j : Int) < wd - ((n + 1 : Nat) : Int)
            · go_wp2_with fail
              refine (f71_is ((n + 1 : Nat) : Int) b wd HWD.out (by omega) _).mono ?_
              rintro e w2 ⟨rfl, rfl⟩
              go_wp2
              go_round
              case rel => exact ⟨j + 1, by omega, by go_num, by rw [HPS.out]; go_num⟩
              case measure => simp [intOf]; omega
            · have HJ : Hd ((j : Int) = wd - ((n + 1 : Nat) : Int)) := ⟨by omega⟩
              go_wp2_with fail
              refine (f71_is ((n + 1 : Nat) : Int) b wd HWD.out (by omega) _).mono ?_
              rintro e w2 ⟨rfl, rfl⟩
              go_wp2
              go_ret
              exact ⟨ret_int (by
                have h1 := HJ.out
                have h2 : (wd - ((n + 1 : Nat) : Int)) * (2 + 3 * la) = (wd - ((n + 1 : Nat) : Int)) * 2 + (wd - ((n + 1 : Nat) : Int)) * 3 * la := by rw [Int.mul_add, Int.mul_assoc]
                rw [HWK.out, ← sum_end (k := n + 1) (by have := HN.out; omega), HSM.out, h1, h2]; omega), HB.out⟩

theorem f73_any (w : World) (A : Option Addr) (cap : Nat) (xs : List Int) (b : Int) (hf : Few xs) (hr : Rd w A xs) : Calls Try.prog 73 #[.slice A xs.length cap, .int .i64 b] w fun e w' => e = .returned (.int .i64 (workP xs b)) ∧ Below w.heap.size w w' := by
  rcases Nat.eq_zero_or_pos xs.length with hl | hl
  · exact f73_nil w A cap xs b hf hr hl
  · by_cases b0 : b < 0
    · exact f73_b0 w A cap xs b hf hr hl b0
    · by_cases b1 : 64 < b
      · exact f73_b1 w A cap xs b hf hr hl b1
      · exact f73_in w A cap xs b hf hr hl (by omega) (by omega)
theorem f73_is (w : World) (A : Option Addr) (cap : Nat) (xs : List Int) (b : Int) (hf : Few xs) (hr : Rd w A xs) (r : Int) (hr' : workP xs b = r) : Calls Try.prog 73 #[.slice A xs.length cap, .int .i64 b] w fun e w' => e = .returned (.int .i64 r) ∧ Below w.heap.size w w' := by
  subst hr'; exact f73_any w A cap xs b hf hr

end Go.Proofs.Ytnbogjiddildaaa

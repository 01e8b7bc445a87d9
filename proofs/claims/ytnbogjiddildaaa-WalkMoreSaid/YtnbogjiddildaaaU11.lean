/- More is no less; the walk of the law WalkMore. -/
import Derived.Test.YtnbogjiddildaaaU7
namespace Go.Proofs.Ytnbogjiddildaaa
open Go.RowKit
set_option linter.unusedSimpArgs false
set_option linter.unusedVariables false

theorem wpList_appN {ops : Array Oper} {rest : List Oper} {o : Oper} {a : Act} {Q : Exit → Act → World → Prop} {W : World} (hgd : o.guard = none) (s x : Operand)
    (ho : o.op = .call { callee := .builtin .append, args := #[s, x], argTypes := #[28, 28] })
    (base : Nat) (v : Value) (xs : List Int) (hs : a.eval s = v) (g off n c : Nat) (hx : a.eval x = .slice (some ⟨g, off, none⟩) n c) (ys : List Int) (hn : ys.length = n)
    (hown : Row W base v xs) (hcell : ∀ (j : Nat) (u : Int), ys[j]? = some u → W.cell? ⟨g, off + j, none⟩ = some (.int .i64 u)) (hlen : xs.length ≤ 1000) (hlen2 : n ≤ 1000) (hbase : base ≤ W.heap.size)
    (h : ∀ v' W', Row W' base v' (xs ++ ys) → W.grownBy W' v.ownBlock → wpList Try.prog ops Q rest (a.put o.dst v') W') : wpList Try.prog ops Q (o :: rest) a W := by
  obtain ⟨i0, hi0, hz0, hz1, hz2⟩ := info_parts info3
  subst hn
  refine wpList_append_own W hgd s x 28 ho base 3 i0 (.int .i64 0) 1 8 Try.underlying28 hi0 hz0 hz1 hz2 rfl (by decide) v xs.length _ hs hown ⟨g, off, none⟩ ys.length c (ys.map (Value.int .i64)) hx (by simp) ?_ ?_ ?_ ?_ hbase ?_
  · intro j u hu
    rw [List.getElem?_map] at hu
    rcases hy : ys[j]? with _ | y
    · rw [hy] at hu; cases hu
    · rw [hy] at hu
      injection hu with hu
      have e : (⟨g, off, none⟩ : Addr).add j = ⟨g, off + j, none⟩ := by
        unfold Addr.add
        split
        · subst_vars; rfl
        · rfl
      rw [e, ← hu]
      exact hcell j y hy
  · intro u hu
    obtain ⟨y, _, rfl⟩ := List.mem_map.1 hu
    rfl
  · unfold maxLen; omega
  · omega
  · intro v' W' h1 h2 _
    exact h v' W' (by unfold Row; rw [List.length_append, List.map_append]; exact h1) h2

theorem sum_append (xs ys : List Int) : (xs ++ ys).sum = xs.sum + ys.sum := List.sum_append
theorem words_more {h b : Int} (hh : 1 ≤ h) (b0 : 0 ≤ b) (b1 : b ≤ 64) : wordsP (h + 1) b = wordsP h b + 1 := by
  rw [words_yes hh b0 b1, words_yes (by omega) b0 b1]; omega
/-- Of a packet whose work is told. -/
structure Good (o : List Int) (m : Nat) (b la : Int) : Prop where
  len : o.length = m + 1
  srt : Srt o
  pos : ∀ x, o[0]? = some x → 0 ≤ x
  la : o[m]? = some la
  b0 : 0 ≤ b
  b1 : b ≤ 64
theorem good_first {o : List Int} {m : Nat} {b la : Int} (h : Good o m b la) : ∃ x, o[0]? = some x ∧ 0 ≤ x := by
  have h0 : o[0]? = some (o[0]'(by have := h.len; omega)) := List.getElem?_eq_getElem _
  exact ⟨_, h0, h.pos _ h0⟩
theorem good_la {o : List Int} {m : Nat} {b la : Int} (h : Good o m b la) : 0 ≤ la := by
  obtain ⟨x, hx, h0⟩ := good_first h
  have := srt_last h.srt (Nat.zero_le m) hx h.la
  omega
theorem good_work {o : List Int} {m : Nat} {b la : Int} (h : Good o m b la) : workP o b = wordsP ((m + 1 : Nat) : Int) b * 2 + ((m + 1 : Nat) : Int) * 2 + 2 * la + (wordsP ((m + 1 : Nat) : Int) b - ((m + 1 : Nat) : Int)) * 3 * la + 3 * o.sum := by
  obtain ⟨x, hx, h0⟩ := good_first h
  exact work_yes h.len hx h0 (srt_yes h.srt) (size_yes h.b0 h.b1) h.la rfl
theorem good_or (o : List Int) (b : Int) (b0 : 0 ≤ b) (b1 : b ≤ 64) : workP o b = -1 ∨ ∃ m la, Good o m b la := by
  rcases Nat.eq_zero_or_pos o.length with h | h
  · exact .inl (work_nil h)
  · obtain ⟨x, hx⟩ : ∃ x, o[0]? = some x := ⟨_, List.getElem?_eq_getElem h⟩
    by_cases h0 : x < 0
    · exact .inl (work_neg hx h0)
    · rcases hs : srtB o with _ | _
      · exact .inl (work_srt hs)
      · obtain ⟨la, hla⟩ : ∃ x, o[o.length - 1]? = some x := ⟨_, List.getElem?_eq_getElem (by omega)⟩
        exact .inr ⟨o.length - 1, la, by omega, srt_is hs, fun y hy => by rw [hx] at hy; injection hy with hy; omega, hla, b0, b1⟩
theorem sum_pos {o : List Int} {m : Nat} {b la : Int} (h : Good o m b la) : 0 ≤ o.sum := by
  obtain ⟨x, hx, h0⟩ := good_first h
  have hall : ∀ (j : Nat) (y : Int), o[j]? = some y → 0 ≤ y := fun j y hy => by
    have := srt_last h.srt (Nat.zero_le j) hx hy
    omega
  have : ∀ k, k ≤ o.length → 0 ≤ sumT o k := by
    intro k
    induction k with
    | zero => intro _; rw [sum_zero]; omega
    | succ k ih =>
      intro hk
      have hy : o[k]? = some (o[k]'(by omega)) := List.getElem?_eq_getElem _
      have h1 := hall k _ hy
      rw [sum_succ hy]
      have := ih (by omega)
      omega
  have h1 := this o.length (Nat.le_refl _)
  rw [sum_end (Nat.le_refl _)] at h1
  exact h1
theorem good_pos {o : List Int} {m : Nat} {b la : Int} (h : Good o m b la) : 0 ≤ workP o b := by
  have h1 := good_work h
  have h2 := good_la h
  have h3 := sum_pos h
  have h4 := words_bd (h := ((m + 1 : Nat) : Int)) (b := b) (by omega) (size_yes h.b0 h.b1)
  have h5 : 0 ≤ (wordsP ((m + 1 : Nat) : Int) b - ((m + 1 : Nat) : Int)) * 3 * la := Int.mul_nonneg (by omega) h2
  omega
/-- One more of the last. -/
theorem good_more {o : List Int} {m : Nat} {b la : Int} (h : Good o m b la) : workP o b < workP (o ++ [la]) b := by
  have hl := h.len
  have h2 := good_la h
  have hg : Good (o ++ [la]) (m + 1) b la := by
    refine ⟨by simp; omega, fun i x y hx hy => ?_, fun x hx => h.pos x (by rw [List.getElem?_append_left (show 0 < o.length by omega)] at hx; exact hx), by rw [List.getElem?_append_right (show o.length ≤ m + 1 by omega), show m + 1 - o.length = 0 from by omega]; rfl, h.b0, h.b1⟩
    have hi : i + 1 < (o ++ [la]).length := by
      rcases Nat.lt_or_ge (i + 1) (o ++ [la]).length with h | h
      · exact h
      · rw [List.getElem?_eq_none h] at hy; cases hy
    rw [List.length_append] at hi
    simp at hi
    rw [List.getElem?_append_left (by omega)] at hx
    by_cases hm : i + 1 < o.length
    · rw [List.getElem?_append_left hm] at hy
      exact h.srt i x y hx hy
    · rw [List.getElem?_append_right (by omega), show i + 1 - o.length = 0 from by omega] at hy
      injection hy with hy
      rw [show i = m from by omega, h.la] at hx
      injection hx with hx
      omega
  rw [good_work h, good_work hg, sum_append]
  have hw : wordsP ((m + 1 + 1 : Nat) : Int) b = wordsP ((m + 1 : Nat) : Int) b + 1 := by
    have h3 := words_more (h := ((m + 1 : Nat) : Int)) (b := b) (by omega) h.b0 h.b1
    rw [show ((m + 1 + 1 : Nat) : Int) = ((m + 1 : Nat) : Int) + 1 from by omega]; exact h3
  obtain ⟨wd, hwd⟩ : ∃ z, wordsP ((m + 1 : Nat) : Int) b = z := ⟨_, rfl⟩
  rw [hwd] at hw ⊢
  have e1 : ([la] : List Int).sum = la := by simp
  rw [hw, e1, show wd + 1 - ((m + 1 + 1 : Nat) : Int) = wd - ((m + 1 : Nat) : Int) from by omega]
  omega
/-- The last one step further. -/
theorem good_far {o : List Int} {m : Nat} {b la : Int} (h : Good o m b la) : workP o b < workP (o.take m ++ [la + 1]) b := by
  have hl := h.len
  have h2 := good_la h
  have htl : (o.take m).length = m := by rw [List.length_take]; omega
  have ho : o.sum = (o.take m).sum + la := by
    have h1 := sum_succ (xs := o) (k := m) h.la
    rw [sum_end (k := m + 1) (by omega)] at h1
    exact h1
  have hg : Good (o.take m ++ [la + 1]) m b (la + 1) := by
    refine ⟨by rw [List.length_append, htl]; rfl, fun i x y hx hy => ?_, fun x hx => ?_, by rw [List.getElem?_append_right (by omega), htl, Nat.sub_self]; rfl, h.b0, h.b1⟩
    · have hi : i + 1 < (o.take m ++ [la + 1]).length := by
        rcases Nat.lt_or_ge (i + 1) (o.take m ++ [la + 1]).length with h | h
        · exact h
        · rw [List.getElem?_eq_none h] at hy; cases hy
      rw [List.length_append, htl] at hi
      simp at hi
      rw [List.getElem?_append_left (by omega), List.getElem?_take_of_lt (by omega)] at hx
      by_cases hm : i + 1 < m
      · rw [List.getElem?_append_left (by omega), List.getElem?_take_of_lt hm] at hy
        exact h.srt i x y hx hy
      · rw [List.getElem?_append_right (by omega), htl, show i + 1 - m = 0 from by omega] at hy
        injection hy with hy
        have := h.srt i x la hx (by rw [show i + 1 = m from by omega]; exact h.la)
        omega
    · rcases Nat.eq_zero_or_pos m with h0 | h0
      · subst h0
        simp at hx
        omega
      · rw [List.getElem?_append_left (by omega), List.getElem?_take_of_lt h0] at hx
        exact h.pos x hx
  have h4 := words_bd (h := ((m + 1 : Nat) : Int)) (b := b) (by omega) (size_yes h.b0 h.b1)
  rw [good_work h, good_work hg, sum_append, ho]
  obtain ⟨wd, hwd⟩ : ∃ z, wordsP ((m + 1 : Nat) : Int) b = z := ⟨_, rfl⟩
  rw [hwd] at h4 ⊢
  have h5 : (wd - ((m + 1 : Nat) : Int)) * 3 * (la + 1) = (wd - ((m + 1 : Nat) : Int)) * 3 * la + (wd - ((m + 1 : Nat) : Int)) * 3 := by rw [Int.mul_add, Int.mul_one]
  have e1 : ([la + 1] : List Int).sum = la + 1 := by simp
  rw [h5, e1]
  omega
/-- A byte more. -/
theorem good_byte {o : List Int} {m : Nat} {b la : Int} (h : Good o m b la) (hb : b + 1 ≤ 64) : workP o b ≤ workP o (b + 1) := by
  have h2 := good_la h
  have hg : Good o m (b + 1) la := ⟨h.len, h.srt, h.pos, h.la, by have := h.b0; omega, hb⟩
  rw [good_work h, good_work hg]
  obtain ⟨e, he⟩ : ∃ e, wordsP ((m + 1 : Nat) : Int) (b + 1) = wordsP ((m + 1 : Nat) : Int) b + e := ⟨wordsP ((m + 1 : Nat) : Int) (b + 1) - wordsP ((m + 1 : Nat) : Int) b, by omega⟩
  have he0 : 0 ≤ e := by
    have h3 := words_yes (h := ((m + 1 : Nat) : Int)) (b := b) (by omega) h.b0 h.b1
    have h4 := words_yes (h := ((m + 1 : Nat) : Int)) (b := b + 1) (by omega) hg.b0 hg.b1
    omega
  rw [he]
  have h5 : (wordsP ((m + 1 : Nat) : Int) b + e - ((m + 1 : Nat) : Int)) * 3 * la = (wordsP ((m + 1 : Nat) : Int) b - ((m + 1 : Nat) : Int)) * 3 * la + e * 3 * la := by
    rw [show wordsP ((m + 1 : Nat) : Int) b + e - ((m + 1 : Nat) : Int) = (wordsP ((m + 1 : Nat) : Int) b - ((m + 1 : Nat) : Int)) + e from by omega, Int.add_mul, Int.add_mul]
  have h6 : 0 ≤ e * 3 * la := Int.mul_nonneg (by omega) h2
  rw [h5]
  omega
def byP (b : Int) : Int := (b % 18446744073709551616) % 64
theorem byP_bd (b : Int) : 0 ≤ byP b ∧ byP b ≤ 63 := by unfold byP; omega
theorem byP_w (b : Int) : wrap64 ((IntKind.u64.wrap b).tmod 64) = byP b := nodeP_w b 64 (by omega) (by omega)
theorem few_more {xs : List Int} {la : Int} (h : la ∈ smallP xs) : Few (smallP xs ++ [la]) := by
  have hf := small_few xs
  have hl : (smallP xs).length ≤ 6 := by unfold smallP; rw [List.length_map, List.length_take]; omega
  refine ⟨by simp; omega, fun x hx => ?_, fun x hx => ?_⟩ <;> rw [List.mem_append, List.mem_singleton] at hx
  · rcases hx with hx | rfl
    · exact hf.lo x hx
    · exact hf.lo _ h
  · rcases hx with hx | rfl
    · exact hf.hi x hx
    · exact hf.hi _ h
theorem small_bd {xs : List Int} {x : Int} (h : x ∈ smallP xs) : -3 ≤ x ∧ x ≤ 30 := by
  unfold smallP at h
  obtain ⟨y, _, rfl⟩ := List.mem_map.1 h
  exact smP_bd y
theorem few_far {xs : List Int} {la : Int} {m : Nat} (h : la ∈ smallP xs) : Few ((smallP xs).take m ++ [la + 1]) := by
  have hf := small_few xs
  have hl : (smallP xs).length ≤ 6 := by unfold smallP; rw [List.length_map, List.length_take]; omega
  have hb := small_bd h
  refine ⟨by rw [List.length_append, List.length_take]; simp; omega, fun x hx => ?_, fun x hx => ?_⟩ <;> rw [List.mem_append, List.mem_singleton] at hx
  · rcases hx with hx | rfl
    · exact hf.lo x (List.mem_of_mem_take hx)
    · omega
  · rcases hx with hx | rfl
    · exact hf.hi x (List.mem_of_mem_take hx)
    · omega
theorem f72_nm (w : World) (A : Option Addr) (cap : Nat) (xs : List Int) (n : Nat) (hn : xs.length = n) (b : Int) (hf : Few xs) (hr : Rd w A xs) (r : Int) (hr' : workP xs b = r) : Calls Try.prog 72 #[.slice A n cap, .int .i64 b] w fun e w' => e = .returned (.int .i64 r) ∧ Below w.heap.size w w' := by
  subst hn; exact f72_is w A cap xs b hf hr r hr'

set_option maxHeartbeats 1000000 in
set_option maxRecDepth 20000 in
theorem law21_neg (w : World) (A : Option Addr) (xs : List Int) (cap : Nat) (hw : ∀ x ∈ xs, In64 x) (hl : xs.length ≤ cap) (hm : cap ≤ 9223372036854775807) (hA : A = none → cap = 0) (b : Int) (hneg : workP (smallP xs) (byP b) = -1) (hrA : Rd w A xs) :
    Calls Try.prog 21 #[.slice A xs.length cap, .int .i64 b] w fun e w' => e = .returned (.bool true) ∧ Below w.heap.size w w' := by
  have HRA := Hd.mk hrA
  clear hrA hw
  obtain ⟨bb, hbb⟩ : ∃ z, byP b = z := ⟨_, rfl⟩
  have hb0 := byP_bd b
  rw [hbb] at hb0
  obtain ⟨b0, b1⟩ := hb0
  have hbw : wrap64 ((IntKind.u64.wrap b).tmod 64) = bb := by rw [byP_w]; exact hbb
  obtain ⟨o, HO⟩ : ∃ z, Hd (smallP xs = z) := ⟨_, ⟨rfl⟩⟩
  have HFEW : Hd (Few o) := ⟨by rw [← HO.out]; exact small_few xs⟩
  obtain ⟨n, HN⟩ : ∃ z, Hd (o.length = z) := ⟨_, ⟨rfl⟩⟩
  have hn6 : n ≤ 6 := by rw [← HN.out, ← HO.out]; unfold smallP; rw [List.length_map, List.length_take]; omega
  rw [hbb, HO.out] at hneg
  have HWK := Hd.mk hneg
  clear hneg hbb
  go_enter Try.func21, Try.ntmps21
  go_wp2_with fail
  refine (f68_any _).mono ?_
  rintro e w1 ⟨rfl, hb1⟩
  go_wp2_with fail
  refine (f69_any _ A cap xs (by omega) (HRA.out.below hb1)).mono ?_
  rintro e w2 ⟨v2, rfl, hr2, hb2⟩
  have B2 := Hd.mk (bstep hb1 hb2)
  rw [HO.out] at hr2
  obtain ⟨A2, cap2, rfl, hc2, hrd2⟩ := hr2.rd
  rw [HN.out] at hc2 ⊢
  have R2 := Hd.mk hrd2
  clear hb1 hb2 hr2 hrd2
  go_wp2_with fail
  first | rw [hbw] | skip
  clear hbw
  refine (f72_nm _ A2 cap2 o n HN.out bb HFEW.out R2.out (-1) HWK.out).mono ?_
  rintro e w3 ⟨rfl, hb3⟩
  have B3 := Hd.mk (bstep B2.out hb3)
  clear hb3 R2
  rcases Nat.eq_zero_or_pos n with h0 | h0
  · subst h0
    go_wp2
    go_ret
    exact ⟨rfl, B3.out⟩
  · have hq0 : ((n : Int) == 0) = false := by rw [beq_eq_false_iff_ne]; omega
    have hq1 : (0 : Int) < (n : Int) := by omega
    go_wp2_with fail
    refine (f72_nm _ none 0 [] 0 rfl bb ⟨by simp, by simp, by simp⟩ (Rd.nil_ _ _) (-1) (work_nil rfl)).mono ?_
    rintro e w4 ⟨rfl, hb4⟩
    go_wp2
    go_ret
    exact ⟨rfl, bstep B3.out hb4⟩

set_option maxHeartbeats 1000000 in
set_option maxRecDepth 20000 in
theorem law21_good (w : World) (A : Option Addr) (xs : List Int) (cap : Nat) (hw : ∀ x ∈ xs, In64 x) (hl : xs.length ≤ cap) (hm : cap ≤ 9223372036854775807) (hA : A = none → cap = 0) (b : Int) (m : Nat) (la : Int) (hg : Good (smallP xs) m (byP b) la) (hrA : Rd w A xs) :
    Calls Try.prog 21 #[.slice A xs.length cap, .int .i64 b] w fun e w' => e = .returned (.bool true) ∧ Below w.heap.size w w' := by
  have HRA := Hd.mk hrA
  clear hrA hw
  obtain ⟨bb, hbb⟩ : ∃ z, byP b = z := ⟨_, rfl⟩
  have hb0 := byP_bd b
  rw [hbb] at hb0
  obtain ⟨b0, b1⟩ := hb0
  have hbw : wrap64 ((IntKind.u64.wrap b).tmod 64) = bb := by rw [byP_w]; exact hbb
  obtain ⟨o, HO⟩ : ∃ z, Hd (smallP xs = z) := ⟨_, ⟨rfl⟩⟩
  have HFEW : Hd (Few o) := ⟨by rw [← HO.out]; exact small_few xs⟩
  obtain ⟨n, HN⟩ : ∃ z, Hd (o.length = z) := ⟨_, ⟨rfl⟩⟩
  have hn6 : n ≤ 6 := by rw [← HN.out, ← HO.out]; unfold smallP; rw [List.length_map, List.length_take]; omega
  rw [hbb] at hg
  have hgo : Good o m bb la := by rw [← HO.out]; exact hg
  have HG := Hd.mk hgo
  have hnm : n = m + 1 := by have := hgo.len; have := HN.out; omega
  subst hnm
  have hlam : la ∈ o := List.mem_of_getElem? hgo.la
  have hlab : -3 ≤ la ∧ la ≤ 30 := small_bd (xs := xs) (by rw [HO.out]; exact hlam)
  obtain ⟨la0, la1⟩ := hlab
  have HFM : Hd (Few (o ++ [la])) := ⟨by rw [← HO.out]; exact few_more (by rw [HO.out]; exact hlam)⟩
  have HFF : Hd (Few (o.take m ++ [la + 1])) := ⟨by rw [← HO.out]; exact few_far (by rw [HO.out]; exact hlam)⟩
  obtain ⟨k0, HK0⟩ : ∃ z, Hd (workP o bb = z) := ⟨_, ⟨rfl⟩⟩
  obtain ⟨k1, HK1⟩ : ∃ z, Hd (workP (o ++ [la]) bb = z) := ⟨_, ⟨rfl⟩⟩
  obtain ⟨k2, HK2⟩ : ∃ z, Hd (workP (o.take m ++ [la + 1]) bb = z) := ⟨_, ⟨rfl⟩⟩
  obtain ⟨k3, HK3⟩ : ∃ z, Hd (workP o (bb + 1) = z) := ⟨_, ⟨rfl⟩⟩
  obtain ⟨wd, HWD⟩ : ∃ z, Hd (wordsP ((m + 1 : Nat) : Int) bb = z) := ⟨_, ⟨rfl⟩⟩
  have c0 := good_pos hgo
  have c1 := good_more hgo
  have c2 := good_far hgo
  have c3 := good_byte hgo (by omega)
  have c4 := words_yes (h := ((m + 1 : Nat) : Int)) (b := bb) (by omega) b0 (by omega)
  rw [HK0.out] at c0 c1 c2 c3
  rw [HK1.out] at c1
  rw [HK2.out] at c2
  rw [HK3.out] at c3
  rw [HWD.out] at c4
  have hwd1 : wd - ((m : Int) + 1) = max 1 ((bb + 5) / 6) := by omega
  have d1 : (m : Int) + 2 ≤ wd := by omega
  have d2 : wd ≤ (m : Int) + 12 := by omega
  have d3 : 6 * (wd - ((m : Int) + 1)) ≥ bb := by omega
  have d4 : 6 * (wd - ((m : Int) + 1) - 1) ≤ bb := by omega
  have HLA := Hd.mk hgo.la
  clear hgo hg hbb c4 hwd1 hlam
  go_enter Try.func21, Try.ntmps21
  go_wp2_with fail
  refine (f68_any _).mono ?_
  rintro e w1 ⟨rfl, hb1⟩
  go_wp2_with fail
  refine (f69_any _ A cap xs (by omega) (HRA.out.below hb1)).mono ?_
  rintro e w2 ⟨v2, rfl, hr2, hb2⟩
  have B2 := Hd.mk (bstep hb1 hb2)
  rw [HO.out] at hr2
  obtain ⟨A2, cap2, rfl, hc2, hrd2⟩ := hr2.rd
  rw [HN.out] at hc2 ⊢
  have R2 := Hd.mk hrd2
  clear hb1 hb2 hr2 hrd2
  go_wp2_with fail
  first | rw [hbw] | skip
  clear hbw
  refine (f72_nm _ A2 cap2 o (m + 1) HN.out bb HFEW.out R2.out k0 HK0.out).mono ?_
  rintro e w3 ⟨rfl, hb3⟩
  have B3 := Hd.mk (bstep B2.out hb3)
  have R3 := Hd.mk (R2.out.below hb3)
  clear hb3 R2 B2
  obtain ⟨q, off, rfl, hq, hc⟩ := R3.out (by rw [HN.out]; omega)
  have hx := hc m la HLA.out
  have HC := Hd.mk hc
  have HT : Hd (∀ (j : Nat) (u : Int), (o.take m)[j]? = some u → o[j]? = some u) := ⟨fun j u hu => by
    rw [List.getElem?_take] at hu
    split at hu
    · exact hu
    · cases hu⟩
  have HTL : Hd ((o.take m).length = m) := ⟨by rw [List.length_take, HN.out]; omega⟩
  clear hc
  go_wp2_with (first | (at_builtin; refine wpList_appN rfl (.tmp 43) (.tmp 44) rfl w3.heap.size (.slice none 0 0) [] rfl q off (m + 1) _ rfl o HN.out (Row.nil_ w3 w3.heap.size) HC.out (by simp) (by omega) (by omega) ?_; intro v4 W4 hr4 hg4; have HR4 := Hd.mk hr4; have HB4 := Hd.mk ((Below.refl w3.heap.size w3).grown hg4 (Nat.le_refl _) (fun k hk => by simp [Value.ownBlock] at hk)); have hz4 := HB4.out.size; clear hr4 hg4) | (at_builtin; refine wpList_app1 rfl (.tmp 46) (.tmp 48) rfl w3.heap.size v4 ([] ++ o) rfl _ rfl la (HR4.out.alloc _) (by simp) (by rw [List.nil_append, HN.out]; omega) (by simp; omega) ?_; intro v5 W5 hr5 hg5; have HR5 := Hd.mk hr5; have HB5 := Hd.mk ((balloc HB4.out _).grown hg5 (balloc HB4.out _).size (fun k hk => ((HR4.out.alloc (.cells #[.int .i64 la] 3)).lt k hk).1)); have HC5 : Hd (∀ (j : Nat) (u : Int), (o.take m)[j]? = some u → W5.cell? ⟨q, off + j, none⟩ = some (.int .i64 u)) := ⟨fun j u hu => (HB5.out.cell (p := ⟨q, off + j, none⟩) hq).trans (HC.out j u (HT.out j u hu))⟩; clear hr5 hg5) | (at_builtin; refine wpList_appN rfl (.tmp 50) (.tmp 55) rfl W5.heap.size (.slice none 0 0) [] rfl q off m _ rfl (o.take m) HTL.out (Row.nil_ W5 W5.heap.size) HC5.out (by simp) (by omega) (by omega) ?_; intro v6 W6 hr6 hg6; have HR6 := Hd.mk hr6; have HB6 := Hd.mk ((Below.refl W5.heap.size W5).grown hg6 (Nat.le_refl _) (fun k hk => by simp [Value.ownBlock] at hk)); have hz6 := HB6.out.size; clear hr6 hg6) | (at_builtin; refine wpList_app1 rfl (.tmp 57) (.tmp 60) rfl W5.heap.size v6 ([] ++ o.take m) rfl _ rfl (la + 1) (HR6.out.alloc _) (by simp) (by rw [List.nil_append, HTL.out]; omega) (by simp; omega) ?_; intro v7 W7 hr7 hg7))
  have B7 : Below W5.heap.size W5 W7 := (balloc HB6.out _).grown hg7 (balloc HB6.out _).size (fun k hk => ((HR6.out.alloc (.cells #[.int .i64 (la + 1)] 3)).lt k hk).1)
  have HR5b := HR5.out.below B7
  obtain ⟨A5, c5, rfl, hc5, hrd5⟩ := HR5b.rd
  obtain ⟨A7, c7, rfl, hc7, hrd7⟩ := hr7.rd
  have e5 : ([] ++ o ++ [la]).length = m + 1 + 1 := by rw [List.nil_append, List.length_append, HN.out]; rfl
  have e7 : ([] ++ o.take m ++ [la + 1]).length = m + 1 := by rw [List.nil_append, List.length_append, HTL.out]; rfl
  rw [e5] at hc5
  rw [e7] at hc7
  rw [e5, e7]
  have R5 : Hd (Rd W7 A5 (o ++ [la])) := ⟨hrd5⟩
  have R7 : Hd (Rd W7 A7 (o.take m ++ [la + 1])) := ⟨hrd7⟩
  have RO : Hd (Rd W7 (some ⟨q, off, none⟩) o) := ⟨R3.out.below (bstep HB5.out B7)⟩
  have BW : Hd (Below w.heap.size w W7) := ⟨bstep B3.out (bstep HB5.out B7)⟩
  have HL5 : Hd ((o ++ [la]).length = m + 1 + 1) := ⟨e5⟩
  have HL7 : Hd ((o.take m ++ [la + 1]).length = m + 1) := ⟨e7⟩
  clear hr7 hg7 HR5b hrd5 hrd7 HR5 HR6 HB5 HB6 hz6 hz4 HR4 HB4 HC5 hx B7 e5 e7 R3 hq
  go_wp2_with fail
  refine (f70_is ((m + 1 : Nat) : Int) bb wd HWD.out (by omega) _).mono ?_
  rintro e w8 ⟨rfl, rfl⟩
  go_wp2_with fail
  refine (f72_nm _ A5 c5 (o ++ [la]) (m + 1 + 1) HL5.out bb HFM.out R5.out k1 HK1.out).mono ?_
  rintro e w9 ⟨rfl, hb9⟩
  have R7b := Hd.mk (R7.out.below hb9)
  have ROb := Hd.mk (RO.out.below hb9)
  have BWb := Hd.mk (bstep BW.out hb9)
  clear hb9 R5 R7 RO BW
  go_wp2_with fail
  refine (f72_nm _ A7 c7 (o.take m ++ [la + 1]) (m + 1) HL7.out bb HFF.out R7b.out k2 HK2.out).mono ?_
  rintro e w10 ⟨rfl, hb10⟩
  have ROc := Hd.mk (ROb.out.below hb10)
  have BWc := Hd.mk (bstep BWb.out hb10)
  clear hb10 R7b ROb BWb
  go_wp2_with fail
  refine (f72_nm _ (some ⟨q, off, none⟩) cap2 o (m + 1) HN.out (bb + 1) HFEW.out ROc.out k3 HK3.out).mono ?_
  rintro e w11 ⟨rfl, hb11⟩
  have BWd := Hd.mk (bstep BWc.out hb11)
  clear hb11 ROc BWc
  go_wp2
  go_ret
  exact ⟨ret_bool (by first | rfl | (simp; omega)), BWd.out⟩

theorem law21_calls (A : Option Addr) (xs : List Int) (cap : Nat) (hw : ∀ x ∈ xs, In64 x) (hl : xs.length ≤ cap) (hm : cap ≤ 9223372036854775807) (hA : A = none → cap = 0) (b : Int) (_ : -9223372036854775808 ≤ b ∧ b ≤ 9223372036854775807) (w : World) (hrA : Rd w A xs) :
    Calls Try.prog 21 #[.slice A xs.length cap, .int .i64 b] w fun e w' => e = .returned (.bool true) ∧ Below w.heap.size w w' := by
  have hb := byP_bd b
  rcases good_or (smallP xs) (byP b) hb.1 (by omega) with h | ⟨m, la, h⟩
  · exact law21_neg w A xs cap hw hl hm hA b h hrA
  · exact law21_good w A xs cap hw hl hm hA b m la h hrA

end Go.Proofs.Ytnbogjiddildaaa

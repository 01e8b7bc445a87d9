/- Contract of the laws' small; the example of layer 9's laws; a slice argument; the walk of the law WalkWork. -/
import Derived.Test.YtnbogjiddildaaaU6
import Derived.Test.YtnbogjiddildaaaRs
namespace Go.Proofs.Ytnbogjiddildaaa
open Go.RowKit
set_option linter.unusedSimpArgs false
set_option linter.unusedVariables false

section
open Go.Joins Go.ChangeShapes Go.WideShapes Go.RowKit Go.Deep Go.ChangeAt
variable {H : Type} {enc : TypeId × Value → H} {w : World} {base : Nat} {spare : Nat → Bool} {held : Bool}
theorem open_slice_n {r : Reach} {b0 : Nat} {v : Value} {d : DataW H} {p : List MemPlace} (hv : Value.okWide Try.prog w r b0 28 v) (h : DataW.Trod enc Try.prog w base spare held 28 v d p) :
    ∃ A xs cap, v = .slice A xs.length cap ∧ Rd w A xs ∧ (∀ x ∈ xs, In64 x) ∧ xs.length ≤ cap ∧ cap ≤ 9223372036854775807 ∧ (A = none → cap = 0) := by
  obtain ⟨A, xs, cap, rfl, hrd, hw, hl, hm⟩ := open_slice_i hv h
  refine ⟨A, xs, cap, rfl, hrd, hw, hl, hm, fun hA => ?_⟩
  subst hA
  obtain ⟨fuel, hf⟩ := h
  rcases open_ints Try.underlying28 Try.underlying3 Try.cells3 hf with ⟨hcs, _⟩ | ⟨a, len', cap', zs, hcs, _⟩
  · simp [Value.cells] at hcs
    exact hcs.2
  · simp [Value.cells] at hcs
end

def smP (x : Int) : Int := (x % 18446744073709551616) % 34 - 3
theorem smP_bd (x : Int) : -3 ≤ smP x ∧ smP x ≤ 30 := by unfold smP; omega
theorem smP_w (x : Int) : wrap64 (wrap64 ((IntKind.u64.wrap x).tmod 34) - 3) = smP x := by
  rw [nodeP_w x 34 (by omega) (by omega)]
  exact IntWalk.wrap64_in _ (by omega)
theorem smP_w' (x : Int) : wrap64 ((IntKind.u64.wrap x).tmod 34) - 3 = smP x := by rw [nodeP_w x 34 (by omega) (by omega)]; rfl
def smallP (xs : List Int) : List Int := (xs.take 6).map smP
theorem small_few (xs : List Int) : Few (smallP xs) := by
  refine ⟨by unfold smallP; rw [List.length_map, List.length_take]; omega, fun x hx => ?_, fun x hx => ?_⟩
  all_goals
    unfold smallP at hx
    obtain ⟨y, _, rfl⟩ := List.mem_map.1 hx
    have := smP_bd y
    omega
structure RelSm (xs : List Int) (A : Option Addr) (w : World) (v i : Value) (W : World) (k : Nat) : Prop where
  kl : k ≤ xs.length
  k6 : k ≤ 6
  hi : i = .int .i64 (k : Int)
  row : Row W w.heap.size v ((xs.take k).map smP)
  b : Below w.heap.size w W

set_option maxHeartbeats 1000000 in
set_option maxRecDepth 20000 in
theorem f69_any (w : World) (A : Option Addr) (cap : Nat) (xs : List Int) (hm : xs.length ≤ 9223372036854775807) (hr : Rd w A xs) :
    Calls Try.prog 69 #[.slice A xs.length cap] w fun e w' => ∃ v, e = .returned v ∧ Row w' w.heap.size v (smallP xs) ∧ Below w.heap.size w w' := by
  have HR := Hd.mk hr
  clear hr
  go_enter Try.func69, Try.ntmps69
  go_wp2_with fail
  go_loopw [3, 4] (fun v i W => ∃ k : Nat, RelSm xs A w v i W k) (fun _ i _ => 6 - (intOf i).toNat)
  case atStart => exact ⟨0, by omega, by omega, rfl, Row.nil_ _ _, Below.refl _ _⟩
  case round =>
    obtain ⟨k, hk, hk6, rfl, hrow, hB⟩ := hrel
    have HROW := Hd.mk hrow
    clear hrow
    by_cases hlt : k < xs.length
    · by_cases h6 : k < 6
      · obtain ⟨x, hx⟩ : ∃ x, xs[k]? = some x := ⟨_, List.getElem?_eq_getElem hlt⟩
        have HTS : Hd ((xs.take (k + 1)).map smP = (xs.take k).map smP ++ [smP x]) := ⟨by rw [List.take_add_one, hx, List.map_append]; rfl⟩
        obtain ⟨q, off, rfl, hq, hc⟩ := (HR.out.below hB) (by omega)
        have hcx := hc k x hx
        have hz := hB.size
        have hkl : ((xs.take k).map smP).length ≤ 6 := by rw [List.length_map, List.length_take]; omega
        clear hc hq hx
        go_wp2_with (at_builtin; refine wpList_app1 rfl (.tmp 15) (.tmp 24) rfl w.heap.size _ _ rfl _ rfl _ (HROW.out.alloc _) (new_cell' rfl) (by omega) (by simp; omega) ?_; intro v' W2 hr2 hg2)
        have HR2 := Hd.mk hr2
        have B2 : Below w.heap.size w W2 := (balloc hB _).grown hg2 (balloc hB _).size (fun q hq => ((HROW.out.alloc (.cells #[.int .i64 (smP x)] 3)).lt q hq).1)
        clear hr2 hg2 HROW hB
        go_roundw
        case rel => exact ⟨k + 1, by omega, by omega, by go_num, by rw [HTS.out, ← smP_w]; exact HR2.out, B2⟩
        case measure => simp [intOf]; omega
      · have hd : ¬ ((k : Int) < 6) := by omega
        have HK : Hd ((xs.take k).map smP = smallP xs) := ⟨by unfold smallP; rw [show k = 6 from by omega]⟩
        go_wp2
        go_ret
        exact ⟨_, rfl, by rw [← HK.out]; exact HROW.out, hB⟩
    · have HK : Hd ((xs.take k).map smP = smallP xs) := ⟨by unfold smallP; rw [List.take_of_length_le (by omega), List.take_of_length_le (by omega)]⟩
      go_wp2
      go_ret
      exact ⟨_, rfl, by rw [← HK.out]; exact HROW.out, hB⟩

theorem work_two : workP [2] 6 = 22 := by
  have h := work_yes (xs := [2]) (b := 6) (n := 0) (x := 2) (la := 2) (wd := 2) rfl rfl (by omega) (srt_yes (fun i x y h1 h2 => by simp at h2)) (by decide) rfl (by decide)
  rw [h]; decide
theorem few_two : Few [2] := ⟨by simp, by simp, by simp⟩
theorem adj_some : Adj some4w [0, 4, 5] [3, 1] := by
  refine ⟨rfl, fun i x y p h1 h2 h3 => ?_⟩
  rcases i with _ | _ | i
  · simp at h1 h2 h3; subst h1 h2 h3; decide +kernel
  · simp at h1 h2 h3; subst h1 h2 h3; decide +kernel
  · simp at h3
theorem rd_lit2 (W : World) (x y : Int) : Rd (W.alloc (.cells #[.int .i64 x, .int .i64 y] 3)) (some ⟨W.heap.size, 0, none⟩) [x, y] := fun _ => by
  refine ⟨_, 0, rfl, by simp, fun j u hu => ?_⟩
  rcases j with _ | _ | j
  · simp at hu; subst hu; simp
  · simp at hu; subst hu; simp
  · simp at hu
theorem rd_lit1 (W : World) (x : Int) : Rd (W.alloc (.cells #[.int .i64 x] 3)) (some ⟨W.heap.size, 0, none⟩) [x] := fun _ => by
  refine ⟨_, 0, rfl, by simp, fun j u hu => ?_⟩
  rcases j with _ | j
  · simp at hu; subst hu; simp
  · simp at hu

set_option maxHeartbeats 1000000 in
set_option maxRecDepth 20000 in
theorem f68_any  (w : World) :
    Calls Try.prog 68 #[] w fun e w' => e = .returned (.bool true) ∧ Below w.heap.size w w' := by
  go_enter Try.func68, Try.ntmps68
  go_wp2_with fail
  refine (f90_any _).mono ?_
  rintro e w1 ⟨rfl, hb1⟩
  have B1 := hb1
  clear hb1
  have c75 := f75_any (w1.alloc (.cells #[.int .i64 1, .int .i64 0] 3)) some4w 0 5 (some ⟨w1.heap.size, 0, none⟩) 2 [1, 0] (by simp) (by intro x hx; simp at hx; rcases hx with rfl | rfl <;> omega) (rd_lit2 _ _ _)
  rw [show wayP some4w 0 5 [1, 0] = [0, 4, 5] from by decide +kernel] at c75
  have C75 := Hd.mk c75
  clear c75
  go_wp2_with fail
  refine (C75.out).mono ?_
  rintro e w2 ⟨v2, rfl, hr2, hb2⟩
  have B2 := bstep (balloc B1 _) hb2
  obtain ⟨A2, cap2, rfl, hc2, hrd2⟩ := hr2.rd
  have R2 := Hd.mk hrd2
  clear hb2 hr2 hrd2 C75 B1
  go_wp2_with fail
  refine (f90_any _).mono ?_
  rintro e w3 ⟨rfl, hb3⟩
  have B3 := bstep B2 hb3
  have R3 := Hd.mk (R2.out.below hb3)
  clear hb3 B2 R2
  go_wp2_with fail
  refine (f76_adj _ some4w A2 cap2 [0, 4, 5] [3, 1] 2 rfl (by omega) rfl adj_some R3.out).mono ?_
  rintro e w4 ⟨v4, rfl, hr4, hb4⟩
  have B4 := bstep B3 hb4
  have R4 := Hd.mk (R3.out.below hb4)
  obtain ⟨A4, cap4, rfl, hc4, hrd4⟩ := hr4.rd
  have P4 := Hd.mk hrd4
  clear hb4 hr4 hrd4 R3 B3
  go_wp2_with fail
  refine (f72_is _ (some ⟨w4.heap.size, 0, none⟩) 1 [2] 6 few_two (rd_lit1 w4 2) 22 work_two).mono ?_
  rintro e w5 ⟨rfl, hb5⟩
  have B5 := bstep (balloc B4 _) hb5
  have R5 := Hd.mk ((R4.out.alloc _).below hb5)
  have P5 := Hd.mk ((P4.out.alloc _).below hb5)
  clear hb5 B4 R4 P4
  obtain ⟨g2, o2, rfl, hg2, hcc2⟩ := R5.out (by simp)
  have x1 := hcc2 1 4 rfl
  obtain ⟨g4, o4, rfl, hg4, hcc4⟩ := P5.out (by simp)
  have y0 := hcc4 0 3 rfl
  have y1 := hcc4 1 1 rfl
  simp only [Nat.add_zero] at y0
  clear hcc2 hcc4 hg2 hg4 R5 P5
  go_wp2_with fail
  refine (f70_is 1 6 2 (by decide) (by omega) _).mono ?_
  rintro e w6 ⟨rfl, rfl⟩
  go_wp2
  go_ret
  exact ⟨rfl, B5⟩

set_option maxHeartbeats 1000000 in
set_option maxRecDepth 20000 in
theorem law20_go (w : World) (A : Option Addr) (xs : List Int) (cap : Nat) (hw : ∀ x ∈ xs, In64 x) (hl : xs.length ≤ cap) (hm : cap ≤ 9223372036854775807) (hA : A = none → cap = 0) (h b : Int) (h0 : -9223372036854775808 ≤ h) (h1 : h ≤ 9223372036854775807) (hrA : Rd w A xs) :
    Calls Try.prog 20 #[.slice A xs.length cap, .int .i64 h, .int .i64 b] w fun e w' => e = .returned (.bool true) ∧ Below w.heap.size w w' := by
  have HRA := Hd.mk hrA
  clear hrA hw
  obtain ⟨hm2, HMN⟩ : ∃ z, Hd (min h 10000 = z) := ⟨_, ⟨rfl⟩⟩
  have hmm : hm2 ≤ 10000 := by rw [← HMN.out]; omega
  obtain ⟨wd, HWD⟩ : ∃ z, Hd (wordsP hm2 b = z) := ⟨_, ⟨rfl⟩⟩
  obtain ⟨wk, HWK⟩ : ∃ z, Hd (workP (smallP xs) b = z) := ⟨_, ⟨rfl⟩⟩
  go_enter Try.func20, Try.ntmps20
  go_wp2_with fail
  refine (f68_any _).mono ?_
  rintro e w1 ⟨rfl, hb1⟩
  go_wp2_with fail
  refine (f69_any _ A cap xs (by omega) (HRA.out.below hb1)).mono ?_
  rintro e w2 ⟨v2, rfl, hr2, hb2⟩
  have B2 := Hd.mk (bstep hb1 hb2)
  obtain ⟨A2, cap2, rfl, hc2, hrd2⟩ := hr2.rd
  have R2 := Hd.mk hrd2
  clear hb1 hb2 hr2 hrd2
  have hms : hm2 = h ∨ hm2 = 10000 := by rw [← HMN.out]; omega
  have hcs : h ≤ 10000 ∧ hm2 = h ∨ ¬ h ≤ 10000 ∧ hm2 = 10000 := by rw [← HMN.out]; omega
  clear hms
  have hlt' : (10000 : Int) < h ∨ ¬ (10000 : Int) < h := by omega
  rcases hcs with ⟨h1, rfl⟩ | ⟨h1, rfl⟩
  all_goals
    clear hlt'
    go_wp2_with fail
    refine (f70_is _ b wd HWD.out (by omega) _).mono ?_
    rintro e w3 ⟨rfl, rfl⟩
    go_wp2_with fail
    refine (f71_is _ b wd HWD.out (by omega) _).mono ?_
    rintro e w3 ⟨rfl, rfl⟩
    go_wp2_with fail
    refine (f72_is _ A2 cap2 (smallP xs) b (small_few xs) R2.out wk HWK.out).mono ?_
    rintro e w3 ⟨rfl, hb3⟩
    have R3 := Hd.mk (R2.out.below hb3)
    have B3 := Hd.mk (bstep B2.out hb3)
    clear hb3
    go_wp2_with fail
    refine (f73_is _ A2 cap2 (smallP xs) b (small_few xs) R3.out wk HWK.out).mono ?_
    rintro e w4 ⟨rfl, hb4⟩
    go_wp2
    go_ret
    exact ⟨rfl, bstep B3.out hb4⟩

theorem law20_calls (A : Option Addr) (xs : List Int) (cap : Nat) (hw : ∀ x ∈ xs, In64 x) (hl : xs.length ≤ cap) (hm : cap ≤ 9223372036854775807) (hA : A = none → cap = 0) (h : Int) (hb : -9223372036854775808 ≤ h ∧ h ≤ 9223372036854775807) (b : Int) (_ : -9223372036854775808 ≤ b ∧ b ≤ 9223372036854775807) (w : World) (hrA : Rd w A xs) :
    Calls Try.prog 20 #[.slice A xs.length cap, .int .i64 h, .int .i64 b] w fun e w' => e = .returned (.bool true) ∧ Below w.heap.size w w' := law20_go w A xs cap hw hl hm hA h b hb.1 hb.2 hrA

end Go.Proofs.Ytnbogjiddildaaa

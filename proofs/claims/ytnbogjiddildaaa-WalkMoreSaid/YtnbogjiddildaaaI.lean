/- Slices of pairs of numbers; contracts of grid.Links, the reference's Links and Same, and the laws' own example of layer 5. -/
import Derived.Test.YtnbogjiddildaaaH
namespace Go.Proofs.Ytnbogjiddildaaa
open Go.RowKit
set_option linter.unusedSimpArgs false
set_option linter.unusedVariables false

/-- The slice value v is a row of the call's own, from block base on: it holds the pairs xs. -/
def cells2 (xs : List (Int × Int)) : List Value := xs.flatMap fun p => [.int .i64 p.1, .int .i64 p.2]
def Row2 (W : World) (base : Nat) (v : Value) (xs : List (Int × Int)) : Prop := W.ownsRow base 30 2 v xs.length (cells2 xs)

theorem info30 : (Try.prog.info? 30).map (fun i => (i.zero, i.size, i.bytes)) = some (some (.agg #[.int .i64 0, .int .i64 0]), 2, 16) := by kernel_rfl

theorem owns_below {W W' : World} {base e size n : Nat} {v : Value} {xs : List Value} (h : W.ownsRow base e size v n xs) (hb : Below W.heap.size W W') : W'.ownsRow base e size v n xs := by
  obtain ⟨h1, h2⟩ := h
  refine ⟨h1, ?_⟩
  rcases h2 with h2 | ⟨g, cap, cur, e, hg, hh, r⟩
  · exact .inl h2
  · refine .inr ⟨g, cap, cur, e, hg, ?_, r⟩
    have hlt : g < W.heap.size := by
      rcases Nat.lt_or_ge g W.heap.size with h | h
      · exact h
      · rw [Array.getElem?_eq_none h] at hh; cases hh
    rw [hb.block g hlt]; exact hh
theorem owns_mono {W : World} {base base' e size n : Nat} {v : Value} {xs : List Value} (h : W.ownsRow base e size v n xs) (hb : base' ≤ base) : W.ownsRow base' e size v n xs := by
  obtain ⟨h1, h2⟩ := h
  refine ⟨h1, ?_⟩
  rcases h2 with h2 | ⟨g, cap, cur, e, hg, r⟩
  · exact .inl h2
  · exact .inr ⟨g, cap, cur, e, by omega, r⟩
theorem owns_ne {W : World} {b b' e e' size size' n n' : Nat} {v v' : Value} {xs xs' : List Value} (h : W.ownsRow b e size v n xs) (h' : W.ownsRow b' e' size' v' n' xs') (hne : e ≠ e') : v.ownBlock = none ∨ v.ownBlock ≠ v'.ownBlock := by
  rcases h.2 with ⟨rfl, _⟩ | ⟨g, cap, cur, rfl, _, hh, _⟩
  · exact .inl rfl
  · rcases h'.2 with ⟨rfl, _⟩ | ⟨g', cap', cur', rfl, _, hh', _⟩
    · exact .inr (by simp [Value.ownBlock])
    · refine .inr fun he => ?_
      have : g = g' := by simpa [Value.ownBlock] using he
      subst this
      rw [hh] at hh'
      injection hh' with hh'
      injection hh' with _ ht
      exact hne ht
theorem Row2.nil_ (W : World) (base : Nat) : Row2 W base (.slice none 0 0) [] := World.ownsRow_nil W base 30 2
theorem Row2.alloc {W : World} {base : Nat} {v : Value} {xs : List (Int × Int)} (h : Row2 W base v xs) (o : Obj) : Row2 (W.alloc o) base v xs := World.ownsRow.alloc h o
theorem Row2.drewN {W : World} {base : Nat} {v : Value} {xs : List (Int × Int)} (h : Row2 W base v xs) (q : Nat) : Row2 (W.drewN q) base v xs := h
theorem Row2.drew {W : World} {base : Nat} {v : Value} {xs : List (Int × Int)} (h : Row2 W base v xs) : Row2 W.drew base v xs := h
theorem Row2.below {W W' : World} {base : Nat} {v : Value} {xs : List (Int × Int)} (h : Row2 W base v xs) (hb : Below W.heap.size W W') : Row2 W' base v xs := owns_below h hb
theorem Row2.mono {W : World} {base base' : Nat} {v : Value} {xs : List (Int × Int)} (h : Row2 W base v xs) (hb : base' ≤ base) : Row2 W base' v xs := owns_mono h hb
theorem Row2.lt {W : World} {base : Nat} {v : Value} {xs : List (Int × Int)} (h : Row2 W base v xs) : ∀ k, v.ownBlock = some k → base ≤ k ∧ k < W.heap.size := World.ownsRow.lt h
theorem Row.at {W : World} {base n cap : Nat} {A : Option Addr} {xs : List Int} (h : Row W base (.slice A n cap) xs) : Rd W A xs := by
  obtain ⟨A', cap', e, _, hr⟩ := h.rd
  injection e with e1 e2 e3
  subst e1
  exact hr
theorem Row.keep2 {W W' : World} {base base' : Nat} {v u : Value} {xs : List Int} {ys : List (Int × Int)} (h : Row W base v xs) (hu : Row2 W base' u ys) (hg : W.grownBy W' u.ownBlock) : Row W' base v xs :=
  World.ownsRow.kept h hg (owns_ne h hu (by decide))

theorem cells2_len (xs : List (Int × Int)) : (cells2 xs).length = xs.length * 2 := by
  induction xs with
  | nil => rfl
  | cons x xs ih => simp [cells2] at *; omega
theorem cells2_append (xs ys : List (Int × Int)) : cells2 (xs ++ ys) = cells2 xs ++ cells2 ys := by simp [cells2]
theorem cells2_at {xs : List (Int × Int)} {k : Nat} {p : Int × Int} (h : xs[k]? = some p) : (cells2 xs)[k * 2]? = some (.int .i64 p.1) ∧ (cells2 xs)[k * 2 + 1]? = some (.int .i64 p.2) := by
  induction xs generalizing k with
  | nil => simp at h
  | cons x xs ih =>
    rcases k with _ | k
    · simp at h; subst h; exact ⟨rfl, rfl⟩
    · have h' : xs[k]? = some p := by simpa using h
      have := ih h'
      rw [show (k + 1) * 2 = k * 2 + 1 + 1 from by omega]
      exact ⟨this.1, this.2⟩

/-- A slice value that reads as the pairs xs (nil too). -/
def Rd2 (W : World) (A : Option Addr) (xs : List (Int × Int)) : Prop :=
  0 < xs.length → ∃ g off, A = some ⟨g, off, none⟩ ∧ g < W.heap.size ∧ ∀ (j : Nat) (u : Int × Int), xs[j]? = some u → W.cell? ⟨g, off + j * 2, none⟩ = some (.int .i64 u.1) ∧ W.cell? ⟨g, off + j * 2 + 1, none⟩ = some (.int .i64 u.2)
theorem Rd2.below {W W' : World} {A : Option Addr} {xs : List (Int × Int)} (h : Rd2 W A xs) (hb : Below W.heap.size W W') : Rd2 W' A xs := fun hn => by
  obtain ⟨g, off, e, hg, hc⟩ := h hn
  have := hb.size
  exact ⟨g, off, e, by omega, fun j u hu => ⟨(hb.cell (p := ⟨g, off + j * 2, none⟩) hg).trans (hc j u hu).1, (hb.cell (p := ⟨g, off + j * 2 + 1, none⟩) hg).trans (hc j u hu).2⟩⟩
theorem Row2.rd {W : World} {base : Nat} {v : Value} {xs : List (Int × Int)} (h : Row2 W base v xs) : ∃ A cap, v = .slice A xs.length cap ∧ xs.length ≤ cap ∧ cap ≤ maxLen ∧ Rd2 W A xs := by
  obtain ⟨h1, h2⟩ := h
  rcases h2 with ⟨e, e0⟩ | ⟨g, cap, cur, e, hg, hh, hn, hm, hs, ht⟩
  · exact ⟨none, 0, by rw [e, e0], by omega, by omega, fun hn => absurd hn (by omega)⟩
  · refine ⟨some ⟨g, 0, none⟩, cap, e, hn, hm, fun _ => ⟨g, 0, rfl, ?_, ?_⟩⟩
    · rcases Nat.lt_or_ge g W.heap.size with h | h
      · exact h
      · rw [Array.getElem?_eq_none h] at hh; cases hh
    · intro j u hu
      have hown : W.ownsRow base 30 2 v xs.length (cells2 xs) := ⟨h1, .inr ⟨g, cap, cur, e, hg, hh, hn, hm, hs, ht⟩⟩
      have hj : j < xs.length := by
        rcases Nat.lt_or_ge j xs.length with h | h
        · exact h
        · rw [List.getElem?_eq_none h] at hu; cases hu
      subst e
      rw [Nat.zero_add]
      exact ⟨(World.ownsRow.cellAt hown (j * 2) (by omega)).trans (cells2_at hu).1, (World.ownsRow.cellAt hown (j * 2 + 1) (by omega)).trans (cells2_at hu).2⟩
theorem Row2.at {W : World} {base n cap : Nat} {A : Option Addr} {xs : List (Int × Int)} (h : Row2 W base (.slice A n cap) xs) : Rd2 W A xs := by
  obtain ⟨A', cap', e, _, _, hr⟩ := h.rd
  injection e with e1 e2 e3
  subst e1
  exact hr

theorem wpList_app2 {ops : Array Oper} {rest : List Oper} {o : Oper} {a : Act} {Q : Exit → Act → World → Prop} {W : World} (hgd : o.guard = none) (s x : Operand)
    (ho : o.op = .call { callee := .builtin .append, args := #[s, x], argTypes := #[25, 25] })
    (base : Nat) (v : Value) (xs : List (Int × Int)) (hs : a.eval s = v) (g : Nat) (hx : a.eval x = .slice (some ⟨g, 0, none⟩) 1 1) (y z : Int)
    (hown : Row2 W base v xs) (hc0 : W.cell? ⟨g, 0, none⟩ = some (.int .i64 y)) (hc1 : W.cell? ⟨g, 1, none⟩ = some (.int .i64 z)) (hlen : xs.length ≤ 1000000) (hbase : base ≤ W.heap.size)
    (h : ∀ v' W', Row2 W' base v' (xs ++ [(y, z)]) → W.grownBy W' v.ownBlock → wpList Try.prog ops Q rest (a.put o.dst v') W') : wpList Try.prog ops Q (o :: rest) a W := by
  obtain ⟨i0, hi0, hz0, hz1, hz2⟩ := info_parts info30
  refine wpList_append_own W hgd s x 25 ho base 30 i0 (.agg #[.int .i64 0, .int .i64 0]) 2 16 Try.underlying25 hi0 hz0 hz1 hz2 rfl (by decide) v xs.length _ hs hown ⟨g, 0, none⟩ 1 1 [.int .i64 y, .int .i64 z] hx rfl ?_ ?_ ?_ ?_ hbase ?_
  · intro j u hu
    rcases j with _ | _ | j
    · simp at hu; subst hu; exact hc0
    · simp at hu; subst hu; simpa [Addr.add] using hc1
    · simp at hu
  · intro u hu; simp at hu; rcases hu with rfl | rfl <;> rfl
  · unfold maxLen; omega
  · omega
  · intro v' W' h1 h2 _
    refine h v' W' ?_ h2
    unfold Row2
    rw [List.length_append, cells2_append]
    exact h1

def linksAt (c : Cfg) (n : Int) : List (Int × Int) := (portsP c n).map fun p => (n, p)
def linksTo (c : Cfg) (k : Nat) : List (Int × Int) := (List.range k).flatMap fun i : Nat => linksAt c i
def linksP (c : Cfg) : List (Int × Int) := linksTo c (nodes c).toNat
theorem linksTo_succ (c : Cfg) (k : Nat) : linksTo c (k + 1) = linksTo c k ++ linksAt c k := by
  unfold linksTo; rw [List.range_succ, List.flatMap_append]; simp
theorem linksTo_len (c : Cfg) (k : Nat) : (linksTo c k).length ≤ 4 * k := by
  induction k with
  | zero => simp [linksTo]
  | succ k ih =>
    rw [linksTo_succ, List.length_append]
    have : (linksAt c k).length ≤ 4 := by unfold linksAt; rw [List.length_map]; exact plP_len c k 4
    omega
theorem take_map_succ (c : Cfg) (n : Int) (j : Nat) (p : Int) (h : (portsP c n)[j]? = some p) : (linksAt c n).take (j + 1) = (linksAt c n).take j ++ [(n, p)] := by
  unfold linksAt
  rw [List.take_add_one, List.getElem?_map, h]; rfl

theorem keepG2 {c : Cfg} {g base : Nat} {w W W' : World} {v : Value} {xs : List (Int × Int)} (hg : W.grownBy W' v.ownBlock) (hr : Row2 W base v xs) (hb : g < base) (hw : w.heap.size ≤ base) (h : W.cell? ⟨g, 0, none⟩ = some (.int .i64 c.W) ∧ W.cell? ⟨g, 1, none⟩ = some (.int .i64 c.H) ∧ W.cell? ⟨g, 2, none⟩ = some (.int .i64 c.L) ∧ W.cell? ⟨g, 3, none⟩ = some (.int .i64 c.D) ∧ W.cell? ⟨g, 4, none⟩ = some (.int .i64 c.R) ∧ W.cell? ⟨g, 5, none⟩ = some (.int .i64 c.I) ∧ W.cell? ⟨g, 6, none⟩ = some (.int .i64 c.B) ∧ W.cell? ⟨g, 7, none⟩ = some (.bool c.ws) ∧ W.cell? ⟨g, 8, none⟩ = some (.bool c.cs) ∧ g < W.heap.size ∧ Below w.heap.size w W) : W'.cell? ⟨g, 0, none⟩ = some (.int .i64 c.W) ∧ W'.cell? ⟨g, 1, none⟩ = some (.int .i64 c.H) ∧ W'.cell? ⟨g, 2, none⟩ = some (.int .i64 c.L) ∧ W'.cell? ⟨g, 3, none⟩ = some (.int .i64 c.D) ∧ W'.cell? ⟨g, 4, none⟩ = some (.int .i64 c.R) ∧ W'.cell? ⟨g, 5, none⟩ = some (.int .i64 c.I) ∧ W'.cell? ⟨g, 6, none⟩ = some (.int .i64 c.B) ∧ W'.cell? ⟨g, 7, none⟩ = some (.bool c.ws) ∧ W'.cell? ⟨g, 8, none⟩ = some (.bool c.cs) ∧ g < W'.heap.size ∧ Below w.heap.size w W' := by
  obtain ⟨h0, h1, h2, h3, h4, h5, h6, h7, h8, hl, hB⟩ := h
  have hs := hg.size
  have hne : some g ≠ v.ownBlock := fun e => by have := (hr.lt g e.symm).1; omega
  have hcell : ∀ i u, W.cell? ⟨g, i, none⟩ = some u → W'.cell? ⟨g, i, none⟩ = some u := fun i u hu => hg.cell hu hne
  refine ⟨hcell _ _ h0, hcell _ _ h1, hcell _ _ h2, hcell _ _ h3, hcell _ _ h4, hcell _ _ h5, hcell _ _ h6, hcell _ _ h7, hcell _ _ h8, by omega, hB.grown hg hB.size fun k hk => ?_⟩
  have := (hr.lt k hk).1
  omega

structure RelOut (c : Cfg) (w : World) (v i : Value) (W : World) (k : Nat) : Prop where
  kn : (k : Int) ≤ nodes c
  hi : i = .int .i64 (k : Int)
  row : Row2 W (w.heap.size + 1) v (linksTo c k)
  s : W.cell? ⟨w.heap.size, 0, none⟩ = some (.int .i64 c.W) ∧ W.cell? ⟨w.heap.size, 1, none⟩ = some (.int .i64 c.H) ∧ W.cell? ⟨w.heap.size, 2, none⟩ = some (.int .i64 c.L) ∧ W.cell? ⟨w.heap.size, 3, none⟩ = some (.int .i64 c.D) ∧ W.cell? ⟨w.heap.size, 4, none⟩ = some (.int .i64 c.R) ∧ W.cell? ⟨w.heap.size, 5, none⟩ = some (.int .i64 c.I) ∧ W.cell? ⟨w.heap.size, 6, none⟩ = some (.int .i64 c.B) ∧ W.cell? ⟨w.heap.size, 7, none⟩ = some (.bool c.ws) ∧ W.cell? ⟨w.heap.size, 8, none⟩ = some (.bool c.cs) ∧ w.heap.size < W.heap.size ∧ Below w.heap.size w W

structure RelIn (c : Cfg) (w : World) (k : Nat) (A : Option Addr) (cap : Nat) (v i : Value) (W : World) (j : Nat) : Prop where
  jn : j ≤ (portsP c k).length
  hi : i = .int .i64 (j : Int)
  row : Row2 W (w.heap.size + 1) v (linksTo c k ++ (linksAt c k).take j)
  ports : Row W 0 (.slice A (portsP c k).length cap) (portsP c k)
  s : W.cell? ⟨w.heap.size, 0, none⟩ = some (.int .i64 c.W) ∧ W.cell? ⟨w.heap.size, 1, none⟩ = some (.int .i64 c.H) ∧ W.cell? ⟨w.heap.size, 2, none⟩ = some (.int .i64 c.L) ∧ W.cell? ⟨w.heap.size, 3, none⟩ = some (.int .i64 c.D) ∧ W.cell? ⟨w.heap.size, 4, none⟩ = some (.int .i64 c.R) ∧ W.cell? ⟨w.heap.size, 5, none⟩ = some (.int .i64 c.I) ∧ W.cell? ⟨w.heap.size, 6, none⟩ = some (.int .i64 c.B) ∧ W.cell? ⟨w.heap.size, 7, none⟩ = some (.bool c.ws) ∧ W.cell? ⟨w.heap.size, 8, none⟩ = some (.bool c.cs) ∧ w.heap.size < W.heap.size ∧ Below w.heap.size w W

set_option maxHeartbeats 1000000 in
set_option maxRecDepth 20000 in
theorem f26_any (c : Cfg) (w : World) :
    Calls Try.prog 26 #[cv c] w fun e w' => ∃ v, e = .returned v ∧ Row2 w' w.heap.size v (linksP c) ∧ Below w.heap.size w w' := by
  go_enter Try.func26, Try.ntmps26
  go_wp2_with fail
  refine (f80_any c _).mono ?_
  rintro e w1 ⟨rfl, hb1⟩
  have S1 := keepS hb1 (s0 c w)
  clear hb1
  have hnb := nodes_bd c
  go_wp2_with fail
  go_loopw [3, 9] (fun v i W => ∃ k : Nat, RelOut c w v i W k) (fun _ i _ => (nodes c).toNat - (intOf i).toNat)
  case atStart => exact ⟨0, by omega, rfl, Row2.nil_ _ _, S1⟩
  case round =>
    obtain ⟨k, hk, rfl, hrow, hS⟩ := hrel
    clear S1
    have HR := Hd.mk hrow
    clear hrow
    by_cases hlt : (k : Int) < nodes c
    · go_wp2_with fail
      refine (f29_any c k _).mono ?_
      rintro e W1 ⟨v1, rfl, hrow1, hb1⟩
      have S1 := keepS hb1 hS
      have HR1 := Hd.mk (HR.out.below hb1)
      obtain ⟨A, cap, rfl, hcap, -⟩ := hrow1.rd
      have HP1 := Hd.mk (hrow1.mono (Nat.zero_le _))
      clear hb1 hS HR hrow1
      have hpl : (portsP c k).length ≤ 4 := plP_len c k 4
      go_wp2_with fail
      go_loopw [3, 16] (fun v i W => ∃ j : Nat, RelIn c w k A cap v i W j) (fun _ i _ => (portsP c k).length - (intOf i).toNat)
      case atStart => exact ⟨0, by omega, rfl, by simpa using HR1.out, HP1.out, S1⟩
      case round =>
        obtain ⟨j, hj, rfl, hrow, hports, hS⟩ := hrel
        clear HR1 HP1 S1
        have HR := Hd.mk hrow
        have HP := Hd.mk hports
        clear hrow hports
        by_cases hjl : j < (portsP c k).length
        · obtain ⟨p, HPj⟩ : ∃ p, Hd ((portsP c k)[j]? = some p) := ⟨(portsP c k)[j], ⟨List.getElem?_eq_getElem hjl⟩⟩
          obtain ⟨ga, oa, rfl, hga, hcs⟩ := (HP.out.at) (by omega)
          have hcell := hcs j p HPj.out
          clear hcs
          have hz := hS.2.2.2.2.2.2.2.2.2.1
          have hl := linksTo_len c k
          have hl2 : ((linksAt c k).take j).length ≤ 4 := by rw [List.length_take]; unfold linksAt; rw [List.length_map]; have := plP_len c k 4; unfold portsP; omega
          go_wp2_with (at_builtin; refine wpList_app2 rfl (.tmp 20) (.tmp 24) rfl (w.heap.size + 1) _ _ rfl _ rfl (k : Int) p (HR.out.alloc _) (by simp) (by simp) (by rw [List.length_append]; omega) (by simp; omega) ?_; intro v' W2 hr2 hg2; have S2 := keepG2 hg2 (HR.out.alloc _) (by omega) (by omega) (allocS _ hS); have HR2 := Hd.mk hr2; have HP2 := Hd.mk ((HP.out.alloc _).keep2 (HR.out.alloc _) hg2); clear hr2 hg2 hS HR HP)
          go_roundw
          case rel => exact ⟨j + 1, by omega, by go_num, by rw [take_map_succ c k j p HPj.out, ← List.append_assoc]; exact HR2.out, HP2.out, S2⟩
          case measure => simp [intOf]; omega
        · have hj2 : j = (portsP c k).length := by omega
          go_wp2
          go_roundw
          case rel => exact ⟨k + 1, by omega, by go_num, by rw [linksTo_succ]; have h := HR.out; rw [List.take_of_length_le (by unfold linksAt; rw [List.length_map]; omega)] at h; exact h, hS⟩
          case measure => simp [intOf]; omega
    · have hk2 : (k : Int) = nodes c := by omega
      have HK : Hd (k = (nodes c).toNat) := ⟨by omega⟩
      clear hk2
      go_wp2
      go_ret
      exact ⟨_, rfl, by have h := HR.out.mono (base' := w.heap.size) (by omega); rw [HK.out] at h; exact h, sB hS⟩

set_option maxHeartbeats 1000000 in
set_option maxRecDepth 20000 in
theorem f27_any (c : Cfg) (w : World) :
    Calls Try.prog 27 #[cv c] w fun e w' => ∃ v, e = .returned v ∧ Row2 w' w.heap.size v (linksP c) ∧ Below w.heap.size w w' := by
  go_enter Try.func27, Try.ntmps27
  have hnb := nodes_bd c
  go_wp2_with fail
  go_loopw [3, 4] (fun v i W => ∃ k : Nat, RelOut c w v i W k) (fun _ i _ => (nodes c).toNat - (intOf i).toNat)
  case atStart => exact ⟨0, by omega, rfl, Row2.nil_ _ _, s0 c w⟩
  case round =>
    obtain ⟨k, hk, rfl, hrow, hS⟩ := hrel
    have HR := Hd.mk hrow
    clear hrow
    by_cases hlt : (k : Int) < nodes c
    · go_wp2_with fail
      refine (f81_any c _).mono ?_
      rintro e W0 ⟨rfl, hb0⟩
      have S0 := keepS hb0 hS
      have HR0 := Hd.mk (HR.out.below hb0)
      clear hb0 hS HR
      go_wp2_with fail
      refine (f30_any c k _).mono ?_
      rintro e W1 ⟨v1, rfl, hrow1, hb1⟩
      have S1 := keepS hb1 S0
      have HR1 := Hd.mk (HR0.out.below hb1)
      obtain ⟨A, cap, rfl, hcap, -⟩ := hrow1.rd
      have HP1 := Hd.mk (hrow1.mono (Nat.zero_le _))
      clear hb1 S0 HR0 hrow1
      have hpl : (portsP c k).length ≤ 4 := plP_len c k 4
      go_wp2_with fail
      go_loopw [3, 6] (fun v i W => ∃ j : Nat, RelIn c w k A cap v i W j) (fun _ i _ => (portsP c k).length - (intOf i).toNat)
      case atStart => exact ⟨0, by omega, rfl, by simpa using HR1.out, HP1.out, S1⟩
      case round =>
        obtain ⟨j, hj, rfl, hrow, hports, hS⟩ := hrel
        clear HR1 HP1 S1
        have HR := Hd.mk hrow
        have HP := Hd.mk hports
        clear hrow hports
        by_cases hjl : j < (portsP c k).length
        · obtain ⟨p, HPj⟩ : ∃ p, Hd ((portsP c k)[j]? = some p) := ⟨(portsP c k)[j], ⟨List.getElem?_eq_getElem hjl⟩⟩
          obtain ⟨ga, oa, rfl, hga, hcs⟩ := (HP.out.at) (by omega)
          have hcell := hcs j p HPj.out
          clear hcs
          have hz := hS.2.2.2.2.2.2.2.2.2.1
          have hl := linksTo_len c k
          have hl2 : ((linksAt c k).take j).length ≤ 4 := by rw [List.length_take]; unfold linksAt; rw [List.length_map]; have := plP_len c k 4; unfold portsP; omega
          go_wp2_with (at_builtin; refine wpList_app2 rfl (.tmp 22) (.tmp 29) rfl (w.heap.size + 1) _ _ rfl _ rfl (k : Int) p (HR.out.alloc _) (by simp) (by simp) (by rw [List.length_append]; omega) (by simp; omega) ?_; intro v' W2 hr2 hg2; have S2 := keepG2 hg2 (HR.out.alloc _) (by omega) (by omega) (allocS _ hS); have HR2 := Hd.mk hr2; have HP2 := Hd.mk ((HP.out.alloc _).keep2 (HR.out.alloc _) hg2); clear hr2 hg2 hS HR HP)
          go_roundw
          case rel => exact ⟨j + 1, by omega, by go_num, by rw [take_map_succ c k j p HPj.out, ← List.append_assoc]; exact HR2.out, HP2.out, S2⟩
          case measure => simp [intOf]; omega
        · have hj2 : j = (portsP c k).length := by omega
          go_wp2
          go_roundw
          case rel => exact ⟨k + 1, by omega, by go_num, by rw [linksTo_succ]; have h := HR.out; rw [List.take_of_length_le (by unfold linksAt; rw [List.length_map]; omega)] at h; exact h, hS⟩
          case measure => simp [intOf]; omega
    · have hk2 : (k : Int) = nodes c := by omega
      have HK : Hd (k = (nodes c).toNat) := ⟨by omega⟩
      clear hk2
      go_wp2_with fail
      refine (f81_any c _).mono ?_
      rintro e W0 ⟨rfl, hb0⟩
      have S0 := keepS hb0 hS
      have HR0 := Hd.mk (HR.out.below hb0)
      clear hb0 hS HR
      go_wp2
      go_ret
      exact ⟨_, rfl, by have h := HR0.out.mono (base' := w.heap.size) (by omega); rw [HK.out] at h; exact h, sB S0⟩

end Go.Proofs.Ytnbogjiddildaaa

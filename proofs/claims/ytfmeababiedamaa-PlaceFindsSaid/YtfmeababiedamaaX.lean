/- What the changes of a map come to, in plain Lean; how a map lies in memory. -/
import Derived.Test.YtfmeababiedamaaK
namespace Go.Proofs.Ytfmeababiedamaa.X
open Go.RowKit Go.Shelf Go.Proofs.YtfmeababiedamaaW.PrintWords Go.Proofs.YtfmeababiedamaaW.PrintLast Go.Proofs.YtfmeababiedamaaW.PrintMore
open Go.Proofs.Ytfmeababiedamaa Go.Proofs.Ytfmeababiedamaa.M Go.Proofs.Ytfmeababiedamaa.Sp Go.Proofs.Ytfmeababiedamaa.E Go.Proofs.Ytfmeababiedamaa.G Go.Proofs.Ytfmeababiedamaa.A Go.Proofs.Ytfmeababiedamaa.T Go.Proofs.Ytfmeababiedamaa.K
set_option linter.unusedVariables false
set_option linter.unusedSimpArgs false

/-- a map's row is read -/
def MapC (w : World) (v : Value) (l : List S32) : Prop := ∃ A c, v = .slice A l.length c ∧ l.length ≤ c ∧ Kd.C k32 w A l.length l
theorem MapC.below {w w' : World} {v : Value} {l : List S32} (h : MapC w v l) (hb : Below w.heap.size w w') : MapC w' v l := by
  obtain ⟨A, c, rfl, hc, hr⟩ := h
  exact ⟨A, c, rfl, hc, Kd.C_below hr hb⟩
theorem MapC.of_R {w : World} {base : Nat} {ok : Nat → Prop} {v : Value} {l : List S32} (h : Kd.R k32 32 w base ok v l) : MapC w v l := by
  obtain ⟨A, c, rfl, hc, hr⟩ := Kd.R_reads h
  exact ⟨A, c, rfl, hc, hr⟩

theorem eg64 : ∀ args w, (callFunc 64 args).run Try.prog w = .ok (.enter 64 args) w := enters_of Try.func64 (by kernel_rfl) rfl
theorem eg63 : ∀ args w, (callFunc 63 args).run Try.prog w = .ok (.enter 63 args) w := enters_of Try.func63 (by kernel_rfl) rfl
theorem below_then {w W w' : World} (h : Below w.heap.size w W) (k : Below W.heap.size W w') : Below w.heap.size w w' := h.trans (k.mono h.size)
/-- IndexFunc(parts, at(s)) -/
theorem idxAt (A : Option Addr) (c : Nat) (l : List S32) (s : ByteArray) (B : Nat) (w : World) (hr : Kd.C k32 w A l.length l) (hB : Boxed w B 9 (.string s)) :
    Calls Try.prog 48 #[.slice A l.length c, .func (.func 64) #[] #[.pointer (some ⟨B, 0, none⟩)]] w fun e w' => e = .returned (.int .i64 (exL l s)) ∧ Below w.heap.size w w' :=
  idx48 (fun x => x.f0.toList == s.toList) 64 _ eg64 A c l w hr (fun W x hb => (at64 x s B W (blk_below hB hb)).mono (fun e w' h => ⟨h.1, below_then hb h.2⟩))
/-- where a part with a home stands, or -1 -/
def hmL (l : List S32) (h : Int) : Int := idxP (fun x => x.f1 == h) l 0
theorem idxOf (A : Option Addr) (c : Nat) (l : List S32) (s : Int) (B : Nat) (w : World) (hr : Kd.C k32 w A l.length l) (hB : Boxed w B 3 (.int .i64 s)) :
    Calls Try.prog 48 #[.slice A l.length c, .func (.func 63) #[] #[.pointer (some ⟨B, 0, none⟩)]] w fun e w' => e = .returned (.int .i64 (hmL l s)) ∧ Below w.heap.size w w' :=
  idx48 (fun x => x.f1 == s) 63 _ eg63 A c l w hr (fun W x hb => (of63 x s B W (blk_below hB hb)).mono (fun e w' h => ⟨h.1, below_then hb h.2⟩))
/-- ContainsFunc -/
theorem hasF (v : Value) (g : Nat) (lb : Array Value) (n : Int) (w : World) (h : Calls Try.prog 48 #[v, .func (.func g) #[] lb] w fun e w' => e = .returned (.int .i64 n) ∧ Below w.heap.size w w') :
    Calls Try.prog 46 #[v, .func (.func g) #[] lb] w fun e w' => e = .returned (.bool (decide (0 ≤ n))) ∧ Below w.heap.size w w' := by
  go_enter Try.func46, Try.ntmps46
  go_wp2_with (go_at_call 48; refine h.mono ?_; rintro e w' ⟨rfl, hb⟩)
  go_ret
  exact ⟨rfl, hb⟩

/-- an element is another one -/
def upd (l : List S32) (i : Nat) (f : S32 → S32) : List S32 := l.set i (f (rd_T32 l (i : Int)))
def bump (x : S32) : S32 := ⟨x.f0, x.f1, x.f2, wrap64 (x.f3 + 1)⟩
def moveL (l : List S32) (s : ByteArray) (rg : Int) : List S32 × Int :=
  if isPath (ub s) then (if exL l s < 0 then (l, 240) else if decide (0 ≤ rg) && decide (rg < 8) then (upd l (exL l s).toNat (fun x => ⟨x.f0, x.f1, rg, wrap64 (x.f3 + 1)⟩), 0) else (l, 1)) else (l, 10)

/-- one cell of an element is written -/
theorem R_field {W : World} {base g cap : Nat} {ok : Nat → Prop} {l : List S32} (h : Kd.R k32 32 W base ok (.slice (some ⟨g, 0, none⟩) l.length cap) l) (i j : Nat) (hi : i < l.length) (hj : j < 4) (v : Value) (x' : S32)
    (hv : v.oneCell' = true) (hx : (partC (rd_T32 l (i : Int))).set j v = partC x') :
    Kd.R k32 32 (W.setCell ⟨g, i * 4 + j, none⟩ v) base ok (.slice (some ⟨g, 0, none⟩) l.length cap) (l.set i x') ∧ W.grownBy (W.setCell ⟨g, i * 4 + j, none⟩ v) (some g) := by
  obtain ⟨c, hcl, hM, hcell, hfr⟩ := Kd.R_elem h z32 (i : Int) (by omega) (by omega)
  have e : c = partC (rd_T32 l (i : Int)) := k32_openM hM
  have h1 := Kd.R_seg h (i : Int) (by omega) (by omega) (c := c) (seg := [v]) (j := j) hcl hcell (by show j + 1 ≤ 4; omega) (x' := x') (okp := fun k => ok k ∧ k ≠ g) (by
    have e2 : c.take j ++ [v] ++ c.drop (j + [v].length) = partC x' := by
      rw [← hx, ← e, List.set_eq_take_append_cons_drop, if_pos (by rw [hcl]; exact hj)]
      simp
    rw [e2]
    exact k32_mkM _ _ _ _) (fun k hk => hk)
  exact h1
theorem R_cells {W : World} {base g n cap : Nat} {ok : Nat → Prop} {l : List S32} (h : Kd.R k32 32 W base ok (.slice (some ⟨g, 0, none⟩) n cap) l) (i : Nat) (hi : i < l.length) :
    (W.cell? ⟨g, i * 4, none⟩ = some (.string (rd_T32 l (i : Int)).f0) ∧ W.cell? ⟨g, i * 4 + 1, none⟩ = some (.int .i64 (rd_T32 l (i : Int)).f1) ∧ W.cell? ⟨g, i * 4 + 2, none⟩ = some (.int .i64 (rd_T32 l (i : Int)).f2) ∧
      W.cell? ⟨g, i * 4 + 3, none⟩ = some (.int .i64 (rd_T32 l (i : Int)).f3)) ∧ ∀ j, W.frozen? ⟨g, i * 4 + j, none⟩ = false := by
  have hn := (Kd.R_reads' h).1
  obtain ⟨c, hcl, hM, hcell, hfr⟩ := Kd.R_elem h z32 (i : Int) (by omega) (by omega)
  have e : c = partC (rd_T32 l (i : Int)) := k32_openM hM
  subst e
  exact ⟨⟨hcell 0 _ rfl, hcell 1 _ rfl, hcell 2 _ rfl, hcell 3 _ rfl⟩, hfr⟩
theorem idxP_range (p : S32 → Bool) : ∀ (l : List S32) (k : Nat), idxP p l k = -1 ∨ ∃ i, k ≤ i ∧ i < k + l.length ∧ idxP p l k = (i : Int)
  | [], _ => .inl rfl
  | x :: r, k => by
    unfold idxP
    split
    · exact .inr ⟨k, Nat.le_refl _, by simp, rfl⟩
    · rcases idxP_range p r (k + 1) with h | ⟨i, h1, h2, h3⟩
      · exact .inl h
      · exact .inr ⟨i, by omega, by simp only [List.length_cons]; omega, h3⟩
theorem exL_range (l : List S32) (s : ByteArray) (h : ¬ exL l s < 0) : ∃ i : Nat, i < l.length ∧ exL l s = (i : Int) := by
  rcases idxP_range (fun x => x.f0.toList == s.toList) l 0 with h1 | ⟨i, _, h2, h3⟩
  · exact absurd (by unfold exL; rw [h1]; decide) h
  · exact ⟨i, by omega, h3⟩
theorem rd_set (l : List S32) (i : Nat) (x : S32) (h : i < l.length) : rd_T32 (l.set i x) (i : Int) = x := by
  rw [rd_at _ _ (by rw [List.length_set]; exact h)]; simp
theorem R_field2 {W : World} {base g n cap : Nat} {ok : Nat → Prop} {l : List S32} (h : Kd.R k32 32 W base ok (.slice (some ⟨g, 0, none⟩) n cap) l) (i j : Nat) (hi : i < l.length) (hj : j < 4) (v : Value) (x' : S32)
    (hv : v.oneCell' = true) (hx : (partC (rd_T32 l (i : Int))).set j v = partC x') :
    Kd.R k32 32 (W.setCell ⟨g, i * 4 + j, none⟩ v) base ok (.slice (some ⟨g, 0, none⟩) n cap) (l.set i x') ∧ W.grownBy (W.setCell ⟨g, i * 4 + j, none⟩ v) (some g) := by
  obtain rfl := (Kd.R_reads' h).1
  exact R_field h i j hi hj v x' hv hx
theorem block_at {W : World} {base g n cap : Nat} {ok : Nat → Prop} {l : List S32} (h : Kd.R k32 32 W base ok (.slice (some ⟨g, 0, none⟩) n cap) l) (hl : 0 < l.length) :
    ∃ cur : Array Value, W.heap[g]? = some (.cells cur 32 (0, 0)) ∧ cur.size = cap * 4 ∧ cur.toList.take (l.length * 4) = flat l ∧ cap ≤ maxLen ∧ base ≤ g := by
  obtain ⟨g', cap', cur, hv, hg, _, hb, _, hm, hs, hc⟩ := block_of_R h hl
  injection hv with ha _ hc'
  injection ha with ha
  injection ha with hg'
  subst hg'; subst hc'
  exact ⟨cur, hb, hs, hc, hm, hg⟩
theorem C_of_block {W : World} {g cap : Nat} {l : List S32} {cur : Array Value} (hb : W.heap[g]? = some (.cells cur 32 (0, 0))) (hm : cap ≤ maxLen) (hs : cur.size = cap * 4) (hc : cur.toList.take (l.length * 4) = flat l) :
    Kd.C k32 W (some ⟨g, 0, none⟩) l.length l := (Kd.R_reads' (R_of_block hb (Nat.zero_le g) trivial hm hs hc (ok := fun _ => True))).2.2
end Go.Proofs.Ytfmeababiedamaa.X

/- Valid maps, and the changes that keep them so, in plain Lean. -/
import Derived.Test.YtfmeababiedamaaZ
import Derived.Test.YtfmeababiedamaaV23
import Derived.Test.YtfmeababiedamaaV25
import Derived.Test.YtfmeababiedamaaV26
namespace Go.Proofs.Ytfmeababiedamaa.P
open Go.RowKit Go.Shelf Go.Proofs.YtfmeababiedamaaW.PrintWords Go.Proofs.YtfmeababiedamaaW.PrintLast Go.Proofs.YtfmeababiedamaaW.PrintMore
open Go.Proofs.Ytfmeababiedamaa Go.Proofs.Ytfmeababiedamaa.M Go.Proofs.Ytfmeababiedamaa.Sp Go.Proofs.Ytfmeababiedamaa.E Go.Proofs.Ytfmeababiedamaa.G Go.Proofs.Ytfmeababiedamaa.A Go.Proofs.Ytfmeababiedamaa.T Go.Proofs.Ytfmeababiedamaa.K Go.Proofs.Ytfmeababiedamaa.X Go.Proofs.Ytfmeababiedamaa.V11 Go.Proofs.Ytfmeababiedamaa.V36 Go.Proofs.Ytfmeababiedamaa.V30 Go.Proofs.Ytfmeababiedamaa.V29 Go.Proofs.Ytfmeababiedamaa.V26 Go.Proofs.Ytfmeababiedamaa.V25 Go.Proofs.Ytfmeababiedamaa.V23 Go.Proofs.Ytfmeababiedamaa.V52 Go.Proofs.Ytfmeababiedamaa.B Go.Proofs.Ytfmeababiedamaa.V13 Go.Proofs.Ytfmeababiedamaa.V38 Go.Proofs.Ytfmeababiedamaa.Z
set_option linter.unusedVariables false
set_option linter.unusedSimpArgs false

abbrev bl := Op.bytesLess
/-! the order of texts -/
theorem u8_lt_irrefl (a : UInt8) : ¬ a < a := fun h => absurd (UInt8.lt_iff_toNat_lt.1 h) (Nat.lt_irrefl _)
theorem bl_irrefl : ∀ a : Bs, bl a a = false
  | [] => rfl
  | a :: r => by
    show (decide (a < a) || (a == a && bl r r)) = false
    rw [bl_irrefl r, Bool.and_false, Bool.or_false]
    exact decide_eq_false (u8_lt_irrefl a)
theorem bl_cons (a b : UInt8) (x y : Bs) : bl (a :: x) (b :: y) = true ↔ a < b ∨ (a = b ∧ bl x y = true) := by
  show (decide (a < b) || (a == b && bl x y)) = true ↔ _
  rw [Bool.or_eq_true, Bool.and_eq_true, decide_eq_true_eq, beq_iff_eq]
theorem bl_nil (a : Bs) : bl a [] = false := less_nil a
theorem bl_trans : ∀ a b c : Bs, bl a b = true → bl b c = true → bl a c = true
  | _, _, [], _, h => by rw [bl_nil] at h; cases h
  | _, [], _ :: _, h, _ => by rw [bl_nil] at h; cases h
  | [], _ :: _, _ :: _, _, _ => rfl
  | x :: a, y :: b, z :: c, h1, h2 => by
    rw [bl_cons] at h1 h2 ⊢
    rcases h1 with h1 | ⟨rfl, h1⟩
    · rcases h2 with h2 | ⟨rfl, h2⟩
      · exact .inl (UInt8.lt_trans h1 h2)
      · exact .inl h1
    · rcases h2 with h2 | ⟨rfl, h2⟩
      · exact .inl h2
      · exact .inr ⟨rfl, bl_trans a b c h1 h2⟩
theorem bl_asymm (a b : Bs) (h1 : bl a b = true) (h2 : bl b a = true) : False := by
  have := bl_trans a b a h1 h2
  rw [bl_irrefl] at this
  cases this
theorem bl_total : ∀ a b : Bs, bl a b = false → bl b a = false → a = b
  | [], [], _, _ => rfl
  | [], _ :: _, h, _ => by cases h
  | _ :: _, [], _, h => by cases h
  | x :: a, y :: b, h1, h2 => by
    have n1 : ¬ (x < y ∨ (x = y ∧ bl a b = true)) := fun h => by rw [(bl_cons x y a b).2 h] at h1; cases h1
    have n2 : ¬ (y < x ∨ (y = x ∧ bl b a = true)) := fun h => by rw [(bl_cons y x b a).2 h] at h2; cases h2
    have e : x = y := by
      apply UInt8.toNat_inj.1
      have a1 : ¬ x.toNat < y.toNat := fun h => n1 (.inl (UInt8.lt_iff_toNat_lt.2 h))
      have a2 : ¬ y.toNat < x.toNat := fun h => n2 (.inl (UInt8.lt_iff_toNat_lt.2 h))
      omega
    subst e
    have b1 : bl a b = false := by
      cases hb : bl a b
      · rfl
      · exact absurd (.inr ⟨rfl, hb⟩) n1
    have b2 : bl b a = false := by
      cases hb : bl b a
      · rfl
      · exact absurd (.inr ⟨rfl, hb⟩) n2
    rw [bl_total a b b1 b2]
theorem bl_app : ∀ (a t : Bs), t ≠ [] → bl a (a ++ t) = true
  | [], [], h => absurd rfl h
  | [], _ :: _, _ => rfl
  | a :: r, t, h => by
    rw [List.cons_append, bl_cons]
    exact .inr ⟨rfl, bl_app r t h⟩
theorem below_pre {s x : Bs} (h : below s x = true) : x <+: s := by
  rcases (below_iff s x).1 h with rfl | rfl | ⟨r, rfl⟩
  · exact List.prefix_refl _
  · exact List.nil_prefix
  · rw [List.append_assoc]; exact List.prefix_append _ _
/-- of two places above a path, the shorter one comes first -/
theorem below_len {s x y : Bs} (hx : below s x = true) (hy : below s y = true) (h : y.length < x.length) : bl y x = true := by
  obtain ⟨t, ht⟩ := List.prefix_of_prefix_length_le (below_pre hy) (below_pre hx) (Nat.le_of_lt h)
  rw [← ht]
  refine bl_app y t (fun e => ?_)
  rw [e, List.append_nil] at ht
  rw [ht] at h
  exact Nat.lt_irrefl _ h

/-! valid maps -/
structure VL (k : Nat) (l : List S32) : Prop where
  head : ∃ x r, l = x :: r ∧ ub x.f0 = []
  sorted : (l.map (fun x => ub x.f0)).Pairwise (fun a b => bl a b = true)
  homes : (l.map (·.f1)).Nodup
  each : ∀ x ∈ l, isPath (ub x.f0) = true ∧ x.f0.size ≤ 5 ∧ (0 ≤ x.f1 ∧ x.f1 ≤ 15) ∧ (0 ≤ x.f2 ∧ x.f2 < 8) ∧ 1 ≤ x.f3 ∧ x.f3 ≤ 1 + k
theorem VL.mono {k k' : Nat} {l : List S32} (h : VL k l) (hk : k ≤ k') : VL k' l :=
  ⟨h.head, h.sorted, h.homes, fun x hx => by obtain ⟨a, b, c, d, e, f⟩ := h.each x hx; exact ⟨a, b, c, d, e, by omega⟩⟩
theorem VL.pos {k : Nat} {l : List S32} (h : VL k l) : 0 < l.length := by
  obtain ⟨x, r, rfl, _⟩ := h.head
  exact Nat.succ_pos _
theorem VL.root {k : Nat} {l : List S32} (h : VL k l) : (rd_T32 l ((0 : Nat) : Int)).f0.toList = [] := by
  obtain ⟨x, r, rfl, hx⟩ := h.head
  show x.f0.toList = []
  rw [tl]; exact hx
theorem nodup_len : ∀ (n : Nat) (l : List Int), l.Nodup → (∀ x ∈ l, 0 ≤ x ∧ x < n) → l.length ≤ n
  | 0, l, _, h => by
    rcases l with _ | ⟨x, r⟩
    · exact Nat.le_refl _
    · have := h x (List.mem_cons_self ..); omega
  | n + 1, l, hn, h => by
    have h1 := nodup_len n (l.erase (n : Int)) (hn.erase _) (fun x hx => by
      have hm := List.mem_of_mem_erase hx
      have := h x hm
      have hne : x ≠ (n : Int) := (hn.mem_erase_iff.1 hx).1
      omega)
    rw [List.length_erase] at h1
    split at h1 <;> omega
theorem VL.most {k : Nat} {l : List S32} (h : VL k l) : l.length ≤ 16 := by
  have := nodup_len 16 (l.map (·.f1)) h.homes (fun x hx => by
    obtain ⟨y, hy, rfl⟩ := List.mem_map.1 hx
    have := (h.each y hy).2.2.1
    omega)
  rwa [List.length_map] at this
theorem VL.small {k : Nat} {l : List S32} (h : VL k l) : Small l := ⟨by have := h.most; omega, fun x hx => by have := (h.each x hx).2.1; omega⟩
theorem VL.lt {k : Nat} {l : List S32} (h : VL k l) {i j : Nat} (hij : i < j) (hj : j < l.length) : bl (ub (rd_T32 l (i : Int)).f0) (ub (rd_T32 l (j : Int)).f0) = true := by
  have := List.pairwise_iff_getElem.1 h.sorted i j (by rw [List.length_map]; omega) (by rw [List.length_map]; exact hj) hij
  rw [List.getElem_map, List.getElem_map] at this
  rwa [rd_at l i (by omega), rd_at l j hj]
theorem VL.home {k : Nat} {l : List S32} (h : VL k l) {i j : Nat} (hij : i < j) (hj : j < l.length) : (rd_T32 l (i : Int)).f1 ≠ (rd_T32 l (j : Int)).f1 := by
  have := List.pairwise_iff_getElem.1 h.homes i j (by rw [List.length_map]; omega) (by rw [List.length_map]; exact hj) hij
  rw [List.getElem_map, List.getElem_map] at this
  rwa [rd_at l i (by omega), rd_at l j hj]
theorem VL.at {k : Nat} {l : List S32} (h : VL k l) {i : Nat} (hi : i < l.length) : isPath (ub (rd_T32 l (i : Int)).f0) = true ∧ (rd_T32 l (i : Int)).f0.size ≤ 5 ∧ (0 ≤ (rd_T32 l (i : Int)).f1 ∧ (rd_T32 l (i : Int)).f1 ≤ 15) ∧ (0 ≤ (rd_T32 l (i : Int)).f2 ∧ (rd_T32 l (i : Int)).f2 < 8) ∧ 1 ≤ (rd_T32 l (i : Int)).f3 ∧ (rd_T32 l (i : Int)).f3 ≤ 1 + k := by
  rw [rd_at l i hi]; exact h.each _ (List.getElem_mem hi)
theorem idxP_none (p : S32 → Bool) : ∀ (l : List S32) (k : Nat), idxP p l k < 0 ↔ ∀ x ∈ l, p x = false
  | [], k => ⟨fun _ x hx => absurd hx List.not_mem_nil, fun _ => (by decide : (-1 : Int) < 0)⟩
  | y :: r, k => by
    unfold idxP
    split
    · rename_i h
      exact ⟨fun hc => absurd hc (by omega), fun hc => by rw [hc y (List.mem_cons_self ..)] at h; cases h⟩
    · rename_i h
      rw [idxP_none p r (k + 1)]
      constructor
      · intro hc x hx
        rcases List.mem_cons.1 hx with rfl | hx
        · exact Bool.eq_false_iff.2 h
        · exact hc x hx
      · intro hc x hx
        exact hc x (List.mem_cons_of_mem _ hx)
theorem exL_neg (l : List S32) (s : ByteArray) : exL l s < 0 ↔ ∀ x ∈ l, ub x.f0 ≠ ub s := by
  unfold exL
  rw [idxP_none]
  constructor
  · intro h x hx e
    have := h x hx
    rw [tl, tl, e, beq_self_eq_true] at this
    cases this
  · intro h x hx
    have := h x hx
    rw [tl, tl]
    simpa using this
theorem hmL_neg (l : List S32) (n : Int) : hmL l n < 0 ↔ ∀ x ∈ l, x.f1 ≠ n := by
  unfold hmL
  rw [idxP_none]
  constructor
  · intro h x hx e
    have := h x hx
    simp [e] at this
  · intro h x hx
    have := h x hx
    simpa using this
theorem VL.valid {k : Nat} {l : List S32} (h : VL k l) : ValidL l := by
  refine ⟨h.pos, h.most, h.root, fun j hj => ?_, fun j hj => ?_, fun j hj => ?_⟩
  · obtain ⟨a, b, c, d, e, f⟩ := h.at hj
    exact ⟨a, by omega, c, d, e⟩
  · unfold less
    rw [tl, tl]
    exact h.lt (Nat.lt_succ_self j) hj
  · rw [hmL_neg]
    intro x hx
    obtain ⟨i, hi, rfl⟩ := List.mem_iff_getElem.1 hx
    rw [List.length_take] at hi
    have := h.home (i := i) (j := j) (by omega) hj
    rw [rd_at l i (by omega)] at this
    rwa [List.getElem_take]
theorem VL.inv {k : Nat} {l : List S32} (h : VL k l) : Inv 15 l := ⟨h.pos, by have := h.most; omega, h.root, fun x hx => (h.each x hx).2.1⟩

/-! the part of a path -/
theorem lastB_after (s : Bs) (l : List S32) : ∀ (r : List S32) (i b j : Nat), l.drop i = r → (∀ q, b < q → q < i → below s (ub (rd_T32 l (q : Int)).f0) = false) → b ≤ i → lastB s r i b < j → j < l.length → below s (ub (rd_T32 l (j : Int)).f0) = false
  | [], i, b, j, hd, hq, _, hb, hj => by
    have : l.length ≤ i := List.drop_eq_nil_iff.1 hd
    exact hq j hb (by omega)
  | x :: r, i, b, j, hd, hq, hbi, hb, hj => by
    have hi : i < l.length := by
      rcases Nat.lt_or_ge i l.length with h | h
      · exact h
      · rw [List.drop_of_length_le h] at hd; cases hd
    rw [List.drop_eq_getElem_cons hi] at hd
    have hx : l[i] = x := (List.cons.inj hd).1
    unfold lastB at hb
    split at hb
    · exact lastB_after s l r (i + 1) i j (List.cons.inj hd).2 (fun q h1 h2 => by omega) (by omega) hb hj
    · rename_i hn
      refine lastB_after s l r (i + 1) b j (List.cons.inj hd).2 (fun q h1 h2 => ?_) (by omega) hb hj
      rcases Nat.lt_or_ge q i with h | h
      · exact hq q h1 h
      · obtain rfl : q = i := by omega
        rw [rd_at l q hi, hx]
        exact Bool.eq_false_iff.2 hn
theorem idxL_after (l : List S32) (s : ByteArray) (j : Nat) (h : idxL l s < j) (hj : j < l.length) : below (ub s) (ub (rd_T32 l (j : Int)).f0) = false :=
  lastB_after (ub s) l l 0 0 j rfl (fun q h1 h2 => by omega) (Nat.le_refl _) h hj
theorem idxL_max {k : Nat} {l : List S32} (h : VL k l) (s : ByteArray) (j : Nat) (hj : j < l.length) (hb : below (ub s) (ub (rd_T32 l (j : Int)).f0) = true) : (rd_T32 l (j : Int)).f0.size ≤ (rd_T32 l (idxL l s : Int)).f0.size := by
  have hi := idxL_lt l s h.pos
  rcases Nat.lt_or_ge (idxL l s) j with h1 | h1
  · rw [idxL_after l s j h1 hj] at hb; cases hb
  · rcases Nat.lt_or_ge j (idxL l s) with h2 | h2
    · rcases Nat.lt_or_ge (rd_T32 l (idxL l s : Int)).f0.size (rd_T32 l (j : Int)).f0.size with h3 | h3
      · exact (bl_asymm _ _ (h.lt h2 hi) (below_len hb (idxL_below l s h.pos h.root) (by rw [ub_size, ub_size]; exact h3))).elim
      · exact h3
    · obtain rfl : j = idxL l s := by omega
      exact Nat.le_refl _
theorem lastR_eq {k : Nat} {l : List S32} (h : VL k l) (s : Bs) : ∀ (r : List S32) (i b : Nat), l.drop i = r → b ≤ i → (i = 0 → b = 0) → (0 < i → b < i ∧ below s (ub (rd_T32 l (b : Int)).f0) = true) → lastR s l r i b = lastB s r i b
  | [], _, _, _, _, _, _ => rfl
  | x :: r, i, b, hd, hbi, h0, hb => by
    have hi : i < l.length := by
      rcases Nat.lt_or_ge i l.length with h | h
      · exact h
      · rw [List.drop_of_length_le h] at hd; cases hd
    rw [List.drop_eq_getElem_cons hi] at hd
    have hx : l[i] = x := (List.cons.inj hd).1
    have hroot : below s (ub (rd_T32 l ((0 : Nat) : Int)).f0) = true := by
      have e : ub (rd_T32 l ((0 : Nat) : Int)).f0 = [] := by rw [← tl]; exact h.root
      rw [e]; exact below_root _
    unfold lastR lastB
    cases hc : below s (ub x.f0)
    · rw [Bool.false_and, if_neg (by decide)]
      refine lastR_eq h s r (i + 1) b (List.cons.inj hd).2 (by omega) (by omega) (fun _ => ?_)
      rcases Nat.eq_zero_or_pos i with e | e
      · exfalso
        subst e
        rw [rd_at l 0 hi, hx, hc] at hroot
        cases hroot
      · exact ⟨by have := (hb e).1; omega, (hb e).2⟩
    · have hle : (rd_T32 l (b : Int)).f0.size ≤ x.f0.size := by
        rcases Nat.eq_zero_or_pos i with e | e
        · rw [h0 e]
          have : (rd_T32 l ((0 : Nat) : Int)).f0.size = 0 := by rw [← ub_size, ← tl, h.root]; rfl
          omega
        · obtain ⟨h1, h2⟩ := hb e
          rcases Nat.lt_or_ge x.f0.size (rd_T32 l (b : Int)).f0.size with h3 | h3
          · have hlt := h.lt h1 hi
            rw [rd_at l i hi, hx] at hlt
            exact (bl_asymm _ _ hlt (below_len h2 hc (by rw [ub_size, ub_size]; exact h3))).elim
          · exact h3
      rw [decide_eq_true hle, Bool.and_true, if_pos rfl]
      exact lastR_eq h s r (i + 1) i (List.cons.inj hd).2 (by omega) (by omega) (fun _ => ⟨by omega, by rw [rd_at l i hi, hx]; exact hc⟩)
theorem idxR_eq {k : Nat} {l : List S32} (h : VL k l) (s : ByteArray) : idxR l s = idxL l s :=
  lastR_eq h (ub s) l 0 0 rfl (Nat.le_refl _) (fun _ => rfl) (fun h => absurd h (by omega))

/-! changes keep maps valid -/
theorem upd_map {β : Type} (g : S32 → β) (l : List S32) (i : Nat) (f : S32 → S32) (hf : ∀ x, g (f x) = g x) (hi : i < l.length) : (upd l i f).map g = l.map g := by
  unfold upd
  rw [List.map_set, hf, rd_at l i hi]
  apply List.ext_getElem
  · rw [List.length_set]
  · intro j h1 h2
    rw [List.getElem_set]
    split
    · rename_i e; subst e; rw [List.getElem_map]
    · rfl
theorem vl_upd {k k' : Nat} {l : List S32} (h : VL k l) (i : Nat) (f : S32 → S32) (h0 : ∀ x, (f x).f0 = x.f0) (h1 : ∀ x, (f x).f1 = x.f1) (hi : i < l.length) (hk : k ≤ k')
    (h2 : 0 ≤ (f (rd_T32 l (i : Int))).f2 ∧ (f (rd_T32 l (i : Int))).f2 < 8) (h3 : 1 ≤ (f (rd_T32 l (i : Int))).f3 ∧ (f (rd_T32 l (i : Int))).f3 ≤ 1 + k') : VL k' (upd l i f) := by
  refine ⟨?_, by rw [upd_map (fun x => ub x.f0) l i f (fun x => by rw [h0]) hi]; exact h.sorted, by rw [upd_map (·.f1) l i f h1 hi]; exact h.homes, fun x hx => ?_⟩
  · have hp : 0 < (upd l i f).length := by rw [upd_len]; exact h.pos
    rcases hu : upd l i f with _ | ⟨x, r⟩
    · rw [hu] at hp; exact absurd hp (Nat.lt_irrefl 0)
    · refine ⟨x, r, rfl, ?_⟩
      have := upd_f0 l i 0 f h0 h.pos
      rw [hu] at this
      have e : (rd_T32 (x :: r) ((0 : Nat) : Int)) = x := rfl
      rw [e] at this
      rw [← tl, this]; exact h.root
  · unfold upd at hx
    rcases List.mem_or_eq_of_mem_set hx with hx | rfl
    · obtain ⟨a, b, c, d, e, g⟩ := h.each x hx
      exact ⟨a, b, c, d, e, by omega⟩
    · obtain ⟨a, b, c, _⟩ := h.at hi
      rw [h0, h1]
      exact ⟨a, b, c, h2, h3⟩
theorem vl_erase {k : Nat} {l : List S32} (h : VL k l) (i : Nat) (hi : 1 ≤ i) : VL k (l.eraseIdx i) := by
  obtain ⟨x, r, rfl, hx⟩ := h.head
  obtain ⟨j, rfl⟩ : ∃ j, i = j + 1 := ⟨i - 1, by omega⟩
  rw [List.eraseIdx_cons_succ]
  have hs : (x :: r.eraseIdx j).Sublist (x :: r) := (List.eraseIdx_sublist r j).cons_cons x
  exact ⟨⟨x, _, rfl, hx⟩, h.sorted.sublist (hs.map _), h.homes.sublist (hs.map _), fun y hy => h.each y (hs.subset hy)⟩
theorem insL_perm (n : S32) (s : ByteArray) : ∀ l, (insL n s l).Perm (n :: l)
  | [] => List.Perm.refl _
  | x :: r => by
    unfold insL
    split
    · exact List.Perm.refl _
    · exact ((insL_perm n s r).cons x).trans (List.Perm.swap n x r)
theorem insL_sorted (n : S32) (s : ByteArray) (hn : n.f0 = s) : ∀ l : List S32, (l.map (fun x => ub x.f0)).Pairwise (fun a b => bl a b = true) → (∀ x ∈ l, ub x.f0 ≠ ub s) → ((insL n s l).map (fun x => ub x.f0)).Pairwise (fun a b => bl a b = true)
  | [], _, _ => by
    show ([n].map (fun x => ub x.f0)).Pairwise (fun a b => bl a b = true)
    exact List.pairwise_singleton _ _
  | x :: r, h, hne => by
    rw [List.map_cons, List.pairwise_cons] at h
    unfold insL
    split
    · rename_i hlt
      rw [tl, tl] at hlt
      rw [List.map_cons, List.pairwise_cons]
      refine ⟨fun y hy => ?_, by rw [List.map_cons, List.pairwise_cons]; exact h⟩
      rw [hn]
      rw [List.map_cons] at hy
      rcases List.mem_cons.1 hy with rfl | hy
      · exact hlt
      · exact bl_trans _ _ _ hlt (h.1 y hy)
    · rename_i hlt
      rw [tl, tl] at hlt
      rw [List.map_cons, List.pairwise_cons]
      refine ⟨fun y hy => ?_, insL_sorted n s hn r h.2 (fun z hz => hne z (List.mem_cons_of_mem _ hz))⟩
      obtain ⟨z, hz, rfl⟩ := List.mem_map.1 hy
      rcases insL_mem n s r z hz with rfl | hz
      · rw [hn]
        cases hb : bl (ub x.f0) (ub s)
        · exact absurd (bl_total _ _ hb (Bool.eq_false_iff.2 hlt)) (hne x (List.mem_cons_self ..))
        · rfl
      · exact h.1 _ (List.mem_map.2 ⟨z, hz, rfl⟩)
theorem vl_ins {k : Nat} {l : List S32} (h : VL k l) (n : S32) (s : ByteArray) (hn : n.f0 = s) (hne : ∀ x ∈ l, ub x.f0 ≠ ub s) (hh : ∀ x ∈ l, x.f1 ≠ n.f1)
    (he : isPath (ub n.f0) = true ∧ n.f0.size ≤ 5 ∧ (0 ≤ n.f1 ∧ n.f1 ≤ 15) ∧ (0 ≤ n.f2 ∧ n.f2 < 8) ∧ 1 ≤ n.f3 ∧ n.f3 ≤ 1 + k) : VL k (insL n s l) := by
  refine ⟨?_, insL_sorted n s hn l h.sorted hne, ?_, fun x hx => ?_⟩
  · have hp : 0 < (insL n s l).length := by rw [insL_len]; omega
    have := insL_root n s l h.pos h.root
    rcases hu : insL n s l with _ | ⟨x, r⟩
    · rw [hu] at hp; exact absurd hp (Nat.lt_irrefl 0)
    · rw [hu] at this
      exact ⟨x, r, rfl, by rw [← tl]; exact this⟩
  · rw [((insL_perm n s l).map (·.f1)).nodup_iff, List.map_cons, List.nodup_cons]
    exact ⟨fun hm => by obtain ⟨x, hx, e⟩ := List.mem_map.1 hm; exact hh x hx e, h.homes⟩
  · rcases insL_mem n s l x hx with rfl | hx
    · exact he
    · exact h.each x hx
theorem wr_in (x : Int) (k : Nat) (h1 : 1 ≤ x) (h2 : x ≤ 1 + k) (hk : k ≤ 900) : wrap64 (x + 1) = x + 1 := w64 (by omega) (by omega)
theorem mem_upd_ne {l : List S32} {i : Nat} {f : S32 → S32} {β : Type} {g : S32 → β} {b : β} (hf : ∀ x, g (f x) = g x) (hi : i < l.length) (h : ∀ x ∈ l, g x ≠ b) : ∀ x ∈ upd l i f, g x ≠ b := by
  intro x hx
  have : g x ∈ (upd l i f).map g := List.mem_map.2 ⟨x, hx, rfl⟩
  rw [upd_map g l i f hf hi] at this
  obtain ⟨y, hy, e⟩ := List.mem_map.1 this
  rw [← e]; exact h y hy
theorem upd_at (l : List S32) (i : Nat) (f : S32 → S32) (hi : i < l.length) : rd_T32 (upd l i f) (i : Int) = f (rd_T32 l (i : Int)) := rd_set l i _ hi
theorem vl_move {k : Nat} {l : List S32} (h : VL k l) (s : ByteArray) (rg : Int) (hk : k ≤ 900) : VL (k + 1) (moveL l s rg).1 := by
  have h' := h.mono (Nat.le_succ k)
  unfold moveL
  split
  · split
    · exact h'
    · rename_i hx
      split
      · rename_i hr
        obtain ⟨i, hi, hy⟩ := exL_range l s hx
        rw [hy, Int.toNat_natCast]
        have hr' : 0 ≤ rg ∧ rg < 8 := by simpa using hr
        obtain ⟨_, _, _, _, e, g⟩ := h.at hi
        have hw := wr_in _ k e g hk
        refine vl_upd h i (fun x => ⟨x.f0, x.f1, rg, wrap64 (x.f3 + 1)⟩) (fun x => rfl) (fun x => rfl) hi (Nat.le_succ k) hr' ?_
        show 1 ≤ wrap64 ((rd_T32 l (i : Int)).f3 + 1) ∧ wrap64 ((rd_T32 l (i : Int)).f3 + 1) ≤ 1 + ((k + 1 : Nat) : Int)
        rw [hw]; omega
      · exact h'
  · exact h'
theorem vl_split {k : Nat} {l : List S32} (h : VL k l) (s : ByteArray) (home : Int) (hs : s.size ≤ 5) (hk : k ≤ 900) : VL (k + 1) (splitR l s home).1 := by
  have h' := h.mono (Nat.le_succ k)
  unfold splitR
  split
  · rename_i hp
    split
    · rename_i hx
      split
      · rename_i hh
        split
        · rename_i hm
          have hi := idxR_lt l s h.pos
          obtain ⟨i, hie⟩ : ∃ i, idxR l s = i := ⟨_, rfl⟩
          rw [hie] at hi ⊢
          obtain ⟨_, _, _, d, e, g⟩ := h.at hi
          have hw := wr_in _ k e g hk
          have hb3 : (bump (rd_T32 l (i : Int))).f3 = (rd_T32 l (i : Int)).f3 + 1 := hw
          have hu : VL (k + 1) (upd l i bump) := vl_upd h i bump (fun x => rfl) (fun x => rfl) hi (Nat.le_succ k) d (by rw [hb3]; omega)
          show VL (k + 1) (splitOn l i s home)
          unfold splitOn
          rw [upd_at l i bump hi]
          refine vl_ins hu _ s rfl (mem_upd_ne (g := fun x => ub x.f0) (fun x => rfl) hi ((exL_neg l s).1 hx)) (mem_upd_ne (g := (·.f1)) (fun x => rfl) hi ((hmL_neg l home).1 hm)) ⟨hp.1, hs, hh, d, ?_⟩
          show 1 ≤ (bump (rd_T32 l (i : Int))).f3 ∧ (bump (rd_T32 l (i : Int))).f3 ≤ 1 + ((k + 1 : Nat) : Int)
          rw [hb3]; omega
        · exact h'
      · exact h'
    · exact h'
  · exact h'
theorem vl_joinOn {k : Nat} {l : List S32} (h : VL k l) (i j : Nat) (hi : 1 ≤ i) (hl : i < l.length) (hj : j < (l.eraseIdx i).length) (hk : k ≤ 900) : VL (k + 1) (joinOn l i j) := by
  have he := vl_erase h i hi
  obtain ⟨_, _, _, d, e, g⟩ := he.at hj
  obtain ⟨_, _, _, _, e2, g2⟩ := h.at hl
  unfold joinOn
  refine vl_upd he j _ (fun x => rfl) (fun x => rfl) hj (Nat.le_succ k) d ?_
  show 1 ≤ wrap64 ((if _ then _ else _) + 1) ∧ wrap64 ((if _ then _ else _) + 1) ≤ 1 + ((k + 1 : Nat) : Int)
  split
  · rw [wr_in _ k e2 g2 hk]; omega
  · rw [wr_in _ k e g hk]; omega
/-- what a join speaks of -/
theorem join_at {k : Nat} {l : List S32} (h : VL k l) (s : ByteArray) (hs : ¬ s.toList = []) (hx : ¬ exL l s < 0) : ∃ i : Nat, exL l s = (i : Int) ∧ 1 ≤ i ∧ i < l.length ∧ ub (rd_T32 l (i : Int)).f0 = ub s := by
  obtain ⟨i, hi, hy⟩ := exL_range l s hx
  have hat := (exL_at l s i hy).2
  rw [tl, tl] at hat
  refine ⟨i, hy, ?_, hi, hat⟩
  rcases Nat.eq_zero_or_pos i with e | e
  · subst e
    have := h.root
    rw [tl, hat] at this
    exact absurd (by rw [tl]; exact this) hs
  · exact e
theorem erase_pos {l : List S32} {i : Nat} (hi : 1 ≤ i) (hl : i < l.length) : 0 < (l.eraseIdx i).length := by rw [List.length_eraseIdx_of_lt hl]; omega
theorem vl_join {k : Nat} {l : List S32} (h : VL k l) (s : ByteArray) (hk : k ≤ 900) : VL (k + 1) (joinR l s).1 := by
  have h' := h.mono (Nat.le_succ k)
  unfold joinR
  split
  · rename_i hp
    split
    · exact h'
    · rename_i hx
      obtain ⟨i, hy, hi, hl, _⟩ := join_at h s hp.2 hx
      rw [hy, Int.toNat_natCast]
      exact vl_joinOn h i _ hi hl (idxR_lt _ s (erase_pos hi hl)) hk
  · exact h'
theorem vl_do {k : Nat} {l : List S32} (h : VL k l) (x : R42) (hk : k ≤ 900) : VL (k + 1) (doR l x).1 := by
  unfold doR
  split
  · exact vl_move h _ _ hk
  · split
    · exact vl_join h _ hk
    · exact vl_split h _ _ (pathN_size _) hk
theorem vl_new : VL 0 (newL 0 0) := ⟨⟨_, [], rfl, rfl⟩, List.pairwise_singleton _ _, (by simp [newL]), fun x hx => by
  simp only [newL, List.mem_cons, List.not_mem_nil, or_false] at hx
  subst hx
  exact ⟨by decide +kernel, by decide +kernel, by decide +kernel, by decide +kernel, by decide +kernel, by decide +kernel⟩⟩
theorem vl_made (xs : List R42) (hk : xs.length ≤ 900) : VL xs.length (madeL xs (newL 0 0)) := by
  have : ∀ n (xs : List R42), xs.length = n → n ≤ 900 → VL n (madeL xs (newL 0 0)) := by
    intro n
    induction n with
    | zero => intro xs h _; rw [List.length_eq_zero_iff.1 h]; exact vl_new
    | succ n ih =>
      intro xs h hn
      have hne : xs ≠ [] := by intro e; rw [e] at h; cases h
      have e := List.dropLast_concat_getLast hne
      rw [← e, madeL_snoc]
      exact vl_do (ih _ (by rw [List.length_dropLast]; omega) (by omega)) _ (by omega)
  exact this _ xs rfl hk
/-! place's changes are the reference's -/
def posL (s : ByteArray) : List S32 → Nat
  | [] => 0
  | x :: r => if less x.f0 s then posL s r + 1 else 0
theorem posL_le (s : ByteArray) : ∀ l, posL s l ≤ l.length
  | [] => Nat.le_refl _
  | x :: r => by
    unfold posL
    split
    · have := posL_le s r; rw [List.length_cons]; omega
    · exact Nat.zero_le _
theorem posL_lt (s : ByteArray) : ∀ (l : List S32) (j : Nat), j < posL s l → less (rd_T32 l (j : Int)).f0 s = true
  | [], j, h => absurd h (Nat.not_lt_zero _)
  | x :: r, j, h => by
    unfold posL at h
    split at h
    · rename_i hx
      rcases j with _ | j
      · exact hx
      · have hj : j < posL s r := by omega
        have hl := posL_le s r
        have := posL_lt s r j hj
        rw [rd_at r j (by omega)] at this
        rw [rd_at _ _ (by rw [List.length_cons]; omega), List.getElem_cons_succ]
        exact this
    · exact absurd h (Nat.not_lt_zero _)
theorem posL_ge (s : ByteArray) : ∀ (l : List S32), (l.map (fun x => ub x.f0)).Pairwise (fun a b => bl a b = true) → ∀ (j : Nat), posL s l ≤ j → j < l.length → less (rd_T32 l (j : Int)).f0 s = false
  | [], _, j, _, h => absurd h (Nat.not_lt_zero _)
  | x :: r, hp, j, h, hj => by
    rw [List.map_cons, List.pairwise_cons] at hp
    unfold posL at h
    split at h
    · rename_i hx
      obtain ⟨j, rfl⟩ : ∃ i, j = i + 1 := ⟨j - 1, by omega⟩
      have hj' : j < r.length := by rw [List.length_cons] at hj; omega
      have := posL_ge s r hp.2 j (by omega) hj'
      rw [rd_at r j hj'] at this
      rw [rd_at _ _ hj, List.getElem_cons_succ]
      exact this
    · rename_i hx
      have hx : less x.f0 s = false := Bool.eq_false_iff.2 hx
      rcases j with _ | j
      · exact hx
      · have hj' : j < r.length := by rw [List.length_cons] at hj; omega
        rw [rd_at _ _ hj, List.getElem_cons_succ]
        have hlt := hp.1 (ub r[j].f0) (List.mem_map.2 ⟨r[j], List.getElem_mem hj', rfl⟩)
        cases hc : less r[j].f0 s
        · rfl
        · unfold less at hc hx
          rw [tl, tl] at hc hx
          have := bl_trans _ _ _ hlt hc
          rw [show bl (ub x.f0) (ub s) = false from hx] at this
          cases this
theorem insL_pos (n : S32) (s : ByteArray) : ∀ (l : List S32), (l.map (fun x => ub x.f0)).Pairwise (fun a b => bl a b = true) → (∀ x ∈ l, ub x.f0 ≠ ub s) → insL n s l = l.take (posL s l) ++ n :: l.drop (posL s l)
  | [], _, _ => rfl
  | x :: r, hp, hne => by
    rw [List.map_cons, List.pairwise_cons] at hp
    have hx := hne x (List.mem_cons_self ..)
    unfold insL posL less
    rw [tl, tl]
    cases h1 : Op.bytesLess (ub s) (ub x.f0)
    · have h2 : Op.bytesLess (ub x.f0) (ub s) = true := by
        cases hb : Op.bytesLess (ub x.f0) (ub s)
        · exact absurd (bl_total _ _ hb h1) hx
        · rfl
      rw [h2, if_neg (by decide), if_pos rfl, List.take_succ_cons, List.drop_succ_cons, List.cons_append, insL_pos n s r hp.2 (fun z hz => hne z (List.mem_cons_of_mem _ hz))]
    · have h2 : Op.bytesLess (ub x.f0) (ub s) = false := by
        cases hb : Op.bytesLess (ub x.f0) (ub s)
        · rfl
        · exact (bl_asymm _ _ hb h1).elim
      rw [h2, if_pos rfl, if_neg (by decide)]
      rfl
theorem posL_map (s : ByteArray) : ∀ (a b : List S32), a.map (fun x => ub x.f0) = b.map (fun x => ub x.f0) → posL s a = posL s b
  | [], [], _ => rfl
  | [], y :: b, h => by cases h
  | x :: a, [], h => by cases h
  | x :: a, y :: b, h => by
    rw [List.map_cons, List.map_cons, List.cons.injEq] at h
    have e : less x.f0 s = less y.f0 s := by unfold less; rw [tl, tl, h.1, ← tl]
    unfold posL
    rw [e, posL_map s a b h.2]
theorem split_same {k : Nat} {l : List S32} (h : VL k l) (s : ByteArray) (home : Int) : splitP l s home (posL s l) = splitR l s home := by
  unfold splitP splitR
  split
  · split
    · rename_i hx
      split
      · split
        · rw [idxR_eq h s]
          have hi := idxL_lt l s h.pos
          unfold insOn splitOn
          have hm := upd_map (fun x => ub x.f0) l (idxL l s) bump (fun x => rfl) hi
          rw [insL_pos _ s (upd l (idxL l s) bump) (by rw [hm]; exact h.sorted) (mem_upd_ne (g := fun x => ub x.f0) (fun x => rfl) hi ((exL_neg l s).1 hx)), posL_map s _ _ hm]
        · rfl
      · rfl
    · rfl
  · rfl
theorem join_same {k : Nat} {l : List S32} (h : VL k l) (s : ByteArray) : joinM l s = joinR l s := by
  unfold joinM joinR
  split
  · rename_i hp
    split
    · rfl
    · rename_i hx
      obtain ⟨i, hy, hi, hl, _⟩ := join_at h s hp.2 hx
      rw [hy, Int.toNat_natCast, idxR_eq (vl_erase h i hi) s]
  · rfl
end Go.Proofs.Ytfmeababiedamaa.P

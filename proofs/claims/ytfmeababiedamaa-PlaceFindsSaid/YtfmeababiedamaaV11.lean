/- burgageref24.Made, walked. -/
import Derived.Test.YtfmeababiedamaaV36
import Derived.Test.YtfmeababiedamaaV52
namespace Go.Proofs.Ytfmeababiedamaa.V11
open Go.RowKit Go.Shelf Go.Proofs.YtfmeababiedamaaW.PrintWords Go.Proofs.YtfmeababiedamaaW.PrintLast Go.Proofs.YtfmeababiedamaaW.PrintMore
open Go.Proofs.Ytfmeababiedamaa Go.Proofs.Ytfmeababiedamaa.M Go.Proofs.Ytfmeababiedamaa.Sp Go.Proofs.Ytfmeababiedamaa.E Go.Proofs.Ytfmeababiedamaa.G Go.Proofs.Ytfmeababiedamaa.A Go.Proofs.Ytfmeababiedamaa.T Go.Proofs.Ytfmeababiedamaa.K Go.Proofs.Ytfmeababiedamaa.X Go.Proofs.Ytfmeababiedamaa.V28 Go.Proofs.Ytfmeababiedamaa.V29 Go.Proofs.Ytfmeababiedamaa.V26 Go.Proofs.Ytfmeababiedamaa.V30 Go.Proofs.Ytfmeababiedamaa.B Go.Proofs.Ytfmeababiedamaa.V36
set_option linter.unusedVariables false
set_option linter.unusedSimpArgs false
def T5 : Bool × List (List Nat × List Nat) := (true, [([], []), ([], []), ([], []), ([1, 2], [1, 2]), ([3], [3]), ([0, 4], [0, 4]), ([5], [5]), ([6, 5, 0, 1, 2, 3, 4, 5, 6], [6])])
def B5 : List Nat := [0, 0, 0, 6, 14, 31, 63, 127]
theorem tab5 : rtab .any (opsOf Try.f11 5) = T5 := by kernel_rfl
theorem bits5 : waitsOk T5.2 B5 = true := by kernel_rfl
attribute [local go_sem] Go.Instr.field Go.asAgg
def kR : Kd R42 := Kd.iso (Kd.pair (Kd.int .u8) (Kd.pair (Kd.int .u16) (Kd.int .u8))) (fun x : R42 => (x.k, x.p, x.n))
theorem kR_open {w : World} {x : R42} {cs : List Value} (h : kR.K w x cs) : cs = [.int .u8 x.k, .int .u16 x.p, .int .u8 x.n] := by
  obtain ⟨_, _, rfl, rfl, ⟨_, _, rfl, rfl, rfl⟩⟩ := h
  exact rfl
theorem kR_below {w w' : World} {A : Option Addr} {n : Nat} {l : List R42} (h : Kd.C kR w A n l) (hb : Below w.heap.size w w') : Kd.C kR w' A n l := Kd.C_below h hb
def zR : R42 := ⟨0, 0, 0⟩
def rdR (l : List R42) (i : Int) : R42 := l.getD i.toNat zR
theorem at_R42 {w : World} {A : Option Addr} {n : Nat} {xs : List R42} (h : Kd.C kR w A n xs) (i : Int) (h0 : 0 ≤ i) (h1 : i < n) : ∃ ad, A = some ad ∧ w.cell? (ad.add (i.toNat * 3)) = some (.int .u8 (rdR xs i).k) ∧
    w.cell? ⟨(ad.add (i.toNat * 3)).block, (ad.add (i.toNat * 3)).off + 1, none⟩ = some (.int .u16 (rdR xs i).p) ∧ w.cell? ⟨(ad.add (i.toNat * 3)).block, (ad.add (i.toNat * 3)).off + 2, none⟩ = some (.int .u8 (rdR xs i).n) := by
  obtain ⟨ad, c, e, _, hK, hc0⟩ := Kd.C_get h zR i h0 h1
  have hc : ∀ j u, c[j]? = some u → w.cell? (ad.add (i.toNat * 3 + j)) = some u := hc0
  obtain rfl := kR_open hK
  exact ⟨ad, e, hc 0 _ rfl, by rw [← add_field _ _ 1 (by omega)]; exact hc 1 _ rfl, by rw [← add_field _ _ 2 (by omega)]; exact hc 2 _ rfl⟩
def newL (h r : Int) : List S32 := [⟨⟨#[]⟩, h, r, 1⟩]
def madeL (xs : List R42) (m : List S32) : List S32 := xs.foldl (fun m x => (doR m x).1) m
theorem madeL_snoc (xs : List R42) (x : R42) (m : List S32) : madeL (xs ++ [x]) m = (doR (madeL xs m) x).1 := by simp [madeL]
/-- what a map that was made is like -/
structure Inv (k : Nat) (m : List S32) : Prop where
  pos : 0 < m.length
  len : m.length ≤ 1 + k
  root : (rd_T32 m ((0 : Nat) : Int)).f0.toList = []
  sizes : ∀ x ∈ m, x.f0.size ≤ 5
theorem Inv.small {k : Nat} {m : List S32} (h : Inv k m) (hk : k ≤ 900) : Small m := ⟨by have := h.len; omega, fun x hx => by have := h.sizes x hx; omega⟩
theorem upd_len (l : List S32) (i : Nat) (f : S32 → S32) : (upd l i f).length = l.length := List.length_set
theorem upd_f0 (l : List S32) (i j : Nat) (f : S32 → S32) (hf : ∀ x, (f x).f0 = x.f0) (hj : j < l.length) : (rd_T32 (upd l i f) (j : Int)).f0 = (rd_T32 l (j : Int)).f0 := by
  rw [rd_at _ _ (by rw [upd_len]; exact hj), rd_at l j hj]
  unfold upd
  rw [List.getElem_set]
  split
  · rename_i e; subst e; rw [hf, rd_at l i hj]
  · rfl
theorem Inv.mono {k k' : Nat} {m : List S32} (h : Inv k m) (hk : k ≤ k') : Inv k' m := ⟨h.pos, by have := h.len; omega, h.root, h.sizes⟩
theorem inv_upd {k : Nat} {m : List S32} (h : Inv k m) (i : Nat) (f : S32 → S32) (hf : ∀ x, (f x).f0 = x.f0) : Inv k (upd m i f) := by
  refine ⟨by rw [upd_len]; exact h.pos, by rw [upd_len]; exact h.len, by rw [upd_f0 m i 0 f hf h.pos]; exact h.root, fun x hx => ?_⟩
  obtain ⟨j, hj, rfl⟩ := List.mem_iff_getElem.1 hx
  have hj' : j < m.length := by rw [upd_len] at hj; exact hj
  have := upd_f0 m i j f hf hj'
  rw [rd_at _ _ hj, rd_at m j hj'] at this
  rw [this]
  exact h.sizes _ (List.getElem_mem hj')
theorem inv_erase {k : Nat} {m : List S32} (h : Inv k m) (i : Nat) (hi : 1 ≤ i) (hl : i < m.length) : Inv k (m.eraseIdx i) := by
  have hn : (m.eraseIdx i).length = m.length - 1 := List.length_eraseIdx_of_lt hl
  refine ⟨by omega, by have := h.len; omega, ?_, fun x hx => h.sizes x (List.mem_of_mem_eraseIdx hx)⟩
  have := h.root
  rw [rd_at m 0 h.pos] at this
  rw [rd_at _ 0 (by omega), List.getElem_eraseIdx_of_lt (by omega) (by omega)]
  exact this
theorem insL_len (n : S32) (s : ByteArray) : ∀ l, (insL n s l).length = l.length + 1
  | [] => rfl
  | x :: r => by
    unfold insL
    split
    · rfl
    · simp only [List.length_cons, insL_len n s r]
theorem insL_mem (n : S32) (s : ByteArray) : ∀ l x, x ∈ insL n s l → x = n ∨ x ∈ l
  | [], x, h => .inl (by simpa [insL] using h)
  | y :: r, x, h => by
    unfold insL at h
    split at h
    · rcases List.mem_cons.1 h with h | h
      · exact .inl h
      · exact .inr h
    · rcases List.mem_cons.1 h with h | h
      · exact .inr (by rw [h]; exact List.mem_cons_self ..)
      · rcases insL_mem n s r x h with h | h
        · exact .inl h
        · exact .inr (List.mem_cons_of_mem _ h)
theorem less_nil (s : List UInt8) : Op.bytesLess s [] = false := by cases s <;> rfl
theorem insL_root (n : S32) (s : ByteArray) (l : List S32) (hp : 0 < l.length) (h : (rd_T32 l ((0 : Nat) : Int)).f0.toList = []) : (rd_T32 (insL n s l) ((0 : Nat) : Int)).f0.toList = [] := by
  rcases l with _ | ⟨x, r⟩
  · exact absurd hp (by decide)
  · have hx : x.f0.toList = [] := h
    have e : insL n s (x :: r) = x :: insL n s r := by
      rw [insL, if_neg (by rw [hx, less_nil]; decide)]
    rw [e]
    exact hx
theorem inv_do {k : Nat} {m : List S32} (h : Inv k m) (x : R42) : Inv (k + 1) (doR m x).1 := by
  have h' := h.mono (Nat.le_succ k)
  unfold doR
  split
  · unfold moveL
    split
    · split
      · exact h'
      · split
        · show Inv (k + 1) (upd m (exL m (pathN x.p.toNat)).toNat (fun y => ⟨y.f0, y.f1, Int.tmod x.n 8, wrap64 (y.f3 + 1)⟩))
          exact inv_upd h' _ _ (by intro y; rfl)
        · exact h'
    · exact h'
  · split
    · unfold joinR
      split
      · rename_i hc
        split
        · exact h'
        · rename_i hx
          obtain ⟨i, hi, hy⟩ := exL_range m (pathN x.p.toNat) hx
          have hat := (exL_at m (pathN x.p.toNat) i hy).2
          have hi0 : 1 ≤ i := by
            rcases Nat.eq_zero_or_pos i with e | e
            · subst e; rw [h.root] at hat; exact absurd hat.symm hc.2
            · exact e
          rw [hy, Int.toNat_natCast]
          show Inv (k + 1) (joinOn m i _)
          unfold joinOn
          exact inv_upd (inv_erase h' i hi0 hi) _ _ (by intro y; rfl)
      · exact h'
    · unfold splitR
      split
      · split
        · split
          · split
            · have hu := inv_upd h (idxR m (pathN x.p.toNat)) bump (fun _ => rfl)
              refine ⟨by unfold splitOn; rw [insL_len]; omega, by unfold splitOn; rw [insL_len]; have := hu.len; omega, by unfold splitOn; exact insL_root _ _ _ hu.pos hu.root, fun y hy => ?_⟩
              unfold splitOn at hy
              rcases insL_mem _ _ _ _ hy with e | e
              · rw [e]; exact pathN_size _
              · exact hu.sizes y e
            · exact h'
          · exact h'
        · exact h'
      · exact h'
theorem inv_new (h r : Int) : Inv 0 (newL h r) := ⟨Nat.zero_lt_one, Nat.le_refl 1, (by show (⟨#[]⟩ : ByteArray).toList = []; rw [tl]; rfl), fun x hx => by
  simp only [newL, List.mem_cons, List.not_mem_nil, or_false] at hx
  subst hx
  exact Nat.zero_le _⟩
theorem inv_made (xs : List R42) : Inv xs.length (madeL xs (newL 0 0)) := by
  have : ∀ n (xs : List R42), xs.length = n → Inv n (madeL xs (newL 0 0)) := by
    intro n
    induction n with
    | zero => intro xs h; rw [List.length_eq_zero_iff.1 h]; exact inv_new 0 0
    | succ n ih =>
      intro xs h
      have hne : xs ≠ [] := by intro e; rw [e] at h; cases h
      have e := List.dropLast_concat_getLast hne
      rw [← e, madeL_snoc]
      exact inv_do (ih _ (by rw [List.length_dropLast]; omega)) _
  exact this _ xs rfl
set_option maxHeartbeats 8000000 in
set_option maxRecDepth 100000 in
theorem made11 (A : Option Addr) (c : Nat) (l : List R42) (nn : Nat) (w : World) (hx : ∀ x ∈ l, x.ok) (hn : nn ≤ 900) (hr : Kd.C kR w A l.length l) (hc : l.length ≤ c) :
    Calls Try.prog 11 #[.slice A l.length c, .int .i64 nn] w fun e w' => ∃ v, e = .returned (.agg #[v]) ∧ MapC w' v (madeL (l.take nn) (newL 0 0)) ∧ Below w.heap.size w w' := by
  have hu27 := Try.underlying27
  have hu22 := Try.underlying22
  have hu42 := Try.underlying42
  have hu44 := Try.underlying44
  have HR := Aside0.mk hr
  have HB := Aside0.mk (below_alloc (Below.refl w.heap.size w) (.cells #[.slice none 0 0] 27))
  have B1 := Aside0.mk (blk_new w (.cells #[.slice none 0 0] 27))
  have HX := Lib.hid hx
  have P20 := fun W => M.burgageref24_New.calls 0 0 (newL 0 0) W rfl
  clear hr hx
  go_enter Try.func11, Try.ntmps11
  go_wp2_with (go_at_call 20; refine (P20 _).mono ?_; rintro e w4 ⟨v, rfl, hR4, hb4⟩; obtain ⟨A2, c2, rfl, hc2, hC2⟩ := Kd.R_reads hR4; have HBb := Aside0.mk (below_alloc (below_step HB.out hb4) (.cells #[.slice A2 (newL 0 0).length c2] 27)); have B1b := Aside0.mk (blk_alloc (blk_below B1.out hb4) (.cells #[.slice A2 (newL 0 0).length c2] 27)); have BM := Aside0.mk (blk_new w4 (.cells #[.slice A2 (newL 0 0).length c2] 27)); have HC2 := Aside0.mk (Kd.C_alloc hC2 (.cells #[.slice A2 (newL 0 0).length c2] 27)); have HL2 := Aside0.mk hc2; clear hC2 hR4)
  obtain ⟨pb, hpb⟩ : ∃ pb, w4.heap.size = pb := ⟨_, rfl⟩
  rw [hpb] at BM
  rw [hpb]
  have LPB := Aside0.mk (show w.heap.size < pb by have := blk_lt (blk_below B1.out hb4); omega)
  clear hpb hb4
  go_loopg [6] l.length (fun gg v6 wr => ∃ (kk : Nat) (A2 : Option Addr) (c2 : Nat) (m : List S32), kk ≤ l.length ∧ kk ≤ nn ∧ l.length - kk ≤ gg ∧ v6 = .int .i64 kk ∧ m = madeL (l.take kk) (newL 0 0) ∧ Aside0 (m.length ≤ c2) ∧
    Aside0 (wr.heap[pb]? = some (.cells #[.slice A2 m.length c2] 27 (0, 0))) ∧ Aside0 (Kd.C k32 wr A2 m.length m) ∧ Aside0 (wr.heap[w.heap.size]? = some (.cells #[.slice none 0 0] 27 (0, 0))) ∧ Aside0 (Below w.heap.size w wr))
  case atStart => exact ⟨0, A2, c2, newL 0 0, Nat.zero_le _, Nat.zero_le _, by omega, rfl, rfl, HL2, BM, HC2, B1b, HBb⟩
  case round =>
    clear HL2 BM HC2 B1b HBb
    obtain ⟨kk, A2, c2, m, hkk, hkn, hg, rfl, hm, HL2, BMa, HC2, B1a, HBa⟩ := hrel
    have HM := Lib.hid hm
    by_cases hlt : kk < l.length ∧ kk < nn
    · obtain ⟨hlt, hltn⟩ := hlt
      have m0 : (0 ≤ (kk : Int)) = True := by simp
      have m1 : decide ((kk : Int) < (l.length : Int)) = true := decide_eq_true (by omega)
      have m2 : decide ((kk : Int) < (nn : Int)) = true := decide_eq_true (by omega)
      have hinv : Inv kk m := by
        have := inv_made (l.take kk)
        rwa [List.length_take, Nat.min_eq_left (by omega), ← hm] at this
      obtain ⟨a2, rfl⟩ : ∃ a2, A2 = some a2 := by obtain ⟨ad, e, _⟩ := HC2.out.2.2 hinv.pos; exact ⟨ad, e⟩
      obtain ⟨ad, ead, x0, x1, x2⟩ := at_R42 (kR_below HR.out HBa.out) (kk : Int) (by omega) (by omega)
      simp only [Int.toNat_natCast] at x0 x1 x2
      have hxm : rdR l (kk : Int) ∈ l := by
        unfold rdR
        rw [Int.toNat_natCast, List.getD_eq_getElem?_getD, List.getElem?_eq_getElem hlt]
        exact List.getElem_mem hlt
      have hstep : l.take (kk + 1) = l.take kk ++ [rdR l (kk : Int)] := by
        rw [List.take_succ_eq_append_getElem hlt]
        congr 2
        unfold rdR
        rw [Int.toNat_natCast, List.getD_eq_getElem?_getD, List.getElem?_eq_getElem hlt]
        rfl
      obtain ⟨x, hxk⟩ : ∃ x, rdR l (kk : Int) = x := ⟨_, rfl⟩
      have hok := HX.out _ hxm
      rw [hxk] at x0 x1 x2 hok hstep
      have PD := fun W (h : Kd.C k32 W (some a2) m.length m) => do36 a2 c2 m x W hok (hinv.small (by omega)) hinv.pos hinv.root h HL2.out
      have hd : madeL (l.take (kk + 1)) (newL 0 0) = (doR m x).1 := by rw [hstep, madeL_snoc, ← hm]
      generalize doR m x = r at PD hd
      have HD := Lib.hid hd
      have e0 : wr.cell? ⟨pb, 0, none⟩ = some (.slice (some a2) m.length c2) := (blk_cell BMa.out 0).trans rfl
      have m3 : kk < l.length := hlt
      cases ead
      clear hxm hstep hok hd hm hinv
      go_wp2_with fail
      refine start_ (n := 8) (S := fun w' => w'.cell? ⟨pb, 0, none⟩ = some (.slice (some a2) m.length c2) ∧ w'.cell? (ad.add (kk * 3)) = some (.int .u8 x.k) ∧ w'.cell? ⟨(ad.add (kk * 3)).block, (ad.add (kk * 3)).off + 1, none⟩ = some (.int .u16 x.p) ∧ w'.cell? ⟨(ad.add (kk * 3)).block, (ad.add (kk * 3)).off + 2, none⟩ = some (.int .u8 x.n)) (ds := [7]) #[false, false, false, false, false, false, false, false] (by kernel_rfl) rfl rfl ⟨e0, x0, x1, x2⟩ (fun hHeld => ?_)
      refine with_tabW tab5 bits5 (fun HT_ HW_ => ?_)
      refine pure_ (i := 1) (N := some 20) (v := ?_) (a' := ?_) #[false, true, false, false, false, false, false, false] rfl rfl (any_of HT_.out (by kernel_rfl)) (fun _ _ _ h => h) (Or.inl ⟨by rfl, ?_⟩) ?_ ?_
      rotate_left
      · intro w'
        go_simp
        with_reducible rfl
      rotate_left
      · simp only [Act.put, List.setIfInBounds_toArray, List.set_cons_zero, List.set_cons_succ, i64_w, i32_w]
        rfl
      refine pure_ (i := 2) (N := some 21) (v := ?_) (a' := ?_) #[false, true, true, false, false, false, false, false] rfl rfl (any_of HT_.out (by kernel_rfl)) (fun _ _ _ h => h) (Or.inl ⟨by rfl, ?_⟩) ?_ ?_
      rotate_left
      · intro w'
        go_simp
        with_reducible rfl
      rotate_left
      · simp only [Act.put, List.setIfInBounds_toArray, List.set_cons_zero, List.set_cons_succ, i64_w, i32_w]
        rfl
      refine pure_ (i := 3) (N := some 22) (v := ?_) (a' := ?_) #[false, true, true, true, false, false, false, false] rfl rfl (any_of HT_.out (by kernel_rfl)) (fun _ _ _ h => h) (Or.inl ⟨by rfl, ?_⟩) ?_ ?_
      rotate_left
      · intro w'
        go_simp
        with_reducible rfl
      rotate_left
      · simp only [Act.put, List.setIfInBounds_toArray, List.set_cons_zero, List.set_cons_succ, i64_w, i32_w]
        rfl
      refine take_ (i := 0) (N := some 19) (v := ?_) (a' := ?_) #[true, true, true, true, false, false, false, false] rfl rfl (take_ofW HT_.out HW_.out (by kernel_rfl)) (fun _ _ _ h => h) (Or.inl ⟨by rfl, ?_⟩) hHeld ?_ ?_
      rotate_left
      · rintro w' ⟨s0, s1, s2, s3⟩
        go_simp
        with_reducible rfl
      rotate_left
      · simp only [Act.put, List.setIfInBounds_toArray, List.set_cons_zero, List.set_cons_succ, i64_w, i32_w]
        rfl
      refine take_ (i := 4) (N := some 23) (v := ?_) (a' := ?_) #[true, true, true, true, true, false, false, false] rfl rfl (take_ofW HT_.out HW_.out (by kernel_rfl)) (fun _ _ _ h => h) (Or.inl ⟨by rfl, ?_⟩) hHeld ?_ ?_
      rotate_left
      · rintro w' ⟨s0, s1, s2, s3⟩
        go_simp
        with_reducible rfl
      rotate_left
      · simp only [Act.put, List.setIfInBounds_toArray, List.set_cons_zero, List.set_cons_succ, i64_w, i32_w]
        rfl
      refine one_ (i := 5) (N := some 24) #[true, true, true, true, true, true, false, false] rfl rfl (one_of HT_.out (by kernel_rfl)) (by decide) (fun K hK => ?_)
      refine goes_ Try.func36 (by kernel_rfl) rfl #[.agg #[.slice (some a2) m.length c2], .agg #[.int .u8 x.k, .int .u16 x.p, .int .u8 x.n]] (by rfl) rfl rfl (by (try simp only [List.map_toArray, List.map_cons, List.map_nil]); first | done | rfl) ?_
      refine (PD _ (Kd.C_drew HC2.out)).mono ?_
      rintro e w7 ⟨v, rfl, ⟨A3, c3, rfl, hc3, hC3⟩, hb7⟩
      refine ⟨_, rfl, ?_⟩
      have B1c := Aside0.mk (blk_below (blk_drew B1a.out) hb7)
      have BMc := Aside0.mk (blk_below (blk_drew BMa.out) hb7)
      have HBc := Aside0.mk (below_step (below_drew1 HBa.out) hb7)
      have HC3 := Aside0.mk hC3
      have HL3 := Aside0.mk hc3
      have z0 : w7.cell? ⟨pb, 0, none⟩ = some (.slice (some a2) m.length c2) := (blk_cell BMc.out 0).trans rfl
      have y0 := blk_frozen BMc.out 0
      obtain ⟨ad3, ead3, q0, q1, q2⟩ := at_R42 (kR_below HR.out HBc.out) (kk : Int) (by omega) (by omega)
      simp only [Int.toNat_natCast] at q0 q1 q2
      rw [hxk] at q0 q1 q2
      cases ead3
      clear hb7 hC3 hc3
      refine hK.out _ _ ⟨z0, q0, q1, q2⟩ (fun hHeld => ?_)
      clear hK K
      refine norm_ (a' := ?_) ?_ ?_
      rotate_left
      · show Act.put _ (some 24) _ = _
        simp only [Act.put, List.setIfInBounds_toArray, List.set_cons_zero, List.set_cons_succ, i64_w, i32_w]
        rfl
      refine pure_ (i := 6) (N := some 25) (v := ?_) (a' := ?_) #[true, true, true, true, true, true, true, false] rfl rfl (any_of HT_.out (by kernel_rfl)) (fun _ _ _ h => h) (Or.inl ⟨by rfl, ?_⟩) ?_ ?_
      rotate_left
      · intro w'
        go_simp
        with_reducible rfl
      rotate_left
      · simp only [Act.put, List.setIfInBounds_toArray, List.set_cons_zero, List.set_cons_succ, i64_w, i32_w]
        rfl
      refine last_ (i := 7) (N := none) #[true, true, true, true, true, true, true, true] rfl rfl (one_of HT_.out (by kernel_rfl)) (by decide) (fun K hK => ?_)
      refine skip_ (w1 := ?_) (by rfl) rfl ?_ ?_
      rotate_left
      · go_simp
        rfl
      refine hK.out _ _ ?_
      clear hK K
      refine done_ (done_of HT_.out (by kernel_rfl)) ?_

      have BMd := Aside0.mk (blk_put (cs := #[.slice (some a2) m.length c2]) BMc.out 0 (.slice A3 r.1.length c3) rfl)
      have B1d := Aside0.mk (blk_far B1c.out (p := ⟨pb, 0, none⟩) (Nat.ne_of_lt LPB.out) (.slice A3 r.1.length c3))
      have HBd := Aside0.mk (below_set (j := 0) (v := .slice A3 r.1.length c3) HBc.out (Nat.le_of_lt LPB.out))
      have HCd := Aside0.mk (C_away HC3.out BMc.out (no_str1 _ _ _) (W' := w7.setCell ⟨pb, 0, none⟩ (.slice A3 r.1.length c3)) (fun k hk => Below.heap_setCell _ _ _ k hk))
      go_wp2
      go_roundg (l.length - (kk + 1))
      case measure => omega
      case rel => exact ⟨kk + 1, A3, c3, r.1, by omega, by omega, by omega, by go_num, HD.out.symm, HL3, BMd, HCd, B1d, HBd⟩
    · have hfin : madeL (l.take nn) (newL 0 0) = m := by
        rw [hm]
        congr 1
        rcases Nat.lt_or_ge kk l.length with h | h
        · have : kk = nn := by omega
          rw [this]
        · rw [List.take_of_length_le (by omega), List.take_of_length_le (by omega)]
      have HFIN := Lib.hid hfin
      clear hfin hm
      have e0 : wr.cell? ⟨pb, 0, none⟩ = some (.slice A2 m.length c2) := (blk_cell BMa.out 0).trans rfl
      have e1 : wr.cell? ⟨w.heap.size, 0, none⟩ = some (.slice none 0 0) := (blk_cell B1a.out 0).trans rfl
      have e2 := blk_frozen B1a.out 0
      by_cases h2 : kk < l.length
      · have m1 : decide ((kk : Int) < (l.length : Int)) = true := decide_eq_true (by omega)
        obtain rfl : kk = nn := by omega
        clear hlt hkn
        go_wp2
        have r1 := blk_put (cs := #[.slice none 0 0]) B1a.out 0 (.slice A2 m.length c2) rfl
        refine bodyPost_ret (results_cell_row rfl _ _ w.heap.size 27 #[.slice A2 m.length c2] (0, 0) _ rfl r1 Try.underlying27 rfl (by kernel_rfl)) rfl ?_
        rw [HFIN.out]
        exact ⟨_, rfl, ⟨A2, c2, rfl, HL2.out, C_away HC2.out B1a.out (no_str1 _ _ _) (fun k hk => Below.heap_setCell _ _ _ k hk)⟩, below_set HBa.out (Nat.le_refl _)⟩
      · have m1 : decide ((kk : Int) < (l.length : Int)) = false := decide_eq_false (by omega)
        clear hlt
        go_wp2
        have r1 := blk_put (cs := #[.slice none 0 0]) B1a.out 0 (.slice A2 m.length c2) rfl
        refine bodyPost_ret (results_cell_row rfl _ _ w.heap.size 27 #[.slice A2 m.length c2] (0, 0) _ rfl r1 Try.underlying27 rfl (by kernel_rfl)) rfl ?_
        rw [HFIN.out]
        exact ⟨_, rfl, ⟨A2, c2, rfl, HL2.out, C_away HC2.out B1a.out (no_str1 _ _ _) (fun k hk => Below.heap_setCell _ _ _ k hk)⟩, below_set HBa.out (Nat.le_refl _)⟩
end Go.Proofs.Ytfmeababiedamaa.V11

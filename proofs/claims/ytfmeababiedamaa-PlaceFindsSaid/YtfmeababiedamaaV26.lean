/- place.Join, walked. -/
import Derived.Test.YtfmeababiedamaaV56
namespace Go.Proofs.Ytfmeababiedamaa.V26
open Go.RowKit Go.Shelf Go.Proofs.YtfmeababiedamaaW.PrintWords Go.Proofs.YtfmeababiedamaaW.PrintLast Go.Proofs.YtfmeababiedamaaW.PrintMore
open Go.Proofs.Ytfmeababiedamaa Go.Proofs.Ytfmeababiedamaa.M Go.Proofs.Ytfmeababiedamaa.Sp Go.Proofs.Ytfmeababiedamaa.E Go.Proofs.Ytfmeababiedamaa.G Go.Proofs.Ytfmeababiedamaa.A Go.Proofs.Ytfmeababiedamaa.T Go.Proofs.Ytfmeababiedamaa.K Go.Proofs.Ytfmeababiedamaa.X Go.Proofs.Ytfmeababiedamaa.V56
set_option linter.unusedVariables false
set_option linter.unusedSimpArgs false
def T1 : Bool × List (List Nat × List Nat) := (true, [([], []), ([0], [0]), ([], []), ([2], [2]), ([1, 3, 3], [1, 3]), ([4, 4, 0, 1, 2, 3, 4], [4])])
def B1 : List Nat := [0, 1, 0, 4, 15, 31]
theorem tab1 : rtab .any (opsOf Try.f26 1) = T1 := by kernel_rfl
theorem bits1 : waitsOk T1.2 B1 = true := by kernel_rfl
def T8 : Bool × List (List Nat × List Nat) := (true, [([], []), ([0], [0]), ([], []), ([], []), ([2, 3], [2, 3]), ([1, 4], [1, 4]), ([5, 4, 0, 1, 2, 3, 4, 5], [5])])
def B8 : List Nat := [0, 1, 0, 0, 12, 31, 63]
theorem tab8 : rtab .any (opsOf Try.f26 8) = T8 := by kernel_rfl
theorem bits8 : waitsOk T8.2 B8 = true := by kernel_rfl
def T9 : Bool × List (List Nat × List Nat) := (true, [([], []), ([], []), ([1], [1]), ([2], [2]), ([3], [3]), ([], []), ([5], [5]), ([], []), ([6, 7], [6, 7]), ([8], [8]), ([9], [9]), ([4, 10], [4, 10]), ([11], [11]), ([0, 0, 1, 2, 3, 4, 5, 6, 7, 8, 9, 10, 11, 12], [0]), ([13, 0, 1, 2, 3, 4, 5, 6, 7, 8, 9, 10, 11, 12], [13]), ([14, 12, 0, 1, 2, 3, 4, 5, 6, 7, 8, 9, 10, 11, 12], [12, 14])])
def B9 : List Nat := [0, 0, 2, 6, 14, 0, 32, 0, 224, 480, 992, 2046, 4094, 8191, 16383, 32767]
theorem tab9 : rtab .any (opsOf Try.f26 9) = T9 := by kernel_rfl
theorem bits9 : waitsOk T9.2 B9 = true := by kernel_rfl
attribute [local go_sem] max2_int max_two
def joinOn (l : List S32) (i : Nat) (k : Nat) : List S32 := upd (l.eraseIdx i) k (fun x => ⟨x.f0, x.f1, x.f2, wrap64 ((if x.f3 < (rd_T32 l (i : Int)).f3 then (rd_T32 l (i : Int)).f3 else x.f3) + 1)⟩)
def joinM (l : List S32) (s : ByteArray) : List S32 × Int :=
  if isPath (ub s) = true ∧ ¬ s.toList = [] then (if exL l s < 0 then (l, 240) else (joinOn l (exL l s).toNat (idxL (l.eraseIdx (exL l s).toNat) s), 0)) else (l, 10)
theorem idxP_at (p : S32 → Bool) (q : List S32) : ∀ (l : List S32) (k : Nat) (i : Nat), idxP p l k = (i : Int) → k ≤ i ∧ ∃ h : i - k < l.length, p l[i - k] = true
  | [], k, i, h => by exfalso; have : (-1 : Int) = (i : Int) := h; omega
  | x :: r, k, i, h => by
    unfold idxP at h
    split at h
    · rename_i hp
      have : k = i := by omega
      subst this
      exact ⟨Nat.le_refl _, by simp, by simpa using hp⟩
    · obtain ⟨h1, h2, h3⟩ := idxP_at p q r (k + 1) i h
      refine ⟨by omega, by simp only [List.length_cons]; omega, ?_⟩
      obtain ⟨m, hm⟩ : ∃ m, i - k = m + 1 := ⟨i - k - 1, by omega⟩
      have e : i - (k + 1) = m := by omega
      simp only [hm, List.getElem_cons_succ]
      simpa only [e] using h3
theorem exL_at (l : List S32) (s : ByteArray) (i : Nat) (h : exL l s = (i : Int)) : i < l.length ∧ (rd_T32 l (i : Int)).f0.toList = s.toList := by
  obtain ⟨_, h2, h3⟩ := idxP_at (fun x => x.f0.toList == s.toList) l l 0 i h
  have h2' : i < l.length := by omega
  refine ⟨h2', ?_⟩
  rw [rd_at l i h2']
  simpa using h3
set_option maxHeartbeats 8000000 in
set_option maxRecDepth 100000 in
theorem join26 (a : Addr) (c : Nat) (l : List S32) (s : ByteArray) (w : World) (hl : Small l) (h0 : 0 < l.length) (hroot : (rd_T32 l ((0 : Nat) : Int)).f0.toList = []) (hs : s.size ≤ 1000) (hr : Kd.C k32 w (some a) l.length l) (hc : l.length ≤ c) :
    Calls Try.prog 26 #[.agg #[.slice (some a) l.length c], .string s] w fun e w' => ∃ v, e = .returned (.tuple #[.agg #[v], .int .i64 (joinM l s).2]) ∧ MapC w' v (joinM l s).1 ∧ Below w.heap.size w w' := by
  have hu27 := Try.underlying27
  have hu25 := Try.underlying25
  have hu32 := Try.underlying32
  have HR := Aside0.mk hr
  have HC := Aside0.mk hc
  clear hr hc
  have HB := Aside0.mk (below_alloc (below_alloc (Below.refl w.heap.size w) (.cells #[.slice (some a) l.length c] 27)) (.cells #[.slice none 0 0] 27))
  have B0 := Aside0.mk (blk_alloc (blk_new w (.cells #[.slice (some a) l.length c] 27)) (.cells #[.slice none 0 0] 27))
  have B1 := Aside0.mk (blk_new (w.alloc (.cells #[.slice (some a) l.length c] 27)) (.cells #[.slice none 0 0] 27))
  rw [World.size_alloc] at B1
  go_enter Try.func26, Try.ntmps26
  go_wp2_with fail
  generalize ((w.alloc (.cells #[.slice (some a) l.length c] 27)).alloc (.cells #[.slice none 0 0] 27)) = W0 at HB B0 B1 ⊢
  have c0 : W0.cell? ⟨w.heap.size, 0, none⟩ = some (.slice (some a) l.length c) := blk_cell B0.out 0
  replace HB := Aside0.mk (below_drew1 HB.out)
  replace B0 := Aside0.mk (blk_drew B0.out)
  replace B1 := Aside0.mk (blk_drew B1.out)
  refine start_ (n := 6) (S := fun w' => w'.cell? ⟨w.heap.size, 0, none⟩ = some (.slice (some a) l.length c)) (ds := []) #[false, false, false, false, false, false] (by kernel_rfl) rfl rfl (c0) (fun hHeld => ?_)
  refine with_tabW tab1 bits1 (fun HT_ HW_ => ?_)
  refine pure_ (i := 0) (N := some 9) (v := ?_) (a' := ?_) #[true, false, false, false, false, false] rfl rfl (any_of HT_.out (by kernel_rfl)) (fun _ _ _ h => h) (Or.inl ⟨by rfl, ?_⟩) ?_ ?_
  rotate_left
  · intro w'
    go_simp
    with_reducible rfl
  rotate_left
  · simp only [Act.put, List.setIfInBounds_toArray, List.set_cons_zero, List.set_cons_succ, i64_w, i32_w]
    rfl
  refine pure_ (i := 2) (N := some 11) (v := ?_) (a' := ?_) #[true, false, true, false, false, false] rfl rfl (any_of HT_.out (by kernel_rfl)) (fun _ _ _ h => h) (Or.inl ⟨by rfl, ?_⟩) ?_ ?_
  rotate_left
  · intro w'
    go_simp
    with_reducible rfl
  rotate_left
  · simp only [Act.put, List.setIfInBounds_toArray, List.set_cons_zero, List.set_cons_succ, i64_w, i32_w]
    rfl
  refine take_ (i := 1) (N := some 10) (v := ?_) (a' := ?_) #[true, true, true, false, false, false] rfl rfl (take_ofW HT_.out HW_.out (by kernel_rfl)) (fun _ _ _ h => h) (Or.inl ⟨by rfl, ?_⟩) hHeld ?_ ?_
  rotate_left
  · intro w' s0
    go_simp
    with_reducible rfl
  rotate_left
  · simp only [Act.put, List.setIfInBounds_toArray, List.set_cons_zero, List.set_cons_succ, i64_w, i32_w]
    rfl
  refine one_ (i := 3) (N := some 12) #[true, true, true, true, false, false] rfl rfl (one_of HT_.out (by kernel_rfl)) (by decide) (fun K hK => ?_)
  refine goes_ Try.func49 (by kernel_rfl) rfl #[.string s] (by rfl) rfl rfl (by (try simp only [List.map_toArray, List.map_cons, List.map_nil]); first | done | rfl) ?_
  refine (at49 s _).mono ?_
  rintro e y3 ⟨rfl, rfl⟩
  refine ⟨_, rfl, ?_⟩
  have BXs := Aside0.mk (blk_new W0.drew (.cells #[.string s] 9))
  have B0a := Aside0.mk (blk_alloc B0.out (.cells #[.string s] 9))
  have B1a := Aside0.mk (blk_alloc B1.out (.cells #[.string s] 9))
  have HBa := Aside0.mk (below_alloc HB.out (.cells #[.string s] 9))
  refine hK.out _ _ ((blk_cell B0a.out 0).trans rfl) (fun hHeld => ?_)
  clear hK K
  refine norm_ (a' := ?_) ?_ ?_
  rotate_left
  · show Act.put _ (some 12) _ = _
    simp only [Act.put, List.setIfInBounds_toArray, List.set_cons_zero, List.set_cons_succ, i64_w, i32_w]
    rfl
  refine one_ (i := 4) (N := some 13) #[true, true, true, true, true, false] rfl rfl (one_of HT_.out (by kernel_rfl)) (by decide) (fun K hK => ?_)
  refine goes_ Try.func48 (by kernel_rfl) rfl #[.slice (some a) l.length c, .func (.func 64) #[] #[.pointer (some ⟨W0.drew.heap.size, 0, none⟩)]] (by rfl) rfl rfl (by (try simp only [List.map_toArray, List.map_cons, List.map_nil]); first | done | rfl) ?_
  refine (idxAt (some a) c l s W0.drew.heap.size _ (Kd.C_below HR.out HBa.out) BXs.out).mono ?_
  rintro e w4 ⟨rfl, hb4⟩
  refine ⟨_, rfl, ?_⟩
  have B0b := Aside0.mk (blk_below B0a.out hb4)
  have B1b := Aside0.mk (blk_below B1a.out hb4)
  have HBb := Aside0.mk (below_step HBa.out hb4)
  clear hb4
  refine hK.out _ _ ((blk_cell B0b.out 0).trans rfl) (fun hHeld => ?_)
  clear hK K
  refine norm_ (a' := ?_) ?_ ?_
  rotate_left
  · show Act.put _ (some 13) _ = _
    simp only [Act.put, List.setIfInBounds_toArray, List.set_cons_zero, List.set_cons_succ, i64_w, i32_w]
    rfl
  refine pure_ (i := 5) (N := some 6) (v := ?_) (a' := ?_) #[true, true, true, true, true, true] rfl rfl (any_of HT_.out (by kernel_rfl)) (fun _ _ _ h => h) (Or.inl ⟨by rfl, ?_⟩) ?_ ?_
  rotate_left
  · intro w'
    go_simp
    with_reducible rfl
  rotate_left
  · simp only [Act.put, List.setIfInBounds_toArray, List.set_cons_zero, List.set_cons_succ, i64_w, i32_w]
    rfl
  refine done_ (done_of HT_.out (by kernel_rfl)) ?_

  have P43 := path43 s hs
  have P50 := fun W (hb : Below w.heap.size w W) => own50 a c l W (Kd.C_below HR.out hb) h0 (by have := hl.1; omega)
  have hln := hl.1
  have HL := Lib.hid hl
  clear hl
  obtain ⟨bp, hbp⟩ : ∃ b, isPath (ub s) = b := ⟨_, rfl⟩
  have Hp := Lib.hid hbp
  rw [hbp] at P43
  clear hbp
  have c0 : w4.cell? ⟨w.heap.size, 0, none⟩ = some (.slice (some a) l.length c) := blk_cell B0b.out 0
  cases bp
  · go_wp2_with (go_at_call 43; refine (P43 _).mono ?_; rintro e w5 ⟨rfl, hb5⟩; have B0c := Aside0.mk (blk_below B0b.out hb5); have B1c := Aside0.mk (blk_below B1b.out hb5); have HBc := Aside0.mk (below_step HBb.out hb5); have c0' : w5.cell? ⟨w.heap.size, 0, none⟩ = some (.slice (some a) l.length c) := (blk_cell B0c.out 0).trans rfl; have c1' : w5.cell? ⟨w.heap.size + 1, 0, none⟩ = some (.slice none 0 0) := (blk_cell B1c.out 0).trans rfl; have f1' := blk_frozen B1c.out 0; clear c0 hb5)
    have r1 := blk_put (cs := #[.slice none 0 0]) B1c.out 0 (.slice (some a) l.length c) rfl
    have q1 := (blk_cell r1 0).trans rfl
    refine bodyPost_ret (v := .tuple #[.agg #[.slice (some a) l.length c], .int .i64 10]) (by simp [results, Try.results26, go_sem, q1]) rfl ?_
    have hb := HBc.out.setCell (p := ⟨w.heap.size + 1, 0, none⟩) (by simp) (.slice (some a) l.length c)
    have e : joinM l s = (l, 10) := by unfold joinM; rw [Hp.out, if_neg (fun h => absurd h.1 (by decide))]
    rw [e]
    exact ⟨_, rfl, ⟨_, _, rfl, HC.out, Kd.C_below HR.out hb⟩, hb⟩
  · by_cases hse : s.toList = []
    · have hse' : (s.toList == ([] : List UInt8)) = true := by simpa using hse
      have Hs := Lib.hid hse
      clear hse
      go_wp2_with (go_at_call 43; refine (P43 _).mono ?_; rintro e w5 ⟨rfl, hb5⟩; have B0c := Aside0.mk (blk_below B0b.out hb5); have B1c := Aside0.mk (blk_below B1b.out hb5); have HBc := Aside0.mk (below_step HBb.out hb5); have c0' : w5.cell? ⟨w.heap.size, 0, none⟩ = some (.slice (some a) l.length c) := (blk_cell B0c.out 0).trans rfl; have c1' : w5.cell? ⟨w.heap.size + 1, 0, none⟩ = some (.slice none 0 0) := (blk_cell B1c.out 0).trans rfl; have f1' := blk_frozen B1c.out 0; clear c0 hb5)
      have r1 := blk_put (cs := #[.slice none 0 0]) B1c.out 0 (.slice (some a) l.length c) rfl
      have q1 := (blk_cell r1 0).trans rfl
      refine bodyPost_ret (v := .tuple #[.agg #[.slice (some a) l.length c], .int .i64 10]) (by simp [results, Try.results26, go_sem, q1]) rfl ?_
      have hb := HBc.out.setCell (p := ⟨w.heap.size + 1, 0, none⟩) (by simp) (.slice (some a) l.length c)
      have e : joinM l s = (l, 10) := by unfold joinM; rw [Hp.out, if_neg (fun h => h.2 Hs.out)]
      rw [e]
      exact ⟨_, rfl, ⟨_, _, rfl, HC.out, Kd.C_below HR.out hb⟩, hb⟩
    · have hse' : (s.toList == ([] : List UInt8)) = false := by simpa using hse
      have Hs := Lib.hid hse
      clear hse
      by_cases hx : exL l s < 0
      · have hx' : decide (exL l s < 0) = true := decide_eq_true hx
        have Hx := Lib.hid hx
        clear hx
        generalize hy : exL l s = y at hx' ⊢
        clear hy
        go_wp2_with (go_at_call 43; refine (P43 _).mono ?_; rintro e w5 ⟨rfl, hb5⟩; have B0c := Aside0.mk (blk_below B0b.out hb5); have B1c := Aside0.mk (blk_below B1b.out hb5); have HBc := Aside0.mk (below_step HBb.out hb5); have c0' : w5.cell? ⟨w.heap.size, 0, none⟩ = some (.slice (some a) l.length c) := (blk_cell B0c.out 0).trans rfl; have c1' : w5.cell? ⟨w.heap.size + 1, 0, none⟩ = some (.slice none 0 0) := (blk_cell B1c.out 0).trans rfl; have f1' := blk_frozen B1c.out 0; clear c0 hb5)
        have r1 := blk_put (cs := #[.slice none 0 0]) B1c.out 0 (.slice (some a) l.length c) rfl
        have q1 := (blk_cell r1 0).trans rfl
        refine bodyPost_ret (v := .tuple #[.agg #[.slice (some a) l.length c], .int .i64 240]) (by simp [results, Try.results26, go_sem, q1]) rfl ?_
        have hb := HBc.out.setCell (p := ⟨w.heap.size + 1, 0, none⟩) (by simp) (.slice (some a) l.length c)
        have e : joinM l s = (l, 240) := by unfold joinM; rw [Hp.out, if_pos ⟨rfl, Hs.out⟩, if_pos Hx.out]
        rw [e]
        exact ⟨_, rfl, ⟨_, _, rfl, HC.out, Kd.C_below HR.out hb⟩, hb⟩
      · obtain ⟨i, hi, hy⟩ := exL_range l s hx
        have hx' : decide ((i : Int) < 0) = false := decide_eq_false (by omega)
        have Hx := Lib.hid hx
        have Hy := Lib.hid hy
        have hat := (exL_at l s i hy).2
        rw [hy]
        clear hx hy
        have hi0 : 1 ≤ i := by
          rcases Nat.eq_zero_or_pos i with e | e
          · subst e; rw [hroot] at hat; exact absurd hat.symm Hs.out
          · exact e
        clear hat
        obtain ⟨l1, hl1⟩ : ∃ l1, l.eraseIdx i = l1 := ⟨_, rfl⟩
        have HL1 := Lib.hid hl1
        have hlen : l1.length = l.length - 1 := by rw [← hl1]; exact List.length_eraseIdx_of_lt hi
        have hsm : Small l1 := ⟨by have := HL.out.1; omega, fun x hx => HL.out.2 x (by rw [← hl1] at hx; exact List.mem_of_mem_eraseIdx hx)⟩
        have h1 : 0 < l1.length := by omega
        have P51 : ∀ (W : World) {g cap base : Nat} {ok : Nat → Prop}, Kd.R k32 32 W base ok (.slice (some ⟨g, 0, none⟩) (l.length - 1) cap) l1 → Calls Try.prog 51 #[.agg #[.slice (some ⟨g, 0, none⟩) (l.length - 1) cap], .string s] W fun e w' => e = .returned (.int .i64 (idxL l1 s : Int)) ∧ Below W.heap.size W w' := fun W {g cap base ok} h => by
          have := index51 (some ⟨g, 0, none⟩) cap l1 s W hsm (Kd.R_reads' h).2.2 (by rw [hlen]; exact (Kd.R_reads' h).2.1)
          rwa [hlen] at this
        have hk := idxL_lt l1 s h1
        obtain ⟨k, hkL⟩ : ∃ k, idxL l1 s = k := ⟨_, rfl⟩
        rw [hkL] at hk P51
        have HK := Lib.hid hkL
        clear hkL hsm h1
        have i0 : (0 ≤ (i : Int)) = True := by simp
        have i1 : decide ((i : Int) < (l.length : Int)) = true := decide_eq_true (by omega)
        have i2 : IntKind.i64.wrap ((i : Int) + 1) = (i : Int) + 1 := IntWalk.i64_in _ (by omega)
        have k0 : (0 ≤ (k : Int)) = True := by simp
        have k2 : k < l.length - 1 := by omega
        have k1 : decide ((k : Int) < ((l.length - 1 : Nat) : Int)) = true := decide_eq_true (by omega)
        go_wp2_with (first | (go_at_call 43; refine (P43 _).mono ?_; rintro e w5 ⟨rfl, hb5⟩; have B0c := Aside0.mk (blk_below B0b.out hb5); have B1c := Aside0.mk (blk_below B1b.out hb5); have HBc := Aside0.mk (below_step HBb.out hb5); have c0' : w5.cell? ⟨w.heap.size, 0, none⟩ = some (.slice (some a) l.length c) := (blk_cell B0c.out 0).trans rfl; have c1' : w5.cell? ⟨w.heap.size + 1, 0, none⟩ = some (.slice none 0 0) := (blk_cell B1c.out 0).trans rfl; have f1' := blk_frozen B1c.out 0; clear c0 hb5) | (go_at_call 50; refine (P50 _ HBc.out).mono ?_; rintro e w7 ⟨v0, rfl, hR7, hb7⟩; obtain ⟨g, cap, cur, rfl, hg, _, hblk, hcap, hmax, hsz, _⟩ := block_of_R hR7 h0; have B0d := Aside0.mk (blk_alloc (blk_below B0c.out hb7) (.cells #[.slice (some ⟨g, 0, none⟩) l.length cap] 27)); have B1d := Aside0.mk (blk_alloc (blk_below B1c.out hb7) (.cells #[.slice (some ⟨g, 0, none⟩) l.length cap] 27)); have HBd := Aside0.mk (below_alloc (below_step HBc.out hb7) (.cells #[.slice (some ⟨g, 0, none⟩) l.length cap] 27)); have BO := Aside0.mk (blk_new w7 (.cells #[.slice (some ⟨g, 0, none⟩) l.length cap] 27)); have GW := Aside0.mk (Nat.le_trans HBc.out.size hg); have GB0 := Aside0.mk (show g ≠ w.heap.size from fun e => absurd (blk_lt B0c.out) (by omega)); have GB1 := Aside0.mk (show g ≠ w.heap.size + 1 from fun e => absurd (blk_lt B1c.out) (by omega)); have GO := Aside0.mk (Nat.ne_of_lt (blk_lt hblk)); have HR8 := Aside0.mk (Kd.R_alloc hR7 (.cells #[.slice (some ⟨g, 0, none⟩) l.length cap] 27)); have GL0 := Aside0.mk (Nat.lt_of_lt_of_le (blk_lt B0c.out) hb7.size); have GL1 := Aside0.mk (Nat.lt_of_lt_of_le (blk_lt B1c.out) hb7.size); have GS := Aside0.mk (show w5.heap.size ≤ (w7.alloc (.cells #[.slice (some ⟨g, 0, none⟩) l.length cap] 27)).heap.size from Nat.le_trans hb7.size (by simp)); clear hb7 hR7 hg hblk hsz c0' c1' f1') | (go_at_call 56; refine (del56 g cap _ _ l i _ HR8.out hi GS.out hln).mono ?_; rintro e w9 ⟨rfl, hR9, hG9⟩; have B0e := Aside0.mk (blk_grown B0d.out hG9 (fun e => GB0.out (Option.some.inj e).symm)); have B1e := Aside0.mk (blk_grown B1d.out hG9 (fun e => GB1.out (Option.some.inj e).symm)); have BOe := Aside0.mk (blk_grown BO.out hG9 (fun e => GO.out (Option.some.inj e).symm)); have HBe := Aside0.mk (HBd.out.grown hG9 (below_size HBd.out) (fun k e => (Option.some.inj e) ▸ GW.out)); have HR9 := Aside0.mk hR9; have cO : w9.cell? ⟨w7.heap.size, 0, none⟩ = some (.slice (some ⟨g, 0, none⟩) l.length cap) := (blk_cell BOe.out 0).trans rfl; have fO := blk_frozen BOe.out 0; clear hR9 hG9))
        have BOf := Aside0.mk (blk_put (cs := #[.slice (some ⟨g, 0, none⟩) l.length cap]) BOe.out 0 (.slice (some ⟨g, 0, none⟩) (l.length - 1) cap) rfl)
        have B0f := Aside0.mk (blk_far B0e.out (p := ⟨w7.heap.size, 0, none⟩) (by have := blk_lt B0d.out; have := HBc.out.size; have := GL0.out; show w.heap.size ≠ w7.heap.size; omega) (.slice (some ⟨g, 0, none⟩) (l.length - 1) cap))
        have B1f := Aside0.mk (blk_far B1e.out (p := ⟨w7.heap.size, 0, none⟩) (by have := GL1.out; show w.heap.size + 1 ≠ w7.heap.size; omega) (.slice (some ⟨g, 0, none⟩) (l.length - 1) cap))
        have HBf := Aside0.mk (below_set (j := 0) (v := (.slice (some ⟨g, 0, none⟩) (l.length - 1) cap)) HBe.out (show w.heap.size ≤ w7.heap.size by have := GL0.out; omega))
        have hne : g ≠ w7.heap.size := GO.out
        have HR10 := Aside0.mk (Kd.R_far (p := ⟨w7.heap.size, 0, none⟩) (Kd.R_types HR9.out BOe.out (by decide)) (fun k hk => hk.2) (.slice (some ⟨g, 0, none⟩) (l.length - 1) cap))
        rw [HL1.out] at HR10
        clear hne cO fO
        generalize (w9.setCell ⟨w7.heap.size, 0, none⟩ (.slice (some ⟨g, 0, none⟩) (l.length - 1) cap)) = w10 at BOf B0f B1f HBf HR10 ⊢
        have dO : w10.cell? ⟨w7.heap.size, 0, none⟩ = some (.slice (some ⟨g, 0, none⟩) (l.length - 1) cap) := (blk_cell BOf.out 0).trans rfl
        replace BOf := Aside0.mk (blk_drew BOf.out)
        replace B0f := Aside0.mk (blk_drew B0f.out)
        replace B1f := Aside0.mk (blk_drew B1f.out)
        replace HBf := Aside0.mk (below_drew1 HBf.out)
        replace HR10 := Aside0.mk (Kd.R_drew HR10.out)
        refine start_ (n := 7) (S := fun w' => w'.cell? ⟨w7.heap.size, 0, none⟩ = some (.slice (some ⟨g, 0, none⟩) (l.length - 1) cap)) (ds := []) #[false, false, false, false, false, false, false] (by kernel_rfl) rfl rfl (dO) (fun hHeld => ?_)
        refine with_tabW tab8 bits8 (fun HT_ HW_ => ?_)
        refine pure_ (i := 0) (N := some 36) (v := ?_) (a' := ?_) #[true, false, false, false, false, false, false] rfl rfl (any_of HT_.out (by kernel_rfl)) (fun _ _ _ h => h) (Or.inl ⟨by rfl, ?_⟩) ?_ ?_
        rotate_left
        · intro w'
          go_simp
          with_reducible rfl
        rotate_left
        · simp only [Act.put, List.setIfInBounds_toArray, List.set_cons_zero, List.set_cons_succ, i64_w, i32_w]
          rfl
        refine pure_ (i := 3) (N := some 39) (v := ?_) (a' := ?_) #[true, false, false, true, false, false, false] rfl rfl (any_of HT_.out (by kernel_rfl)) (fun _ _ _ h => h) (Or.inl ⟨by rfl, ?_⟩) ?_ ?_
        rotate_left
        · intro w'
          go_simp
          with_reducible rfl
        rotate_left
        · simp only [Act.put, List.setIfInBounds_toArray, List.set_cons_zero, List.set_cons_succ, i64_w, i32_w]
          rfl
        refine take_ (i := 1) (N := some 37) (v := ?_) (a' := ?_) #[true, true, false, true, false, false, false] rfl rfl (take_ofW HT_.out HW_.out (by kernel_rfl)) (fun _ _ _ h => h) (Or.inl ⟨by rfl, ?_⟩) hHeld ?_ ?_
        rotate_left
        · intro w' s0
          go_simp
          with_reducible rfl
        rotate_left
        · simp only [Act.put, List.setIfInBounds_toArray, List.set_cons_zero, List.set_cons_succ, i64_w, i32_w]
          rfl
        refine take_ (i := 2) (N := some 38) (v := ?_) (a' := ?_) #[true, true, true, true, false, false, false] rfl rfl (take_ofW HT_.out HW_.out (by kernel_rfl)) (fun _ _ _ h => h) (Or.inl ⟨by rfl, ?_⟩) hHeld ?_ ?_
        rotate_left
        · intro w' s0
          go_simp
          with_reducible rfl
        rotate_left
        · simp only [Act.put, List.setIfInBounds_toArray, List.set_cons_zero, List.set_cons_succ, i64_w, i32_w]
          rfl
        refine one_ (i := 4) (N := some 40) #[true, true, true, true, true, false, false] rfl rfl (one_of HT_.out (by kernel_rfl)) (by decide) (fun K hK => ?_)
        refine goes_ Try.func51 (by kernel_rfl) rfl #[.agg #[(.slice (some ⟨g, 0, none⟩) (l.length - 1) cap)], .string s] (by rfl) rfl rfl (by (try simp only [List.map_toArray, List.map_cons, List.map_nil]); first | done | rfl) ?_
        refine (P51 _ HR10.out).mono ?_
        rintro e w11 ⟨rfl, hb11⟩
        refine ⟨_, rfl, ?_⟩
        have B0g := Aside0.mk (blk_below B0f.out hb11)
        have B1g := Aside0.mk (blk_below B1f.out hb11)
        have BOg := Aside0.mk (blk_below BOf.out hb11)
        have HBg := Aside0.mk (below_step HBf.out hb11)
        have HR11 := Aside0.mk (Kd.R_below HR10.out hb11)
        clear hb11
        refine hK.out _ _ ((blk_cell BOg.out 0).trans rfl) (fun hHeld => ?_)
        clear hK K
        refine norm_ (a' := ?_) ?_ ?_
        rotate_left
        · show Act.put _ (some 40) _ = _
          simp only [Act.put, List.setIfInBounds_toArray, List.set_cons_zero, List.set_cons_succ, i64_w, i32_w]
          rfl
        refine pure_ (i := 5) (N := some 41) (v := ?_) (a' := ?_) #[true, true, true, true, true, true, false] rfl rfl (any_of HT_.out (by kernel_rfl)) (fun _ _ _ h => h) (Or.inl ⟨by rfl, ?_⟩) ?_ ?_
        rotate_left
        · intro w'
          go_simp
          with_reducible rfl
        rotate_left
        · simp only [Act.put, List.setIfInBounds_toArray, List.set_cons_zero, List.set_cons_succ, i64_w, i32_w]
          rfl
        refine pure_ (i := 6) (N := some 8) (v := ?_) (a' := ?_) #[true, true, true, true, true, true, true] rfl rfl (any_of HT_.out (by kernel_rfl)) (fun _ _ _ h => h) (Or.inl ⟨by rfl, ?_⟩) ?_ ?_
        rotate_left
        · intro w'
          go_simp
          with_reducible rfl
        rotate_left
        · simp only [Act.put, List.setIfInBounds_toArray, List.set_cons_zero, List.set_cons_succ, i64_w, i32_w]
          rfl
        refine done_ (done_of HT_.out (by kernel_rfl)) ?_
        go_wp2_with fail
        obtain ⟨⟨u0, u1, u2, u3⟩, uf⟩ := R_cells HR11.out k hk
        have uf3 := uf 3
        obtain ⟨ad, ead, x0, x1, x2, x3⟩ := at_T32 (Kd.C_below HR.out HBg.out) (i : Int) (by omega) (by omega)
        cases ead
        simp only [Int.toNat_natCast] at x0 x1 x2 x3
        have m0 : w11.cell? ⟨w.heap.size, 0, none⟩ = some (.slice (some a) l.length c) := (blk_cell B0g.out 0).trans rfl
        have v3 := u3
        refine start_ (n := 16) (S := fun w' => w'.cell? ⟨g, k * 4 + 3, none⟩ = some (.int .i64 (rd_T32 l1 (k : Int)).f3) ∧ w'.cell? ⟨w.heap.size, 0, none⟩ = some (.slice (some a) l.length c) ∧ w'.cell? ⟨(a.add (i * 4)).block, (a.add (i * 4)).off + 3, none⟩ = some (.int .i64 (rd_T32 l (i : Int)).f3)) (ds := [15]) #[false, false, false, false, false, false, false, false, false, false, false, false, false, false, false, false] (by kernel_rfl) rfl rfl ⟨u3, m0, x3⟩ (fun hHeld => ?_)
        refine with_tabW tab9 bits9 (fun HT_ HW_ => ?_)
        refine pure_ (i := 0) (N := some 42) (v := ?_) (a' := ?_) #[true, false, false, false, false, false, false, false, false, false, false, false, false, false, false, false] rfl rfl (any_of HT_.out (by kernel_rfl)) (fun _ _ _ h => h) (Or.inl ⟨by rfl, ?_⟩) ?_ ?_
        rotate_left
        · intro w'
          go_simp
          with_reducible rfl
        rotate_left
        · simp only [Act.put, List.setIfInBounds_toArray, List.set_cons_zero, List.set_cons_succ, i64_w, i32_w]
          rfl
        refine pure_ (i := 1) (N := some 43) (v := ?_) (a' := ?_) #[true, true, false, false, false, false, false, false, false, false, false, false, false, false, false, false] rfl rfl (any_of HT_.out (by kernel_rfl)) (fun _ _ _ h => h) (Or.inl ⟨by rfl, ?_⟩) ?_ ?_
        rotate_left
        · intro w'
          go_simp
          with_reducible rfl
        rotate_left
        · simp only [Act.put, List.setIfInBounds_toArray, List.set_cons_zero, List.set_cons_succ, i64_w, i32_w]
          rfl
        refine pure_ (i := 2) (N := some 44) (v := ?_) (a' := ?_) #[true, true, true, false, false, false, false, false, false, false, false, false, false, false, false, false] rfl rfl (any_of HT_.out (by kernel_rfl)) (fun _ _ _ h => h) (Or.inl ⟨by rfl, ?_⟩) ?_ ?_
        rotate_left
        · intro w'
          go_simp
          with_reducible rfl
        rotate_left
        · simp only [Act.put, List.setIfInBounds_toArray, List.set_cons_zero, List.set_cons_succ, i64_w, i32_w]
          rfl
        refine pure_ (i := 3) (N := some 45) (v := ?_) (a' := ?_) #[true, true, true, true, false, false, false, false, false, false, false, false, false, false, false, false] rfl rfl (any_of HT_.out (by kernel_rfl)) (fun _ _ _ h => h) (Or.inl ⟨by rfl, ?_⟩) ?_ ?_
        rotate_left
        · intro w'
          go_simp
          with_reducible rfl
        rotate_left
        · simp only [Act.put, List.setIfInBounds_toArray, List.set_cons_zero, List.set_cons_succ, i64_w, i32_w]
          rfl
        refine pure_ (i := 5) (N := some 47) (v := ?_) (a' := ?_) #[true, true, true, true, false, true, false, false, false, false, false, false, false, false, false, false] rfl rfl (any_of HT_.out (by kernel_rfl)) (fun _ _ _ h => h) (Or.inl ⟨by rfl, ?_⟩) ?_ ?_
        rotate_left
        · intro w'
          go_simp
          with_reducible rfl
        rotate_left
        · simp only [Act.put, List.setIfInBounds_toArray, List.set_cons_zero, List.set_cons_succ, i64_w, i32_w]
          rfl
        refine pure_ (i := 7) (N := some 49) (v := ?_) (a' := ?_) #[true, true, true, true, false, true, false, true, false, false, false, false, false, false, false, false] rfl rfl (any_of HT_.out (by kernel_rfl)) (fun _ _ _ h => h) (Or.inl ⟨by rfl, ?_⟩) ?_ ?_
        rotate_left
        · intro w'
          go_simp
          with_reducible rfl
        rotate_left
        · simp only [Act.put, List.setIfInBounds_toArray, List.set_cons_zero, List.set_cons_succ, i64_w, i32_w]
          rfl
        refine take_ (i := 4) (N := some 46) (v := ?_) (a' := ?_) #[true, true, true, true, true, true, false, true, false, false, false, false, false, false, false, false] rfl rfl (take_ofW HT_.out HW_.out (by kernel_rfl)) (fun _ _ _ h => h) (Or.inl ⟨by rfl, ?_⟩) hHeld ?_ ?_
        rotate_left
        · rintro w' ⟨s0, s1, s2⟩
          go_simp
          with_reducible rfl
        rotate_left
        · simp only [Act.put, List.setIfInBounds_toArray, List.set_cons_zero, List.set_cons_succ, i64_w, i32_w]
          rfl
        refine take_ (i := 6) (N := some 48) (v := ?_) (a' := ?_) #[true, true, true, true, true, true, true, true, false, false, false, false, false, false, false, false] rfl rfl (take_ofW HT_.out HW_.out (by kernel_rfl)) (fun _ _ _ h => h) (Or.inl ⟨by rfl, ?_⟩) hHeld ?_ ?_
        rotate_left
        · rintro w' ⟨s0, s1, s2⟩
          go_simp
          with_reducible rfl
        rotate_left
        · simp only [Act.put, List.setIfInBounds_toArray, List.set_cons_zero, List.set_cons_succ, i64_w, i32_w]
          rfl
        refine pure_ (i := 8) (N := some 50) (v := ?_) (a' := ?_) #[true, true, true, true, true, true, true, true, true, false, false, false, false, false, false, false] rfl rfl (any_of HT_.out (by kernel_rfl)) (fun _ _ _ h => h) (Or.inl ⟨by rfl, ?_⟩) ?_ ?_
        rotate_left
        · intro w'
          go_simp
          with_reducible rfl
        rotate_left
        · simp only [Act.put, List.setIfInBounds_toArray, List.set_cons_zero, List.set_cons_succ, i64_w, i32_w]
          rfl
        refine pure_ (i := 9) (N := some 51) (v := ?_) (a' := ?_) #[true, true, true, true, true, true, true, true, true, true, false, false, false, false, false, false] rfl rfl (any_of HT_.out (by kernel_rfl)) (fun _ _ _ h => h) (Or.inl ⟨by rfl, ?_⟩) ?_ ?_
        rotate_left
        · intro w'
          go_simp
          with_reducible rfl
        rotate_left
        · simp only [Act.put, List.setIfInBounds_toArray, List.set_cons_zero, List.set_cons_succ, i64_w, i32_w]
          rfl
        refine take_ (i := 10) (N := some 52) (v := ?_) (a' := ?_) #[true, true, true, true, true, true, true, true, true, true, true, false, false, false, false, false] rfl rfl (take_ofW HT_.out HW_.out (by kernel_rfl)) (fun _ _ _ h => h) (Or.inl ⟨by rfl, ?_⟩) hHeld ?_ ?_
        rotate_left
        · rintro w' ⟨s0, s1, s2⟩
          go_simp
          with_reducible rfl
        rotate_left
        · simp only [Act.put, List.setIfInBounds_toArray, List.set_cons_zero, List.set_cons_succ, i64_w, i32_w]
          rfl
        refine pure_ (i := 11) (N := some 53) (v := ?_) (a' := ?_) #[true, true, true, true, true, true, true, true, true, true, true, true, false, false, false, false] rfl rfl (any_of HT_.out (by kernel_rfl)) (fun _ _ _ h => h) (Or.inl ⟨by rfl, ?_⟩) ?_ ?_
        rotate_left
        · intro w'
          go_simp
          with_reducible rfl
        rotate_left
        · simp only [Act.put, List.setIfInBounds_toArray, List.set_cons_zero, List.set_cons_succ, i64_w, i32_w]
          rfl
        refine pure_ (i := 12) (N := some 54) (v := ?_) (a' := ?_) #[true, true, true, true, true, true, true, true, true, true, true, true, true, false, false, false] rfl rfl (any_of HT_.out (by kernel_rfl)) (fun _ _ _ h => h) (Or.inl ⟨by rfl, ?_⟩) ?_ ?_
        rotate_left
        · intro w'
          go_simp
          with_reducible rfl
        rotate_left
        · simp only [Act.put, List.setIfInBounds_toArray, List.set_cons_zero, List.set_cons_succ, i64_w, i32_w]
          rfl
        refine pure_ (i := 13) (N := some 55) (v := ?_) (a' := ?_) #[true, true, true, true, true, true, true, true, true, true, true, true, true, true, false, false] rfl rfl (any_of HT_.out (by kernel_rfl)) (fun _ _ _ h => h) (Or.inl ⟨by rfl, ?_⟩) ?_ ?_
        rotate_left
        · intro w'
          go_simp
          with_reducible rfl
        rotate_left
        · simp only [Act.put, List.setIfInBounds_toArray, List.set_cons_zero, List.set_cons_succ, i64_w, i32_w]
          rfl
        refine pure_ (i := 14) (N := some 56) (v := ?_) (a' := ?_) #[true, true, true, true, true, true, true, true, true, true, true, true, true, true, true, false] rfl rfl (any_of HT_.out (by kernel_rfl)) (fun _ _ _ h => h) (Or.inl ⟨by rfl, ?_⟩) ?_ ?_
        rotate_left
        · intro w'
          go_simp
          with_reducible rfl
        rotate_left
        · simp only [Act.put, List.setIfInBounds_toArray, List.set_cons_zero, List.set_cons_succ, i64_w, i32_w]
          rfl
        refine last_ (i := 15) (N := none) #[true, true, true, true, true, true, true, true, true, true, true, true, true, true, true, true] rfl rfl (one_of HT_.out (by kernel_rfl)) (by decide) (fun K hK => ?_)
        refine skip_ (w1 := ?_) (by rfl) rfl ?_ ?_
        rotate_left
        · go_simp
          rfl
        refine hK.out _ _ ?_
        clear hK K
        refine done_ (done_of HT_.out (by kernel_rfl)) ?_
        obtain ⟨hR12, hG12⟩ := R_field2 HR11.out k 3 hk (by decide) (.int .i64 (wrap64 ((if (rd_T32 l1 (k : Int)).f3 < (rd_T32 l (i : Int)).f3 then (rd_T32 l (i : Int)).f3 else (rd_T32 l1 (k : Int)).f3) + 1))) ⟨(rd_T32 l1 (k : Int)).f0, (rd_T32 l1 (k : Int)).f1, (rd_T32 l1 (k : Int)).f2, wrap64 ((if (rd_T32 l1 (k : Int)).f3 < (rd_T32 l (i : Int)).f3 then (rd_T32 l (i : Int)).f3 else (rd_T32 l1 (k : Int)).f3) + 1)⟩ rfl rfl
        have BOh := Aside0.mk (blk_grown BOg.out hG12 (fun e => GO.out (Option.some.inj e).symm))
        have B1h := Aside0.mk (blk_grown B1g.out hG12 (fun e => GB1.out (Option.some.inj e).symm))
        have HBh := Aside0.mk (HBg.out.grown hG12 (below_size HBg.out) (fun k e => (Option.some.inj e) ▸ GW.out))
        have HR12 := Aside0.mk hR12
        clear hR12 hG12 u0 u1 u2 u3 v3 uf uf3 x0 x1 x2 x3 m0
        generalize (w11.setCell ⟨g, k * 4 + 3, none⟩ (.int .i64 (wrap64 ((if (rd_T32 l1 (k : Int)).f3 < (rd_T32 l (i : Int)).f3 then (rd_T32 l (i : Int)).f3 else (rd_T32 l1 (k : Int)).f3) + 1)))) = w12 at BOh B1h HBh HR12 ⊢
        replace BOh := Aside0.mk (blk_drew BOh.out)
        replace B1h := Aside0.mk (blk_drew B1h.out)
        replace HBh := Aside0.mk (below_drew1 HBh.out)
        replace HR12 := Aside0.mk (Kd.R_drew HR12.out)
        generalize w12.drew = w13 at BOh B1h HBh HR12 ⊢
        have o0 : w13.cell? ⟨w7.heap.size, 0, none⟩ = some (.slice (some ⟨g, 0, none⟩) (l.length - 1) cap) := (blk_cell BOh.out 0).trans rfl
        have o1 : w13.cell? ⟨w.heap.size + 1, 0, none⟩ = some (.slice none 0 0) := (blk_cell B1h.out 0).trans rfl
        have o2 := blk_frozen B1h.out 0
        obtain ⟨mm, hmm⟩ : ∃ mm : Int, (if (rd_T32 l1 (k : Int)).f3 < (rd_T32 l (i : Int)).f3 then (rd_T32 l (i : Int)).f3 else (rd_T32 l1 (k : Int)).f3) = mm := ⟨_, rfl⟩
        rw [hmm] at HR12
        simp only [hmm]
        have HM := Lib.hid hmm
        clear hmm
        go_wp2
        have r1 := blk_put (cs := #[.slice none 0 0]) B1h.out 0 (.slice (some ⟨g, 0, none⟩) (l.length - 1) cap) rfl
        have q1 := (blk_cell r1 0).trans rfl
        refine bodyPost_ret (v := .tuple #[.agg #[(.slice (some ⟨g, 0, none⟩) (l.length - 1) cap)], .int .i64 0]) (by simp [results, Try.results26, go_sem, q1]) rfl ?_
        have hb := HBh.out.setCell (p := ⟨w.heap.size + 1, 0, none⟩) (by simp) (.slice (some ⟨g, 0, none⟩) (l.length - 1) cap)
        have e : joinM l s = (joinOn l i k, 0) := by
          unfold joinM
          rw [Hp.out, if_pos ⟨rfl, Hs.out⟩, if_neg (by have := Hx.out; omega), Hy.out, Int.toNat_natCast, HL1.out, HK.out]
        have e2 : joinOn l i k = l1.set k ⟨(rd_T32 l1 (k : Int)).f0, (rd_T32 l1 (k : Int)).f1, (rd_T32 l1 (k : Int)).f2, wrap64 (mm + 1)⟩ := by
          unfold joinOn upd; rw [HL1.out, ← HM.out]
        rw [e, e2]
        exact ⟨_, rfl, MapC.of_R (Kd.R_far (p := ⟨w.heap.size + 1, 0, none⟩) (Kd.R_types HR12.out B1h.out (by decide)) (fun k hk => hk.2) _), hb⟩
end Go.Proofs.Ytfmeababiedamaa.V26

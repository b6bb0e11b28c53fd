/- place.Find, walked. -/
import Derived.Test.YtfmeababiedamaaX
namespace Go.Proofs.Ytfmeababiedamaa.V38
open Go.RowKit Go.Shelf Go.Proofs.YtfmeababiedamaaW.PrintWords Go.Proofs.YtfmeababiedamaaW.PrintLast Go.Proofs.YtfmeababiedamaaW.PrintMore
open Go.Proofs.Ytfmeababiedamaa Go.Proofs.Ytfmeababiedamaa.M Go.Proofs.Ytfmeababiedamaa.Sp Go.Proofs.Ytfmeababiedamaa.E Go.Proofs.Ytfmeababiedamaa.G Go.Proofs.Ytfmeababiedamaa.A Go.Proofs.Ytfmeababiedamaa.T Go.Proofs.Ytfmeababiedamaa.K Go.Proofs.Ytfmeababiedamaa.X
set_option linter.unusedVariables false
set_option linter.unusedSimpArgs false
def T3 : Bool × List (List Nat × List Nat) := (true, [([], []), ([0], [0]), ([], []), ([], []), ([2, 3], [2, 3]), ([1, 4], [1, 4]), ([5], [5]), ([6, 4, 0, 1, 2, 3, 4, 5, 6], [6]), ([7, 0, 1, 2, 3, 4, 5, 6, 7], [])])
def B3 : List Nat := [0, 1, 0, 0, 12, 31, 63, 127, 255]
theorem tab3 : rtab .any (opsOf Try.f38 3) = T3 := by kernel_rfl
theorem bits3 : waitsOk T3.2 B3 = true := by kernel_rfl
def findL (l : List S32) (s : ByteArray) : S32 × Int := if isPath (ub s) then (rd_T32 l (idxL l s : Int), 0) else (z32, 10)
theorem blk4 {w : World} {g : Nat} {t : TypeId} {v0 v1 v2 v3 : Value} (h : w.heap[g]? = some (.cells #[v0, v1, v2, v3] t (0, 0))) (u0 u1 u2 u3 : Value) :
    ((((w.setCell ⟨g, 0, none⟩ u0).setCell ⟨g, 1, none⟩ u1).setCell ⟨g, 2, none⟩ u2).setCell ⟨g, 3, none⟩ u3).heap[g]? = some (.cells #[u0, u1, u2, u3] t (0, 0)) :=
  blk_put (cs := #[u0, u1, u2, v3]) (blk_put (cs := #[u0, u1, v2, v3]) (blk_put (cs := #[u0, v1, v2, v3]) (blk_put (cs := #[v0, v1, v2, v3]) h 0 _ rfl) 1 _ rfl) 2 _ rfl) 3 _ rfl
theorem below4 {w W : World} {g : Nat} (h : Below w.heap.size w W) (hg : w.heap.size ≤ g) (u0 u1 u2 u3 : Value) :
    Below w.heap.size w ((((W.setCell ⟨g, 0, none⟩ u0).setCell ⟨g, 1, none⟩ u1).setCell ⟨g, 2, none⟩ u2).setCell ⟨g, 3, none⟩ u3) :=
  below_set (below_set (below_set (below_set h hg) hg) hg) hg
set_option maxHeartbeats 4000000 in
set_option maxRecDepth 100000 in
theorem find38 (a : Addr) (c : Nat) (l : List S32) (s : ByteArray) (w : World) (hl : Small l) (h0 : 0 < l.length) (hs : s.size ≤ 1000) (hr : Kd.C k32 w (some a) l.length l) (hc : l.length ≤ c) :
    Calls Try.prog 38 #[.agg #[.slice (some a) l.length c], .string s] w fun e w' => e = .returned (.tuple #[pv (findL l s).1, .int .i64 (findL l s).2]) ∧ Below w.heap.size w w' := by
  have hu27 := Try.underlying27
  have hu25 := Try.underlying25
  have hu32 := Try.underlying32
  have HR := Aside0.mk hr
  have HC := Aside0.mk hc
  have HL := Aside0.mk hl
  clear hr hc hl
  have HB := Aside0.mk (below_alloc (below_alloc (Below.refl w.heap.size w) (.cells #[.slice (some a) l.length c] 27)) (.cells #[.string ⟨#[]⟩, .int .i64 0, .int .i64 0, .int .i64 0] 32))
  have B0 := Aside0.mk (blk_alloc (blk_new w (.cells #[.slice (some a) l.length c] 27)) (.cells #[.string ⟨#[]⟩, .int .i64 0, .int .i64 0, .int .i64 0] 32))
  have B1 := Aside0.mk (blk_new (w.alloc (.cells #[.slice (some a) l.length c] 27)) (.cells #[.string ⟨#[]⟩, .int .i64 0, .int .i64 0, .int .i64 0] 32))
  rw [World.size_alloc] at B1
  have P43 := path43 s hs
  have P51 := fun W (hb : Below w.heap.size w W) => index51 (some a) c l s W HL.out (Kd.C_below HR.out hb) HC.out
  have hi := idxL_lt l s h0
  obtain ⟨i, hiL⟩ : ∃ i, idxL l s = i := ⟨_, rfl⟩
  rw [hiL] at hi P51
  have Hi := Lib.hid hiL
  have z1 : decide ((i : Int) < (l.length : Int)) = true := decide_eq_true (by omega)
  have zi : (0 ≤ (i : Int)) = True := by simp
  clear hiL
  obtain ⟨bp, hbp⟩ : ∃ b, isPath (ub s) = b := ⟨_, rfl⟩
  have Hp := Lib.hid hbp
  rw [hbp] at P43
  clear hbp
  go_enter Try.func38, Try.ntmps38
  have arm : ∀ {w5 : World}, Below ((w.alloc (.cells #[.slice (some a) l.length c] 27)).alloc (.cells #[.string ⟨#[]⟩, .int .i64 0, .int .i64 0, .int .i64 0] 32)).heap.size ((w.alloc (.cells #[.slice (some a) l.length c] 27)).alloc (.cells #[.string ⟨#[]⟩, .int .i64 0, .int .i64 0, .int .i64 0] 32)) w5 → Below w.heap.size w w5 ∧ w5.heap[w.heap.size]? = some (.cells #[.slice (some a) l.length c] 27 (0, 0)) ∧ w5.heap[w.heap.size + 1]? = some (.cells #[.string ⟨#[]⟩, .int .i64 0, .int .i64 0, .int .i64 0] 32 (0, 0)) := fun hb => ⟨below_step HB.out hb, blk_below B0.out hb, blk_below B1.out hb⟩
  cases bp
  · go_wp2_with (go_at_call 43; refine (P43 _).mono ?_; rintro e w5 ⟨rfl, hb5⟩; obtain ⟨hB, b0, b1⟩ := arm hb5; have HBd := Aside0.mk hB; have B0d := Aside0.mk b0; have B1d := Aside0.mk b1; have z0 := (blk_cell b1 0).trans rfl; have z1 := (blk_cell b1 1).trans rfl; have z2 := (blk_cell b1 2).trans rfl; have z3 := (blk_cell b1 3).trans rfl; have y0 := blk_frozen b1 0; have y1 := blk_frozen b1 1; have y2 := blk_frozen b1 2; have y3 := blk_frozen b1 3; clear hb5 hB b0 b1)
    have r1 := blk4 B1d.out (.string ⟨#[]⟩) (.int .i64 0) (.int .i64 0) (.int .i64 0)
    have q0 := (blk_cell r1 0).trans rfl
    have q1 := (blk_cell r1 1).trans rfl
    have q2 := (blk_cell r1 2).trans rfl
    have q3 := (blk_cell r1 3).trans rfl
    refine bodyPost_ret (v := .tuple #[pv z32, .int .i64 10]) (by simp [results, Try.results38, go_sem, q0, q1, q2, q3]; exact ⟨rfl, rfl, rfl, rfl⟩) rfl ?_
    have e : findL l s = (z32, 10) := by unfold findL; rw [Hp.out]; rfl
    rw [e]
    exact ⟨rfl, below4 HBd.out (by omega) _ _ _ _⟩
  · go_wp2_with (go_at_call 43; refine (P43 _).mono ?_; rintro e w5 ⟨rfl, hb5⟩; obtain ⟨hB, b0, b1⟩ := arm hb5; have HBd := Aside0.mk (below_drew1 hB); have B0d := Aside0.mk (blk_drew b0); have B1d := Aside0.mk (blk_drew b1); have c0 : w5.cell? ⟨w.heap.size, 0, none⟩ = some (.slice (some a) l.length c) := (blk_cell b0 0).trans rfl; clear hb5 hB b0 b1)
    refine start_ (n := 9) (S := fun w' => w'.cell? ⟨w.heap.size, 0, none⟩ = some (.slice (some a) l.length c)) (ds := [7]) #[false, false, false, false, false, false, false, false, false] (by kernel_rfl) rfl rfl (c0) (fun hHeld => ?_)
    refine with_tabW tab3 bits3 (fun HT_ HW_ => ?_)
    refine pure_ (i := 0) (N := some 10) (v := ?_) (a' := ?_) #[true, false, false, false, false, false, false, false, false] rfl rfl (any_of HT_.out (by kernel_rfl)) (fun _ _ _ h => h) (Or.inl ⟨by rfl, ?_⟩) ?_ ?_
    rotate_left
    · intro w'
      go_simp
      with_reducible rfl
    rotate_left
    · simp only [Act.put, List.setIfInBounds_toArray, List.set_cons_zero, List.set_cons_succ, i64_w, i32_w]
      rfl
    refine pure_ (i := 3) (N := some 13) (v := ?_) (a' := ?_) #[true, false, false, true, false, false, false, false, false] rfl rfl (any_of HT_.out (by kernel_rfl)) (fun _ _ _ h => h) (Or.inl ⟨by rfl, ?_⟩) ?_ ?_
    rotate_left
    · intro w'
      go_simp
      with_reducible rfl
    rotate_left
    · simp only [Act.put, List.setIfInBounds_toArray, List.set_cons_zero, List.set_cons_succ, i64_w, i32_w]
      rfl
    refine take_ (i := 1) (N := some 11) (v := ?_) (a' := ?_) #[true, true, false, true, false, false, false, false, false] rfl rfl (take_ofW HT_.out HW_.out (by kernel_rfl)) (fun _ _ _ h => h) (Or.inl ⟨by rfl, ?_⟩) hHeld ?_ ?_
    rotate_left
    · intro w' s0
      go_simp
      with_reducible rfl
    rotate_left
    · simp only [Act.put, List.setIfInBounds_toArray, List.set_cons_zero, List.set_cons_succ, i64_w, i32_w]
      rfl
    refine take_ (i := 2) (N := some 12) (v := ?_) (a' := ?_) #[true, true, true, true, false, false, false, false, false] rfl rfl (take_ofW HT_.out HW_.out (by kernel_rfl)) (fun _ _ _ h => h) (Or.inl ⟨by rfl, ?_⟩) hHeld ?_ ?_
    rotate_left
    · intro w' s0
      go_simp
      with_reducible rfl
    rotate_left
    · simp only [Act.put, List.setIfInBounds_toArray, List.set_cons_zero, List.set_cons_succ, i64_w, i32_w]
      rfl
    refine one_ (i := 4) (N := some 14) #[true, true, true, true, true, false, false, false, false] rfl rfl (one_of HT_.out (by kernel_rfl)) (by decide) (fun K hK => ?_)
    refine goes_ Try.func51 (by kernel_rfl) rfl #[.agg #[.slice (some a) l.length c], .string s] (by rfl) rfl rfl (by (try simp only [List.map_toArray, List.map_cons, List.map_nil]); first | done | rfl) ?_
    refine (P51 _ HBd.out).mono ?_
    rintro e w4 ⟨rfl, hb4⟩
    refine ⟨_, rfl, ?_⟩
    have B0e := Aside0.mk (blk_below B0d.out hb4)
    have B1e := Aside0.mk (blk_below B1d.out hb4)
    have HBe := Aside0.mk (below_step HBd.out hb4)
    obtain ⟨ad, ead, x0, x1, x2, x3⟩ := at_T32 (Kd.C_below HR.out HBe.out) (i : Int) (by omega) (by omega)
    cases ead
    simp only [Int.toNat_natCast] at x0 x1 x2 x3
    have z0 := (blk_cell B1e.out 0).trans rfl
    have zz1 := (blk_cell B1e.out 1).trans rfl
    have z2 := (blk_cell B1e.out 2).trans rfl
    have z3 := (blk_cell B1e.out 3).trans rfl
    have y0 := blk_frozen B1e.out 0
    have y1 := blk_frozen B1e.out 1
    have y2 := blk_frozen B1e.out 2
    have y3 := blk_frozen B1e.out 3
    refine hK.out _ _ ((blk_cell B0e.out 0).trans rfl) (fun hHeld => ?_)
    clear hK K
    refine norm_ (a' := ?_) ?_ ?_
    rotate_left
    · show Act.put _ (some 14) _ = _
      simp only [Act.put, List.setIfInBounds_toArray, List.set_cons_zero, List.set_cons_succ, i64_w, i32_w]
      rfl
    refine pure_ (i := 5) (N := some 15) (v := ?_) (a' := ?_) #[true, true, true, true, true, true, false, false, false] rfl rfl (any_of HT_.out (by kernel_rfl)) (fun _ _ _ h => h) (Or.inl ⟨by rfl, ?_⟩) ?_ ?_
    rotate_left
    · intro w'
      go_simp
      with_reducible rfl
    rotate_left
    · simp only [Act.put, List.setIfInBounds_toArray, List.set_cons_zero, List.set_cons_succ, i64_w, i32_w]
      rfl
    refine one_ (i := 6) (N := some 16) #[true, true, true, true, true, true, true, false, false] rfl rfl (one_of HT_.out (by kernel_rfl)) (by decide) (fun K hK => ?_)
    refine value_ (w1 := ?_) (v := ?_) (by rfl) rfl ?_ ?_
    rotate_left 2
    · go_simp
      constructor
      · rfl
      · rfl
    refine hK.out _ _ ((blk_cell B0e.out 0).trans rfl) (fun hHeld => ?_)
    clear hK K
    refine norm_ (a' := ?_) ?_ ?_
    rotate_left
    · show Act.put _ (some 16) _ = _
      simp only [Act.put, List.setIfInBounds_toArray, List.set_cons_zero, List.set_cons_succ, i64_w, i32_w]
      rfl
    refine last_ (i := 7) (N := none) #[true, true, true, true, true, true, true, true, false] rfl rfl (one_of HT_.out (by kernel_rfl)) (by decide) (fun K hK => ?_)
    refine skip_ (w1 := ?_) (by rfl) rfl ?_ ?_
    rotate_left
    · go_simp
      rfl
    refine hK.out _ _ ?_
    clear hK K
    refine pure_ (i := 8) (N := some 5) (v := ?_) (a' := ?_) #[true, true, true, true, true, true, true, true, true] rfl rfl (any_of HT_.out (by kernel_rfl)) (fun _ _ _ h => h) (Or.inl ⟨by rfl, ?_⟩) ?_ ?_
    rotate_left
    · intro w'
      go_simp
      with_reducible rfl
    rotate_left
    · simp only [Act.put, List.setIfInBounds_toArray, List.set_cons_zero, List.set_cons_succ, i64_w, i32_w]
      rfl
    refine done_ (done_of HT_.out (by kernel_rfl)) ?_

    go_wp2
    have r1 := blk4 B1e.out (.string (rd_T32 l (i : Int)).f0) (.int .i64 (rd_T32 l (i : Int)).f1) (.int .i64 (rd_T32 l (i : Int)).f2) (.int .i64 (rd_T32 l (i : Int)).f3)
    have q0 := (blk_cell r1 0).trans rfl
    have q1 := (blk_cell r1 1).trans rfl
    have q2 := (blk_cell r1 2).trans rfl
    have q3 := (blk_cell r1 3).trans rfl
    refine bodyPost_ret (v := .tuple #[pv (rd_T32 l (i : Int)), .int .i64 0]) (by simp [results, Try.results38, go_sem, q0, q1, q2, q3]) rfl ?_
    have e : findL l s = (rd_T32 l (i : Int), 0) := by unfold findL; rw [Hp.out, if_pos rfl, Hi.out]
    rw [e]
    exact ⟨rfl, below4 HBe.out (by omega) _ _ _ _⟩
end Go.Proofs.Ytfmeababiedamaa.V38

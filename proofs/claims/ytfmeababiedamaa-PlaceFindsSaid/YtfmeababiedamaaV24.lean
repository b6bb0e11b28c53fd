/- place.Move, walked. -/
import Derived.Test.YtfmeababiedamaaX
namespace Go.Proofs.Ytfmeababiedamaa.V24
open Go.RowKit Go.Shelf Go.Proofs.YtfmeababiedamaaW.PrintWords Go.Proofs.YtfmeababiedamaaW.PrintLast Go.Proofs.YtfmeababiedamaaW.PrintMore
open Go.Proofs.Ytfmeababiedamaa Go.Proofs.Ytfmeababiedamaa.M Go.Proofs.Ytfmeababiedamaa.Sp Go.Proofs.Ytfmeababiedamaa.E Go.Proofs.Ytfmeababiedamaa.G Go.Proofs.Ytfmeababiedamaa.A Go.Proofs.Ytfmeababiedamaa.T Go.Proofs.Ytfmeababiedamaa.K Go.Proofs.Ytfmeababiedamaa.X
set_option linter.unusedVariables false
set_option linter.unusedSimpArgs false
def T1 : Bool × List (List Nat × List Nat) := (true, [([], []), ([0], [0]), ([], []), ([2], [2]), ([1, 3, 3], [1, 3]), ([4, 4, 0, 1, 2, 3, 4], [4])])
def B1 : List Nat := [0, 1, 0, 4, 15, 31]
theorem tab1 : rtab .any (opsOf Try.f24 1) = T1 := by kernel_rfl
theorem bits1 : waitsOk T1.2 B1 = true := by kernel_rfl
set_option maxHeartbeats 4000000 in
set_option maxRecDepth 100000 in
theorem move24 (A : Option Addr) (c : Nat) (l : List S32) (s : ByteArray) (rg : Int) (w : World) (hl : Small l) (h0 : 0 < l.length) (hs : s.size ≤ 1000) (hr : Kd.C k32 w A l.length l) (hc : l.length ≤ c) :
    Calls Try.prog 24 #[.agg #[.slice A l.length c], .string s, .int .i64 rg] w fun e w' => ∃ v, e = .returned (.tuple #[.agg #[v], .int .i64 (moveL l s rg).2]) ∧ MapC w' v (moveL l s rg).1 ∧ Below w.heap.size w w' := by
  have hu27 := Try.underlying27
  have hu25 := Try.underlying25
  have hu32 := Try.underlying32
  have HR := Aside0.mk hr
  have HC := Aside0.mk hc
  clear hr hc
  have HB := Aside0.mk (below_alloc (below_alloc (Below.refl w.heap.size w) (.cells #[.slice A l.length c] 27)) (.cells #[.slice none 0 0] 27))
  have B0 := Aside0.mk (blk_alloc (blk_new w (.cells #[.slice A l.length c] 27)) (.cells #[.slice none 0 0] 27))
  have B1 := Aside0.mk (blk_new (w.alloc (.cells #[.slice A l.length c] 27)) (.cells #[.slice none 0 0] 27))
  rw [World.size_alloc] at B1
  go_enter Try.func24, Try.ntmps24
  go_wp2_with fail
  generalize ((w.alloc (.cells #[.slice A l.length c] 27)).alloc (.cells #[.slice none 0 0] 27)) = W0 at HB B0 B1 ⊢
  have c0 : W0.cell? ⟨w.heap.size, 0, none⟩ = some (.slice A l.length c) := blk_cell B0.out 0
  replace HB := Aside0.mk (below_drew1 HB.out)
  replace B0 := Aside0.mk (blk_drew B0.out)
  replace B1 := Aside0.mk (blk_drew B1.out)
  refine start_ (n := 6) (S := fun w' => w'.cell? ⟨w.heap.size, 0, none⟩ = some (.slice A l.length c)) (ds := []) #[false, false, false, false, false, false] (by kernel_rfl) rfl rfl (c0) (fun hHeld => ?_)
  refine with_tabW tab1 bits1 (fun HT_ HW_ => ?_)
  refine pure_ (i := 0) (N := some 10) (v := ?_) (a' := ?_) #[true, false, false, false, false, false] rfl rfl (any_of HT_.out (by kernel_rfl)) (fun _ _ _ h => h) (Or.inl ⟨by rfl, ?_⟩) ?_ ?_
  rotate_left
  · intro w'
    go_simp
    with_reducible rfl
  rotate_left
  · simp only [Act.put, List.setIfInBounds_toArray, List.set_cons_zero, List.set_cons_succ, i64_w, i32_w]
    rfl
  refine pure_ (i := 2) (N := some 12) (v := ?_) (a' := ?_) #[true, false, true, false, false, false] rfl rfl (any_of HT_.out (by kernel_rfl)) (fun _ _ _ h => h) (Or.inl ⟨by rfl, ?_⟩) ?_ ?_
  rotate_left
  · intro w'
    go_simp
    with_reducible rfl
  rotate_left
  · simp only [Act.put, List.setIfInBounds_toArray, List.set_cons_zero, List.set_cons_succ, i64_w, i32_w]
    rfl
  refine take_ (i := 1) (N := some 11) (v := ?_) (a' := ?_) #[true, true, true, false, false, false] rfl rfl (take_ofW HT_.out HW_.out (by kernel_rfl)) (fun _ _ _ h => h) (Or.inl ⟨by rfl, ?_⟩) hHeld ?_ ?_
  rotate_left
  · intro w' s0
    go_simp
    with_reducible rfl
  rotate_left
  · simp only [Act.put, List.setIfInBounds_toArray, List.set_cons_zero, List.set_cons_succ, i64_w, i32_w]
    rfl
  refine one_ (i := 3) (N := some 13) #[true, true, true, true, false, false] rfl rfl (one_of HT_.out (by kernel_rfl)) (by decide) (fun K hK => ?_)
  refine goes_ Try.func49 (by kernel_rfl) rfl #[.string s] (by rfl) rfl rfl (by (try simp only [List.map_toArray, List.map_cons, List.map_nil]); first | done | rfl) ?_
  refine (at49 s _).mono ?_
  rintro e y3 ⟨rfl, rfl⟩
  refine ⟨_, rfl, ?_⟩
  have BX := Aside0.mk (blk_new W0.drew (.cells #[.string s] 9))
  have B0a := Aside0.mk (blk_alloc B0.out (.cells #[.string s] 9))
  have B1a := Aside0.mk (blk_alloc B1.out (.cells #[.string s] 9))
  have HBa := Aside0.mk (below_alloc HB.out (.cells #[.string s] 9))
  refine hK.out _ _ ((blk_cell B0a.out 0).trans rfl) (fun hHeld => ?_)
  clear hK K
  refine norm_ (a' := ?_) ?_ ?_
  rotate_left
  · show Act.put _ (some 13) _ = _
    simp only [Act.put, List.setIfInBounds_toArray, List.set_cons_zero, List.set_cons_succ, i64_w, i32_w]
    rfl
  refine one_ (i := 4) (N := some 14) #[true, true, true, true, true, false] rfl rfl (one_of HT_.out (by kernel_rfl)) (by decide) (fun K hK => ?_)
  refine goes_ Try.func48 (by kernel_rfl) rfl #[.slice A l.length c, .func (.func 64) #[] #[.pointer (some ⟨W0.drew.heap.size, 0, none⟩)]] (by rfl) rfl rfl (by (try simp only [List.map_toArray, List.map_cons, List.map_nil]); first | done | rfl) ?_
  refine (idxAt A c l s W0.drew.heap.size _ (Kd.C_below HR.out HBa.out) BX.out).mono ?_
  rintro e w4 ⟨rfl, hb4⟩
  refine ⟨_, rfl, ?_⟩
  have B0b := Aside0.mk (blk_below B0a.out hb4)
  have B1b := Aside0.mk (blk_below B1a.out hb4)
  have HBb := Aside0.mk (below_step HBa.out hb4)
  clear hb4
  refine hK.out _ _ ((blk_cell B0b.out 0).trans rfl) (fun hHeld => ?_)
  clear hK K
  refine norm_ (a' := ?_) ?_ ?_
  rotate_left
  · show Act.put _ (some 14) _ = _
    simp only [Act.put, List.setIfInBounds_toArray, List.set_cons_zero, List.set_cons_succ, i64_w, i32_w]
    rfl
  refine pure_ (i := 5) (N := some 8) (v := ?_) (a' := ?_) #[true, true, true, true, true, true] rfl rfl (any_of HT_.out (by kernel_rfl)) (fun _ _ _ h => h) (Or.inl ⟨by rfl, ?_⟩) ?_ ?_
  rotate_left
  · intro w'
    go_simp
    with_reducible rfl
  rotate_left
  · simp only [Act.put, List.setIfInBounds_toArray, List.set_cons_zero, List.set_cons_succ, i64_w, i32_w]
    rfl
  refine done_ (done_of HT_.out (by kernel_rfl)) ?_

  obtain ⟨a, rfl⟩ : ∃ a, A = some a := by obtain ⟨ad, e, _⟩ := HR.out.2.2 h0; exact ⟨ad, e⟩
  have P43 := path43 s hs
  have P45 := fun w => M.place_region.calls rg _ w (region_at rg)
  have P50 := fun W (hb : Below w.heap.size w W) => own50 a c l W (Kd.C_below HR.out hb) h0 (by have := hl.1; omega)
  have HL := Lib.hid hl
  clear hl
  obtain ⟨bp, hbp⟩ : ∃ b, isPath (ub s) = b := ⟨_, rfl⟩
  obtain ⟨br, hbr⟩ : ∃ b, (decide (0 ≤ rg) && decide (rg < 8)) = b := ⟨_, rfl⟩
  have Hp := Lib.hid hbp
  have Hr := Lib.hid hbr
  rw [hbp] at P43
  rw [hbr] at P45
  clear hbp hbr
  have c0 : w4.cell? ⟨w.heap.size, 0, none⟩ = some (.slice (some a) l.length c) := blk_cell B0b.out 0
  have f0 := blk_frozen B0b.out 0
  have c1 : w4.cell? ⟨w.heap.size + 1, 0, none⟩ = some (.slice none 0 0) := blk_cell B1b.out 0
  have f1 := blk_frozen B1b.out 0
  cases bp
  · go_wp2_with (go_at_call 43; refine (P43 _).mono ?_; rintro e w5 ⟨rfl, hb5⟩; have B0c := Aside0.mk (blk_below B0b.out hb5); have B1c := Aside0.mk (blk_below B1b.out hb5); have HBc := Aside0.mk (below_step HBb.out hb5); have c0' : w5.cell? ⟨w.heap.size, 0, none⟩ = some (.slice (some a) l.length c) := blk_cell B0c.out 0; have c1' : w5.cell? ⟨w.heap.size + 1, 0, none⟩ = some (.slice none 0 0) := blk_cell B1c.out 0; have f1' := blk_frozen B1c.out 0; clear c0 c1 f0 f1 hb5)
    have r1 := blk_put (cs := #[.slice none 0 0]) B1c.out 0 (.slice (some a) l.length c) rfl
    have q1 := (blk_cell r1 0).trans rfl
    refine bodyPost_ret (v := .tuple #[.agg #[.slice (some a) l.length c], .int .i64 10]) (by simp [results, Try.results24, go_sem, q1]) rfl ?_
    have hb := HBc.out.setCell (p := ⟨w.heap.size + 1, 0, none⟩) (by simp) (.slice (some a) l.length c)
    have e : moveL l s rg = (l, 10) := by unfold moveL; rw [Hp.out]; rfl
    rw [e]
    exact ⟨_, rfl, ⟨_, _, rfl, HC.out, Kd.C_below HR.out hb⟩, hb⟩
  · by_cases hx : exL l s < 0
    · have hx' : decide (exL l s < 0) = true := decide_eq_true hx
      have Hx := Lib.hid hx
      clear hx
      generalize hy : exL l s = y at hx' ⊢
      have Hy := Lib.hid hy
      clear hy
      go_wp2_with (go_at_call 43; refine (P43 _).mono ?_; rintro e w5 ⟨rfl, hb5⟩; have B0c := Aside0.mk (blk_below B0b.out hb5); have B1c := Aside0.mk (blk_below B1b.out hb5); have HBc := Aside0.mk (below_step HBb.out hb5); have c0' : w5.cell? ⟨w.heap.size, 0, none⟩ = some (.slice (some a) l.length c) := blk_cell B0c.out 0; have c1' : w5.cell? ⟨w.heap.size + 1, 0, none⟩ = some (.slice none 0 0) := blk_cell B1c.out 0; have f1' := blk_frozen B1c.out 0; clear c0 c1 f0 f1 hb5)
      have r1 := blk_put (cs := #[.slice none 0 0]) B1c.out 0 (.slice (some a) l.length c) rfl
      have q1 := (blk_cell r1 0).trans rfl
      refine bodyPost_ret (v := .tuple #[.agg #[.slice (some a) l.length c], .int .i64 240]) (by simp [results, Try.results24, go_sem, q1]) rfl ?_
      have hb := HBc.out.setCell (p := ⟨w.heap.size + 1, 0, none⟩) (by simp) (.slice (some a) l.length c)
      have e : moveL l s rg = (l, 240) := by unfold moveL; rw [Hp.out, if_pos rfl, if_pos Hx.out]
      rw [e]
      exact ⟨_, rfl, ⟨_, _, rfl, HC.out, Kd.C_below HR.out hb⟩, hb⟩
    · obtain ⟨i, hi, hy⟩ := exL_range l s hx
      have hx' : decide ((i : Int) < 0) = false := decide_eq_false (by omega)
      have Hx := Lib.hid hx
      have Hy := Lib.hid hy
      rw [hy]
      clear hx hy
      cases br
      · go_wp2_with (first | (go_at_call 43; refine (P43 _).mono ?_; rintro e w5 ⟨rfl, hb5⟩; have B0c := Aside0.mk (blk_below B0b.out hb5); have B1c := Aside0.mk (blk_below B1b.out hb5); have HBc := Aside0.mk (below_step HBb.out hb5); have c0' : w5.cell? ⟨w.heap.size, 0, none⟩ = some (.slice (some a) l.length c) := blk_cell B0c.out 0; have c1' : w5.cell? ⟨w.heap.size + 1, 0, none⟩ = some (.slice none 0 0) := blk_cell B1c.out 0; have f1' := blk_frozen B1c.out 0; clear c0 c1 f0 f1 hb5) | (go_at_call 45; refine (P45 _).mono ?_; rintro e w6 ⟨rfl, ⟨⟨nd, rfl⟩⟩⟩))
        have r1 := blk_put (cs := #[.slice none 0 0]) (blk_drewN B1c.out nd) 0 (.slice (some a) l.length c) rfl
        have q1 := (blk_cell r1 0).trans rfl
        refine bodyPost_ret (v := .tuple #[.agg #[.slice (some a) l.length c], .int .i64 1]) (by simp [results, Try.results24, go_sem, q1]) rfl ?_
        have hb := (pw_below_drewN HBc.out nd).setCell (p := ⟨w.heap.size + 1, 0, none⟩) (by simp) (.slice (some a) l.length c)
        have e : moveL l s rg = (l, 1) := by unfold moveL; rw [Hp.out, if_pos rfl, if_neg (by have := Hx.out; omega), Hr.out]; rfl
        rw [e]
        exact ⟨_, rfl, ⟨_, _, rfl, HC.out, Kd.C_below HR.out hb⟩, hb⟩
      · have z0 : (0 ≤ (i : Int)) = True := by simp
        have z1 : decide ((i : Int) < (l.length : Int)) = true := decide_eq_true (by omega)
        go_wp2_with (first | (go_at_call 43; refine (P43 _).mono ?_; rintro e w5 ⟨rfl, hb5⟩; have B0c := Aside0.mk (blk_below B0b.out hb5); have B1c := Aside0.mk (blk_below B1b.out hb5); have HBc := Aside0.mk (below_step HBb.out hb5); have c0' : w5.cell? ⟨w.heap.size, 0, none⟩ = some (.slice (some a) l.length c) := blk_cell B0c.out 0; have c1' : w5.cell? ⟨w.heap.size + 1, 0, none⟩ = some (.slice none 0 0) := blk_cell B1c.out 0; have f1' := blk_frozen B1c.out 0; clear c0 c1 f0 f1 hb5) | (go_at_call 45; refine (P45 _).mono ?_; rintro e w6 ⟨rfl, ⟨⟨nd, rfl⟩⟩⟩))
        · refine (P50 _ (pw_below_drewN HBc.out nd)).mono ?_
          rintro e w7 ⟨v0, rfl, hR7, hb7⟩
          obtain ⟨g, cap, cur, rfl, hg, _, hblk, hcap, hmax, hsz, _⟩ := block_of_R hR7 h0
          obtain ⟨⟨x0, x1, x2, x3⟩, xf⟩ := R_cells hR7 i hi
          have xf2 := xf 2
          have xf3 := xf 3
          have B1d := Aside0.mk (blk_below (blk_drewN B1c.out nd) hb7)
          have HBd := Aside0.mk (below_step (pw_below_drewN HBc.out nd) hb7)
          have HR7 := Aside0.mk hR7
          have HG := Aside0.mk hg
          have HK := Aside0.mk hblk
          have glt := Aside0.mk (blk_lt hblk)
          have GW := Aside0.mk (Nat.le_trans (pw_below_drewN HBc.out nd).size hg)
          have GL := Aside0.mk (blk_lt (blk_drewN B1c.out nd))
          have GH := Aside0.mk hg
          have n1 : w.heap.size + 1 ≠ w7.heap.size := Nat.ne_of_lt (blk_lt B1d.out)
          have n2 : w.heap.size + 1 ≠ g := Nat.ne_of_lt (Nat.lt_of_lt_of_le GL.out hg)
          have d1 : w7.cell? ⟨w.heap.size + 1, 0, none⟩ = some (.slice none 0 0) := blk_cell B1d.out 0
          have e1 := blk_frozen B1d.out 0
          have GO := Aside0.mk (Nat.ne_of_lt (blk_lt hblk))
          have GB1 := Aside0.mk (show g ≠ w.heap.size + 1 from fun e => n2 e.symm)
          clear hb7 hR7 hg hblk xf c0' c1' f1' hsz x0 x1 x2 x3 xf2 xf3 n1 n2 d1 e1
          have hR8 := Kd.R_alloc HR7.out (.cells #[.slice (some ⟨g, 0, none⟩) l.length cap] 27)
          obtain ⟨⟨y0, y1, y2, y3⟩, yf⟩ := R_cells hR8 i hi
          have yf2 := yf 2
          have HR8 := Aside0.mk hR8
          clear hR8 yf
          go_wp2_with (first | ((with_reducible refine gate_store (t := 3) (p := 36) rfl ?_); refine store_event (t := 3) (p := 36) (v := ?vo) (w1 := ((w7.alloc (.cells #[.slice (some ⟨g, 0, none⟩) l.length cap] 27)).setCell ⟨g, i * 4 + 2, none⟩ (.int .i64 rg))) ?hg ?ho ?hn ?hr ?_; (case ho => rfl); (case hg => rfl); (case hn => rfl); (case hr => first | (go_simp; done) | (go_simp; rfl)); intro w9 hw; obtain ⟨hR9, hG9⟩ := R_field HR8.out i 2 hi (by decide) (.int .i64 rg) ⟨(rd_T32 l (i : Int)).f0, (rd_T32 l (i : Int)).f1, rg, (rd_T32 l (i : Int)).f3⟩ rfl rfl; rw [← hw] at hR9 hG9; have B1e := Aside0.mk (blk_grown (blk_alloc B1d.out (.cells #[.slice (some ⟨g, 0, none⟩) l.length cap] 27)) hG9 (fun e => GB1.out (Option.some.inj e).symm)); have BO := Aside0.mk (blk_grown (blk_new w7 (.cells #[.slice (some ⟨g, 0, none⟩) l.length cap] 27)) hG9 (fun e => GO.out (Option.some.inj e).symm)); have HBe := Aside0.mk ((below_alloc HBd.out (.cells #[.slice (some ⟨g, 0, none⟩) l.length cap] 27)).grown hG9 (below_size (below_alloc HBd.out (.cells #[.slice (some ⟨g, 0, none⟩) l.length cap] 27))) (fun k e => (Option.some.inj e) ▸ GW.out)); have co : w9.cell? ⟨w7.heap.size, 0, none⟩ = some (.slice (some ⟨g, 0, none⟩) l.length cap) := (blk_cell BO.out 0).trans rfl; obtain ⟨⟨u0, u1, u2, u3⟩, uf⟩ := R_cells hR9 i (by rw [List.length_set]; exact hi); have uf3 := uf 3; rw [rd_set _ _ _ hi] at u0 u1 u2 u3; have HR9 := Aside0.mk hR9; clear hR9 hG9 hw uf y0 y1 y2 y3 yf2) | ((with_reducible refine gate_store (t := 3) (p := 45) rfl ?_); refine store_event (t := 3) (p := 45) (v := ?vo2) (w1 := (w9.setCell ⟨g, i * 4 + 3, none⟩ (.int .i64 (wrap64 ((rd_T32 l (i : Int)).f3 + 1))))) ?hg ?ho ?hn ?hr ?_; (case ho => rfl); (case hg => rfl); (case hn => rfl); (case hr => first | (go_simp; done) | (go_simp; rfl)); intro w10 hw; obtain ⟨hR10, hG10⟩ := R_field2 HR9.out i 3 (by rw [List.length_set]; exact hi) (by decide) (.int .i64 (wrap64 ((rd_T32 l (i : Int)).f3 + 1))) ⟨(rd_T32 l (i : Int)).f0, (rd_T32 l (i : Int)).f1, rg, wrap64 ((rd_T32 l (i : Int)).f3 + 1)⟩ rfl (by rw [rd_set _ _ _ hi]; rfl); rw [← hw] at hR10 hG10; have B1f := Aside0.mk (blk_grown B1e.out hG10 (fun e => GB1.out (Option.some.inj e).symm)); have BOf := Aside0.mk (blk_grown BO.out hG10 (fun e => GO.out (Option.some.inj e).symm)); have HBf := Aside0.mk (HBe.out.grown hG10 (below_size HBe.out) (fun k e => (Option.some.inj e) ▸ GW.out)); have co' : w10.cell? ⟨w7.heap.size, 0, none⟩ = some (.slice (some ⟨g, 0, none⟩) l.length cap) := (blk_cell BOf.out 0).trans rfl; have c1f : w10.cell? ⟨w.heap.size + 1, 0, none⟩ = some (.slice none 0 0) := (blk_cell B1f.out 0).trans rfl; have f1f := blk_frozen B1f.out 0; have HR10 := Aside0.mk hR10; clear hR10 hG10 hw co u0 u1 u2 u3 uf3))
          have r1 := blk_put (cs := #[.slice none 0 0]) B1f.out 0 (.slice (some ⟨g, 0, none⟩) l.length cap) rfl
          have q1 := (blk_cell r1 0).trans rfl
          refine bodyPost_ret (v := .tuple #[.agg #[.slice (some ⟨g, 0, none⟩) l.length cap], .int .i64 0]) (by simp [results, Try.results24, go_sem, q1]) rfl ?_
          have hb := HBf.out.setCell (p := ⟨w.heap.size + 1, 0, none⟩) (by simp) (.slice (some ⟨g, 0, none⟩) l.length cap)
          have e : moveL l s rg = (upd l i (fun x => ⟨x.f0, x.f1, rg, wrap64 (x.f3 + 1)⟩), 0) := by unfold moveL; rw [Hp.out, if_pos rfl, if_neg (by have := Hx.out; omega), Hr.out, if_pos rfl, Hy.out]; rfl
          have e2 : (l.set i ⟨(rd_T32 l (i : Int)).f0, (rd_T32 l (i : Int)).f1, rg, (rd_T32 l (i : Int)).f3⟩).set i ⟨(rd_T32 l (i : Int)).f0, (rd_T32 l (i : Int)).f1, rg, wrap64 ((rd_T32 l (i : Int)).f3 + 1)⟩ = upd l i (fun x => ⟨x.f0, x.f1, rg, wrap64 (x.f3 + 1)⟩) := by unfold upd; rw [List.set_set]
          have hR := HR10.out
          rw [e2] at hR
          rw [e]
          refine ⟨_, rfl, ?_, hb⟩
          exact MapC.of_R (Kd.R_far (p := ⟨w.heap.size + 1, 0, none⟩) (Kd.R_types hR B1f.out (by decide)) (fun k hk => hk.2) _)
end Go.Proofs.Ytfmeababiedamaa.V24

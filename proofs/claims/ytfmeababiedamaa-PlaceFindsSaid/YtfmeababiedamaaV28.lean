/- burgageref24.Move, walked. -/
import Derived.Test.YtfmeababiedamaaX
namespace Go.Proofs.Ytfmeababiedamaa.V28
open Go.RowKit Go.Shelf Go.Proofs.YtfmeababiedamaaW.PrintWords Go.Proofs.YtfmeababiedamaaW.PrintLast Go.Proofs.YtfmeababiedamaaW.PrintMore
open Go.Proofs.Ytfmeababiedamaa Go.Proofs.Ytfmeababiedamaa.M Go.Proofs.Ytfmeababiedamaa.Sp Go.Proofs.Ytfmeababiedamaa.E Go.Proofs.Ytfmeababiedamaa.G Go.Proofs.Ytfmeababiedamaa.A Go.Proofs.Ytfmeababiedamaa.T Go.Proofs.Ytfmeababiedamaa.K Go.Proofs.Ytfmeababiedamaa.X
set_option linter.unusedVariables false
set_option linter.unusedSimpArgs false
theorem blk2 {w : World} {g : Nat} {t : TypeId} {v0 v1 : Value} (h : w.heap[g]? = some (.cells #[v0, v1] t (0, 0))) (u0 u1 : Value) :
    ((w.setCell ⟨g, 0, none⟩ u0).setCell ⟨g, 1, none⟩ u1).heap[g]? = some (.cells #[u0, u1] t (0, 0)) :=
  blk_put (cs := #[u0, v1]) (blk_put (cs := #[v0, v1]) h 0 _ rfl) 1 _ rfl
theorem below2 {w W : World} {g : Nat} (h : Below w.heap.size w W) (hg : w.heap.size ≤ g) (u0 u1 : Value) : Below w.heap.size w ((W.setCell ⟨g, 0, none⟩ u0).setCell ⟨g, 1, none⟩ u1) :=
  below_set (below_set h hg) hg
/-- what a change of the reference returns -/
def Mapped (w' : World) (e : Ending) (r : List S32 × Int) : Prop := ∃ v, e = .returned (.agg #[v, .int .i64 r.2]) ∧ MapC w' v r.1
set_option maxHeartbeats 4000000 in
set_option maxRecDepth 100000 in
theorem move28 (a : Addr) (c : Nat) (l : List S32) (s : ByteArray) (rg : Int) (w : World) (hl : Small l) (h0 : 0 < l.length) (hs : s.size ≤ 1000) (hr : Kd.C k32 w (some a) l.length l) (hc : l.length ≤ c) :
    Calls Try.prog 28 #[.agg #[.slice (some a) l.length c], .string s, .int .i64 rg] w fun e w' => ∃ v, e = .returned (.agg #[v, .int .i64 (moveL l s rg).2]) ∧ MapC w' v (moveL l s rg).1 ∧ Below w.heap.size w w' := by
  have hu27 := Try.underlying27
  have hu25 := Try.underlying25
  have hu32 := Try.underlying32
  have hu44 := Try.underlying44
  have HR := Aside0.mk hr
  have HC := Aside0.mk hc
  have HB := Aside0.mk (below_alloc (below_alloc (Below.refl w.heap.size w) (.cells #[.slice (some a) l.length c] 27)) (.cells #[.slice none 0 0, .int .i64 0] 44))
  have B0 := Aside0.mk (blk_alloc (blk_new w (.cells #[.slice (some a) l.length c] 27)) (.cells #[.slice none 0 0, .int .i64 0] 44))
  have B1 := Aside0.mk (blk_new (w.alloc (.cells #[.slice (some a) l.length c] 27)) (.cells #[.slice none 0 0, .int .i64 0] 44))
  rw [World.size_alloc] at B1
  have P57 := fun W (hb : Below w.heap.size w W) => exact57 (some a) c l s W hl.1 (Kd.C_below hr hb) hc
  have P41 := path41 s hs
  have P58 := fun W (hb : Below w.heap.size w W) => copied58 (some a) c l W hl.1 (Kd.C_below hr hb) hc
  clear hl hr hc
  obtain ⟨bp, hbp⟩ : ∃ b, isPath (ub s) = b := ⟨_, rfl⟩
  have Hp := Lib.hid hbp
  rw [hbp] at P41
  clear hbp
  cases bp
  · go_enter Try.func28, Try.ntmps28
    go_wp2_with (first | (go_at_call 57; refine (P57 _ HB.out).mono ?_; rintro e w4 ⟨rfl, hb4⟩; have B0b := Aside0.mk (blk_below B0.out hb4); have B1b := Aside0.mk (blk_below B1.out hb4); have HBb := Aside0.mk (below_step HB.out hb4); have c0 : w4.cell? ⟨w.heap.size, 0, none⟩ = some (.slice (some a) l.length c) := (blk_cell B0b.out 0).trans rfl; clear hb4) | (go_at_call 41; refine (P41 _).mono ?_; rintro e w5 ⟨rfl, hb5⟩; have B0c := Aside0.mk (blk_below B0b.out hb5); have B1c := Aside0.mk (blk_below B1b.out hb5); have HBc := Aside0.mk (below_step HBb.out hb5); have c0' : w5.cell? ⟨w.heap.size, 0, none⟩ = some (.slice (some a) l.length c) := (blk_cell B0c.out 0).trans rfl; have z0 := (blk_cell B1c.out 0).trans rfl; have z1 := (blk_cell B1c.out 1).trans rfl; have y0 := blk_frozen B1c.out 0; have y1 := blk_frozen B1c.out 1; clear c0 hb5))
    have r1 := blk2 B1c.out (.slice (some a) l.length c) (.int .i64 10)
    refine bodyPost_ret (results_cell_row rfl _ _ (w.heap.size + 1) 44 #[.slice (some a) l.length c, .int .i64 10] (0, 0) _ rfl r1 Try.underlying44 rfl (by kernel_rfl)) rfl ?_
    have hb := below2 HBc.out (show w.heap.size ≤ w.heap.size + 1 by omega) (.slice (some a) l.length c) (.int .i64 10)
    have e : moveL l s rg = (l, 10) := by unfold moveL; rw [Hp.out]; rfl
    rw [e]
    exact ⟨_, rfl, ⟨_, _, rfl, HC.out, Kd.C_below HR.out hb⟩, hb⟩
  · by_cases hx : exL l s < 0
    · have hx' : decide (exL l s < 0) = true := decide_eq_true hx
      have Hx := Lib.hid hx
      clear hx
      generalize hy : exL l s = y at hx' P57
      clear hy
      go_enter Try.func28, Try.ntmps28
      go_wp2_with (first | (go_at_call 57; refine (P57 _ HB.out).mono ?_; rintro e w4 ⟨rfl, hb4⟩; have B0b := Aside0.mk (blk_below B0.out hb4); have B1b := Aside0.mk (blk_below B1.out hb4); have HBb := Aside0.mk (below_step HB.out hb4); have c0 : w4.cell? ⟨w.heap.size, 0, none⟩ = some (.slice (some a) l.length c) := (blk_cell B0b.out 0).trans rfl; clear hb4) | (go_at_call 41; refine (P41 _).mono ?_; rintro e w5 ⟨rfl, hb5⟩; have B0c := Aside0.mk (blk_below B0b.out hb5); have B1c := Aside0.mk (blk_below B1b.out hb5); have HBc := Aside0.mk (below_step HBb.out hb5); have c0' : w5.cell? ⟨w.heap.size, 0, none⟩ = some (.slice (some a) l.length c) := (blk_cell B0c.out 0).trans rfl; have z0 := (blk_cell B1c.out 0).trans rfl; have z1 := (blk_cell B1c.out 1).trans rfl; have y0 := blk_frozen B1c.out 0; have y1 := blk_frozen B1c.out 1; clear c0 hb5))
      have r1 := blk2 B1c.out (.slice (some a) l.length c) (.int .i64 240)
      refine bodyPost_ret (results_cell_row rfl _ _ (w.heap.size + 1) 44 #[.slice (some a) l.length c, .int .i64 240] (0, 0) _ rfl r1 Try.underlying44 rfl (by kernel_rfl)) rfl ?_
      have hb := below2 HBc.out (show w.heap.size ≤ w.heap.size + 1 by omega) (.slice (some a) l.length c) (.int .i64 240)
      have e : moveL l s rg = (l, 240) := by unfold moveL; rw [Hp.out, if_pos rfl, if_pos Hx.out]
      rw [e]
      exact ⟨_, rfl, ⟨_, _, rfl, HC.out, Kd.C_below HR.out hb⟩, hb⟩
    · obtain ⟨i, hi, hy⟩ := exL_range l s hx
      have hx' : decide ((i : Int) < 0) = false := decide_eq_false (by omega)
      have Hx := Lib.hid hx
      have Hy := Lib.hid hy
      rw [hy] at P57
      clear hx hy
      by_cases hrg : 0 ≤ rg ∧ rg < 8
      · have k1 : decide (rg < 0) = false := decide_eq_false (by omega)
        have k2 : decide (8 ≤ rg) = false := decide_eq_false (by omega)
        have Hr := Lib.hid (show (decide (0 ≤ rg) && decide (rg < 8)) = true by simp [hrg])
        clear hrg
        have z0 : (0 ≤ (i : Int)) = True := by simp
        have z1 : decide ((i : Int) < (l.length : Int)) = true := decide_eq_true (by omega)
        go_enter Try.func28, Try.ntmps28
        go_wp2_with (first | (go_at_call 57; refine (P57 _ HB.out).mono ?_; rintro e w4 ⟨rfl, hb4⟩; have B0b := Aside0.mk (blk_below B0.out hb4); have B1b := Aside0.mk (blk_below B1.out hb4); have HBb := Aside0.mk (below_step HB.out hb4); have c0 : w4.cell? ⟨w.heap.size, 0, none⟩ = some (.slice (some a) l.length c) := (blk_cell B0b.out 0).trans rfl; clear hb4) | (go_at_call 41; refine (P41 _).mono ?_; rintro e w5 ⟨rfl, hb5⟩; have B0c := Aside0.mk (blk_below B0b.out hb5); have B1c := Aside0.mk (blk_below B1b.out hb5); have HBc := Aside0.mk (below_step HBb.out hb5); have c0' : w5.cell? ⟨w.heap.size, 0, none⟩ = some (.slice (some a) l.length c) := (blk_cell B0c.out 0).trans rfl; have z0 := (blk_cell B1c.out 0).trans rfl; have z1 := (blk_cell B1c.out 1).trans rfl; have y0 := blk_frozen B1c.out 0; have y1 := blk_frozen B1c.out 1; clear c0 hb5) | (go_at_call 58; refine (P58 _ HBc.out).mono ?_; rintro e w7 ⟨v0, rfl, hR7, hb7⟩; obtain ⟨g, cap, cur, rfl, hg, _, hblk, hcap, hmax, hsz, _⟩ := block_of_R hR7 h0; have B1d := Aside0.mk (blk_below B1c.out hb7); have HBd := Aside0.mk (below_step HBc.out hb7); have GW := Aside0.mk (Nat.le_trans HBc.out.size hg); have GB1 := Aside0.mk (show g ≠ w.heap.size + 1 from fun e => absurd (blk_lt B1c.out) (by omega)); have GO := Aside0.mk (Nat.ne_of_lt (blk_lt hblk)); obtain ⟨⟨y0', y1', y2', y3'⟩, yf⟩ := R_cells (Kd.R_alloc hR7 (.cells #[.slice (some ⟨g, 0, none⟩) l.length cap] 27)) i hi; have yf2 := yf 2; have HR8 := Aside0.mk (Kd.R_alloc hR7 (.cells #[.slice (some ⟨g, 0, none⟩) l.length cap] 27)); clear hb7 hR7 hg hblk hsz yf c0' z0 z1 y0 y1) | ((with_reducible refine gate_store (t := 3) (p := 36) rfl ?_); refine store_event (t := 3) (p := 36) (v := ?vo) (w1 := ((w7.alloc (.cells #[.slice (some ⟨g, 0, none⟩) l.length cap] 27)).setCell ⟨g, i * 4 + 2, none⟩ (.int .i64 rg))) ?hg ?ho ?hn ?hr ?_; (case ho => rfl); (case hg => rfl); (case hn => rfl); (case hr => first | (go_simp; done) | (go_simp; rfl)); intro w9 hw; obtain ⟨hR9, hG9⟩ := R_field HR8.out i 2 hi (by decide) (.int .i64 rg) ⟨(rd_T32 l (i : Int)).f0, (rd_T32 l (i : Int)).f1, rg, (rd_T32 l (i : Int)).f3⟩ rfl rfl; rw [← hw] at hR9 hG9; have B1e := Aside0.mk (blk_grown (blk_alloc B1d.out (.cells #[.slice (some ⟨g, 0, none⟩) l.length cap] 27)) hG9 (fun e => GB1.out (Option.some.inj e).symm)); have BO := Aside0.mk (blk_grown (blk_new w7 (.cells #[.slice (some ⟨g, 0, none⟩) l.length cap] 27)) hG9 (fun e => GO.out (Option.some.inj e).symm)); have HBe := Aside0.mk ((below_alloc HBd.out (.cells #[.slice (some ⟨g, 0, none⟩) l.length cap] 27)).grown hG9 (below_size (below_alloc HBd.out (.cells #[.slice (some ⟨g, 0, none⟩) l.length cap] 27))) (fun k e => (Option.some.inj e) ▸ GW.out)); have co : w9.cell? ⟨w7.heap.size, 0, none⟩ = some (.slice (some ⟨g, 0, none⟩) l.length cap) := (blk_cell BO.out 0).trans rfl; obtain ⟨⟨u0, u1, u2, u3⟩, uf⟩ := R_cells hR9 i (by rw [List.length_set]; exact hi); have uf3 := uf 3; rw [rd_set _ _ _ hi] at u0 u1 u2 u3; have HR9 := Aside0.mk hR9; clear hR9 hG9 hw uf y0' y1' y2' y3' yf2) | ((with_reducible refine gate_store (t := 3) (p := 45) rfl ?_); refine store_event (t := 3) (p := 45) (v := ?vo2) (w1 := (w9.setCell ⟨g, i * 4 + 3, none⟩ (.int .i64 (wrap64 ((rd_T32 l (i : Int)).f3 + 1))))) ?hg ?ho ?hn ?hr ?_; (case ho => rfl); (case hg => rfl); (case hn => rfl); (case hr => first | (go_simp; done) | (go_simp; rfl)); intro w10 hw; obtain ⟨hR10, hG10⟩ := R_field2 HR9.out i 3 (by rw [List.length_set]; exact hi) (by decide) (.int .i64 (wrap64 ((rd_T32 l (i : Int)).f3 + 1))) ⟨(rd_T32 l (i : Int)).f0, (rd_T32 l (i : Int)).f1, rg, wrap64 ((rd_T32 l (i : Int)).f3 + 1)⟩ rfl (by rw [rd_set _ _ _ hi]; rfl); rw [← hw] at hR10 hG10; have B1f := Aside0.mk (blk_grown B1e.out hG10 (fun e => GB1.out (Option.some.inj e).symm)); have BOf := Aside0.mk (blk_grown BO.out hG10 (fun e => GO.out (Option.some.inj e).symm)); have HBf := Aside0.mk (HBe.out.grown hG10 (below_size HBe.out) (fun k e => (Option.some.inj e) ▸ GW.out)); have co' : w10.cell? ⟨w7.heap.size, 0, none⟩ = some (.slice (some ⟨g, 0, none⟩) l.length cap) := (blk_cell BOf.out 0).trans rfl; have zz0 := (blk_cell B1f.out 0).trans rfl; have zz1 := (blk_cell B1f.out 1).trans rfl; have yy0 := blk_frozen B1f.out 0; have yy1 := blk_frozen B1f.out 1; have HR10 := Aside0.mk hR10; clear hR10 hG10 hw co u0 u1 u2 u3 uf3))
        have e2 : (l.set i ⟨(rd_T32 l (i : Int)).f0, (rd_T32 l (i : Int)).f1, rg, (rd_T32 l (i : Int)).f3⟩).set i ⟨(rd_T32 l (i : Int)).f0, (rd_T32 l (i : Int)).f1, rg, wrap64 ((rd_T32 l (i : Int)).f3 + 1)⟩ = upd l i (fun x => ⟨x.f0, x.f1, rg, wrap64 (x.f3 + 1)⟩) := by unfold upd; rw [List.set_set]
        have hR := HR10.out
        rw [e2] at hR
        have r1 := blk2 B1f.out (.slice (some ⟨g, 0, none⟩) l.length cap) (.int .i64 0)
        refine bodyPost_ret (results_cell_row rfl _ _ (w.heap.size + 1) 44 #[.slice (some ⟨g, 0, none⟩) l.length cap, .int .i64 0] (0, 0) _ rfl r1 Try.underlying44 rfl (by kernel_rfl)) rfl ?_
        have hb := below2 HBf.out (show w.heap.size ≤ w.heap.size + 1 by omega) (.slice (some ⟨g, 0, none⟩) l.length cap) (.int .i64 0)
        have e : moveL l s rg = (upd l i (fun x => ⟨x.f0, x.f1, rg, wrap64 (x.f3 + 1)⟩), 0) := by unfold moveL; rw [Hp.out, if_pos rfl, if_neg (by have := Hx.out; omega), Hr.out, if_pos rfl, Hy.out]; rfl
        rw [e]
        exact ⟨_, rfl, MapC.of_R (Kd.R_far (p := ⟨w.heap.size + 1, 1, none⟩) (Kd.R_far (p := ⟨w.heap.size + 1, 0, none⟩) (Kd.R_types hR B1f.out (by decide)) (fun k hk => hk.2) _) (fun k hk => hk.2) _), hb⟩
      · have Hr := Lib.hid (show (decide (0 ≤ rg) && decide (rg < 8)) = false by simp only [Bool.and_eq_false_iff, decide_eq_false_iff_not]; omega)
        by_cases hn : rg < 0
        · have k1 : decide (rg < 0) = true := decide_eq_true hn
          clear hrg
          go_enter Try.func28, Try.ntmps28
          go_wp2_with (first | (go_at_call 57; refine (P57 _ HB.out).mono ?_; rintro e w4 ⟨rfl, hb4⟩; have B0b := Aside0.mk (blk_below B0.out hb4); have B1b := Aside0.mk (blk_below B1.out hb4); have HBb := Aside0.mk (below_step HB.out hb4); have c0 : w4.cell? ⟨w.heap.size, 0, none⟩ = some (.slice (some a) l.length c) := (blk_cell B0b.out 0).trans rfl; clear hb4) | (go_at_call 41; refine (P41 _).mono ?_; rintro e w5 ⟨rfl, hb5⟩; have B0c := Aside0.mk (blk_below B0b.out hb5); have B1c := Aside0.mk (blk_below B1b.out hb5); have HBc := Aside0.mk (below_step HBb.out hb5); have c0' : w5.cell? ⟨w.heap.size, 0, none⟩ = some (.slice (some a) l.length c) := (blk_cell B0c.out 0).trans rfl; have z0 := (blk_cell B1c.out 0).trans rfl; have z1 := (blk_cell B1c.out 1).trans rfl; have y0 := blk_frozen B1c.out 0; have y1 := blk_frozen B1c.out 1; clear c0 hb5))
          have r1 := blk2 B1c.out (.slice (some a) l.length c) (.int .i64 1)
          refine bodyPost_ret (results_cell_row rfl _ _ (w.heap.size + 1) 44 #[.slice (some a) l.length c, .int .i64 1] (0, 0) _ rfl r1 Try.underlying44 rfl (by kernel_rfl)) rfl ?_
          have hb := below2 HBc.out (show w.heap.size ≤ w.heap.size + 1 by omega) (.slice (some a) l.length c) (.int .i64 1)
          have e : moveL l s rg = (l, 1) := by unfold moveL; rw [Hp.out, if_pos rfl, if_neg (by have := Hx.out; omega), Hr.out]; rfl
          rw [e]
          exact ⟨_, rfl, ⟨_, _, rfl, HC.out, Kd.C_below HR.out hb⟩, hb⟩
        · have k1 : decide (rg < 0) = false := decide_eq_false hn
          have k2 : decide (8 ≤ rg) = true := decide_eq_true (by omega)
          clear hrg
          go_enter Try.func28, Try.ntmps28
          go_wp2_with (first | (go_at_call 57; refine (P57 _ HB.out).mono ?_; rintro e w4 ⟨rfl, hb4⟩; have B0b := Aside0.mk (blk_below B0.out hb4); have B1b := Aside0.mk (blk_below B1.out hb4); have HBb := Aside0.mk (below_step HB.out hb4); have c0 : w4.cell? ⟨w.heap.size, 0, none⟩ = some (.slice (some a) l.length c) := (blk_cell B0b.out 0).trans rfl; clear hb4) | (go_at_call 41; refine (P41 _).mono ?_; rintro e w5 ⟨rfl, hb5⟩; have B0c := Aside0.mk (blk_below B0b.out hb5); have B1c := Aside0.mk (blk_below B1b.out hb5); have HBc := Aside0.mk (below_step HBb.out hb5); have c0' : w5.cell? ⟨w.heap.size, 0, none⟩ = some (.slice (some a) l.length c) := (blk_cell B0c.out 0).trans rfl; have z0 := (blk_cell B1c.out 0).trans rfl; have z1 := (blk_cell B1c.out 1).trans rfl; have y0 := blk_frozen B1c.out 0; have y1 := blk_frozen B1c.out 1; clear c0 hb5))
          have r1 := blk2 B1c.out (.slice (some a) l.length c) (.int .i64 1)
          refine bodyPost_ret (results_cell_row rfl _ _ (w.heap.size + 1) 44 #[.slice (some a) l.length c, .int .i64 1] (0, 0) _ rfl r1 Try.underlying44 rfl (by kernel_rfl)) rfl ?_
          have hb := below2 HBc.out (show w.heap.size ≤ w.heap.size + 1 by omega) (.slice (some a) l.length c) (.int .i64 1)
          have e : moveL l s rg = (l, 1) := by unfold moveL; rw [Hp.out, if_pos rfl, if_neg (by have := Hx.out; omega), Hr.out]; rfl
          rw [e]
          exact ⟨_, rfl, ⟨_, _, rfl, HC.out, Kd.C_below HR.out hb⟩, hb⟩
end Go.Proofs.Ytfmeababiedamaa.V28

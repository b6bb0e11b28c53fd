/- burgageref24.Do, walked. -/
import Derived.Test.YtfmeababiedamaaV30
import Derived.Test.YtfmeababiedamaaV29
import Derived.Test.YtfmeababiedamaaB
namespace Go.Proofs.Ytfmeababiedamaa.V36
open Go.RowKit Go.Shelf Go.Proofs.YtfmeababiedamaaW.PrintWords Go.Proofs.YtfmeababiedamaaW.PrintLast Go.Proofs.YtfmeababiedamaaW.PrintMore
open Go.Proofs.Ytfmeababiedamaa Go.Proofs.Ytfmeababiedamaa.M Go.Proofs.Ytfmeababiedamaa.Sp Go.Proofs.Ytfmeababiedamaa.E Go.Proofs.Ytfmeababiedamaa.G Go.Proofs.Ytfmeababiedamaa.A Go.Proofs.Ytfmeababiedamaa.T Go.Proofs.Ytfmeababiedamaa.K Go.Proofs.Ytfmeababiedamaa.X Go.Proofs.Ytfmeababiedamaa.V28 Go.Proofs.Ytfmeababiedamaa.V29 Go.Proofs.Ytfmeababiedamaa.V26 Go.Proofs.Ytfmeababiedamaa.V30 Go.Proofs.Ytfmeababiedamaa.B
set_option linter.unusedVariables false
set_option linter.unusedSimpArgs false

/-- what describes a change -/
structure R42 where
  k : Int
  p : Int
  n : Int
def R42.ok (x : R42) : Prop := (0 ≤ x.k ∧ x.k < 256) ∧ (0 ≤ x.p ∧ x.p < 65536) ∧ 0 ≤ x.n ∧ x.n < 256
def doR (l : List S32) (x : R42) : List S32 × Int :=
  if Int.tmod x.k 4 = 0 then moveL l (pathN x.p.toNat) (Int.tmod x.n 8) else if Int.tmod x.k 4 = 1 then joinR l (pathN x.p.toNat) else splitR l (pathN x.p.toNat) (Int.tmod x.n 16)
theorem tm_lt (n m : Int) (h : 0 ≤ n) (hm : 0 < m) : 0 ≤ Int.tmod n m ∧ Int.tmod n m < m := ⟨Int.tmod_nonneg _ h, Int.tmod_lt_of_pos _ hm⟩
set_option maxHeartbeats 8000000 in
set_option maxRecDepth 100000 in
theorem do36 (a : Addr) (c : Nat) (l : List S32) (x : R42) (w : World) (hx : x.ok) (hl : Small l) (h0 : 0 < l.length) (hroot : (rd_T32 l ((0 : Nat) : Int)).f0.toList = []) (hr : Kd.C k32 w (some a) l.length l) (hc : l.length ≤ c) :
    Calls Try.prog 36 #[.agg #[.slice (some a) l.length c], .agg #[.int .u8 x.k, .int .u16 x.p, .int .u8 x.n]] w fun e w' => ∃ v, e = .returned (.agg #[v, .int .i64 (doR l x).2]) ∧ MapC w' v (doR l x).1 ∧ Below w.heap.size w w' := by
  have hu27 := Try.underlying27
  have hu42 := Try.underlying42
  have hu44 := Try.underlying44
  obtain ⟨⟨hk0, hk1⟩, ⟨hp0, hp1⟩, hn0, hn1⟩ := hx
  have HB := Aside0.mk (below_alloc (below_alloc (below_alloc (Below.refl w.heap.size w) (.cells #[.slice (some a) l.length c] 27)) (.cells #[.int .u8 x.k, .int .u16 x.p, .int .u8 x.n] 42)) (.cells #[.slice none 0 0, .int .i64 0] 44))
  have B0 := Aside0.mk (blk_alloc (blk_alloc (blk_new w (.cells #[.slice (some a) l.length c] 27)) (.cells #[.int .u8 x.k, .int .u16 x.p, .int .u8 x.n] 42)) (.cells #[.slice none 0 0, .int .i64 0] 44))
  have BX := Aside0.mk (blk_alloc (blk_new (w.alloc (.cells #[.slice (some a) l.length c] 27)) (.cells #[.int .u8 x.k, .int .u16 x.p, .int .u8 x.n] 42)) (.cells #[.slice none 0 0, .int .i64 0] 44))
  have B1 := Aside0.mk (blk_new ((w.alloc (.cells #[.slice (some a) l.length c] 27)).alloc (.cells #[.int .u8 x.k, .int .u16 x.p, .int .u8 x.n] 42)) (.cells #[.slice none 0 0, .int .i64 0] 44))
  rw [World.size_alloc] at BX B1
  rw [World.size_alloc] at B1
  have P12 := path12 x.p.toNat (by omega)
  rw [show ((x.p.toNat : Nat) : Int) = x.p by omega] at P12
  have hsz := pathN_size x.p.toNat
  obtain ⟨s, hs⟩ : ∃ s, pathN x.p.toNat = s := ⟨_, rfl⟩
  have hd : doR l x = if Int.tmod x.k 4 = 0 then moveL l s (Int.tmod x.n 8) else if Int.tmod x.k 4 = 1 then joinR l s else splitR l s (Int.tmod x.n 16) := by unfold doR; rw [hs]
  rw [hs] at P12 hsz
  clear hs
  obtain ⟨m8, h8⟩ : ∃ m, Int.tmod x.n 8 = m := ⟨_, rfl⟩
  obtain ⟨m16, h16⟩ : ∃ m, Int.tmod x.n 16 = m := ⟨_, rfl⟩
  obtain ⟨m4, h4⟩ : ∃ m, Int.tmod x.k 4 = m := ⟨_, rfl⟩
  have t8 := tm_lt x.n 8 hn0 (by decide)
  have t16 := tm_lt x.n 16 hn0 (by decide)
  rw [h8] at t8
  rw [h16] at t16
  have w8 : wrap64 m8 = m8 := w64 (by omega) (by omega)
  have w16 : wrap64 m16 = m16 := w64 (by omega) (by omega)
  rw [h8, h16, h4] at hd
  have hs := Nat.le_trans hsz (show 5 ≤ 1000 by decide)
  clear hsz hk0 hk1 hp0 hp1 hn0 hn1 t8 t16
  by_cases e0 : m4 = 0
  · have P28 := fun W (hb : Below w.heap.size w W) => move28 a c l s m8 W hl h0 hs (Kd.C_below hr hb) hc
    have hd0 : doR l x = moveL l s m8 := by rw [hd, if_pos e0]
    rw [hd0]
    generalize moveL l s m8 = r at P28 ⊢
    have b0 : (m4 == 0) = true := by simpa using e0
    clear hd hd0 e0 hl hr hc
    go_enter Try.func36, Try.ntmps36
    go_wp2_with (first | (go_at_call 12; refine (P12 _).mono ?_; rintro e w4 ⟨rfl, hb4⟩; have B0b := Aside0.mk (blk_below B0.out hb4); have BXb := Aside0.mk (blk_below BX.out hb4); have B1b := Aside0.mk (blk_below B1.out hb4); have HBb := Aside0.mk (below_step HB.out hb4); have c0 : w4.cell? ⟨w.heap.size, 0, none⟩ = some (.slice (some a) l.length c) := (blk_cell B0b.out 0).trans rfl; have x0 := (blk_cell BXb.out 0).trans rfl; have x1 := (blk_cell BXb.out 1).trans rfl; have x2 := (blk_cell BXb.out 2).trans rfl; clear hb4) | (go_at_call 28; refine (P28 _ HBb.out).mono ?_; rintro e w5 ⟨v, rfl, ⟨A2, c2, rfl, hc2, hC2⟩, hb5⟩; have B1c := Aside0.mk (blk_below B1b.out hb5); have HBc := Aside0.mk (below_step HBb.out hb5); have HC2 := Aside0.mk hC2; have HL2 := Aside0.mk hc2; have z0 := (blk_cell B1c.out 0).trans rfl; have z1 := (blk_cell B1c.out 1).trans rfl; have y0 := blk_frozen B1c.out 0; have y1 := blk_frozen B1c.out 1; clear c0 x0 x1 x2 hb5 hC2 hc2))
    have r1 := blk2 B1c.out (.slice A2 r.1.length c2) (.int .i64 r.2)
    refine bodyPost_ret (results_cell_row rfl _ _ (w.heap.size + 1 + 1) 44 #[.slice A2 r.1.length c2, .int .i64 r.2] (0, 0) _ rfl r1 Try.underlying44 rfl (by kernel_rfl)) rfl ?_
    have hb := below2 HBc.out (show w.heap.size ≤ w.heap.size + 1 + 1 by omega) (.slice A2 r.1.length c2) (.int .i64 r.2)
    exact ⟨_, rfl, ⟨A2, c2, rfl, HL2.out, C_away HC2.out B1c.out (no_str2 _ _ _ _) (fun k hk => (Below.heap_setCell _ _ _ k hk).trans (Below.heap_setCell _ _ _ k hk))⟩, hb⟩
  · have b0 : (m4 == 0) = false := by simpa using e0
    by_cases e1 : m4 = 1
    · have P30 := fun W (hb : Below w.heap.size w W) => join30 a c l s W hl h0 hroot hs (Kd.C_below hr hb) hc
      have hd0 : doR l x = joinR l s := by rw [hd, if_neg e0, if_pos e1]
      rw [hd0]
      generalize joinR l s = r at P30 ⊢
      have b1 : (m4 == 1) = true := by simpa using e1
      clear hd hd0 e0 e1 hl hr hc
      go_enter Try.func36, Try.ntmps36
      go_wp2_with (first | (go_at_call 12; refine (P12 _).mono ?_; rintro e w4 ⟨rfl, hb4⟩; have B0b := Aside0.mk (blk_below B0.out hb4); have BXb := Aside0.mk (blk_below BX.out hb4); have B1b := Aside0.mk (blk_below B1.out hb4); have HBb := Aside0.mk (below_step HB.out hb4); have c0 : w4.cell? ⟨w.heap.size, 0, none⟩ = some (.slice (some a) l.length c) := (blk_cell B0b.out 0).trans rfl; have x0 := (blk_cell BXb.out 0).trans rfl; have x1 := (blk_cell BXb.out 1).trans rfl; have x2 := (blk_cell BXb.out 2).trans rfl; clear hb4) | (go_at_call 30; refine (P30 _ HBb.out).mono ?_; rintro e w5 ⟨v, rfl, ⟨A2, c2, rfl, hc2, hC2⟩, hb5⟩; have B1c := Aside0.mk (blk_below B1b.out hb5); have HBc := Aside0.mk (below_step HBb.out hb5); have HC2 := Aside0.mk hC2; have HL2 := Aside0.mk hc2; have z0 := (blk_cell B1c.out 0).trans rfl; have z1 := (blk_cell B1c.out 1).trans rfl; have y0 := blk_frozen B1c.out 0; have y1 := blk_frozen B1c.out 1; clear c0 x0 x1 x2 hb5 hC2 hc2))
      have r1 := blk2 B1c.out (.slice A2 r.1.length c2) (.int .i64 r.2)
      refine bodyPost_ret (results_cell_row rfl _ _ (w.heap.size + 1 + 1) 44 #[.slice A2 r.1.length c2, .int .i64 r.2] (0, 0) _ rfl r1 Try.underlying44 rfl (by kernel_rfl)) rfl ?_
      have hb := below2 HBc.out (show w.heap.size ≤ w.heap.size + 1 + 1 by omega) (.slice A2 r.1.length c2) (.int .i64 r.2)
      exact ⟨_, rfl, ⟨A2, c2, rfl, HL2.out, C_away HC2.out B1c.out (no_str2 _ _ _ _) (fun k hk => (Below.heap_setCell _ _ _ k hk).trans (Below.heap_setCell _ _ _ k hk))⟩, hb⟩
    · have P29 := fun W (hb : Below w.heap.size w W) => split29 a c l s m16 W hl h0 hs (Kd.C_below hr hb) hc
      have hd0 : doR l x = splitR l s m16 := by rw [hd, if_neg e0, if_neg e1]
      rw [hd0]
      generalize splitR l s m16 = r at P29 ⊢
      have b1 : (m4 == 1) = false := by simpa using e1
      clear hd hd0 e0 e1 hl hr hc
      go_enter Try.func36, Try.ntmps36
      go_wp2_with (first | (go_at_call 12; refine (P12 _).mono ?_; rintro e w4 ⟨rfl, hb4⟩; have B0b := Aside0.mk (blk_below B0.out hb4); have BXb := Aside0.mk (blk_below BX.out hb4); have B1b := Aside0.mk (blk_below B1.out hb4); have HBb := Aside0.mk (below_step HB.out hb4); have c0 : w4.cell? ⟨w.heap.size, 0, none⟩ = some (.slice (some a) l.length c) := (blk_cell B0b.out 0).trans rfl; have x0 := (blk_cell BXb.out 0).trans rfl; have x1 := (blk_cell BXb.out 1).trans rfl; have x2 := (blk_cell BXb.out 2).trans rfl; clear hb4) | (go_at_call 29; refine (P29 _ HBb.out).mono ?_; rintro e w5 ⟨v, rfl, ⟨A2, c2, rfl, hc2, hC2⟩, hb5⟩; have B1c := Aside0.mk (blk_below B1b.out hb5); have HBc := Aside0.mk (below_step HBb.out hb5); have HC2 := Aside0.mk hC2; have HL2 := Aside0.mk hc2; have z0 := (blk_cell B1c.out 0).trans rfl; have z1 := (blk_cell B1c.out 1).trans rfl; have y0 := blk_frozen B1c.out 0; have y1 := blk_frozen B1c.out 1; clear c0 x0 x1 x2 hb5 hC2 hc2))
      have r1 := blk2 B1c.out (.slice A2 r.1.length c2) (.int .i64 r.2)
      refine bodyPost_ret (results_cell_row rfl _ _ (w.heap.size + 1 + 1) 44 #[.slice A2 r.1.length c2, .int .i64 r.2] (0, 0) _ rfl r1 Try.underlying44 rfl (by kernel_rfl)) rfl ?_
      have hb := below2 HBc.out (show w.heap.size ≤ w.heap.size + 1 + 1 by omega) (.slice A2 r.1.length c2) (.int .i64 r.2)
      exact ⟨_, rfl, ⟨A2, c2, rfl, HL2.out, C_away HC2.out B1c.out (no_str2 _ _ _ _) (fun k hk => (Below.heap_setCell _ _ _ k hk).trans (Below.heap_setCell _ _ _ k hk))⟩, hb⟩
end Go.Proofs.Ytfmeababiedamaa.V36

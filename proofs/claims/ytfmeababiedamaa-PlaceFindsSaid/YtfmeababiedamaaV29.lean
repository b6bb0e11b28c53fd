/- burgageref24.Split, walked. -/
import Derived.Test.YtfmeababiedamaaV28
namespace Go.Proofs.Ytfmeababiedamaa.V29
open Go.RowKit Go.Shelf Go.Proofs.YtfmeababiedamaaW.PrintWords Go.Proofs.YtfmeababiedamaaW.PrintLast Go.Proofs.YtfmeababiedamaaW.PrintMore
open Go.Proofs.Ytfmeababiedamaa Go.Proofs.Ytfmeababiedamaa.M Go.Proofs.Ytfmeababiedamaa.Sp Go.Proofs.Ytfmeababiedamaa.E Go.Proofs.Ytfmeababiedamaa.G Go.Proofs.Ytfmeababiedamaa.A Go.Proofs.Ytfmeababiedamaa.T Go.Proofs.Ytfmeababiedamaa.K Go.Proofs.Ytfmeababiedamaa.X Go.Proofs.Ytfmeababiedamaa.V28
set_option linter.unusedVariables false
set_option linter.unusedSimpArgs false
def T15 : Bool × List (List Nat × List Nat) := (true, [([], []), ([], []), ([], []), ([2], [2]), ([], []), ([3, 4], [3, 4]), ([5], [5]), ([6], [6]), ([], []), ([8], [8]), ([], []), ([9, 10], [9, 10]), ([11], [11]), ([12], [12]), ([0, 1, 7, 13], [0, 1, 7, 13]), ([], []), ([15, 14, 0, 1, 2, 3, 4, 5, 6, 7, 8, 9, 10, 11, 12, 13, 14, 15], [14, 15])])
def B15 : List Nat := [0, 0, 0, 4, 0, 28, 60, 124, 0, 256, 0, 1792, 3840, 7936, 16383, 0, 65535]
theorem tab15 : rtab .any (opsOf Try.f29 15) = T15 := by kernel_rfl
theorem bits15 : waitsOk T15.2 B15 = true := by kernel_rfl
theorem R_cellsY {W : World} {base g n cap : Nat} {ok : Nat → Prop} {l : List S32} {i : Nat} {y : S32} (hy : rd_T32 l (i : Int) = y) (h : Kd.R k32 32 W base ok (.slice (some ⟨g, 0, none⟩) n cap) l) (hi : i < l.length) :
    (W.cell? ⟨g, i * 4, none⟩ = some (.string y.f0) ∧ W.cell? ⟨g, i * 4 + 1, none⟩ = some (.int .i64 y.f1) ∧ W.cell? ⟨g, i * 4 + 2, none⟩ = some (.int .i64 y.f2) ∧
      W.cell? ⟨g, i * 4 + 3, none⟩ = some (.int .i64 y.f3)) ∧ ∀ j, W.frozen? ⟨g, i * 4 + j, none⟩ = false := by
  subst hy; exact R_cells h i hi
/-- an element is laid ahead of the first one whose Path is behind s -/
def insL (n : S32) (s : ByteArray) : List S32 → List S32
  | [] => [n]
  | x :: r => if Op.bytesLess s.toList x.f0.toList then n :: x :: r else x :: insL n s r
def splitOn (l : List S32) (i : Nat) (s : ByteArray) (home : Int) : List S32 :=
  insL ⟨s, home, (rd_T32 (upd l i bump) (i : Int)).f2, (rd_T32 (upd l i bump) (i : Int)).f3⟩ s (upd l i bump)
def splitR (l : List S32) (s : ByteArray) (home : Int) : List S32 × Int :=
  if isPath (ub s) = true ∧ ¬ s.toList = [] then (if exL l s < 0 then (if 0 ≤ home ∧ home ≤ 15 then (if hmL l home < 0 then (splitOn l (idxR l s) s home, 0) else (l, 240)) else (l, 1)) else (l, 240)) else (l, 10)
set_option maxHeartbeats 8000000 in
set_option maxRecDepth 100000 in
theorem split29 (a : Addr) (c : Nat) (l : List S32) (s : ByteArray) (home : Int) (w : World) (hl : Small l) (h0 : 0 < l.length) (hs : s.size ≤ 1000) (hr : Kd.C k32 w (some a) l.length l) (hc : l.length ≤ c) :
    Calls Try.prog 29 #[.agg #[.slice (some a) l.length c], .string s, .int .i64 home] w fun e w' => ∃ v, e = .returned (.agg #[v, .int .i64 (splitR l s home).2]) ∧ MapC w' v (splitR l s home).1 ∧ Below w.heap.size w w' := by
  have hu27 := Try.underlying27
  have hu25 := Try.underlying25
  have hu32 := Try.underlying32
  have hu44 := Try.underlying44
  have HR := Aside0.mk hr
  have HC := Aside0.mk hc
  have HB := Aside0.mk (below_alloc (below_alloc (Below.refl w.heap.size w) (.cells #[.slice (some a) l.length c] 27)) (.cells #[.slice none 0 0, .int .i64 0] 44))
  have B0 := Aside0.mk (blk_alloc (blk_new w (.cells #[.slice (some a) l.length c] 27)) (.cells #[.slice none 0 0, .int .i64 0] 44))
  have B1 := Aside0.mk (blk_new (w.alloc (.cells #[.slice (some a) l.length c] 27)) (.cells #[.slice none 0 0, .int .i64 0] 44))
  rw [World.size_alloc] at B1
  have P57 := fun W (hb : Below w.heap.size w W) => exact57 (some a) c l s W hl.1 (Kd.C_below hr hb) hc
  have P41 := path41 s hs
  have P58 := fun W (hb : Below w.heap.size w W) => copied58 (some a) c l W hl.1 (Kd.C_below hr hb) hc
  have P42 := fun W (hb : Below w.heap.size w W) => index42 (some a) c l s W hl h0 (Kd.C_below hr hb) hc
  have hlen := hl.1
  have hi := idxR_lt l s h0
  obtain ⟨i, hiL⟩ : ∃ i, idxR l s = i := ⟨_, rfl⟩
  rw [hiL] at hi P42
  have Hi := Lib.hid hiL
  have i0 : (0 ≤ (i : Int)) = True := by simp
  have i1 : decide ((i : Int) < (l.length : Int)) = true := decide_eq_true (by omega)
  clear hiL
  clear hl hr hc
  obtain ⟨bp, hbp⟩ : ∃ b, isPath (ub s) = b := ⟨_, rfl⟩
  have Hp := Lib.hid hbp
  rw [hbp] at P41
  clear hbp
  cases bp
  · go_enter Try.func29, Try.ntmps29
    go_wp2_with (go_at_call 41; refine (P41 _).mono ?_; rintro e w4 ⟨rfl, hb4⟩; have B0b := Aside0.mk (blk_below B0.out hb4); have B1b := Aside0.mk (blk_below B1.out hb4); have HBb := Aside0.mk (below_step HB.out hb4); have c0 : w4.cell? ⟨w.heap.size, 0, none⟩ = some (.slice (some a) l.length c) := (blk_cell B0b.out 0).trans rfl; have z0 := (blk_cell B1b.out 0).trans rfl; have z1 := (blk_cell B1b.out 1).trans rfl; have y0 := blk_frozen B1b.out 0; have y1 := blk_frozen B1b.out 1; clear hb4)
    have r1 := blk2 B1b.out (.slice (some a) l.length c) (.int .i64 10)
    refine bodyPost_ret (results_cell_row rfl _ _ (w.heap.size + 1) 44 #[.slice (some a) l.length c, .int .i64 10] (0, 0) _ rfl r1 Try.underlying44 rfl (by kernel_rfl)) rfl ?_
    have hb := below2 HBb.out (show w.heap.size ≤ w.heap.size + 1 by omega) (.slice (some a) l.length c) (.int .i64 10)
    have e : splitR l s home = (l, 10) := by unfold splitR; rw [Hp.out, if_neg (fun h => absurd h.1 (by decide))]
    rw [e]
    exact ⟨_, rfl, ⟨_, _, rfl, HC.out, Kd.C_below HR.out hb⟩, hb⟩
  · by_cases hse : s.toList = []
    · have hse' : (s.toList == ([] : List UInt8)) = true := by simpa using hse
      have Hs := Lib.hid hse
      clear hse
      go_enter Try.func29, Try.ntmps29
      go_wp2_with (go_at_call 41; refine (P41 _).mono ?_; rintro e w4 ⟨rfl, hb4⟩; have B0b := Aside0.mk (blk_below B0.out hb4); have B1b := Aside0.mk (blk_below B1.out hb4); have HBb := Aside0.mk (below_step HB.out hb4); have c0 : w4.cell? ⟨w.heap.size, 0, none⟩ = some (.slice (some a) l.length c) := (blk_cell B0b.out 0).trans rfl; have z0 := (blk_cell B1b.out 0).trans rfl; have z1 := (blk_cell B1b.out 1).trans rfl; have y0 := blk_frozen B1b.out 0; have y1 := blk_frozen B1b.out 1; clear hb4)
      have r1 := blk2 B1b.out (.slice (some a) l.length c) (.int .i64 10)
      refine bodyPost_ret (results_cell_row rfl _ _ (w.heap.size + 1) 44 #[.slice (some a) l.length c, .int .i64 10] (0, 0) _ rfl r1 Try.underlying44 rfl (by kernel_rfl)) rfl ?_
      have hb := below2 HBb.out (show w.heap.size ≤ w.heap.size + 1 by omega) (.slice (some a) l.length c) (.int .i64 10)
      have e : splitR l s home = (l, 10) := by unfold splitR; rw [Hp.out, if_neg (fun h => h.2 Hs.out)]
      rw [e]
      exact ⟨_, rfl, ⟨_, _, rfl, HC.out, Kd.C_below HR.out hb⟩, hb⟩
    · have hse' : (s.toList == ([] : List UInt8)) = false := by simpa using hse
      have Hs := Lib.hid hse
      clear hse
      by_cases hx : exL l s < 0
      · have hx' : decide (0 ≤ exL l s) = false := decide_eq_false (by omega)
        have Hx := Lib.hid hx
        clear hx
        generalize hy : exL l s = y at hx' P57
        clear hy
        by_cases hh : 0 ≤ home ∧ home ≤ 15
        · have k1 : decide (home < 0) = false := decide_eq_false (by omega)
          have k2 : decide (15 < home) = false := decide_eq_false (by omega)
          have Hh := Lib.hid hh
          clear hh
          go_enter Try.func29, Try.ntmps29
          go_wp2_with (first | (go_at_call 41; refine (P41 _).mono ?_; rintro e w4 ⟨rfl, hb4⟩; have B0b := Aside0.mk (blk_below B0.out hb4); have B1b := Aside0.mk (blk_below B1.out hb4); have HBb := Aside0.mk (below_step HB.out hb4); have c0 : w4.cell? ⟨w.heap.size, 0, none⟩ = some (.slice (some a) l.length c) := (blk_cell B0b.out 0).trans rfl; have z0 := (blk_cell B1b.out 0).trans rfl; have z1 := (blk_cell B1b.out 1).trans rfl; have y0 := blk_frozen B1b.out 0; have y1 := blk_frozen B1b.out 1; clear hb4) | (go_at_call 57; refine (P57 _ HBb.out).mono ?_; rintro e w5 ⟨rfl, hb5⟩; have B0c := Aside0.mk (blk_below B0b.out hb5); have B1c := Aside0.mk (blk_below B1b.out hb5); have HBc := Aside0.mk (below_step HBb.out hb5); have c0' : w5.cell? ⟨w.heap.size, 0, none⟩ = some (.slice (some a) l.length c) := (blk_cell B0c.out 0).trans rfl; have zz0 := (blk_cell B1c.out 0).trans rfl; have zz1 := (blk_cell B1c.out 1).trans rfl; have yy0 := blk_frozen B1c.out 0; have yy1 := blk_frozen B1c.out 1; clear c0 z0 z1 y0 y1 hb5))
          go_loopg [7] l.length (fun gg s7 wr => ∃ kk : Nat, kk ≤ l.length ∧ l.length - kk ≤ gg ∧ s7 = .int .i64 kk ∧ Aside0 (wr.heap[w.heap.size]? = some (.cells #[.slice (some a) l.length c] 27 (0, 0))) ∧ Aside0 (wr.heap[w.heap.size + 1]? = some (.cells #[.slice none 0 0, .int .i64 0] 44 (0, 0))) ∧ Aside0 (Below w.heap.size w wr) ∧ Aside0 (hmL l home = idxP (fun x => x.f1 == home) (l.drop kk) kk))
          case atStart => exact ⟨0, Nat.zero_le _, by omega, rfl, B0c, B1c, HBc, ⟨rfl⟩⟩
          case round =>
            clear c0' zz0 zz1 yy0 yy1
            obtain ⟨kk, hkk, hg, rfl, B0d, B1d, HBd, A0⟩ := hrel
            have c0 : wr.cell? ⟨w.heap.size, 0, none⟩ = some (.slice (some a) l.length c) := (blk_cell B0d.out 0).trans rfl
            have z0 := (blk_cell B1d.out 0).trans rfl
            have z1 := (blk_cell B1d.out 1).trans rfl
            have y0 := blk_frozen B1d.out 0
            have y1 := blk_frozen B1d.out 1
            by_cases hlt : kk < l.length
            · have hltz : decide ((kk : Int) < (l.length : Int)) = true := decide_eq_true (by omega)
              have hz : (0 ≤ (kk : Int)) = True := by simp
              obtain ⟨ad, ead, x0, x1, x2, x3⟩ := at_T32 (Kd.C_below HR.out HBd.out) (kk : Int) (by omega) (by omega)
              cases ead
              simp only [Int.toNat_natCast] at x0 x1 x2 x3
              have hd : l.drop kk = rd_T32 l (kk : Int) :: l.drop (kk + 1) := by rw [List.drop_eq_getElem_cons hlt, rd_at l kk hlt]
              rw [hd] at A0
              generalize rd_T32 l (kk : Int) = y at x0 x1 x2 x3 A0
              clear hd
              by_cases hq : y.f1 = home
              · have hq' : (y.f1 == home) = true := by simpa using hq
                have HQ := Lib.hid (show hmL l home = kk by rw [A0.out, idxP, if_pos hq'])
                clear hq
                go_wp2
                have r1 := blk2 B1d.out (.slice (some a) l.length c) (.int .i64 240)
                refine bodyPost_ret (results_cell_row rfl _ _ (w.heap.size + 1) 44 #[.slice (some a) l.length c, .int .i64 240] (0, 0) _ rfl r1 Try.underlying44 rfl (by kernel_rfl)) rfl ?_
                have hb := below2 HBd.out (show w.heap.size ≤ w.heap.size + 1 by omega) (.slice (some a) l.length c) (.int .i64 240)
                have e : splitR l s home = (l, 240) := by unfold splitR; rw [Hp.out, if_pos ⟨rfl, Hs.out⟩, if_pos Hx.out, if_pos Hh.out, if_neg (by rw [HQ.out]; omega)]
                rw [e]
                exact ⟨_, rfl, ⟨_, _, rfl, HC.out, Kd.C_below HR.out hb⟩, hb⟩
              · have hq' : (y.f1 == home) = false := by simpa using hq
                have A1 := Aside0.mk (show hmL l home = idxP (fun x => x.f1 == home) (l.drop (kk + 1)) (kk + 1) by rw [A0.out, idxP, if_neg (by rw [hq']; decide)])
                clear hq A0
                go_wp2
                go_roundg (l.length - (kk + 1))
                case measure => omega
                case rel => exact ⟨kk + 1, by omega, by omega, by go_num, B0d, B1d, HBd, A1⟩
            · have hltz : decide ((kk : Int) < (l.length : Int)) = false := decide_eq_false (by omega)
              have HQ := Lib.hid (show hmL l home < 0 by rw [A0.out, List.drop_of_length_le (by omega)]; exact (by decide : (-1 : Int) < 0))
              clear A0
              go_wp2_with (first | (go_at_call 58; refine (P58 _ HBd.out).mono ?_; rintro e w7 ⟨v0, rfl, hR7, hb7⟩; obtain ⟨g, cap, cur, rfl, hg, _, hblk, hcap, hmax, hsz, _⟩ := block_of_R hR7 h0; have B0e := Aside0.mk (blk_alloc (blk_below B0d.out hb7) (.cells #[.slice (some ⟨g, 0, none⟩) l.length cap] 27)); have B1e := Aside0.mk (blk_alloc (blk_below B1d.out hb7) (.cells #[.slice (some ⟨g, 0, none⟩) l.length cap] 27)); have HBe := Aside0.mk (below_alloc (below_step HBd.out hb7) (.cells #[.slice (some ⟨g, 0, none⟩) l.length cap] 27)); have BOe := Aside0.mk (blk_new w7 (.cells #[.slice (some ⟨g, 0, none⟩) l.length cap] 27)); have GW := Aside0.mk (Nat.le_trans HBd.out.size hg); have GB0 := Aside0.mk (show g ≠ w.heap.size from fun e => absurd (blk_lt B0d.out) (by omega)); have GB1 := Aside0.mk (show g ≠ w.heap.size + 1 from fun e => absurd (blk_lt B1d.out) (by omega)); have GO := Aside0.mk (Nat.ne_of_lt (blk_lt hblk)); have HR8 := Aside0.mk (Kd.R_alloc hR7 (.cells #[.slice (some ⟨g, 0, none⟩) l.length cap] 27)); have c0e : (w7.alloc (.cells #[.slice (some ⟨g, 0, none⟩) l.length cap] 27)).cell? ⟨w.heap.size, 0, none⟩ = some (.slice (some a) l.length c) := (blk_cell B0e.out 0).trans rfl; clear hb7 hR7 hg hblk hsz c0) | (go_at_call 42; refine (P42 _ HBe.out).mono ?_; rintro e w9 ⟨rfl, hb9⟩; have B0f := Aside0.mk (blk_below B0e.out hb9); have B1f := Aside0.mk (blk_below B1e.out hb9); have BOf := Aside0.mk (blk_below BOe.out hb9); have HBf := Aside0.mk (below_step HBe.out hb9); have HR9 := Aside0.mk (Kd.R_below HR8.out hb9); obtain ⟨⟨x0, x1, x2, x3⟩, xf⟩ := R_cells HR9.out i hi; have xf3 := xf 3; have cO : w9.cell? ⟨w7.heap.size, 0, none⟩ = some (.slice (some ⟨g, 0, none⟩) l.length cap) := (blk_cell BOf.out 0).trans rfl; clear hb9 c0e xf) | ((with_reducible refine gate_store (t := 3) (p := 67) rfl ?_); refine store_event (t := 3) (p := 67) (v := ?vo2) (w1 := (w9.setCell ⟨g, i * 4 + 3, none⟩ (.int .i64 (wrap64 ((rd_T32 l (i : Int)).f3 + 1))))) ?hg ?ho ?hn ?hr ?_; (case ho => rfl); (case hg => rfl); (case hn => rfl); (case hr => first | (go_simp; done) | (go_simp; rfl)); intro w10 hw; obtain ⟨hR10, hG10⟩ := R_field2 HR9.out i 3 hi (by decide) (.int .i64 (wrap64 ((rd_T32 l (i : Int)).f3 + 1))) (bump (rd_T32 l (i : Int))) rfl rfl; rw [← hw] at hR10 hG10; have B1g := Aside0.mk (blk_grown B1f.out hG10 (fun e => GB1.out (Option.some.inj e).symm)); have BOg := Aside0.mk (blk_grown BOf.out hG10 (fun e => GO.out (Option.some.inj e).symm)); have HBg := Aside0.mk (HBf.out.grown hG10 (below_size HBf.out) (fun k e => (Option.some.inj e) ▸ GW.out)); have HR10 := Aside0.mk hR10; clear hR10 hG10 hw cO x0 x1 x2 x3 xf3))
              have dO : w10.cell? ⟨w7.heap.size, 0, none⟩ = some (.slice (some ⟨g, 0, none⟩) l.length cap) := (blk_cell BOg.out 0).trans rfl
              obtain ⟨⟨d0, d1, d2, d3⟩, df⟩ := R_cells HR10.out i (by rw [List.length_set]; exact hi)
              rw [rd_set _ _ _ hi] at d0 d1 d2 d3
              replace B1g := Aside0.mk (blk_drew B1g.out)
              replace BOg := Aside0.mk (blk_drew BOg.out)
              replace HBg := Aside0.mk (below_drew1 HBg.out)
              replace HR10 := Aside0.mk (Kd.R_drew HR10.out)
              refine start_ (n := 17) (S := fun w' => w'.cell? ⟨w7.heap.size, 0, none⟩ = some (.slice (some ⟨g, 0, none⟩) l.length cap) ∧ w'.cell? ⟨g, i * 4 + 2, none⟩ = some (.int .i64 (bump (rd_T32 l (i : Int))).f2) ∧ w'.cell? ⟨g, i * 4 + 3, none⟩ = some (.int .i64 (bump (rd_T32 l (i : Int))).f3)) (ds := [16]) #[false, false, false, false, false, false, false, false, false, false, false, false, false, false, false, false, false] (by kernel_rfl) rfl rfl ⟨dO, d2, d3⟩ (fun hHeld => ?_)
              refine with_tabW tab15 bits15 (fun HT_ HW_ => ?_)
              refine pure_ (i := 0) (N := some 68) (v := ?_) (a' := ?_) #[true, false, false, false, false, false, false, false, false, false, false, false, false, false, false, false, false] rfl rfl (any_of HT_.out (by kernel_rfl)) (fun _ _ _ h => h) (Or.inl ⟨by rfl, ?_⟩) ?_ ?_
              rotate_left
              · intro w'
                go_simp
                with_reducible rfl
              rotate_left
              · simp only [Act.put, List.setIfInBounds_toArray, List.set_cons_zero, List.set_cons_succ, i64_w, i32_w]
                rfl
              refine pure_ (i := 1) (N := some 69) (v := ?_) (a' := ?_) #[true, true, false, false, false, false, false, false, false, false, false, false, false, false, false, false, false] rfl rfl (any_of HT_.out (by kernel_rfl)) (fun _ _ _ h => h) (Or.inl ⟨by rfl, ?_⟩) ?_ ?_
              rotate_left
              · intro w'
                go_simp
                with_reducible rfl
              rotate_left
              · simp only [Act.put, List.setIfInBounds_toArray, List.set_cons_zero, List.set_cons_succ, i64_w, i32_w]
                rfl
              refine pure_ (i := 2) (N := some 70) (v := ?_) (a' := ?_) #[true, true, true, false, false, false, false, false, false, false, false, false, false, false, false, false, false] rfl rfl (any_of HT_.out (by kernel_rfl)) (fun _ _ _ h => h) (Or.inl ⟨by rfl, ?_⟩) ?_ ?_
              rotate_left
              · intro w'
                go_simp
                with_reducible rfl
              rotate_left
              · simp only [Act.put, List.setIfInBounds_toArray, List.set_cons_zero, List.set_cons_succ, i64_w, i32_w]
                rfl
              refine pure_ (i := 4) (N := some 72) (v := ?_) (a' := ?_) #[true, true, true, false, true, false, false, false, false, false, false, false, false, false, false, false, false] rfl rfl (any_of HT_.out (by kernel_rfl)) (fun _ _ _ h => h) (Or.inl ⟨by rfl, ?_⟩) ?_ ?_
              rotate_left
              · intro w'
                go_simp
                with_reducible rfl
              rotate_left
              · simp only [Act.put, List.setIfInBounds_toArray, List.set_cons_zero, List.set_cons_succ, i64_w, i32_w]
                rfl
              refine pure_ (i := 8) (N := some 76) (v := ?_) (a' := ?_) #[true, true, true, false, true, false, false, false, true, false, false, false, false, false, false, false, false] rfl rfl (any_of HT_.out (by kernel_rfl)) (fun _ _ _ h => h) (Or.inl ⟨by rfl, ?_⟩) ?_ ?_
              rotate_left
              · intro w'
                go_simp
                with_reducible rfl
              rotate_left
              · simp only [Act.put, List.setIfInBounds_toArray, List.set_cons_zero, List.set_cons_succ, i64_w, i32_w]
                rfl
              refine pure_ (i := 10) (N := some 78) (v := ?_) (a' := ?_) #[true, true, true, false, true, false, false, false, true, false, true, false, false, false, false, false, false] rfl rfl (any_of HT_.out (by kernel_rfl)) (fun _ _ _ h => h) (Or.inl ⟨by rfl, ?_⟩) ?_ ?_
              rotate_left
              · intro w'
                go_simp
                with_reducible rfl
              rotate_left
              · simp only [Act.put, List.setIfInBounds_toArray, List.set_cons_zero, List.set_cons_succ, i64_w, i32_w]
                rfl
              refine take_ (i := 3) (N := some 71) (v := ?_) (a' := ?_) #[true, true, true, true, true, false, false, false, true, false, true, false, false, false, false, false, false] rfl rfl (take_ofW HT_.out HW_.out (by kernel_rfl)) (fun _ _ _ h => h) (Or.inl ⟨by rfl, ?_⟩) hHeld ?_ ?_
              rotate_left
              · rintro w' ⟨s0, s1, s2⟩
                go_simp
                with_reducible rfl
              rotate_left
              · simp only [Act.put, List.setIfInBounds_toArray, List.set_cons_zero, List.set_cons_succ, i64_w, i32_w]
                rfl
              refine pure_ (i := 5) (N := some 73) (v := ?_) (a' := ?_) #[true, true, true, true, true, true, false, false, true, false, true, false, false, false, false, false, false] rfl rfl (any_of HT_.out (by kernel_rfl)) (fun _ _ _ h => h) (Or.inl ⟨by rfl, ?_⟩) ?_ ?_
              rotate_left
              · intro w'
                go_simp
                with_reducible rfl
              rotate_left
              · simp only [Act.put, List.setIfInBounds_toArray, List.set_cons_zero, List.set_cons_succ, i64_w, i32_w]
                rfl
              refine pure_ (i := 6) (N := some 74) (v := ?_) (a' := ?_) #[true, true, true, true, true, true, true, false, true, false, true, false, false, false, false, false, false] rfl rfl (any_of HT_.out (by kernel_rfl)) (fun _ _ _ h => h) (Or.inl ⟨by rfl, ?_⟩) ?_ ?_
              rotate_left
              · intro w'
                go_simp
                with_reducible rfl
              rotate_left
              · simp only [Act.put, List.setIfInBounds_toArray, List.set_cons_zero, List.set_cons_succ, i64_w, i32_w]
                rfl
              refine take_ (i := 7) (N := some 75) (v := ?_) (a' := ?_) #[true, true, true, true, true, true, true, true, true, false, true, false, false, false, false, false, false] rfl rfl (take_ofW HT_.out HW_.out (by kernel_rfl)) (fun _ _ _ h => h) (Or.inl ⟨by rfl, ?_⟩) hHeld ?_ ?_
              rotate_left
              · rintro w' ⟨s0, s1, s2⟩
                go_simp
                with_reducible rfl
              rotate_left
              · simp only [Act.put, List.setIfInBounds_toArray, List.set_cons_zero, List.set_cons_succ, i64_w, i32_w]
                rfl
              refine take_ (i := 9) (N := some 77) (v := ?_) (a' := ?_) #[true, true, true, true, true, true, true, true, true, true, true, false, false, false, false, false, false] rfl rfl (take_ofW HT_.out HW_.out (by kernel_rfl)) (fun _ _ _ h => h) (Or.inl ⟨by rfl, ?_⟩) hHeld ?_ ?_
              rotate_left
              · rintro w' ⟨s0, s1, s2⟩
                go_simp
                with_reducible rfl
              rotate_left
              · simp only [Act.put, List.setIfInBounds_toArray, List.set_cons_zero, List.set_cons_succ, i64_w, i32_w]
                rfl
              refine pure_ (i := 11) (N := some 79) (v := ?_) (a' := ?_) #[true, true, true, true, true, true, true, true, true, true, true, true, false, false, false, false, false] rfl rfl (any_of HT_.out (by kernel_rfl)) (fun _ _ _ h => h) (Or.inl ⟨by rfl, ?_⟩) ?_ ?_
              rotate_left
              · intro w'
                go_simp
                with_reducible rfl
              rotate_left
              · simp only [Act.put, List.setIfInBounds_toArray, List.set_cons_zero, List.set_cons_succ, i64_w, i32_w]
                rfl
              refine pure_ (i := 12) (N := some 80) (v := ?_) (a' := ?_) #[true, true, true, true, true, true, true, true, true, true, true, true, true, false, false, false, false] rfl rfl (any_of HT_.out (by kernel_rfl)) (fun _ _ _ h => h) (Or.inl ⟨by rfl, ?_⟩) ?_ ?_
              rotate_left
              · intro w'
                go_simp
                with_reducible rfl
              rotate_left
              · simp only [Act.put, List.setIfInBounds_toArray, List.set_cons_zero, List.set_cons_succ, i64_w, i32_w]
                rfl
              refine take_ (i := 13) (N := some 81) (v := ?_) (a' := ?_) #[true, true, true, true, true, true, true, true, true, true, true, true, true, true, false, false, false] rfl rfl (take_ofW HT_.out HW_.out (by kernel_rfl)) (fun _ _ _ h => h) (Or.inl ⟨by rfl, ?_⟩) hHeld ?_ ?_
              rotate_left
              · rintro w' ⟨s0, s1, s2⟩
                go_simp
                with_reducible rfl
              rotate_left
              · simp only [Act.put, List.setIfInBounds_toArray, List.set_cons_zero, List.set_cons_succ, i64_w, i32_w]
                rfl
              refine pure_ (i := 14) (N := some 82) (v := ?_) (a' := ?_) #[true, true, true, true, true, true, true, true, true, true, true, true, true, true, true, false, false] rfl rfl (any_of HT_.out (by kernel_rfl)) (fun _ _ _ h => h) (Or.inl ⟨by rfl, ?_⟩) ?_ ?_
              rotate_left
              · intro w'
                go_simp
                with_reducible rfl
              rotate_left
              · simp only [Act.put, List.setIfInBounds_toArray, List.set_cons_zero, List.set_cons_succ, i64_w, i32_w]
                rfl
              refine one_ (i := 15) (N := some 10) #[true, true, true, true, true, true, true, true, true, true, true, true, true, true, true, true, false] rfl rfl (one_of HT_.out (by kernel_rfl)) (by decide) (fun K hK => ?_)
              refine value_ (w1 := ?_) (v := ?_) (by rfl) rfl ?_ ?_
              rotate_left 2
              · go_simp
                constructor
                · rfl
                · rfl
              have BN := Aside0.mk (blk_new w10.drew (.cells #[.string ⟨#[]⟩, .int .i64 0, .int .i64 0, .int .i64 0] 32))
              have B1h := Aside0.mk (blk_alloc B1g.out (.cells #[.string ⟨#[]⟩, .int .i64 0, .int .i64 0, .int .i64 0] 32))
              have BOh := Aside0.mk (blk_alloc BOg.out (.cells #[.string ⟨#[]⟩, .int .i64 0, .int .i64 0, .int .i64 0] 32))
              have HBh := Aside0.mk (below_alloc HBg.out (.cells #[.string ⟨#[]⟩, .int .i64 0, .int .i64 0, .int .i64 0] 32))
              have HR11 := Aside0.mk (Kd.R_alloc HR10.out (.cells #[.string ⟨#[]⟩, .int .i64 0, .int .i64 0, .int .i64 0] 32))
              obtain ⟨⟨u0, u1, u2, u3⟩, uf⟩ := R_cells HR11.out i (by rw [List.length_set]; exact hi)
              rw [rd_set _ _ _ hi] at u0 u1 u2 u3
              have q0 := (blk_cell BN.out 0).trans rfl
              have q1 := (blk_cell BN.out 1).trans rfl
              have q2 := (blk_cell BN.out 2).trans rfl
              have q3 := (blk_cell BN.out 3).trans rfl
              have p0 := blk_frozen BN.out 0
              have p1 := blk_frozen BN.out 1
              have p2 := blk_frozen BN.out 2
              have p3 := blk_frozen BN.out 3
              refine hK.out _ _ ⟨(blk_cell BOh.out 0).trans rfl, u2, u3⟩ (fun hHeld => ?_)
              clear hK K
              refine norm_ (a' := ?_) ?_ ?_
              rotate_left
              · show Act.put _ (some 10) _ = _
                simp only [Act.put, List.setIfInBounds_toArray, List.set_cons_zero, List.set_cons_succ, i64_w, i32_w]
                rfl
              refine last_ (i := 16) (N := none) #[true, true, true, true, true, true, true, true, true, true, true, true, true, true, true, true, true] rfl rfl (one_of HT_.out (by kernel_rfl)) (by decide) (fun K hK => ?_)
              refine skip_ (w1 := ?_) (by rfl) rfl ?_ ?_
              rotate_left
              · go_simp
                rfl
              refine hK.out _ _ ?_
              clear hK K
              refine done_ (done_of HT_.out (by kernel_rfl)) ?_

              go_wp2
              obtain ⟨LL, hLL⟩ : ∃ LL, upd l i bump = LL := ⟨_, rfl⟩
              have hLn : LL.length = l.length := by rw [← hLL]; exact List.length_set
              obtain ⟨cur, gb, gs, gc, gm, gg⟩ := block_at HR10.out (by rw [List.length_set]; exact h0)
              have e0 : l.set i (bump (rd_T32 l (i : Int))) = LL := hLL
              rw [e0] at gc
              obtain ⟨NP, hNP⟩ : ∃ NP : S32, ⟨s, home, (bump (rd_T32 l (i : Int))).f2, (bump (rd_T32 l (i : Int))).f3⟩ = NP := ⟨_, rfl⟩
              obtain ⟨F, hF⟩ : ∃ F, insL NP s LL = F := ⟨_, rfl⟩
              have HF := Lib.hid hF
              have HLL := Lib.hid hLL
              have HNP := Lib.hid hNP
              have BNw := Aside0.mk (show (w10.alloc (.cells (partC NP).toArray 32)).heap[w10.heap.size]? = some (.cells (partC NP).toArray 32 (0, 0)) from blk_new w10 _)
              have hN0 : (partC NP).toArray = #[.string s, .int .i64 home, .int .i64 (bump (rd_T32 l (i : Int))).f2, .int .i64 (bump (rd_T32 l (i : Int))).f3] := by rw [← hNP]; rfl
              have aE := Aside0.mk (blk_new (w10.alloc (.cells (partC NP).toArray 32)) (.cells #[] 32))
              have aG := Aside0.mk (blk_alloc (blk_alloc (w := w10) gb (.cells (partC NP).toArray 32)) (.cells #[] 32))
              have aN := Aside0.mk (blk_alloc BNw.out (.cells #[] 32))
              have aO := Aside0.mk (blk_alloc (blk_alloc (w := w10) BOg.out (.cells (partC NP).toArray 32)) (.cells #[] 32))
              have a1 := Aside0.mk (blk_alloc (blk_alloc (w := w10) B1g.out (.cells (partC NP).toArray 32)) (.cells #[] 32))
              have aB := Aside0.mk (below_drew1 (below_alloc (below_alloc (show Below w.heap.size w w10 from ⟨HBg.out.os, HBg.out.tape, HBg.out.output, HBg.out.size, HBg.out.block⟩) (.cells (partC NP).toArray 32)) (.cells #[] 32)))
              rw [World.size_alloc] at aE
              have GE := Aside0.mk (show w.heap.size ≤ w10.heap.size + 1 from Nat.le_trans HBg.out.size (Nat.le_succ _))
              have gne : w10.heap.size + 1 ≠ g := fun e => absurd (blk_lt (w := w10) gb) (by omega)
              have aR := Aside0.mk (R_of_block (l := []) (cap := 0) (ok := fun k => k ≠ g ∧ k ≠ w10.heap.size) (show (((w10.alloc (.cells (partC NP).toArray 32)).alloc (.cells #[] 32)).drew).heap[w10.heap.size + 1]? = some (.cells #[] 32 (0, 0)) from aE.out) GE.out ⟨gne, by omega⟩ (by unfold maxLen; omega) rfl rfl)
              rw [← hN0]
              clear hF hLL hNP e0 gb gne hN0 u0 u1 u2 u3 uf q0 q1 q2 q3 p0 p1 p2 p3 dO d0 d1 d2 d3 df
              go_loopg [11, 12, 13] l.length (fun gk2 v11 v12 v13 wB => ∃ (kj : Nat) (acc : List S32) (dn : Bool), kj ≤ l.length ∧ l.length - kj ≤ gk2 ∧ v12 = .bool dn ∧ v13 = .int .i64 kj ∧ acc.length ≤ 2 * kj + 1 ∧ Aside0 (F = acc ++ if dn then LL.drop kj else insL NP s (LL.drop kj)) ∧
                Aside0 (Kd.R k32 32 wB w.heap.size (fun k => k ≠ g ∧ k ≠ w10.heap.size) v11 acc) ∧ Aside0 (wB.heap[g]? = some (.cells cur 32 (0, 0))) ∧ Aside0 (wB.heap[w10.heap.size]? = some (.cells (partC NP).toArray 32 (0, 0))) ∧
                Aside0 (wB.heap[w7.heap.size]? = some (.cells #[.slice (some ⟨g, 0, none⟩) l.length cap] 27 (0, 0))) ∧ Aside0 (wB.heap[w.heap.size + 1]? = some (.cells #[.slice none 0 0, .int .i64 0] 44 (0, 0))) ∧ Aside0 (Below w.heap.size w wB))
              case atStart => exact ⟨0, [], false, Nat.zero_le _, by omega, rfl, rfl, Nat.zero_le _, ⟨by rw [HF.out.symm]; rfl⟩, aR, aG, aN, aO, a1, aB⟩
              case round =>
                obtain ⟨kj, acc, dn, hkj, hgj, rfl, rfl, hacc, AF, bR, bG, bN, bO, b1, bB⟩ := hrel
                have cO : wr.cell? ⟨w7.heap.size, 0, none⟩ = some (.slice (some ⟨g, 0, none⟩) l.length cap) := (blk_cell bO.out 0).trans rfl
                have n0 : wr.cell? ⟨w10.heap.size, 0, none⟩ = some (.string NP.f0) := (blk_cell bN.out 0).trans rfl; have n1 : wr.cell? ⟨w10.heap.size, 1, none⟩ = some (.int .i64 NP.f1) := (blk_cell bN.out 1).trans rfl; have n2 : wr.cell? ⟨w10.heap.size, 2, none⟩ = some (.int .i64 NP.f2) := (blk_cell bN.out 2).trans rfl; have n3 : wr.cell? ⟨w10.heap.size, 3, none⟩ = some (.int .i64 NP.f3) := (blk_cell bN.out 3).trans rfl
                by_cases hlt2 : kj < l.length
                · have hltz2 : decide ((kj : Int) < (l.length : Int)) = true := decide_eq_true (by omega)
                  have hz2 : (0 ≤ (kj : Int)) = True := by simp
                  obtain ⟨⟨x0, x1, x2, x3⟩, _⟩ := R_cells (R_of_block bG.out (Nat.zero_le g) trivial gm gs gc (ok := fun _ => True)) kj (by omega)
                  have hd : LL.drop kj = rd_T32 LL (kj : Int) :: LL.drop (kj + 1) := by rw [List.drop_eq_getElem_cons (by omega), rd_at LL kj (by omega)]
                  obtain ⟨y, hy⟩ : ∃ y, rd_T32 LL (kj : Int) = y := ⟨_, rfl⟩
                  rw [hy] at x0 x1 x2 x3 hd
                  have Hd := Lib.hid hd
                  clear hd
                  cases dn
                  · by_cases hb : Op.bytesLess s.toList y.f0.toList = true
                    · have Hb := Lib.hid hb
                      go_wp2_with (first | ((with_reducible refine gate_builtin (b := .append) (xs := #[.tmp 103, .tmp 105]) rfl ?_); at_builtin; refine Kd.R_append k32 (w0 := w) w.heap.size rfl (.tmp 103) (.tmp 105) 25 32 (.agg #[(.string ⟨#[]⟩), (.int .i64 0), (.int .i64 0), (.int .i64 0)]) 40 rfl Try.underlying25 info32 rfl (by decide) (by omega) u11 acc NP (partC NP) (fun k => k ≠ g ∧ k ≠ w10.heap.size) (fun _ => False) rfl rfl ?aP (fun _ hk => hk.elim) ?aF ?aO ?aB ?aS ?aL ?_; (case aP => exact k32_mkM _ _ _ _); (case aF => exact fun k hk => ⟨fun e => absurd (blk_lt bG.out) (by omega), fun e => absurd (blk_lt bN.out) (by omega)⟩); (case aO => exact bR.out); (case aB => exact bB.out); (case aS => exact below_size bB.out); (case aL => (try simp only [List.length_append, List.length_cons, List.length_nil]); omega); intro v2 w12 ho hb hgr hat; have dR := Aside0.mk ho; have dB := Aside0.mk hb; have dG := Aside0.mk (blk_grown bG.out hgr (fun e => (bR.out.1 g e.symm).1 rfl)); have dN := Aside0.mk (blk_grown bN.out hgr (fun e => (bR.out.1 w10.heap.size e.symm).2 rfl)); have dO := Aside0.mk (blk_grown bO.out hgr (Kd.R_ne bR.out bO.out (by decide))); have d1 := Aside0.mk (blk_grown b1.out hgr (Kd.R_ne bR.out b1.out (by decide))); have cOd : w12.cell? ⟨w7.heap.size, 0, none⟩ = some (.slice (some ⟨g, 0, none⟩) l.length cap) := (blk_cell dO.out 0).trans rfl; obtain ⟨⟨x0d, x1d, x2d, x3d⟩, _⟩ := R_cellsY hy (R_of_block dG.out (Nat.zero_le g) trivial gm gs gc (ok := fun _ => True)) (by omega); clear cO x0 x1 x2 x3; clear ho hb hgr hat) | ((with_reducible refine gate_builtin (b := .append) (xs := #[.tmp 107, .tmp 113]) rfl ?_); at_builtin; refine Kd.R_append k32 (w0 := w) w.heap.size rfl (.tmp 107) (.tmp 113) 25 32 (.agg #[(.string ⟨#[]⟩), (.int .i64 0), (.int .i64 0), (.int .i64 0)]) 40 rfl Try.underlying25 info32 rfl (by decide) (by omega) v2 (acc ++ [NP]) y (partC y) (fun k => k ≠ g ∧ k ≠ w10.heap.size) (fun _ => False) rfl rfl ?aP (fun _ hk => hk.elim) ?aF ?aO ?aB ?aS ?aL ?_; (case aP => exact k32_mkM _ _ _ _); (case aF => exact fun k hk => ⟨fun e => absurd (blk_lt dG.out) (by omega), fun e => absurd (blk_lt dN.out) (by omega)⟩); (case aO => exact dR.out); (case aB => exact dB.out); (case aS => exact below_size dB.out); (case aL => simp only [List.length_append, List.length_cons, List.length_nil]; omega); intro v3 w13 ho hb hgr hat; have eR := Aside0.mk ho; have eB := Aside0.mk hb; have eG := Aside0.mk (blk_grown dG.out hgr (fun e => (dR.out.1 g e.symm).1 rfl)); have eN := Aside0.mk (blk_grown dN.out hgr (fun e => (dR.out.1 w10.heap.size e.symm).2 rfl)); have eO := Aside0.mk (blk_grown dO.out hgr (Kd.R_ne dR.out dO.out (by decide))); have e1 := Aside0.mk (blk_grown d1.out hgr (Kd.R_ne dR.out d1.out (by decide)));  clear ho hb hgr hat))
                      go_roundg (l.length - (kj + 1))
                      case measure => omega
                      case rel => exact ⟨kj + 1, acc ++ [NP] ++ [y], true, by omega, by omega, rfl, by go_num, by simp only [List.length_append, List.length_cons, List.length_nil]; omega, ⟨by rw [AF.out, Hd.out]; simp [insL, Hb.out]⟩, eR, eG, eN, eO, e1, eB⟩
                    · have Hb := Lib.hid hb
                      have hb' : Op.bytesLess s.toList y.f0.toList = false := by simpa using hb
                      clear hb
                      go_wp2_with ((with_reducible refine gate_builtin (b := .append) (xs := #[.tmp 107, .tmp 113]) rfl ?_); at_builtin; refine Kd.R_append k32 (w0 := w) w.heap.size rfl (.tmp 107) (.tmp 113) 25 32 (.agg #[(.string ⟨#[]⟩), (.int .i64 0), (.int .i64 0), (.int .i64 0)]) 40 rfl Try.underlying25 info32 rfl (by decide) (by omega) u11 acc y (partC y) (fun k => k ≠ g ∧ k ≠ w10.heap.size) (fun _ => False) rfl rfl ?aP (fun _ hk => hk.elim) ?aF ?aO ?aB ?aS ?aL ?_; (case aP => exact k32_mkM _ _ _ _); (case aF => exact fun k hk => ⟨fun e => absurd (blk_lt bG.out) (by omega), fun e => absurd (blk_lt bN.out) (by omega)⟩); (case aO => exact bR.out); (case aB => exact bB.out); (case aS => exact below_size bB.out); (case aL => (try simp only [List.length_append, List.length_cons, List.length_nil]); omega); intro v3 w13 ho hb hgr hat; have eR := Aside0.mk ho; have eB := Aside0.mk hb; have eG := Aside0.mk (blk_grown bG.out hgr (fun e => (bR.out.1 g e.symm).1 rfl)); have eN := Aside0.mk (blk_grown bN.out hgr (fun e => (bR.out.1 w10.heap.size e.symm).2 rfl)); have eO := Aside0.mk (blk_grown bO.out hgr (Kd.R_ne bR.out bO.out (by decide))); have e1 := Aside0.mk (blk_grown b1.out hgr (Kd.R_ne bR.out b1.out (by decide)));  clear ho hb hgr hat)
                      go_roundg (l.length - (kj + 1))
                      case measure => omega
                      case rel => exact ⟨kj + 1, acc ++ [y], false, by omega, by omega, rfl, by go_num, by simp only [List.length_append, List.length_cons, List.length_nil]; omega, ⟨by rw [AF.out, Hd.out]; simp [insL, hb']⟩, eR, eG, eN, eO, e1, eB⟩
                  · go_wp2_with ((with_reducible refine gate_builtin (b := .append) (xs := #[.tmp 107, .tmp 113]) rfl ?_); at_builtin; refine Kd.R_append k32 (w0 := w) w.heap.size rfl (.tmp 107) (.tmp 113) 25 32 (.agg #[(.string ⟨#[]⟩), (.int .i64 0), (.int .i64 0), (.int .i64 0)]) 40 rfl Try.underlying25 info32 rfl (by decide) (by omega) u11 acc y (partC y) (fun k => k ≠ g ∧ k ≠ w10.heap.size) (fun _ => False) rfl rfl ?aP (fun _ hk => hk.elim) ?aF ?aO ?aB ?aS ?aL ?_; (case aP => exact k32_mkM _ _ _ _); (case aF => exact fun k hk => ⟨fun e => absurd (blk_lt bG.out) (by omega), fun e => absurd (blk_lt bN.out) (by omega)⟩); (case aO => exact bR.out); (case aB => exact bB.out); (case aS => exact below_size bB.out); (case aL => (try simp only [List.length_append, List.length_cons, List.length_nil]); omega); intro v3 w13 ho hb hgr hat; have eR := Aside0.mk ho; have eB := Aside0.mk hb; have eG := Aside0.mk (blk_grown bG.out hgr (fun e => (bR.out.1 g e.symm).1 rfl)); have eN := Aside0.mk (blk_grown bN.out hgr (fun e => (bR.out.1 w10.heap.size e.symm).2 rfl)); have eO := Aside0.mk (blk_grown bO.out hgr (Kd.R_ne bR.out bO.out (by decide))); have e1 := Aside0.mk (blk_grown b1.out hgr (Kd.R_ne bR.out b1.out (by decide)));  clear ho hb hgr hat)
                    go_roundg (l.length - (kj + 1))
                    case measure => omega
                    case rel => exact ⟨kj + 1, acc ++ [y], true, by omega, by omega, rfl, by go_num, by simp only [List.length_append, List.length_cons, List.length_nil]; omega, ⟨by rw [AF.out, Hd.out]; simp⟩, eR, eG, eN, eO, e1, eB⟩
                · have hltz2 : decide ((kj : Int) < (l.length : Int)) = false := decide_eq_false (by omega)
                  have hsp : splitR l s home = (F, 0) := by
                    unfold splitR
                    rw [Hp.out, if_pos ⟨rfl, Hs.out⟩, if_pos Hx.out, if_pos Hh.out, if_pos HQ.out, Hi.out]
                    unfold splitOn
                    rw [HLL.out]
                    have hrd : rd_T32 LL (i : Int) = bump (rd_T32 l (i : Int)) := by rw [← HLL.out]; exact rd_set _ _ _ hi
                    rw [hrd, HNP.out, HF.out]
                  have Hsp := Lib.hid hsp
                  clear hsp
                  have hdr : LL.drop kj = [] := List.drop_of_length_le (by omega)
                  cases dn
                  · have hacc2 := Aside0.mk (show F = acc ++ [NP] by rw [AF.out, hdr]; rfl)
                    clear hdr
                    go_wp2_with ((with_reducible refine gate_builtin (b := .append) (xs := #[.tmp 117, .tmp 119]) rfl ?_); at_builtin; refine Kd.R_append k32 (w0 := w) w.heap.size rfl (.tmp 117) (.tmp 119) 25 32 (.agg #[(.string ⟨#[]⟩), (.int .i64 0), (.int .i64 0), (.int .i64 0)]) 40 rfl Try.underlying25 info32 rfl (by decide) (by omega) u11 acc NP (partC NP) (fun k => k ≠ g ∧ k ≠ w10.heap.size) (fun _ => False) rfl rfl ?aP (fun _ hk => hk.elim) ?aF ?aO ?aB ?aS ?aL ?_; (case aP => exact k32_mkM _ _ _ _); (case aF => exact fun k hk => ⟨fun e => absurd (blk_lt bG.out) (by omega), fun e => absurd (blk_lt bN.out) (by omega)⟩); (case aO => exact bR.out); (case aB => exact bB.out); (case aS => exact below_size bB.out); (case aL => (try simp only [List.length_append, List.length_cons, List.length_nil]); omega); intro v2 w12 ho hb hgr hat; rw [← hacc2.out] at ho; have dR := Aside0.mk ho; have dB := Aside0.mk hb; have dG := Aside0.mk (blk_grown bG.out hgr (fun e => (bR.out.1 g e.symm).1 rfl)); have dN := Aside0.mk (blk_grown bN.out hgr (fun e => (bR.out.1 w10.heap.size e.symm).2 rfl)); have dO := Aside0.mk (blk_grown bO.out hgr (Kd.R_ne bR.out bO.out (by decide))); have d1 := Aside0.mk (blk_grown b1.out hgr (Kd.R_ne bR.out b1.out (by decide))); obtain ⟨Av, cv, rfl⟩ := Kd.R_slice ho; have zd0 := (blk_cell d1.out 0).trans rfl; have zd1 := (blk_cell d1.out 1).trans rfl; have yd0 := blk_frozen d1.out 0; have yd1 := blk_frozen d1.out 1; clear ho hb hgr hat)
                    have r1 := blk2 d1.out (.slice Av F.length cv) (.int .i64 0)
                    refine bodyPost_ret (results_cell_row rfl _ _ (w.heap.size + 1) 44 #[.slice Av F.length cv, .int .i64 0] (0, 0) _ rfl r1 Try.underlying44 rfl (by kernel_rfl)) rfl ?_
                    have hb := below2 dB.out (show w.heap.size ≤ w.heap.size + 1 by omega) (.slice Av F.length cv) (.int .i64 0)
                    rw [Hsp.out]
                    exact ⟨_, rfl, MapC.of_R (Kd.R_far (p := ⟨w.heap.size + 1, 1, none⟩) (Kd.R_far (p := ⟨w.heap.size + 1, 0, none⟩) (Kd.R_types dR.out d1.out (by decide)) (fun k hk => hk.2) _) (fun k hk => hk.2) _), hb⟩
                  · have hacc2 := Aside0.mk (show F = acc by rw [AF.out, hdr]; simp)
                    clear hdr
                    obtain ⟨Av, cv, rfl⟩ := Kd.R_slice bR.out
                    have zd0 := (blk_cell b1.out 0).trans rfl
                    have zd1 := (blk_cell b1.out 1).trans rfl
                    have yd0 := blk_frozen b1.out 0
                    have yd1 := blk_frozen b1.out 1
                    go_wp2
                    have r1 := blk2 b1.out (.slice Av acc.length cv) (.int .i64 0)
                    refine bodyPost_ret (results_cell_row rfl _ _ (w.heap.size + 1) 44 #[.slice Av acc.length cv, .int .i64 0] (0, 0) _ rfl r1 Try.underlying44 rfl (by kernel_rfl)) rfl ?_
                    have hb := below2 bB.out (show w.heap.size ≤ w.heap.size + 1 by omega) (.slice Av acc.length cv) (.int .i64 0)
                    rw [Hsp.out, hacc2.out]
                    exact ⟨_, rfl, MapC.of_R (Kd.R_far (p := ⟨w.heap.size + 1, 1, none⟩) (Kd.R_far (p := ⟨w.heap.size + 1, 0, none⟩) (Kd.R_types bR.out b1.out (by decide)) (fun k hk => hk.2) _) (fun k hk => hk.2) _), hb⟩
        · have Hh := Lib.hid hh
          by_cases hn : home < 0
          · have k1 : decide (home < 0) = true := decide_eq_true hn
            clear hh
            go_enter Try.func29, Try.ntmps29
            go_wp2_with (first | (go_at_call 41; refine (P41 _).mono ?_; rintro e w4 ⟨rfl, hb4⟩; have B0b := Aside0.mk (blk_below B0.out hb4); have B1b := Aside0.mk (blk_below B1.out hb4); have HBb := Aside0.mk (below_step HB.out hb4); have c0 : w4.cell? ⟨w.heap.size, 0, none⟩ = some (.slice (some a) l.length c) := (blk_cell B0b.out 0).trans rfl; have z0 := (blk_cell B1b.out 0).trans rfl; have z1 := (blk_cell B1b.out 1).trans rfl; have y0 := blk_frozen B1b.out 0; have y1 := blk_frozen B1b.out 1; clear hb4) | (go_at_call 57; refine (P57 _ HBb.out).mono ?_; rintro e w5 ⟨rfl, hb5⟩; have B0c := Aside0.mk (blk_below B0b.out hb5); have B1c := Aside0.mk (blk_below B1b.out hb5); have HBc := Aside0.mk (below_step HBb.out hb5); have c0' : w5.cell? ⟨w.heap.size, 0, none⟩ = some (.slice (some a) l.length c) := (blk_cell B0c.out 0).trans rfl; have zz0 := (blk_cell B1c.out 0).trans rfl; have zz1 := (blk_cell B1c.out 1).trans rfl; have yy0 := blk_frozen B1c.out 0; have yy1 := blk_frozen B1c.out 1; clear c0 z0 z1 y0 y1 hb5))
            have r1 := blk2 B1c.out (.slice (some a) l.length c) (.int .i64 1)
            refine bodyPost_ret (results_cell_row rfl _ _ (w.heap.size + 1) 44 #[.slice (some a) l.length c, .int .i64 1] (0, 0) _ rfl r1 Try.underlying44 rfl (by kernel_rfl)) rfl ?_
            have hb := below2 HBc.out (show w.heap.size ≤ w.heap.size + 1 by omega) (.slice (some a) l.length c) (.int .i64 1)
            have e : splitR l s home = (l, 1) := by unfold splitR; rw [Hp.out, if_pos ⟨rfl, Hs.out⟩, if_pos Hx.out, if_neg Hh.out]
            rw [e]
            exact ⟨_, rfl, ⟨_, _, rfl, HC.out, Kd.C_below HR.out hb⟩, hb⟩
          · have k1 : decide (home < 0) = false := decide_eq_false hn
            have k2 : decide (15 < home) = true := decide_eq_true (by omega)
            clear hh
            go_enter Try.func29, Try.ntmps29
            go_wp2_with (first | (go_at_call 41; refine (P41 _).mono ?_; rintro e w4 ⟨rfl, hb4⟩; have B0b := Aside0.mk (blk_below B0.out hb4); have B1b := Aside0.mk (blk_below B1.out hb4); have HBb := Aside0.mk (below_step HB.out hb4); have c0 : w4.cell? ⟨w.heap.size, 0, none⟩ = some (.slice (some a) l.length c) := (blk_cell B0b.out 0).trans rfl; have z0 := (blk_cell B1b.out 0).trans rfl; have z1 := (blk_cell B1b.out 1).trans rfl; have y0 := blk_frozen B1b.out 0; have y1 := blk_frozen B1b.out 1; clear hb4) | (go_at_call 57; refine (P57 _ HBb.out).mono ?_; rintro e w5 ⟨rfl, hb5⟩; have B0c := Aside0.mk (blk_below B0b.out hb5); have B1c := Aside0.mk (blk_below B1b.out hb5); have HBc := Aside0.mk (below_step HBb.out hb5); have c0' : w5.cell? ⟨w.heap.size, 0, none⟩ = some (.slice (some a) l.length c) := (blk_cell B0c.out 0).trans rfl; have zz0 := (blk_cell B1c.out 0).trans rfl; have zz1 := (blk_cell B1c.out 1).trans rfl; have yy0 := blk_frozen B1c.out 0; have yy1 := blk_frozen B1c.out 1; clear c0 z0 z1 y0 y1 hb5))
            have r1 := blk2 B1c.out (.slice (some a) l.length c) (.int .i64 1)
            refine bodyPost_ret (results_cell_row rfl _ _ (w.heap.size + 1) 44 #[.slice (some a) l.length c, .int .i64 1] (0, 0) _ rfl r1 Try.underlying44 rfl (by kernel_rfl)) rfl ?_
            have hb := below2 HBc.out (show w.heap.size ≤ w.heap.size + 1 by omega) (.slice (some a) l.length c) (.int .i64 1)
            have e : splitR l s home = (l, 1) := by unfold splitR; rw [Hp.out, if_pos ⟨rfl, Hs.out⟩, if_pos Hx.out, if_neg Hh.out]
            rw [e]
            exact ⟨_, rfl, ⟨_, _, rfl, HC.out, Kd.C_below HR.out hb⟩, hb⟩
      · have hx' : decide (0 ≤ exL l s) = true := decide_eq_true (by omega)
        have Hx := Lib.hid hx
        clear hx
        generalize hy : exL l s = y at hx' P57
        clear hy
        go_enter Try.func29, Try.ntmps29
        go_wp2_with (first | (go_at_call 41; refine (P41 _).mono ?_; rintro e w4 ⟨rfl, hb4⟩; have B0b := Aside0.mk (blk_below B0.out hb4); have B1b := Aside0.mk (blk_below B1.out hb4); have HBb := Aside0.mk (below_step HB.out hb4); have c0 : w4.cell? ⟨w.heap.size, 0, none⟩ = some (.slice (some a) l.length c) := (blk_cell B0b.out 0).trans rfl; have z0 := (blk_cell B1b.out 0).trans rfl; have z1 := (blk_cell B1b.out 1).trans rfl; have y0 := blk_frozen B1b.out 0; have y1 := blk_frozen B1b.out 1; clear hb4) | (go_at_call 57; refine (P57 _ HBb.out).mono ?_; rintro e w5 ⟨rfl, hb5⟩; have B0c := Aside0.mk (blk_below B0b.out hb5); have B1c := Aside0.mk (blk_below B1b.out hb5); have HBc := Aside0.mk (below_step HBb.out hb5); have c0' : w5.cell? ⟨w.heap.size, 0, none⟩ = some (.slice (some a) l.length c) := (blk_cell B0c.out 0).trans rfl; have zz0 := (blk_cell B1c.out 0).trans rfl; have zz1 := (blk_cell B1c.out 1).trans rfl; have yy0 := blk_frozen B1c.out 0; have yy1 := blk_frozen B1c.out 1; clear c0 z0 z1 y0 y1 hb5))
        have r1 := blk2 B1c.out (.slice (some a) l.length c) (.int .i64 240)
        refine bodyPost_ret (results_cell_row rfl _ _ (w.heap.size + 1) 44 #[.slice (some a) l.length c, .int .i64 240] (0, 0) _ rfl r1 Try.underlying44 rfl (by kernel_rfl)) rfl ?_
        have hb := below2 HBc.out (show w.heap.size ≤ w.heap.size + 1 by omega) (.slice (some a) l.length c) (.int .i64 240)
        have e : splitR l s home = (l, 240) := by unfold splitR; rw [Hp.out, if_pos ⟨rfl, Hs.out⟩, if_neg (by have := Hx.out; omega)]
        rw [e]
        exact ⟨_, rfl, ⟨_, _, rfl, HC.out, Kd.C_below HR.out hb⟩, hb⟩
end Go.Proofs.Ytfmeababiedamaa.V29

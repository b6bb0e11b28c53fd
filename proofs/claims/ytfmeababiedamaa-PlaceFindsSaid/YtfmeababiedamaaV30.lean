/- burgageref24.Join, walked. -/
import Derived.Test.YtfmeababiedamaaV26
import Derived.Test.YtfmeababiedamaaV28
namespace Go.Proofs.Ytfmeababiedamaa.V30
open Go.RowKit Go.Shelf Go.Proofs.YtfmeababiedamaaW.PrintWords Go.Proofs.YtfmeababiedamaaW.PrintLast Go.Proofs.YtfmeababiedamaaW.PrintMore
open Go.Proofs.Ytfmeababiedamaa Go.Proofs.Ytfmeababiedamaa.M Go.Proofs.Ytfmeababiedamaa.Sp Go.Proofs.Ytfmeababiedamaa.E Go.Proofs.Ytfmeababiedamaa.G Go.Proofs.Ytfmeababiedamaa.A Go.Proofs.Ytfmeababiedamaa.T Go.Proofs.Ytfmeababiedamaa.K Go.Proofs.Ytfmeababiedamaa.X Go.Proofs.Ytfmeababiedamaa.V28 Go.Proofs.Ytfmeababiedamaa.V26
set_option linter.unusedVariables false
set_option linter.unusedSimpArgs false
def T9 : Bool × List (List Nat × List Nat) := (true, [([], []), ([0], [0]), ([], []), ([], []), ([3], [3]), ([], []), ([4, 5], [4, 5]), ([6], [6]), ([7], [7]), ([], []), ([9], [9]), ([], []), ([10, 11], [10, 11]), ([12], [12]), ([13], [13]), ([8, 14], [8, 14]), ([15], [15]), ([1, 2, 0, 1, 2, 3, 4, 5, 6, 7, 8, 9, 10, 11, 12, 13, 14, 15, 16], [1, 2]), ([17, 0, 1, 2, 3, 4, 5, 6, 7, 8, 9, 10, 11, 12, 13, 14, 15, 16], [17]), ([18, 16, 0, 1, 2, 3, 4, 5, 6, 7, 8, 9, 10, 11, 12, 13, 14, 15, 16], [16, 18])])
def B9 : List Nat := [0, 1, 0, 0, 8, 0, 56, 120, 248, 0, 512, 0, 3584, 7680, 15872, 32760, 65528, 131071, 262143, 524287]
theorem tab9 : rtab .any (opsOf Try.f30 9) = T9 := by kernel_rfl
theorem bits9 : waitsOk T9.2 B9 = true := by kernel_rfl
attribute [local go_sem] max2_int max_two
def joinR (l : List S32) (s : ByteArray) : List S32 × Int :=
  if isPath (ub s) = true ∧ ¬ s.toList = [] then (if exL l s < 0 then (l, 240) else (joinOn l (exL l s).toNat (idxR (l.eraseIdx (exL l s).toNat) s), 0)) else (l, 10)
set_option maxHeartbeats 16000000 in
set_option maxRecDepth 100000 in
theorem join30 (a : Addr) (c : Nat) (l : List S32) (s : ByteArray) (w : World) (hl : Small l) (h0 : 0 < l.length) (hroot : (rd_T32 l ((0 : Nat) : Int)).f0.toList = []) (hs : s.size ≤ 1000) (hr : Kd.C k32 w (some a) l.length l) (hc : l.length ≤ c) :
    Calls Try.prog 30 #[.agg #[.slice (some a) l.length c], .string s] w fun e w' => ∃ v, e = .returned (.agg #[v, .int .i64 (joinR l s).2]) ∧ MapC w' v (joinR l s).1 ∧ Below w.heap.size w w' := by
  have hu27 := Try.underlying27
  have hu25 := Try.underlying25
  have hu32 := Try.underlying32
  have hu44 := Try.underlying44
  have HR := Aside0.mk hr
  have HC := Aside0.mk hc
  have HB := Aside0.mk (below_alloc (below_alloc (Below.refl w.heap.size w) (.cells #[.slice (some a) l.length c] 27)) (.cells #[.slice none 0 0, .int .i64 0] 44))
  have B0 := Aside0.mk (blk_alloc (blk_new w (.cells #[.slice (some a) l.length c] 27)) (.cells #[.slice none 0 0, .int .i64 0] 44))
  have B1 := Aside0.mk (blk_new (w.alloc (.cells #[.slice (some a) l.length c] 27)) (.cells #[.slice none 0 0, .int .i64 0] 44))
  rw [World.size_alloc] at B1
  have P57 := fun W (hb : Below w.heap.size w W) => exact57 (some a) c l s W hl.1 (Kd.C_below hr hb) hc
  have P41 := path41 s hs
  have hln := hl.1
  have HL := Lib.hid hl
  clear hl hr hc
  obtain ⟨bp, hbp⟩ : ∃ b, isPath (ub s) = b := ⟨_, rfl⟩
  have Hp := Lib.hid hbp
  rw [hbp] at P41
  clear hbp
  cases bp
  · go_enter Try.func30, Try.ntmps30
    go_wp2_with (go_at_call 41; refine (P41 _).mono ?_; rintro e w4 ⟨rfl, hb4⟩; have B0b := Aside0.mk (blk_below B0.out hb4); have B1b := Aside0.mk (blk_below B1.out hb4); have HBb := Aside0.mk (below_step HB.out hb4); have c0 : w4.cell? ⟨w.heap.size, 0, none⟩ = some (.slice (some a) l.length c) := (blk_cell B0b.out 0).trans rfl; have z0 := (blk_cell B1b.out 0).trans rfl; have z1 := (blk_cell B1b.out 1).trans rfl; have y0 := blk_frozen B1b.out 0; have y1 := blk_frozen B1b.out 1; clear hb4)
    have r1 := blk2 B1b.out (.slice (some a) l.length c) (.int .i64 10)
    refine bodyPost_ret (results_cell_row rfl _ _ (w.heap.size + 1) 44 #[.slice (some a) l.length c, .int .i64 10] (0, 0) _ rfl r1 Try.underlying44 rfl (by kernel_rfl)) rfl ?_
    have hb := below2 HBb.out (show w.heap.size ≤ w.heap.size + 1 by omega) (.slice (some a) l.length c) (.int .i64 10)
    have e : joinR l s = (l, 10) := by unfold joinR; rw [Hp.out, if_neg (fun h => absurd h.1 (by decide))]
    rw [e]
    exact ⟨_, rfl, ⟨_, _, rfl, HC.out, Kd.C_below HR.out hb⟩, hb⟩
  · by_cases hse : s.toList = []
    · have hse' : (s.toList == ([] : List UInt8)) = true := by simpa using hse
      have Hs := Lib.hid hse
      clear hse
      go_enter Try.func30, Try.ntmps30
      go_wp2_with (go_at_call 41; refine (P41 _).mono ?_; rintro e w4 ⟨rfl, hb4⟩; have B0b := Aside0.mk (blk_below B0.out hb4); have B1b := Aside0.mk (blk_below B1.out hb4); have HBb := Aside0.mk (below_step HB.out hb4); have c0 : w4.cell? ⟨w.heap.size, 0, none⟩ = some (.slice (some a) l.length c) := (blk_cell B0b.out 0).trans rfl; have z0 := (blk_cell B1b.out 0).trans rfl; have z1 := (blk_cell B1b.out 1).trans rfl; have y0 := blk_frozen B1b.out 0; have y1 := blk_frozen B1b.out 1; clear hb4)
      have r1 := blk2 B1b.out (.slice (some a) l.length c) (.int .i64 10)
      refine bodyPost_ret (results_cell_row rfl _ _ (w.heap.size + 1) 44 #[.slice (some a) l.length c, .int .i64 10] (0, 0) _ rfl r1 Try.underlying44 rfl (by kernel_rfl)) rfl ?_
      have hb := below2 HBb.out (show w.heap.size ≤ w.heap.size + 1 by omega) (.slice (some a) l.length c) (.int .i64 10)
      have e : joinR l s = (l, 10) := by unfold joinR; rw [Hp.out, if_neg (fun h => h.2 Hs.out)]
      rw [e]
      exact ⟨_, rfl, ⟨_, _, rfl, HC.out, Kd.C_below HR.out hb⟩, hb⟩
    · have hse' : (s.toList == ([] : List UInt8)) = false := by simpa using hse
      have Hs := Lib.hid hse
      clear hse
      by_cases hx : exL l s < 0
      · have hx' : decide (exL l s < 0) = true := decide_eq_true hx
        have Hx := Lib.hid hx
        clear hx
        generalize hy : exL l s = y at hx' P57
        clear hy
        go_enter Try.func30, Try.ntmps30
        go_wp2_with (first | (go_at_call 41; refine (P41 _).mono ?_; rintro e w4 ⟨rfl, hb4⟩; have B0b := Aside0.mk (blk_below B0.out hb4); have B1b := Aside0.mk (blk_below B1.out hb4); have HBb := Aside0.mk (below_step HB.out hb4); have c0 : w4.cell? ⟨w.heap.size, 0, none⟩ = some (.slice (some a) l.length c) := (blk_cell B0b.out 0).trans rfl; have z0 := (blk_cell B1b.out 0).trans rfl; have z1 := (blk_cell B1b.out 1).trans rfl; have y0 := blk_frozen B1b.out 0; have y1 := blk_frozen B1b.out 1; clear hb4) | (go_at_call 57; refine (P57 _ HBb.out).mono ?_; rintro e w5 ⟨rfl, hb5⟩; have B0c := Aside0.mk (blk_below B0b.out hb5); have B1c := Aside0.mk (blk_below B1b.out hb5); have HBc := Aside0.mk (below_step HBb.out hb5); have c0' : w5.cell? ⟨w.heap.size, 0, none⟩ = some (.slice (some a) l.length c) := (blk_cell B0c.out 0).trans rfl; have zz0 := (blk_cell B1c.out 0).trans rfl; have zz1 := (blk_cell B1c.out 1).trans rfl; have yy0 := blk_frozen B1c.out 0; have yy1 := blk_frozen B1c.out 1; have c0e : (w5.alloc (.cells #[] 32)).cell? ⟨w.heap.size, 0, none⟩ = some (.slice (some a) l.length c) := (blk_cell (blk_alloc B0c.out _) 0).trans rfl; clear c0 z0 z1 y0 y1 hb5))
        have r1 := blk2 B1c.out (.slice (some a) l.length c) (.int .i64 240)
        refine bodyPost_ret (results_cell_row rfl _ _ (w.heap.size + 1) 44 #[.slice (some a) l.length c, .int .i64 240] (0, 0) _ rfl r1 Try.underlying44 rfl (by kernel_rfl)) rfl ?_
        have hb := below2 HBc.out (show w.heap.size ≤ w.heap.size + 1 by omega) (.slice (some a) l.length c) (.int .i64 240)
        have e : joinR l s = (l, 240) := by unfold joinR; rw [Hp.out, if_pos ⟨rfl, Hs.out⟩, if_pos Hx.out]
        rw [e]
        exact ⟨_, rfl, ⟨_, _, rfl, HC.out, Kd.C_below HR.out hb⟩, hb⟩
      · obtain ⟨i, hi, hy⟩ := exL_range l s hx
        have hx' : decide ((i : Int) < 0) = false := decide_eq_false (by omega)
        have Hx := Lib.hid hx
        have Hy := Lib.hid hy
        have hat := (exL_at l s i hy).2
        rw [hy] at P57
        clear hx hy
        have hi0 : 1 ≤ i := by
          rcases Nat.eq_zero_or_pos i with e | e
          · subst e; rw [hroot] at hat; exact absurd hat.symm Hs.out
          · exact e
        clear hat
        obtain ⟨l1, hl1⟩ : ∃ l1, l.eraseIdx i = l1 := ⟨_, rfl⟩
        have HL1 := Lib.hid hl1
        have HE := Lib.hid (show l.take i ++ l.drop (i + 1) = l1 by rw [← hl1, List.eraseIdx_eq_take_drop_succ])
        have hlen : l1.length = l.length - 1 := by rw [← hl1]; exact List.length_eraseIdx_of_lt hi
        have hsm : Small l1 := ⟨by have := HL.out.1; omega, fun x hx => HL.out.2 x (by rw [← hl1] at hx; exact List.mem_of_mem_eraseIdx hx)⟩
        have h1 : 0 < l1.length := by omega
        have P42 : ∀ (W : World) {g cap base : Nat} {ok : Nat → Prop}, Kd.R k32 32 W base ok (.slice (some ⟨g, 0, none⟩) (l.length - 1) cap) l1 → Calls Try.prog 42 #[.agg #[.slice (some ⟨g, 0, none⟩) (l.length - 1) cap], .string s] W fun e w' => e = .returned (.int .i64 (idxR l1 s : Int)) ∧ Below W.heap.size W w' := fun W {g cap base ok} h => by
          have := index42 (some ⟨g, 0, none⟩) cap l1 s W hsm h1 (Kd.R_reads' h).2.2 (by rw [hlen]; exact (Kd.R_reads' h).2.1)
          rwa [hlen] at this
        have CT : ∀ W, Below w.heap.size w W → Kd.C k32 W (some a) i (l.take i) := fun W hb => by
          have := Kd.C_take (Kd.C_below HR.out hb) (m := i) (by omega)
          rwa [List.length_take, Nat.min_eq_left (by omega)] at this
        have CD : ∀ W, Below w.heap.size w W → ∀ A', A' = (if c = i + 1 then some a else some (a.add ((i + 1) * 4))) → Kd.C k32 W A' (l.length - (i + 1)) (l.drop (i + 1)) := fun W hb A' hA => by
          have := Kd.C_drop (Kd.C_below HR.out hb) (m := i + 1) (by omega) HC.out
          rw [List.length_drop] at this
          rw [hA]
          exact this
        have hk := idxR_lt l1 s h1
        obtain ⟨k, hkL⟩ : ∃ k, idxR l1 s = k := ⟨_, rfl⟩
        rw [hkL] at hk P42
        have HK := Lib.hid hkL
        clear hkL hsm
        have i0 : (0 ≤ (i : Int)) = True := by simp
        have i1 : decide ((i : Int) < (l.length : Int)) = true := decide_eq_true (by omega)
        have i2 : IntKind.i64.wrap ((i : Int) + 1) = (i : Int) + 1 := IntWalk.i64_in _ (by omega)
        have i3 : (0 ≤ (i : Int) + 1) = True := by simp; omega
        have i4 : ((i : Int) + 1).toNat = i + 1 := by omega
        have i5 : i + 1 ≤ l.length := by omega
        have i6 : ((i : Int) + 1 ≤ (l.length : Int)) = True := by simp; omega
        have i7 : i ≤ c := by have := HC.out; omega
        have k0 : (0 ≤ (k : Int)) = True := by simp
        have k2 : k < l.length - 1 := by omega
        have k1 : decide ((k : Int) < ((l.length - 1 : Nat) : Int)) = true := decide_eq_true (by omega)
        have HLEN := Lib.hid hlen
        clear hlen
        by_cases hci : c = i + 1
        · have CD2 : ∀ W, Below w.heap.size w W → Kd.C k32 W (some a) (l.length - (i + 1)) (l.drop (i + 1)) := fun W hb => CD W hb _ (by rw [if_pos hci])
          subst hci
          clear CD
          go_enter Try.func30, Try.ntmps30
          go_wp2_with (first | (go_at_call 41; refine (P41 _).mono ?_; rintro e w4 ⟨rfl, hb4⟩; have B0b := Aside0.mk (blk_below B0.out hb4); have B1b := Aside0.mk (blk_below B1.out hb4); have HBb := Aside0.mk (below_step HB.out hb4); have c0 : w4.cell? ⟨w.heap.size, 0, none⟩ = some (.slice (some a) l.length (i + 1)) := (blk_cell B0b.out 0).trans rfl; have z0 := (blk_cell B1b.out 0).trans rfl; have z1 := (blk_cell B1b.out 1).trans rfl; have y0 := blk_frozen B1b.out 0; have y1 := blk_frozen B1b.out 1; clear hb4) | (go_at_call 57; refine (P57 _ HBb.out).mono ?_; rintro e w5 ⟨rfl, hb5⟩; have B0c := Aside0.mk (blk_below B0b.out hb5); have B1c := Aside0.mk (blk_below B1b.out hb5); have HBc := Aside0.mk (below_step HBb.out hb5); have c0' : w5.cell? ⟨w.heap.size, 0, none⟩ = some (.slice (some a) l.length (i + 1)) := (blk_cell B0c.out 0).trans rfl; have zz0 := (blk_cell B1c.out 0).trans rfl; have zz1 := (blk_cell B1c.out 1).trans rfl; have yy0 := blk_frozen B1c.out 0; have yy1 := blk_frozen B1c.out 1; have c0e : (w5.alloc (.cells #[] 32)).cell? ⟨w.heap.size, 0, none⟩ = some (.slice (some a) l.length (i + 1)) := (blk_cell (blk_alloc B0c.out _) 0).trans rfl; clear c0 z0 z1 y0 y1 hb5) | ((with_reducible refine gate_builtin (b := .append) (xs := #[.tmp 25, .tmp 29]) rfl ?_); at_builtin; refine Kd.R_append_rows k32 (w0 := w) w.heap.size rfl (.tmp 25) (.tmp 29) 25 32 (.agg #[(.string ⟨#[]⟩), (.int .i64 0), (.int .i64 0), (.int .i64 0)]) 40 rfl Try.underlying25 info32 rfl (by decide) (by omega) _ [] (l.take i) _ _ _ (fun _ => True) (fun _ => False) rfl rfl ?aO ?aR (fun _ _ h => h) (fun _ h => h.elim) (fun _ _ => trivial) ?aB ?aS ?aL ?_; (case aO => exact (R_of_block (base := w.heap.size) (l := []) (cap := 0) (ok := fun _ => True) (blk_new w5 (.cells #[] 32)) HBc.out.size trivial (by unfold maxLen; omega) rfl rfl)); (case aR => exact CT _ (below_alloc HBc.out (.cells #[] 32))); (case aB => exact (below_alloc HBc.out (.cells #[] 32))); (case aS => exact below_size (below_alloc HBc.out (.cells #[] 32))); (case aL => (try simp only [List.length_take, List.length_nil]); omega); intro v8 w8 ho hb hgr hat; have dR := Aside0.mk ho; have dB := Aside0.mk hb; have B0d := Aside0.mk (blk_grown (blk_alloc B0c.out (.cells #[] 32)) hgr (Kd.R_ne (R_of_block (base := w.heap.size) (l := []) (cap := 0) (ok := fun _ => True) (blk_new w5 (.cells #[] 32)) HBc.out.size trivial (by unfold maxLen; omega) rfl rfl) (blk_alloc B0c.out (.cells #[] 32)) (by decide))); have B1d := Aside0.mk (blk_grown (blk_alloc B1c.out (.cells #[] 32)) hgr (Kd.R_ne (R_of_block (base := w.heap.size) (l := []) (cap := 0) (ok := fun _ => True) (blk_new w5 (.cells #[] 32)) HBc.out.size trivial (by unfold maxLen; omega) rfl rfl) (blk_alloc B1c.out (.cells #[] 32)) (by decide))); have mc : w8.cell? ⟨w.heap.size, 0, none⟩ = some (.slice (some a) l.length (i + 1)) := (blk_cell B0d.out 0).trans rfl; clear c0' c0e zz0 zz1 yy0 yy1; clear ho hb hgr hat) | ((with_reducible refine gate_builtin (b := .append) (xs := #[.tmp 31, .tmp 36]) rfl ?_); at_builtin; refine Kd.R_append_rows k32 (w0 := w) w.heap.size rfl (.tmp 31) (.tmp 36) 25 32 (.agg #[(.string ⟨#[]⟩), (.int .i64 0), (.int .i64 0), (.int .i64 0)]) 40 rfl Try.underlying25 info32 rfl (by decide) (by omega) v8 (l.take i) (l.drop (i + 1)) _ _ _ (fun _ => True) (fun _ => False) rfl rfl ?aO ?aR (fun _ _ h => h) (fun _ h => h.elim) (fun _ _ => trivial) ?aB ?aS ?aL ?_; (case aO => exact dR.out); (case aR => exact CD2 _ dB.out); (case aB => exact dB.out); (case aS => exact below_size dB.out); (case aL => (try simp only [List.length_take, List.length_nil]); omega); intro v9 w9 ho hb hgr hat; have eR := Aside0.mk ho; have eB := Aside0.mk hb; have B0e := Aside0.mk (blk_grown B0d.out hgr (Kd.R_ne dR.out B0d.out (by decide))); have B1e := Aside0.mk (blk_grown B1d.out hgr (Kd.R_ne dR.out B1d.out (by decide))); rw [HE.out] at ho; obtain ⟨g, cap, cur, hv9, hg, _, hblk, _, _, _, _⟩ := block_of_R ho h1; rw [HLEN.out] at hv9; subst hv9; have fR := Aside0.mk (Kd.R_alloc ho (.cells #[.slice (some ⟨g, 0, none⟩) (l.length - 1) cap] 27)); have GO := Aside0.mk (Nat.ne_of_lt (blk_lt hblk)); have GW := Aside0.mk hg; have GB1 := Aside0.mk (show g ≠ w.heap.size + 1 from fun e => blk_ne hblk B1e.out (by decide) e); have B0f := Aside0.mk (blk_alloc B0e.out (.cells #[.slice (some ⟨g, 0, none⟩) (l.length - 1) cap] 27)); have B1f := Aside0.mk (blk_alloc B1e.out (.cells #[.slice (some ⟨g, 0, none⟩) (l.length - 1) cap] 27)); have BOf := Aside0.mk (blk_new w9 (.cells #[.slice (some ⟨g, 0, none⟩) (l.length - 1) cap] 27)); have fB := Aside0.mk (below_alloc hb (.cells #[.slice (some ⟨g, 0, none⟩) (l.length - 1) cap] 27)); have fO : (w9.alloc (.cells #[.slice (some ⟨g, 0, none⟩) (l.length - 1) cap] 27)).cell? ⟨w9.heap.size, 0, none⟩ = some (.slice (some ⟨g, 0, none⟩) (l.length - 1) cap) := (blk_cell BOf.out 0).trans rfl; clear mc hg hblk; clear ho hb hgr hat) | (go_at_call 42; refine (P42 _ fR.out).mono ?_; rintro e w11 ⟨rfl, hb11⟩; have B0g := Aside0.mk (blk_below B0f.out hb11); have B1g := Aside0.mk (blk_below B1f.out hb11); have BOg := Aside0.mk (blk_below BOf.out hb11); have gB := Aside0.mk (below_step fB.out hb11); have gR := Aside0.mk (Kd.R_below fR.out hb11); clear hb11 fO))
          obtain ⟨⟨u0, u1, u2, u3⟩, uf⟩ := R_cells gR.out k (by rw [HLEN.out]; exact k2)
          have uf3 := uf 3
          obtain ⟨ad, ead, x0, x1, x2, x3⟩ := at_T32 (Kd.C_below HR.out gB.out) (i : Int) (by omega) (by omega)
          cases ead
          simp only [Int.toNat_natCast] at x0 x1 x2 x3
          have m0 : w11.cell? ⟨w.heap.size, 0, none⟩ = some (.slice (some a) l.length (i + 1)) := (blk_cell B0g.out 0).trans rfl
          have dO : w11.cell? ⟨w9.heap.size, 0, none⟩ = some (.slice (some ⟨g, 0, none⟩) (l.length - 1) cap) := (blk_cell BOg.out 0).trans rfl
          refine start_ (n := 20) (S := fun w' => w'.cell? ⟨w9.heap.size, 0, none⟩ = some (.slice (some ⟨g, 0, none⟩) (l.length - 1) cap) ∧ w'.cell? ⟨g, k * 4 + 3, none⟩ = some (.int .i64 (rd_T32 l1 (k : Int)).f3) ∧ w'.cell? ⟨w.heap.size, 0, none⟩ = some (.slice (some a) l.length (i + 1)) ∧ w'.cell? ⟨(a.add (i * 4)).block, (a.add (i * 4)).off + 3, none⟩ = some (.int .i64 (rd_T32 l (i : Int)).f3)) (ds := [19]) #[false, false, false, false, false, false, false, false, false, false, false, false, false, false, false, false, false, false, false, false] (by kernel_rfl) rfl rfl ⟨dO, u3, m0, x3⟩ (fun hHeld => ?_)
          refine with_tabW tab9 bits9 (fun HT_ HW_ => ?_)
          refine pure_ (i := 0) (N := some 42) (v := ?_) (a' := ?_) #[true, false, false, false, false, false, false, false, false, false, false, false, false, false, false, false, false, false, false, false] rfl rfl (any_of HT_.out (by kernel_rfl)) (fun _ _ _ h => h) (Or.inl ⟨by rfl, ?_⟩) ?_ ?_
          rotate_left
          · intro w'
            go_simp
            with_reducible rfl
          rotate_left
          · simp only [Act.put, List.setIfInBounds_toArray, List.set_cons_zero, List.set_cons_succ, i64_w, i32_w]
            rfl
          refine pure_ (i := 2) (N := some 44) (v := ?_) (a' := ?_) #[true, false, true, false, false, false, false, false, false, false, false, false, false, false, false, false, false, false, false, false] rfl rfl (any_of HT_.out (by kernel_rfl)) (fun _ _ _ h => h) (Or.inl ⟨by rfl, ?_⟩) ?_ ?_
          rotate_left
          · intro w'
            go_simp
            with_reducible rfl
          rotate_left
          · simp only [Act.put, List.setIfInBounds_toArray, List.set_cons_zero, List.set_cons_succ, i64_w, i32_w]
            rfl
          refine pure_ (i := 3) (N := some 45) (v := ?_) (a' := ?_) #[true, false, true, true, false, false, false, false, false, false, false, false, false, false, false, false, false, false, false, false] rfl rfl (any_of HT_.out (by kernel_rfl)) (fun _ _ _ h => h) (Or.inl ⟨by rfl, ?_⟩) ?_ ?_
          rotate_left
          · intro w'
            go_simp
            with_reducible rfl
          rotate_left
          · simp only [Act.put, List.setIfInBounds_toArray, List.set_cons_zero, List.set_cons_succ, i64_w, i32_w]
            rfl
          refine pure_ (i := 5) (N := some 47) (v := ?_) (a' := ?_) #[true, false, true, true, false, true, false, false, false, false, false, false, false, false, false, false, false, false, false, false] rfl rfl (any_of HT_.out (by kernel_rfl)) (fun _ _ _ h => h) (Or.inl ⟨by rfl, ?_⟩) ?_ ?_
          rotate_left
          · intro w'
            go_simp
            with_reducible rfl
          rotate_left
          · simp only [Act.put, List.setIfInBounds_toArray, List.set_cons_zero, List.set_cons_succ, i64_w, i32_w]
            rfl
          refine pure_ (i := 9) (N := some 51) (v := ?_) (a' := ?_) #[true, false, true, true, false, true, false, false, false, true, false, false, false, false, false, false, false, false, false, false] rfl rfl (any_of HT_.out (by kernel_rfl)) (fun _ _ _ h => h) (Or.inl ⟨by rfl, ?_⟩) ?_ ?_
          rotate_left
          · intro w'
            go_simp
            with_reducible rfl
          rotate_left
          · simp only [Act.put, List.setIfInBounds_toArray, List.set_cons_zero, List.set_cons_succ, i64_w, i32_w]
            rfl
          refine pure_ (i := 11) (N := some 53) (v := ?_) (a' := ?_) #[true, false, true, true, false, true, false, false, false, true, false, true, false, false, false, false, false, false, false, false] rfl rfl (any_of HT_.out (by kernel_rfl)) (fun _ _ _ h => h) (Or.inl ⟨by rfl, ?_⟩) ?_ ?_
          rotate_left
          · intro w'
            go_simp
            with_reducible rfl
          rotate_left
          · simp only [Act.put, List.setIfInBounds_toArray, List.set_cons_zero, List.set_cons_succ, i64_w, i32_w]
            rfl
          refine take_ (i := 1) (N := some 43) (v := ?_) (a' := ?_) #[true, true, true, true, false, true, false, false, false, true, false, true, false, false, false, false, false, false, false, false] rfl rfl (take_ofW HT_.out HW_.out (by kernel_rfl)) (fun _ _ _ h => h) (Or.inl ⟨by rfl, ?_⟩) hHeld ?_ ?_
          rotate_left
          · rintro w' ⟨s0, s1, s2, s3⟩
            go_simp
            with_reducible rfl
          rotate_left
          · simp only [Act.put, List.setIfInBounds_toArray, List.set_cons_zero, List.set_cons_succ, i64_w, i32_w]
            rfl
          refine take_ (i := 4) (N := some 46) (v := ?_) (a' := ?_) #[true, true, true, true, true, true, false, false, false, true, false, true, false, false, false, false, false, false, false, false] rfl rfl (take_ofW HT_.out HW_.out (by kernel_rfl)) (fun _ _ _ h => h) (Or.inl ⟨by rfl, ?_⟩) hHeld ?_ ?_
          rotate_left
          · rintro w' ⟨s0, s1, s2, s3⟩
            go_simp
            with_reducible rfl
          rotate_left
          · simp only [Act.put, List.setIfInBounds_toArray, List.set_cons_zero, List.set_cons_succ, i64_w, i32_w]
            rfl
          refine pure_ (i := 6) (N := some 48) (v := ?_) (a' := ?_) #[true, true, true, true, true, true, true, false, false, true, false, true, false, false, false, false, false, false, false, false] rfl rfl (any_of HT_.out (by kernel_rfl)) (fun _ _ _ h => h) (Or.inl ⟨by rfl, ?_⟩) ?_ ?_
          rotate_left
          · intro w'
            go_simp
            with_reducible rfl
          rotate_left
          · simp only [Act.put, List.setIfInBounds_toArray, List.set_cons_zero, List.set_cons_succ, i64_w, i32_w]
            rfl
          refine pure_ (i := 7) (N := some 49) (v := ?_) (a' := ?_) #[true, true, true, true, true, true, true, true, false, true, false, true, false, false, false, false, false, false, false, false] rfl rfl (any_of HT_.out (by kernel_rfl)) (fun _ _ _ h => h) (Or.inl ⟨by rfl, ?_⟩) ?_ ?_
          rotate_left
          · intro w'
            go_simp
            with_reducible rfl
          rotate_left
          · simp only [Act.put, List.setIfInBounds_toArray, List.set_cons_zero, List.set_cons_succ, i64_w, i32_w]
            rfl
          refine take_ (i := 8) (N := some 50) (v := ?_) (a' := ?_) #[true, true, true, true, true, true, true, true, true, true, false, true, false, false, false, false, false, false, false, false] rfl rfl (take_ofW HT_.out HW_.out (by kernel_rfl)) (fun _ _ _ h => h) (Or.inl ⟨by rfl, ?_⟩) hHeld ?_ ?_
          rotate_left
          · rintro w' ⟨s0, s1, s2, s3⟩
            go_simp
            with_reducible rfl
          rotate_left
          · simp only [Act.put, List.setIfInBounds_toArray, List.set_cons_zero, List.set_cons_succ, i64_w, i32_w]
            rfl
          refine take_ (i := 10) (N := some 52) (v := ?_) (a' := ?_) #[true, true, true, true, true, true, true, true, true, true, true, true, false, false, false, false, false, false, false, false] rfl rfl (take_ofW HT_.out HW_.out (by kernel_rfl)) (fun _ _ _ h => h) (Or.inl ⟨by rfl, ?_⟩) hHeld ?_ ?_
          rotate_left
          · rintro w' ⟨s0, s1, s2, s3⟩
            go_simp
            with_reducible rfl
          rotate_left
          · simp only [Act.put, List.setIfInBounds_toArray, List.set_cons_zero, List.set_cons_succ, i64_w, i32_w]
            rfl
          refine pure_ (i := 12) (N := some 54) (v := ?_) (a' := ?_) #[true, true, true, true, true, true, true, true, true, true, true, true, true, false, false, false, false, false, false, false] rfl rfl (any_of HT_.out (by kernel_rfl)) (fun _ _ _ h => h) (Or.inl ⟨by rfl, ?_⟩) ?_ ?_
          rotate_left
          · intro w'
            go_simp
            with_reducible rfl
          rotate_left
          · simp only [Act.put, List.setIfInBounds_toArray, List.set_cons_zero, List.set_cons_succ, i64_w, i32_w]
            rfl
          refine pure_ (i := 13) (N := some 55) (v := ?_) (a' := ?_) #[true, true, true, true, true, true, true, true, true, true, true, true, true, true, false, false, false, false, false, false] rfl rfl (any_of HT_.out (by kernel_rfl)) (fun _ _ _ h => h) (Or.inl ⟨by rfl, ?_⟩) ?_ ?_
          rotate_left
          · intro w'
            go_simp
            with_reducible rfl
          rotate_left
          · simp only [Act.put, List.setIfInBounds_toArray, List.set_cons_zero, List.set_cons_succ, i64_w, i32_w]
            rfl
          refine take_ (i := 14) (N := some 56) (v := ?_) (a' := ?_) #[true, true, true, true, true, true, true, true, true, true, true, true, true, true, true, false, false, false, false, false] rfl rfl (take_ofW HT_.out HW_.out (by kernel_rfl)) (fun _ _ _ h => h) (Or.inl ⟨by rfl, ?_⟩) hHeld ?_ ?_
          rotate_left
          · rintro w' ⟨s0, s1, s2, s3⟩
            go_simp
            with_reducible rfl
          rotate_left
          · simp only [Act.put, List.setIfInBounds_toArray, List.set_cons_zero, List.set_cons_succ, i64_w, i32_w]
            rfl
          refine pure_ (i := 15) (N := some 57) (v := ?_) (a' := ?_) #[true, true, true, true, true, true, true, true, true, true, true, true, true, true, true, true, false, false, false, false] rfl rfl (any_of HT_.out (by kernel_rfl)) (fun _ _ _ h => h) (Or.inl ⟨by rfl, ?_⟩) ?_ ?_
          rotate_left
          · intro w'
            go_simp
            with_reducible rfl
          rotate_left
          · simp only [Act.put, List.setIfInBounds_toArray, List.set_cons_zero, List.set_cons_succ, i64_w, i32_w]
            rfl
          refine pure_ (i := 16) (N := some 58) (v := ?_) (a' := ?_) #[true, true, true, true, true, true, true, true, true, true, true, true, true, true, true, true, true, false, false, false] rfl rfl (any_of HT_.out (by kernel_rfl)) (fun _ _ _ h => h) (Or.inl ⟨by rfl, ?_⟩) ?_ ?_
          rotate_left
          · intro w'
            go_simp
            with_reducible rfl
          rotate_left
          · simp only [Act.put, List.setIfInBounds_toArray, List.set_cons_zero, List.set_cons_succ, i64_w, i32_w]
            rfl
          refine pure_ (i := 17) (N := some 59) (v := ?_) (a' := ?_) #[true, true, true, true, true, true, true, true, true, true, true, true, true, true, true, true, true, true, false, false] rfl rfl (any_of HT_.out (by kernel_rfl)) (fun _ _ _ h => h) (Or.inl ⟨by rfl, ?_⟩) ?_ ?_
          rotate_left
          · intro w'
            go_simp
            with_reducible rfl
          rotate_left
          · simp only [Act.put, List.setIfInBounds_toArray, List.set_cons_zero, List.set_cons_succ, i64_w, i32_w]
            rfl
          refine pure_ (i := 18) (N := some 60) (v := ?_) (a' := ?_) #[true, true, true, true, true, true, true, true, true, true, true, true, true, true, true, true, true, true, true, false] rfl rfl (any_of HT_.out (by kernel_rfl)) (fun _ _ _ h => h) (Or.inl ⟨by rfl, ?_⟩) ?_ ?_
          rotate_left
          · intro w'
            go_simp
            with_reducible rfl
          rotate_left
          · simp only [Act.put, List.setIfInBounds_toArray, List.set_cons_zero, List.set_cons_succ, i64_w, i32_w]
            rfl
          refine last_ (i := 19) (N := none) #[true, true, true, true, true, true, true, true, true, true, true, true, true, true, true, true, true, true, true, true] rfl rfl (one_of HT_.out (by kernel_rfl)) (by decide) (fun K hK => ?_)
          refine skip_ (w1 := ?_) (by rfl) rfl ?_ ?_
          rotate_left
          · go_simp
            rfl
          refine hK.out _ _ ?_
          clear hK K
          refine done_ (done_of HT_.out (by kernel_rfl)) ?_
          obtain ⟨hR12, hG12⟩ := R_field2 gR.out k 3 (by rw [HLEN.out]; exact k2) (by decide) (.int .i64 (wrap64 ((if (rd_T32 l1 (k : Int)).f3 < (rd_T32 l (i : Int)).f3 then (rd_T32 l (i : Int)).f3 else (rd_T32 l1 (k : Int)).f3) + 1))) ⟨(rd_T32 l1 (k : Int)).f0, (rd_T32 l1 (k : Int)).f1, (rd_T32 l1 (k : Int)).f2, wrap64 ((if (rd_T32 l1 (k : Int)).f3 < (rd_T32 l (i : Int)).f3 then (rd_T32 l (i : Int)).f3 else (rd_T32 l1 (k : Int)).f3) + 1)⟩ rfl rfl
          have BOh := Aside0.mk (blk_grown BOg.out hG12 (fun e => GO.out (Option.some.inj e).symm))
          have B1h := Aside0.mk (blk_grown B1g.out hG12 (fun e => GB1.out (Option.some.inj e).symm))
          have HBh := Aside0.mk (gB.out.grown hG12 (below_size gB.out) (fun k e => (Option.some.inj e) ▸ GW.out))
          have HR12 := Aside0.mk hR12
          clear hR12 hG12 u0 u1 u2 u3 uf uf3 x0 x1 x2 x3 m0 dO
          generalize (w11.setCell ⟨g, k * 4 + 3, none⟩ (.int .i64 (wrap64 ((if (rd_T32 l1 (k : Int)).f3 < (rd_T32 l (i : Int)).f3 then (rd_T32 l (i : Int)).f3 else (rd_T32 l1 (k : Int)).f3) + 1)))) = w12 at BOh B1h HBh HR12 ⊢
          replace BOh := Aside0.mk (blk_drew BOh.out)
          replace B1h := Aside0.mk (blk_drew B1h.out)
          replace HBh := Aside0.mk (below_drew1 HBh.out)
          replace HR12 := Aside0.mk (Kd.R_drew HR12.out)
          generalize w12.drew = w13 at BOh B1h HBh HR12 ⊢
          have o0 : w13.cell? ⟨w9.heap.size, 0, none⟩ = some (.slice (some ⟨g, 0, none⟩) (l.length - 1) cap) := (blk_cell BOh.out 0).trans rfl
          have o1 := (blk_cell B1h.out 0).trans rfl
          have o2 := (blk_cell B1h.out 1).trans rfl
          have o3 := blk_frozen B1h.out 0
          have o4 := blk_frozen B1h.out 1
          obtain ⟨mm, hmm⟩ : ∃ mm : Int, (if (rd_T32 l1 (k : Int)).f3 < (rd_T32 l (i : Int)).f3 then (rd_T32 l (i : Int)).f3 else (rd_T32 l1 (k : Int)).f3) = mm := ⟨_, rfl⟩
          rw [hmm] at HR12
          simp only [hmm]
          have HM := Lib.hid hmm
          clear hmm
          go_wp2
          have e2 : joinOn l i k = l1.set k ⟨(rd_T32 l1 (k : Int)).f0, (rd_T32 l1 (k : Int)).f1, (rd_T32 l1 (k : Int)).f2, wrap64 (mm + 1)⟩ := by
            unfold joinOn upd; rw [HL1.out, ← HM.out]
          have r1 := blk2 B1h.out (.slice (some ⟨g, 0, none⟩) (l.length - 1) cap) (.int .i64 0)
          refine bodyPost_ret (results_cell_row rfl _ _ (w.heap.size + 1) 44 #[.slice (some ⟨g, 0, none⟩) (l.length - 1) cap, .int .i64 0] (0, 0) _ rfl r1 Try.underlying44 rfl (by kernel_rfl)) rfl ?_
          have hb := below2 HBh.out (show w.heap.size ≤ w.heap.size + 1 by omega) (.slice (some ⟨g, 0, none⟩) (l.length - 1) cap) (.int .i64 0)
          have e : joinR l s = (l1.set k ⟨(rd_T32 l1 (k : Int)).f0, (rd_T32 l1 (k : Int)).f1, (rd_T32 l1 (k : Int)).f2, wrap64 (mm + 1)⟩, 0) := by unfold joinR; rw [Hp.out, if_pos ⟨rfl, Hs.out⟩, if_neg (by have := Hx.out; omega), Hy.out, Int.toNat_natCast, HL1.out, HK.out, e2]
          rw [e]
          exact ⟨_, rfl, MapC.of_R (Kd.R_far (p := ⟨w.heap.size + 1, 1, none⟩) (Kd.R_far (p := ⟨w.heap.size + 1, 0, none⟩) (Kd.R_types HR12.out B1h.out (by decide)) (fun k hk => hk.2) _) (fun k hk => hk.2) _), hb⟩
        · have CD2 : ∀ W, Below w.heap.size w W → Kd.C k32 W (some (a.add ((i + 1) * 4))) (l.length - (i + 1)) (l.drop (i + 1)) := fun W hb => CD W hb _ (by rw [if_neg hci])
          clear CD
          go_enter Try.func30, Try.ntmps30
          go_wp2_with (first | (go_at_call 41; refine (P41 _).mono ?_; rintro e w4 ⟨rfl, hb4⟩; have B0b := Aside0.mk (blk_below B0.out hb4); have B1b := Aside0.mk (blk_below B1.out hb4); have HBb := Aside0.mk (below_step HB.out hb4); have c0 : w4.cell? ⟨w.heap.size, 0, none⟩ = some (.slice (some a) l.length c) := (blk_cell B0b.out 0).trans rfl; have z0 := (blk_cell B1b.out 0).trans rfl; have z1 := (blk_cell B1b.out 1).trans rfl; have y0 := blk_frozen B1b.out 0; have y1 := blk_frozen B1b.out 1; clear hb4) | (go_at_call 57; refine (P57 _ HBb.out).mono ?_; rintro e w5 ⟨rfl, hb5⟩; have B0c := Aside0.mk (blk_below B0b.out hb5); have B1c := Aside0.mk (blk_below B1b.out hb5); have HBc := Aside0.mk (below_step HBb.out hb5); have c0' : w5.cell? ⟨w.heap.size, 0, none⟩ = some (.slice (some a) l.length c) := (blk_cell B0c.out 0).trans rfl; have zz0 := (blk_cell B1c.out 0).trans rfl; have zz1 := (blk_cell B1c.out 1).trans rfl; have yy0 := blk_frozen B1c.out 0; have yy1 := blk_frozen B1c.out 1; have c0e : (w5.alloc (.cells #[] 32)).cell? ⟨w.heap.size, 0, none⟩ = some (.slice (some a) l.length c) := (blk_cell (blk_alloc B0c.out _) 0).trans rfl; clear c0 z0 z1 y0 y1 hb5) | ((with_reducible refine gate_builtin (b := .append) (xs := #[.tmp 25, .tmp 29]) rfl ?_); at_builtin; refine Kd.R_append_rows k32 (w0 := w) w.heap.size rfl (.tmp 25) (.tmp 29) 25 32 (.agg #[(.string ⟨#[]⟩), (.int .i64 0), (.int .i64 0), (.int .i64 0)]) 40 rfl Try.underlying25 info32 rfl (by decide) (by omega) _ [] (l.take i) _ _ _ (fun _ => True) (fun _ => False) rfl rfl ?aO ?aR (fun _ _ h => h) (fun _ h => h.elim) (fun _ _ => trivial) ?aB ?aS ?aL ?_; (case aO => exact (R_of_block (base := w.heap.size) (l := []) (cap := 0) (ok := fun _ => True) (blk_new w5 (.cells #[] 32)) HBc.out.size trivial (by unfold maxLen; omega) rfl rfl)); (case aR => exact CT _ (below_alloc HBc.out (.cells #[] 32))); (case aB => exact (below_alloc HBc.out (.cells #[] 32))); (case aS => exact below_size (below_alloc HBc.out (.cells #[] 32))); (case aL => (try simp only [List.length_take, List.length_nil]); omega); intro v8 w8 ho hb hgr hat; have dR := Aside0.mk ho; have dB := Aside0.mk hb; have B0d := Aside0.mk (blk_grown (blk_alloc B0c.out (.cells #[] 32)) hgr (Kd.R_ne (R_of_block (base := w.heap.size) (l := []) (cap := 0) (ok := fun _ => True) (blk_new w5 (.cells #[] 32)) HBc.out.size trivial (by unfold maxLen; omega) rfl rfl) (blk_alloc B0c.out (.cells #[] 32)) (by decide))); have B1d := Aside0.mk (blk_grown (blk_alloc B1c.out (.cells #[] 32)) hgr (Kd.R_ne (R_of_block (base := w.heap.size) (l := []) (cap := 0) (ok := fun _ => True) (blk_new w5 (.cells #[] 32)) HBc.out.size trivial (by unfold maxLen; omega) rfl rfl) (blk_alloc B1c.out (.cells #[] 32)) (by decide))); have mc : w8.cell? ⟨w.heap.size, 0, none⟩ = some (.slice (some a) l.length c) := (blk_cell B0d.out 0).trans rfl; clear c0' c0e zz0 zz1 yy0 yy1; clear ho hb hgr hat) | ((with_reducible refine gate_builtin (b := .append) (xs := #[.tmp 31, .tmp 36]) rfl ?_); at_builtin; refine Kd.R_append_rows k32 (w0 := w) w.heap.size rfl (.tmp 31) (.tmp 36) 25 32 (.agg #[(.string ⟨#[]⟩), (.int .i64 0), (.int .i64 0), (.int .i64 0)]) 40 rfl Try.underlying25 info32 rfl (by decide) (by omega) v8 (l.take i) (l.drop (i + 1)) _ _ _ (fun _ => True) (fun _ => False) rfl rfl ?aO ?aR (fun _ _ h => h) (fun _ h => h.elim) (fun _ _ => trivial) ?aB ?aS ?aL ?_; (case aO => exact dR.out); (case aR => exact CD2 _ dB.out); (case aB => exact dB.out); (case aS => exact below_size dB.out); (case aL => (try simp only [List.length_take, List.length_nil]); omega); intro v9 w9 ho hb hgr hat; have eR := Aside0.mk ho; have eB := Aside0.mk hb; have B0e := Aside0.mk (blk_grown B0d.out hgr (Kd.R_ne dR.out B0d.out (by decide))); have B1e := Aside0.mk (blk_grown B1d.out hgr (Kd.R_ne dR.out B1d.out (by decide))); rw [HE.out] at ho; obtain ⟨g, cap, cur, hv9, hg, _, hblk, _, _, _, _⟩ := block_of_R ho h1; rw [HLEN.out] at hv9; subst hv9; have fR := Aside0.mk (Kd.R_alloc ho (.cells #[.slice (some ⟨g, 0, none⟩) (l.length - 1) cap] 27)); have GO := Aside0.mk (Nat.ne_of_lt (blk_lt hblk)); have GW := Aside0.mk hg; have GB1 := Aside0.mk (show g ≠ w.heap.size + 1 from fun e => blk_ne hblk B1e.out (by decide) e); have B0f := Aside0.mk (blk_alloc B0e.out (.cells #[.slice (some ⟨g, 0, none⟩) (l.length - 1) cap] 27)); have B1f := Aside0.mk (blk_alloc B1e.out (.cells #[.slice (some ⟨g, 0, none⟩) (l.length - 1) cap] 27)); have BOf := Aside0.mk (blk_new w9 (.cells #[.slice (some ⟨g, 0, none⟩) (l.length - 1) cap] 27)); have fB := Aside0.mk (below_alloc hb (.cells #[.slice (some ⟨g, 0, none⟩) (l.length - 1) cap] 27)); have fO : (w9.alloc (.cells #[.slice (some ⟨g, 0, none⟩) (l.length - 1) cap] 27)).cell? ⟨w9.heap.size, 0, none⟩ = some (.slice (some ⟨g, 0, none⟩) (l.length - 1) cap) := (blk_cell BOf.out 0).trans rfl; clear mc hg hblk; clear ho hb hgr hat) | (go_at_call 42; refine (P42 _ fR.out).mono ?_; rintro e w11 ⟨rfl, hb11⟩; have B0g := Aside0.mk (blk_below B0f.out hb11); have B1g := Aside0.mk (blk_below B1f.out hb11); have BOg := Aside0.mk (blk_below BOf.out hb11); have gB := Aside0.mk (below_step fB.out hb11); have gR := Aside0.mk (Kd.R_below fR.out hb11); clear hb11 fO))
          obtain ⟨⟨u0, u1, u2, u3⟩, uf⟩ := R_cells gR.out k (by rw [HLEN.out]; exact k2)
          have uf3 := uf 3
          obtain ⟨ad, ead, x0, x1, x2, x3⟩ := at_T32 (Kd.C_below HR.out gB.out) (i : Int) (by omega) (by omega)
          cases ead
          simp only [Int.toNat_natCast] at x0 x1 x2 x3
          have m0 : w11.cell? ⟨w.heap.size, 0, none⟩ = some (.slice (some a) l.length c) := (blk_cell B0g.out 0).trans rfl
          have dO : w11.cell? ⟨w9.heap.size, 0, none⟩ = some (.slice (some ⟨g, 0, none⟩) (l.length - 1) cap) := (blk_cell BOg.out 0).trans rfl
          refine start_ (n := 20) (S := fun w' => w'.cell? ⟨w9.heap.size, 0, none⟩ = some (.slice (some ⟨g, 0, none⟩) (l.length - 1) cap) ∧ w'.cell? ⟨g, k * 4 + 3, none⟩ = some (.int .i64 (rd_T32 l1 (k : Int)).f3) ∧ w'.cell? ⟨w.heap.size, 0, none⟩ = some (.slice (some a) l.length c) ∧ w'.cell? ⟨(a.add (i * 4)).block, (a.add (i * 4)).off + 3, none⟩ = some (.int .i64 (rd_T32 l (i : Int)).f3)) (ds := [19]) #[false, false, false, false, false, false, false, false, false, false, false, false, false, false, false, false, false, false, false, false] (by kernel_rfl) rfl rfl ⟨dO, u3, m0, x3⟩ (fun hHeld => ?_)
          refine with_tabW tab9 bits9 (fun HT_ HW_ => ?_)
          refine pure_ (i := 0) (N := some 42) (v := ?_) (a' := ?_) #[true, false, false, false, false, false, false, false, false, false, false, false, false, false, false, false, false, false, false, false] rfl rfl (any_of HT_.out (by kernel_rfl)) (fun _ _ _ h => h) (Or.inl ⟨by rfl, ?_⟩) ?_ ?_
          rotate_left
          · intro w'
            go_simp
            with_reducible rfl
          rotate_left
          · simp only [Act.put, List.setIfInBounds_toArray, List.set_cons_zero, List.set_cons_succ, i64_w, i32_w]
            rfl
          refine pure_ (i := 2) (N := some 44) (v := ?_) (a' := ?_) #[true, false, true, false, false, false, false, false, false, false, false, false, false, false, false, false, false, false, false, false] rfl rfl (any_of HT_.out (by kernel_rfl)) (fun _ _ _ h => h) (Or.inl ⟨by rfl, ?_⟩) ?_ ?_
          rotate_left
          · intro w'
            go_simp
            with_reducible rfl
          rotate_left
          · simp only [Act.put, List.setIfInBounds_toArray, List.set_cons_zero, List.set_cons_succ, i64_w, i32_w]
            rfl
          refine pure_ (i := 3) (N := some 45) (v := ?_) (a' := ?_) #[true, false, true, true, false, false, false, false, false, false, false, false, false, false, false, false, false, false, false, false] rfl rfl (any_of HT_.out (by kernel_rfl)) (fun _ _ _ h => h) (Or.inl ⟨by rfl, ?_⟩) ?_ ?_
          rotate_left
          · intro w'
            go_simp
            with_reducible rfl
          rotate_left
          · simp only [Act.put, List.setIfInBounds_toArray, List.set_cons_zero, List.set_cons_succ, i64_w, i32_w]
            rfl
          refine pure_ (i := 5) (N := some 47) (v := ?_) (a' := ?_) #[true, false, true, true, false, true, false, false, false, false, false, false, false, false, false, false, false, false, false, false] rfl rfl (any_of HT_.out (by kernel_rfl)) (fun _ _ _ h => h) (Or.inl ⟨by rfl, ?_⟩) ?_ ?_
          rotate_left
          · intro w'
            go_simp
            with_reducible rfl
          rotate_left
          · simp only [Act.put, List.setIfInBounds_toArray, List.set_cons_zero, List.set_cons_succ, i64_w, i32_w]
            rfl
          refine pure_ (i := 9) (N := some 51) (v := ?_) (a' := ?_) #[true, false, true, true, false, true, false, false, false, true, false, false, false, false, false, false, false, false, false, false] rfl rfl (any_of HT_.out (by kernel_rfl)) (fun _ _ _ h => h) (Or.inl ⟨by rfl, ?_⟩) ?_ ?_
          rotate_left
          · intro w'
            go_simp
            with_reducible rfl
          rotate_left
          · simp only [Act.put, List.setIfInBounds_toArray, List.set_cons_zero, List.set_cons_succ, i64_w, i32_w]
            rfl
          refine pure_ (i := 11) (N := some 53) (v := ?_) (a' := ?_) #[true, false, true, true, false, true, false, false, false, true, false, true, false, false, false, false, false, false, false, false] rfl rfl (any_of HT_.out (by kernel_rfl)) (fun _ _ _ h => h) (Or.inl ⟨by rfl, ?_⟩) ?_ ?_
          rotate_left
          · intro w'
            go_simp
            with_reducible rfl
          rotate_left
          · simp only [Act.put, List.setIfInBounds_toArray, List.set_cons_zero, List.set_cons_succ, i64_w, i32_w]
            rfl
          refine take_ (i := 1) (N := some 43) (v := ?_) (a' := ?_) #[true, true, true, true, false, true, false, false, false, true, false, true, false, false, false, false, false, false, false, false] rfl rfl (take_ofW HT_.out HW_.out (by kernel_rfl)) (fun _ _ _ h => h) (Or.inl ⟨by rfl, ?_⟩) hHeld ?_ ?_
          rotate_left
          · rintro w' ⟨s0, s1, s2, s3⟩
            go_simp
            with_reducible rfl
          rotate_left
          · simp only [Act.put, List.setIfInBounds_toArray, List.set_cons_zero, List.set_cons_succ, i64_w, i32_w]
            rfl
          refine take_ (i := 4) (N := some 46) (v := ?_) (a' := ?_) #[true, true, true, true, true, true, false, false, false, true, false, true, false, false, false, false, false, false, false, false] rfl rfl (take_ofW HT_.out HW_.out (by kernel_rfl)) (fun _ _ _ h => h) (Or.inl ⟨by rfl, ?_⟩) hHeld ?_ ?_
          rotate_left
          · rintro w' ⟨s0, s1, s2, s3⟩
            go_simp
            with_reducible rfl
          rotate_left
          · simp only [Act.put, List.setIfInBounds_toArray, List.set_cons_zero, List.set_cons_succ, i64_w, i32_w]
            rfl
          refine pure_ (i := 6) (N := some 48) (v := ?_) (a' := ?_) #[true, true, true, true, true, true, true, false, false, true, false, true, false, false, false, false, false, false, false, false] rfl rfl (any_of HT_.out (by kernel_rfl)) (fun _ _ _ h => h) (Or.inl ⟨by rfl, ?_⟩) ?_ ?_
          rotate_left
          · intro w'
            go_simp
            with_reducible rfl
          rotate_left
          · simp only [Act.put, List.setIfInBounds_toArray, List.set_cons_zero, List.set_cons_succ, i64_w, i32_w]
            rfl
          refine pure_ (i := 7) (N := some 49) (v := ?_) (a' := ?_) #[true, true, true, true, true, true, true, true, false, true, false, true, false, false, false, false, false, false, false, false] rfl rfl (any_of HT_.out (by kernel_rfl)) (fun _ _ _ h => h) (Or.inl ⟨by rfl, ?_⟩) ?_ ?_
          rotate_left
          · intro w'
            go_simp
            with_reducible rfl
          rotate_left
          · simp only [Act.put, List.setIfInBounds_toArray, List.set_cons_zero, List.set_cons_succ, i64_w, i32_w]
            rfl
          refine take_ (i := 8) (N := some 50) (v := ?_) (a' := ?_) #[true, true, true, true, true, true, true, true, true, true, false, true, false, false, false, false, false, false, false, false] rfl rfl (take_ofW HT_.out HW_.out (by kernel_rfl)) (fun _ _ _ h => h) (Or.inl ⟨by rfl, ?_⟩) hHeld ?_ ?_
          rotate_left
          · rintro w' ⟨s0, s1, s2, s3⟩
            go_simp
            with_reducible rfl
          rotate_left
          · simp only [Act.put, List.setIfInBounds_toArray, List.set_cons_zero, List.set_cons_succ, i64_w, i32_w]
            rfl
          refine take_ (i := 10) (N := some 52) (v := ?_) (a' := ?_) #[true, true, true, true, true, true, true, true, true, true, true, true, false, false, false, false, false, false, false, false] rfl rfl (take_ofW HT_.out HW_.out (by kernel_rfl)) (fun _ _ _ h => h) (Or.inl ⟨by rfl, ?_⟩) hHeld ?_ ?_
          rotate_left
          · rintro w' ⟨s0, s1, s2, s3⟩
            go_simp
            with_reducible rfl
          rotate_left
          · simp only [Act.put, List.setIfInBounds_toArray, List.set_cons_zero, List.set_cons_succ, i64_w, i32_w]
            rfl
          refine pure_ (i := 12) (N := some 54) (v := ?_) (a' := ?_) #[true, true, true, true, true, true, true, true, true, true, true, true, true, false, false, false, false, false, false, false] rfl rfl (any_of HT_.out (by kernel_rfl)) (fun _ _ _ h => h) (Or.inl ⟨by rfl, ?_⟩) ?_ ?_
          rotate_left
          · intro w'
            go_simp
            with_reducible rfl
          rotate_left
          · simp only [Act.put, List.setIfInBounds_toArray, List.set_cons_zero, List.set_cons_succ, i64_w, i32_w]
            rfl
          refine pure_ (i := 13) (N := some 55) (v := ?_) (a' := ?_) #[true, true, true, true, true, true, true, true, true, true, true, true, true, true, false, false, false, false, false, false] rfl rfl (any_of HT_.out (by kernel_rfl)) (fun _ _ _ h => h) (Or.inl ⟨by rfl, ?_⟩) ?_ ?_
          rotate_left
          · intro w'
            go_simp
            with_reducible rfl
          rotate_left
          · simp only [Act.put, List.setIfInBounds_toArray, List.set_cons_zero, List.set_cons_succ, i64_w, i32_w]
            rfl
          refine take_ (i := 14) (N := some 56) (v := ?_) (a' := ?_) #[true, true, true, true, true, true, true, true, true, true, true, true, true, true, true, false, false, false, false, false] rfl rfl (take_ofW HT_.out HW_.out (by kernel_rfl)) (fun _ _ _ h => h) (Or.inl ⟨by rfl, ?_⟩) hHeld ?_ ?_
          rotate_left
          · rintro w' ⟨s0, s1, s2, s3⟩
            go_simp
            with_reducible rfl
          rotate_left
          · simp only [Act.put, List.setIfInBounds_toArray, List.set_cons_zero, List.set_cons_succ, i64_w, i32_w]
            rfl
          refine pure_ (i := 15) (N := some 57) (v := ?_) (a' := ?_) #[true, true, true, true, true, true, true, true, true, true, true, true, true, true, true, true, false, false, false, false] rfl rfl (any_of HT_.out (by kernel_rfl)) (fun _ _ _ h => h) (Or.inl ⟨by rfl, ?_⟩) ?_ ?_
          rotate_left
          · intro w'
            go_simp
            with_reducible rfl
          rotate_left
          · simp only [Act.put, List.setIfInBounds_toArray, List.set_cons_zero, List.set_cons_succ, i64_w, i32_w]
            rfl
          refine pure_ (i := 16) (N := some 58) (v := ?_) (a' := ?_) #[true, true, true, true, true, true, true, true, true, true, true, true, true, true, true, true, true, false, false, false] rfl rfl (any_of HT_.out (by kernel_rfl)) (fun _ _ _ h => h) (Or.inl ⟨by rfl, ?_⟩) ?_ ?_
          rotate_left
          · intro w'
            go_simp
            with_reducible rfl
          rotate_left
          · simp only [Act.put, List.setIfInBounds_toArray, List.set_cons_zero, List.set_cons_succ, i64_w, i32_w]
            rfl
          refine pure_ (i := 17) (N := some 59) (v := ?_) (a' := ?_) #[true, true, true, true, true, true, true, true, true, true, true, true, true, true, true, true, true, true, false, false] rfl rfl (any_of HT_.out (by kernel_rfl)) (fun _ _ _ h => h) (Or.inl ⟨by rfl, ?_⟩) ?_ ?_
          rotate_left
          · intro w'
            go_simp
            with_reducible rfl
          rotate_left
          · simp only [Act.put, List.setIfInBounds_toArray, List.set_cons_zero, List.set_cons_succ, i64_w, i32_w]
            rfl
          refine pure_ (i := 18) (N := some 60) (v := ?_) (a' := ?_) #[true, true, true, true, true, true, true, true, true, true, true, true, true, true, true, true, true, true, true, false] rfl rfl (any_of HT_.out (by kernel_rfl)) (fun _ _ _ h => h) (Or.inl ⟨by rfl, ?_⟩) ?_ ?_
          rotate_left
          · intro w'
            go_simp
            with_reducible rfl
          rotate_left
          · simp only [Act.put, List.setIfInBounds_toArray, List.set_cons_zero, List.set_cons_succ, i64_w, i32_w]
            rfl
          refine last_ (i := 19) (N := none) #[true, true, true, true, true, true, true, true, true, true, true, true, true, true, true, true, true, true, true, true] rfl rfl (one_of HT_.out (by kernel_rfl)) (by decide) (fun K hK => ?_)
          refine skip_ (w1 := ?_) (by rfl) rfl ?_ ?_
          rotate_left
          · go_simp
            rfl
          refine hK.out _ _ ?_
          clear hK K
          refine done_ (done_of HT_.out (by kernel_rfl)) ?_
          obtain ⟨hR12, hG12⟩ := R_field2 gR.out k 3 (by rw [HLEN.out]; exact k2) (by decide) (.int .i64 (wrap64 ((if (rd_T32 l1 (k : Int)).f3 < (rd_T32 l (i : Int)).f3 then (rd_T32 l (i : Int)).f3 else (rd_T32 l1 (k : Int)).f3) + 1))) ⟨(rd_T32 l1 (k : Int)).f0, (rd_T32 l1 (k : Int)).f1, (rd_T32 l1 (k : Int)).f2, wrap64 ((if (rd_T32 l1 (k : Int)).f3 < (rd_T32 l (i : Int)).f3 then (rd_T32 l (i : Int)).f3 else (rd_T32 l1 (k : Int)).f3) + 1)⟩ rfl rfl
          have BOh := Aside0.mk (blk_grown BOg.out hG12 (fun e => GO.out (Option.some.inj e).symm))
          have B1h := Aside0.mk (blk_grown B1g.out hG12 (fun e => GB1.out (Option.some.inj e).symm))
          have HBh := Aside0.mk (gB.out.grown hG12 (below_size gB.out) (fun k e => (Option.some.inj e) ▸ GW.out))
          have HR12 := Aside0.mk hR12
          clear hR12 hG12 u0 u1 u2 u3 uf uf3 x0 x1 x2 x3 m0 dO
          generalize (w11.setCell ⟨g, k * 4 + 3, none⟩ (.int .i64 (wrap64 ((if (rd_T32 l1 (k : Int)).f3 < (rd_T32 l (i : Int)).f3 then (rd_T32 l (i : Int)).f3 else (rd_T32 l1 (k : Int)).f3) + 1)))) = w12 at BOh B1h HBh HR12 ⊢
          replace BOh := Aside0.mk (blk_drew BOh.out)
          replace B1h := Aside0.mk (blk_drew B1h.out)
          replace HBh := Aside0.mk (below_drew1 HBh.out)
          replace HR12 := Aside0.mk (Kd.R_drew HR12.out)
          generalize w12.drew = w13 at BOh B1h HBh HR12 ⊢
          have o0 : w13.cell? ⟨w9.heap.size, 0, none⟩ = some (.slice (some ⟨g, 0, none⟩) (l.length - 1) cap) := (blk_cell BOh.out 0).trans rfl
          have o1 := (blk_cell B1h.out 0).trans rfl
          have o2 := (blk_cell B1h.out 1).trans rfl
          have o3 := blk_frozen B1h.out 0
          have o4 := blk_frozen B1h.out 1
          obtain ⟨mm, hmm⟩ : ∃ mm : Int, (if (rd_T32 l1 (k : Int)).f3 < (rd_T32 l (i : Int)).f3 then (rd_T32 l (i : Int)).f3 else (rd_T32 l1 (k : Int)).f3) = mm := ⟨_, rfl⟩
          rw [hmm] at HR12
          simp only [hmm]
          have HM := Lib.hid hmm
          clear hmm
          go_wp2
          have e2 : joinOn l i k = l1.set k ⟨(rd_T32 l1 (k : Int)).f0, (rd_T32 l1 (k : Int)).f1, (rd_T32 l1 (k : Int)).f2, wrap64 (mm + 1)⟩ := by
            unfold joinOn upd; rw [HL1.out, ← HM.out]
          have r1 := blk2 B1h.out (.slice (some ⟨g, 0, none⟩) (l.length - 1) cap) (.int .i64 0)
          refine bodyPost_ret (results_cell_row rfl _ _ (w.heap.size + 1) 44 #[.slice (some ⟨g, 0, none⟩) (l.length - 1) cap, .int .i64 0] (0, 0) _ rfl r1 Try.underlying44 rfl (by kernel_rfl)) rfl ?_
          have hb := below2 HBh.out (show w.heap.size ≤ w.heap.size + 1 by omega) (.slice (some ⟨g, 0, none⟩) (l.length - 1) cap) (.int .i64 0)
          have e : joinR l s = (l1.set k ⟨(rd_T32 l1 (k : Int)).f0, (rd_T32 l1 (k : Int)).f1, (rd_T32 l1 (k : Int)).f2, wrap64 (mm + 1)⟩, 0) := by unfold joinR; rw [Hp.out, if_pos ⟨rfl, Hs.out⟩, if_neg (by have := Hx.out; omega), Hy.out, Int.toNat_natCast, HL1.out, HK.out, e2]
          rw [e]
          exact ⟨_, rfl, MapC.of_R (Kd.R_far (p := ⟨w.heap.size + 1, 1, none⟩) (Kd.R_far (p := ⟨w.heap.size + 1, 0, none⟩) (Kd.R_types HR12.out B1h.out (by decide)) (fun k hk => hk.2) _) (fun k hk => hk.2) _), hb⟩
end Go.Proofs.Ytfmeababiedamaa.V30

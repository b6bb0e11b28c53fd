/- NameCopies, walked. -/
import Derived.Test.YtpahemgofhpfnaaDoorPC
import Derived.OpenShut
namespace Go.Proofs.YtpahemgofhpfnaaDoor.V8
open Go.RowKit Go.Shelf Go.Proofs.YtpahemgofhpfnaaDoorW.PrintWords Go.Proofs.YtpahemgofhpfnaaDoorW.PrintLast Go.Proofs.YtpahemgofhpfnaaDoorW.PrintMore
open Go.Proofs.YtpahemgofhpfnaaDoor Go.Proofs.YtpahemgofhpfnaaDoor.D Go.Proofs.YtpahemgofhpfnaaDoor.E Go.Proofs.YtpahemgofhpfnaaDoor.F Go.Proofs.YtpahemgofhpfnaaDoor.Sp Go.Proofs.YtpahemgofhpfnaaDoor.K Go.Proofs.YtpahemgofhpfnaaDoor.H Go.Proofs.YtpahemgofhpfnaaDoor.L Go.Proofs.YtpahemgofhpfnaaDoor.P
set_option linter.unusedVariables false
set_option linter.unusedSimpArgs false
def T4 : Bool × List (List Nat × List Nat) := (true, [([], []), ([], []), ([1], [1]), ([], []), ([3], [3]), ([4], [4]), ([0, 2, 5], [0, 2, 5]), ([], []), ([], []), ([8], [8]), ([], []), ([10], [10]), ([11], [11]), ([7, 9, 12, 6], [7, 9, 12]), ([6, 13, 0, 1, 2, 3, 4, 5, 6], [6]), ([13, 14, 0, 1, 2, 3, 4, 5, 6, 7, 8, 9, 10, 11, 12, 13, 14], [13])])
def B4 : List Nat := [0, 0, 2, 0, 8, 24, 63, 0, 0, 256, 0, 1024, 3072, 8191, 16383, 32767]
theorem tab4 : rtab .any (opsOf Tryd.f8 4) = T4 := by kernel_rfl
theorem bits4 : waitsOk T4.2 B4 = true := by kernel_rfl

set_option maxHeartbeats 20000000 in
set_option maxRecDepth 100000 in
theorem copies8 (n t0 t1 : ByteArray) (k0 k1 : Int) (h0 : 0 ≤ k0 ∧ k0 ≤ 255) (h1 : 0 ≤ k1 ∧ k1 ≤ 255) (w : World) :
    Calls Tryd.prog 8 #[.string n, .agg #[.string t0, .string t1], .agg #[.int .u8 k0, .int .u8 k1]] w fun e w' => e = .returned (.bool true) ∧ Below w.heap.size w w' := by
  have wk0 : wrap64 k0 = k0 := w64 (by omega) (by omega)
  have wk1 : wrap64 k1 = k1 := w64 (by omega) (by omega)
  have law := PC.copies n t0 t1 k0 k1
  have C0 := fun w => copy28 n t0 k0 w
  have C1 := fun w => copy28 n t1 k1 w
  have D0 := fun w => copy29 n t0 k0 w
  have D1 := fun w => copy29 n t1 k1 w
  generalize copyB n t1 k1 = b at law C1 D1
  generalize copyB n t0 k0 = a at law C0 D0
  have CA := fun w => copy28 a t0 k0 w
  generalize copyB a t0 k0 = c at law CA
  have VA := fun w => valid13 a w
  have VB := fun w => valid13 b w
  have VC := fun w => valid13 c w
  have E0 := fun w => (show Calls Tryd.prog 28 #[.string n, .string t0, .int .i64 (wrap64 k0)] w fun e w' => e = .returned (.string a) ∧ Below w.heap.size w w' from by rw [wk0]; exact C0 w)
  have E1 := fun w => (show Calls Tryd.prog 28 #[.string n, .string t1, .int .i64 (wrap64 k1)] w fun e w' => e = .returned (.string b) ∧ Below w.heap.size w w' from by rw [wk1]; exact C1 w)
  clear C0 C1
  have LAW := Lib.hid law
  clear law
  have hu48 := Tryd.underlying48
  have hu51 := Tryd.underlying51
  go_enter Tryd.func8, Tryd.ntmps8
  go_wp2_with fail
  refine (sanity11 _).mono ?_
  rintro e w1 ⟨rfl, hb1⟩
  have gs := hb1.size
  have HB := Aside0.mk (below_step (below_alloc (below_alloc (Below.refl _ _) _) _) hb1)
  have c0 := pw_cell_below hb1 ((blk_cell (blk_alloc (blk_new w (.cells #[.string t0, .string t1] 48)) (.cells #[.int .u8 k0, .int .u8 k1] 51)) 0).trans rfl)
  have c1 := pw_cell_below hb1 ((blk_cell (blk_alloc (blk_new w (.cells #[.string t0, .string t1] 48)) (.cells #[.int .u8 k0, .int .u8 k1] 51)) 1).trans rfl)
  have c2 := pw_cell_below hb1 ((blk_cell (blk_new (w.alloc (.cells #[.string t0, .string t1] 48)) (.cells #[.int .u8 k0, .int .u8 k1] 51)) 0).trans rfl)
  have c3 := pw_cell_below hb1 ((blk_cell (blk_new (w.alloc (.cells #[.string t0, .string t1] 48)) (.cells #[.int .u8 k0, .int .u8 k1] 51)) 1).trans rfl)
  rw [World.size_alloc] at c2 c3
  clear hb1 gs
  by_cases z0 : (20 : Int) < (n.size : Int)
  · have y0 : decide ((20 : Int) < (n.size : Int)) = true := decide_eq_true z0
    go_wp2
    go_ret
    exact ⟨rfl, HB.out⟩
  have y0 : decide ((20 : Int) < (n.size : Int)) = false := decide_eq_false z0
  by_cases z1 : (20 : Int) < (t0.size : Int)
  · have y1 : decide ((20 : Int) < (t0.size : Int)) = true := decide_eq_true z1
    go_wp2
    go_ret
    exact ⟨rfl, HB.out⟩
  have y1 : decide ((20 : Int) < (t0.size : Int)) = false := decide_eq_false z1
  by_cases z2 : (20 : Int) < (t1.size : Int)
  · have y2 : decide ((20 : Int) < (t1.size : Int)) = true := decide_eq_true z2
    go_wp2
    go_ret
    exact ⟨rfl, HB.out⟩
  have y2 : decide ((20 : Int) < (t1.size : Int)) = false := decide_eq_false z2
  clear z0 z1 z2
  go_wp2
  have HBd := Aside0.mk (below_drew1 HB.out)
  clear HB
  skip
  refine start_ (n := 16) (S := fun w' => w'.cell? ⟨w.heap.size, 0, none⟩ = some (.string t0) ∧ w'.cell? ⟨w.heap.size, 1, none⟩ = some (.string t1) ∧ w'.cell? ⟨w.heap.size + 1, 0, none⟩ = some (.int .u8 k0) ∧ w'.cell? ⟨w.heap.size + 1, 1, none⟩ = some (.int .u8 k1)) (ds := []) #[false, false, false, false, false, false, false, false, false, false, false, false, false, false, false, false] (by kernel_rfl) rfl rfl ⟨c0, c1, c2, c3⟩ (fun hHeld => ?_)
  refine with_tabW tab4 bits4 (fun HT_ HW_ => ?_)
  refine pure_ (i := 0) (N := some 28) (v := ?_) (a' := ?_) #[true, false, false, false, false, false, false, false, false, false, false, false, false, false, false, false] rfl rfl (any_of HT_.out (by kernel_rfl)) (fun _ _ _ h => h) (Or.inl ⟨by rfl, ?_⟩) ?_ ?_
  rotate_left
  · intro w'
    go_simp
    with_reducible rfl
  rotate_left
  · simp only [Act.put, List.setIfInBounds_toArray, List.set_cons_zero, List.set_cons_succ, i64_w, i32_w]
    rfl
  refine pure_ (i := 1) (N := some 29) (v := ?_) (a' := ?_) #[true, true, false, false, false, false, false, false, false, false, false, false, false, false, false, false] rfl rfl (any_of HT_.out (by kernel_rfl)) (fun _ _ _ h => h) (Or.inl ⟨by rfl, ?_⟩) ?_ ?_
  rotate_left
  · intro w'
    go_simp
    with_reducible rfl
  rotate_left
  · simp only [Act.put, List.setIfInBounds_toArray, List.set_cons_zero, List.set_cons_succ, i64_w, i32_w]
    rfl
  refine pure_ (i := 3) (N := some 31) (v := ?_) (a' := ?_) #[true, true, false, true, false, false, false, false, false, false, false, false, false, false, false, false] rfl rfl (any_of HT_.out (by kernel_rfl)) (fun _ _ _ h => h) (Or.inl ⟨by rfl, ?_⟩) ?_ ?_
  rotate_left
  · intro w'
    go_simp
    with_reducible rfl
  rotate_left
  · simp only [Act.put, List.setIfInBounds_toArray, List.set_cons_zero, List.set_cons_succ, i64_w, i32_w]
    rfl
  refine pure_ (i := 7) (N := some 35) (v := ?_) (a' := ?_) #[true, true, false, true, false, false, false, true, false, false, false, false, false, false, false, false] rfl rfl (any_of HT_.out (by kernel_rfl)) (fun _ _ _ h => h) (Or.inl ⟨by rfl, ?_⟩) ?_ ?_
  rotate_left
  · intro w'
    go_simp
    with_reducible rfl
  rotate_left
  · simp only [Act.put, List.setIfInBounds_toArray, List.set_cons_zero, List.set_cons_succ, i64_w, i32_w]
    rfl
  refine pure_ (i := 8) (N := some 36) (v := ?_) (a' := ?_) #[true, true, false, true, false, false, false, true, true, false, false, false, false, false, false, false] rfl rfl (any_of HT_.out (by kernel_rfl)) (fun _ _ _ h => h) (Or.inl ⟨by rfl, ?_⟩) ?_ ?_
  rotate_left
  · intro w'
    go_simp
    with_reducible rfl
  rotate_left
  · simp only [Act.put, List.setIfInBounds_toArray, List.set_cons_zero, List.set_cons_succ, i64_w, i32_w]
    rfl
  refine pure_ (i := 10) (N := some 38) (v := ?_) (a' := ?_) #[true, true, false, true, false, false, false, true, true, false, true, false, false, false, false, false] rfl rfl (any_of HT_.out (by kernel_rfl)) (fun _ _ _ h => h) (Or.inl ⟨by rfl, ?_⟩) ?_ ?_
  rotate_left
  · intro w'
    go_simp
    with_reducible rfl
  rotate_left
  · simp only [Act.put, List.setIfInBounds_toArray, List.set_cons_zero, List.set_cons_succ, i64_w, i32_w]
    rfl
  refine take_ (i := 2) (N := some 30) (v := ?_) (a' := ?_) #[true, true, true, true, false, false, false, true, true, false, true, false, false, false, false, false] rfl rfl (take_ofW HT_.out HW_.out (by kernel_rfl)) (fun _ _ _ h => h) (Or.inl ⟨by rfl, ?_⟩) hHeld ?_ ?_
  rotate_left
  · rintro w' ⟨s0, s1, s2, s3⟩
    go_simp
    with_reducible rfl
  rotate_left
  · simp only [Act.put, List.setIfInBounds_toArray, List.set_cons_zero, List.set_cons_succ, i64_w, i32_w]
    rfl
  refine take_ (i := 4) (N := some 32) (v := ?_) (a' := ?_) #[true, true, true, true, true, false, false, true, true, false, true, false, false, false, false, false] rfl rfl (take_ofW HT_.out HW_.out (by kernel_rfl)) (fun _ _ _ h => h) (Or.inl ⟨by rfl, ?_⟩) hHeld ?_ ?_
  rotate_left
  · rintro w' ⟨s0, s1, s2, s3⟩
    go_simp
    with_reducible rfl
  rotate_left
  · simp only [Act.put, List.setIfInBounds_toArray, List.set_cons_zero, List.set_cons_succ, i64_w, i32_w]
    rfl
  refine pure_ (i := 5) (N := some 33) (v := ?_) (a' := ?_) #[true, true, true, true, true, true, false, true, true, false, true, false, false, false, false, false] rfl rfl (any_of HT_.out (by kernel_rfl)) (fun _ _ _ h => h) (Or.inl ⟨by rfl, ?_⟩) ?_ ?_
  rotate_left
  · intro w'
    go_simp
    with_reducible rfl
  rotate_left
  · simp only [Act.put, List.setIfInBounds_toArray, List.set_cons_zero, List.set_cons_succ, i64_w, i32_w]
    rfl
  refine take_ (i := 9) (N := some 37) (v := ?_) (a' := ?_) #[true, true, true, true, true, true, false, true, true, true, true, false, false, false, false, false] rfl rfl (take_ofW HT_.out HW_.out (by kernel_rfl)) (fun _ _ _ h => h) (Or.inl ⟨by rfl, ?_⟩) hHeld ?_ ?_
  rotate_left
  · rintro w' ⟨s0, s1, s2, s3⟩
    go_simp
    with_reducible rfl
  rotate_left
  · simp only [Act.put, List.setIfInBounds_toArray, List.set_cons_zero, List.set_cons_succ, i64_w, i32_w]
    rfl
  refine take_ (i := 11) (N := some 39) (v := ?_) (a' := ?_) #[true, true, true, true, true, true, false, true, true, true, true, true, false, false, false, false] rfl rfl (take_ofW HT_.out HW_.out (by kernel_rfl)) (fun _ _ _ h => h) (Or.inl ⟨by rfl, ?_⟩) hHeld ?_ ?_
  rotate_left
  · rintro w' ⟨s0, s1, s2, s3⟩
    go_simp
    with_reducible rfl
  rotate_left
  · simp only [Act.put, List.setIfInBounds_toArray, List.set_cons_zero, List.set_cons_succ, i64_w, i32_w]
    rfl
  refine pure_ (i := 12) (N := some 40) (v := ?_) (a' := ?_) #[true, true, true, true, true, true, false, true, true, true, true, true, true, false, false, false] rfl rfl (any_of HT_.out (by kernel_rfl)) (fun _ _ _ h => h) (Or.inl ⟨by rfl, ?_⟩) ?_ ?_
  rotate_left
  · intro w'
    go_simp
    with_reducible rfl
  rotate_left
  · simp only [Act.put, List.setIfInBounds_toArray, List.set_cons_zero, List.set_cons_succ, i64_w, i32_w]
    rfl
  refine one_ (i := 6) (N := some 34) #[true, true, true, true, true, true, true, true, true, true, true, true, true, false, false, false] rfl rfl (one_of HT_.out (by kernel_rfl)) (by decide) (fun K hK => ?_)
  refine goes_ Tryd.func28 (by kernel_rfl) rfl #[.string n, .string t0, .int .i64 (wrap64 k0)] (by rfl) rfl rfl (by (try simp only [List.map_toArray, List.map_cons, List.map_nil]); first | done | rfl) ?_
  refine (E0 _).mono ?_
  rintro e w6 ⟨rfl, hb6⟩
  refine ⟨_, rfl, ?_⟩
  have HB6 := Aside0.mk (below_step HBd.out hb6)
  have d6_0 := pw_cell_below hb6 c0
  have d6_1 := pw_cell_below hb6 c1
  have d6_2 := pw_cell_below hb6 c2
  have d6_3 := pw_cell_below hb6 c3
  clear hb6
  refine hK.out _ _ ⟨d6_0, d6_1, d6_2, d6_3⟩ (fun hHeld => ?_)
  clear hK K
  refine norm_ (a' := ?_) ?_ ?_
  rotate_left
  · show Act.put _ (some 34) _ = _
    simp only [Act.put, List.setIfInBounds_toArray, List.set_cons_zero, List.set_cons_succ, i64_w, i32_w]
    rfl
  refine one_ (i := 13) (N := some 41) #[true, true, true, true, true, true, true, true, true, true, true, true, true, true, false, false] rfl rfl (one_of HT_.out (by kernel_rfl)) (by decide) (fun K hK => ?_)
  refine goes_ Tryd.func28 (by kernel_rfl) rfl #[.string n, .string t1, .int .i64 (wrap64 k1)] (by rfl) rfl rfl (by (try simp only [List.map_toArray, List.map_cons, List.map_nil]); first | done | rfl) ?_
  refine (E1 _).mono ?_
  rintro e w13 ⟨rfl, hb13⟩
  refine ⟨_, rfl, ?_⟩
  have HB13 := Aside0.mk (below_step HB6.out hb13)
  have d13_0 := pw_cell_below hb13 d6_0
  have d13_1 := pw_cell_below hb13 d6_1
  have d13_2 := pw_cell_below hb13 d6_2
  have d13_3 := pw_cell_below hb13 d6_3
  clear hb13
  clear d6_0 d6_1 d6_2 d6_3
  refine hK.out _ _ ⟨d13_0, d13_1, d13_2, d13_3⟩ (fun hHeld => ?_)
  clear hK K
  refine norm_ (a' := ?_) ?_ ?_
  rotate_left
  · show Act.put _ (some 41) _ = _
    simp only [Act.put, List.setIfInBounds_toArray, List.set_cons_zero, List.set_cons_succ, i64_w, i32_w]
    rfl
  refine pure_ (i := 14) (N := some 8) (v := ?_) (a' := ?_) #[true, true, true, true, true, true, true, true, true, true, true, true, true, true, true, false] rfl rfl (any_of HT_.out (by kernel_rfl)) (fun _ _ _ h => h) (Or.inl ⟨by rfl, ?_⟩) ?_ ?_
  rotate_left
  · intro w'
    go_simp
    with_reducible rfl
  rotate_left
  · simp only [Act.put, List.setIfInBounds_toArray, List.set_cons_zero, List.set_cons_succ, i64_w, i32_w]
    rfl
  refine pure_ (i := 15) (N := some 9) (v := ?_) (a' := ?_) #[true, true, true, true, true, true, true, true, true, true, true, true, true, true, true, true] rfl rfl (any_of HT_.out (by kernel_rfl)) (fun _ _ _ h => h) (Or.inl ⟨by rfl, ?_⟩) ?_ ?_
  rotate_left
  · intro w'
    go_simp
    with_reducible rfl
  rotate_left
  · simp only [Act.put, List.setIfInBounds_toArray, List.set_cons_zero, List.set_cons_succ, i64_w, i32_w]
    rfl
  refine done_ (done_of HT_.out (by kernel_rfl)) ?_
  by_cases ea : a.toList = ([] : List UInt8)
  · skip
    have ea1 : (a.toList == ([] : List UInt8)) = true := beq_iff_eq.mpr ea
    have ea2 : decide (a.toList = ([] : List UInt8)) = true := decide_eq_true ea
    by_cases eb : b.toList = ([] : List UInt8)
    · skip
      have eb1 : (b.toList == ([] : List UInt8)) = true := beq_iff_eq.mpr eb
      have eb2 : decide (b.toList = ([] : List UInt8)) = true := decide_eq_true eb
      go_wp2_with fail
      refine (D0 _).mono ?_
      rintro e x1 ⟨rfl, hx1⟩
      have G1 := Aside0.mk (below_step HB13.out hx1)
      replace d13_0 := pw_cell_below hx1 d13_0
      replace d13_1 := pw_cell_below hx1 d13_1
      replace d13_2 := pw_cell_below hx1 d13_2
      replace d13_3 := pw_cell_below hx1 d13_3
      clear hx1
      go_wp2_with fail
      refine (D1 _).mono ?_
      rintro e x2 ⟨rfl, hx2⟩
      have G2 := Aside0.mk (below_step G1.out hx2)
      replace d13_0 := pw_cell_below hx2 d13_0
      replace d13_1 := pw_cell_below hx2 d13_1
      replace d13_2 := pw_cell_below hx2 d13_2
      replace d13_3 := pw_cell_below hx2 d13_3
      clear hx2
      go_wp2
      go_ret
      exact ⟨rfl, G2.out⟩
    · skip
      have eb1 : (b.toList == ([] : List UInt8)) = false := beq_eq_false_iff_ne.mpr eb
      have eb2 : decide (b.toList = ([] : List UInt8)) = false := decide_eq_false eb
      go_wp2_with fail
      refine (D0 _).mono ?_
      rintro e x1 ⟨rfl, hx1⟩
      have G1 := Aside0.mk (below_step HB13.out hx1)
      replace d13_0 := pw_cell_below hx1 d13_0
      replace d13_1 := pw_cell_below hx1 d13_1
      replace d13_2 := pw_cell_below hx1 d13_2
      replace d13_3 := pw_cell_below hx1 d13_3
      clear hx1
      go_wp2_with fail
      refine (D1 _).mono ?_
      rintro e x2 ⟨rfl, hx2⟩
      have G2 := Aside0.mk (below_step G1.out hx2)
      replace d13_0 := pw_cell_below hx2 d13_0
      replace d13_1 := pw_cell_below hx2 d13_1
      replace d13_2 := pw_cell_below hx2 d13_2
      replace d13_3 := pw_cell_below hx2 d13_3
      clear hx2
      go_wp2
      go_ret
      exact ⟨rfl, G2.out⟩
  · skip
    have ea1 : (a.toList == ([] : List UInt8)) = false := beq_eq_false_iff_ne.mpr ea
    have ea2 : decide (a.toList = ([] : List UInt8)) = false := decide_eq_false ea
    by_cases eb : b.toList = ([] : List UInt8)
    · skip
      have eb1 : (b.toList == ([] : List UInt8)) = true := beq_iff_eq.mpr eb
      have eb2 : decide (b.toList = ([] : List UInt8)) = true := decide_eq_true eb
      go_wp2_with fail
      refine (D0 _).mono ?_
      rintro e x1 ⟨rfl, hx1⟩
      have G1 := Aside0.mk (below_step HB13.out hx1)
      replace d13_0 := pw_cell_below hx1 d13_0
      replace d13_1 := pw_cell_below hx1 d13_1
      replace d13_2 := pw_cell_below hx1 d13_2
      replace d13_3 := pw_cell_below hx1 d13_3
      clear hx1
      go_wp2_with fail
      refine (D1 _).mono ?_
      rintro e x2 ⟨rfl, hx2⟩
      have G2 := Aside0.mk (below_step G1.out hx2)
      replace d13_0 := pw_cell_below hx2 d13_0
      replace d13_1 := pw_cell_below hx2 d13_1
      replace d13_2 := pw_cell_below hx2 d13_2
      replace d13_3 := pw_cell_below hx2 d13_3
      clear hx2
      go_wp2
      go_ret
      exact ⟨rfl, G2.out⟩
    · skip
      have eb1 : (b.toList == ([] : List UInt8)) = false := beq_eq_false_iff_ne.mpr eb
      have eb2 : decide (b.toList = ([] : List UInt8)) = false := decide_eq_false eb
      obtain ⟨va, vb, heq, vc, hlong⟩ := LAW.out (by rw [← tl]; exact ea) (by rw [← tl]; exact eb)
      rw [va] at VA
      rw [vb] at VB
      rw [vc] at VC
      have HL := Lib.hid hlong
      have HQ := Lib.hid heq
      clear hlong heq va vb vc LAW D0 D1
      have hz0 : t0.size ≤ 20 := by have := of_decide_eq_false y1; omega
      by_cases et : t0.toList = t1.toList
      · skip
        have et1 : (t0.toList == t1.toList) = true := beq_iff_eq.mpr et
        have et2 : decide (t0.toList = t1.toList) = true := decide_eq_true et
        obtain ⟨eb2, hek⟩ : ∃ e, e = (k0 == k1) := ⟨_, rfl⟩
        have heb : (a.toList == b.toList) = eb2 := by
          rw [hek, Bool.eq_iff_iff, beq_iff_eq, beq_iff_eq]
          exact ⟨fun h => (HQ.out.1 (ub_inj (by rw [← tl, ← tl]; exact h))).2, fun h => by rw [HQ.out.2 ⟨ub_inj (by rw [← tl, ← tl]; exact et), h⟩]⟩
        replace hek := hek.symm
        go_wp2_with fail
        refine (VA _).mono ?_
        rintro e x1 ⟨rfl, ⟨⟨ndx1, rfl⟩⟩⟩
        have G1 := Aside0.mk (pw_below_drewN HB13.out ndx1)
        go_wp2_with fail
        refine (VB _).mono ?_
        rintro e x2 ⟨rfl, ⟨⟨ndx2, rfl⟩⟩⟩
        have G2 := Aside0.mk (pw_below_drewN G1.out ndx2)
        have G2 := Aside0.mk (pw_below_drewN HB13.out (ndx1 + ndx2))
        go_wp2_with fail
        refine (CA _).mono ?_
        rintro e x3 ⟨rfl, hx3⟩
        have G3 := Aside0.mk (below_step G2.out hx3)
        replace d13_0 := pw_cell_below hx3 d13_0
        replace d13_1 := pw_cell_below hx3 d13_1
        replace d13_2 := pw_cell_below hx3 d13_2
        replace d13_3 := pw_cell_below hx3 d13_3
        clear hx3
        by_cases en : a.toList = n.toList
        · skip
          have en1 : (a.toList == n.toList) = true := beq_iff_eq.mpr en
          have en2 : decide (a.toList = n.toList) = true := decide_eq_true en
          have el : decide ((t0.size : Int) + 3 ≤ (n.size : Int)) = true := decide_eq_true (by have := HL.out (ub_inj (by rw [← tl, ← tl]; exact en)); omega)
          have ws : wrap64 ((t0.size : Int) + 3) = (t0.size : Int) + 3 := w64 (by omega) (by omega)
          go_wp2_with fail
          refine (VC _).mono ?_
          rintro e x4 ⟨rfl, ⟨⟨ndx4, rfl⟩⟩⟩
          have G4 := Aside0.mk (pw_below_drewN G3.out ndx4)
          go_wp2
          go_ret
          exact ⟨rfl, G4.out⟩
        · skip
          have en1 : (a.toList == n.toList) = false := beq_eq_false_iff_ne.mpr en
          have en2 : decide (a.toList = n.toList) = false := decide_eq_false en
          go_wp2_with fail
          refine (VC _).mono ?_
          rintro e x4 ⟨rfl, ⟨⟨ndx4, rfl⟩⟩⟩
          have G4 := Aside0.mk (pw_below_drewN G3.out ndx4)
          go_wp2
          go_ret
          exact ⟨rfl, G4.out⟩
      · skip
        have et1 : (t0.toList == t1.toList) = false := beq_eq_false_iff_ne.mpr et
        have et2 : decide (t0.toList = t1.toList) = false := decide_eq_false et
        have eab : ¬ a.toList = b.toList := fun h => et (by rw [(HQ.out.1 (ub_inj (by rw [← tl, ← tl]; exact h))).1])
        have eab1 : (a.toList == b.toList) = false := beq_eq_false_iff_ne.mpr eab
        have eab2 : decide (a.toList = b.toList) = false := decide_eq_false eab
        go_wp2_with fail
        refine (VA _).mono ?_
        rintro e x1 ⟨rfl, ⟨⟨ndx1, rfl⟩⟩⟩
        have G1 := Aside0.mk (pw_below_drewN HB13.out ndx1)
        go_wp2_with fail
        refine (VB _).mono ?_
        rintro e x2 ⟨rfl, ⟨⟨ndx2, rfl⟩⟩⟩
        have G2 := Aside0.mk (pw_below_drewN G1.out ndx2)
        have G2 := Aside0.mk (pw_below_drewN HB13.out (ndx1 + ndx2))
        go_wp2_with fail
        refine (CA _).mono ?_
        rintro e x3 ⟨rfl, hx3⟩
        have G3 := Aside0.mk (below_step G2.out hx3)
        replace d13_0 := pw_cell_below hx3 d13_0
        replace d13_1 := pw_cell_below hx3 d13_1
        replace d13_2 := pw_cell_below hx3 d13_2
        replace d13_3 := pw_cell_below hx3 d13_3
        clear hx3
        by_cases en : a.toList = n.toList
        · skip
          have en1 : (a.toList == n.toList) = true := beq_iff_eq.mpr en
          have en2 : decide (a.toList = n.toList) = true := decide_eq_true en
          have el : decide ((t0.size : Int) + 3 ≤ (n.size : Int)) = true := decide_eq_true (by have := HL.out (ub_inj (by rw [← tl, ← tl]; exact en)); omega)
          have ws : wrap64 ((t0.size : Int) + 3) = (t0.size : Int) + 3 := w64 (by omega) (by omega)
          go_wp2_with fail
          refine (VC _).mono ?_
          rintro e x4 ⟨rfl, ⟨⟨ndx4, rfl⟩⟩⟩
          have G4 := Aside0.mk (pw_below_drewN G3.out ndx4)
          go_wp2
          go_ret
          exact ⟨rfl, G4.out⟩
        · skip
          have en1 : (a.toList == n.toList) = false := beq_eq_false_iff_ne.mpr en
          have en2 : decide (a.toList = n.toList) = false := decide_eq_false en
          go_wp2_with fail
          refine (VC _).mono ?_
          rintro e x4 ⟨rfl, ⟨⟨ndx4, rfl⟩⟩⟩
          have G4 := Aside0.mk (pw_below_drewN G3.out ndx4)
          go_wp2
          go_ret
          exact ⟨rfl, G4.out⟩
/-- a row of n cells, opened -/
theorem open_row {H : Type} {enc : TypeId × Value → H} {P : Program} {w : World} {b0 base : Nat} {sp : Nat → Bool} {held : Bool} {t e : TypeId} {m : Nat} {v : Value} {d : DataW H} {p : List MemPlace} (ht : P.underlying t = some (.array m e)) (hC : P.cellsOf t = m) (hce : P.cellsOf e = 1)
    (hv : Value.okWide P w .any b0 t v) (hd : DataW.Trod enc P w base sp held t v d p) :
    ∃ cs : Array Value, v = .agg cs ∧ cs.size = m ∧ ∀ (i : Nat) (c : Value), cs[i]? = some c → ∃ f x, DataW.trod enc P w base sp held f e [c] = some x := by
  unfold Value.okWide at hv
  rw [ht] at hv
  obtain ⟨cs, rfl, hs, _⟩ := hv
  obtain ⟨fuel, hf⟩ := hd
  obtain ⟨xs, k, _, _, hl, hx, hr⟩ := DataW.trod_array ht hf
  refine ⟨cs, rfl, hs.trans hC, fun i c hc => ?_⟩
  have hi : i < m := by have := (Array.getElem?_eq_some_iff.1 hc).1; omega
  have := hr i hi
  rw [hce] at this
  have e1 : ((cs.toList.drop (i * 1)).take 1) = [c] := by
    rw [Nat.mul_one]
    have hi2 : i < cs.toList.length := by rw [Array.length_toList]; omega
    rw [List.drop_eq_getElem_cons hi2]
    have : cs.toList[i] = c := by
      have h3 := (Array.getElem?_eq_some_iff.1 hc).2
      simpa using h3
    rw [this]; rfl
  simp only [Value.cells] at this
  rw [e1] at this
  exact ⟨k, xs[i]'(by omega), by rw [this]; exact List.getElem?_eq_getElem (by omega)⟩
theorem open_row_int {H : Type} {enc : TypeId × Value → H} {P : Program} {w : World} {b0 base : Nat} {sp : Nat → Bool} {held : Bool} {t e : TypeId} {m : Nat} {kd : IntKind} {v : Value} {d : DataW H} {p : List MemPlace} (ht : P.underlying t = some (.array m e)) (hC : P.cellsOf t = m) (hce : P.cellsOf e = 1) (he : P.underlying e = some (.int kd))
    (hv : Value.okWide P w .any b0 t v) (hd : DataW.Trod enc P w base sp held t v d p) :
    ∃ cs : Array Value, v = .agg cs ∧ cs.size = m ∧ ∀ (i : Nat), i < m → ∃ n, cs[i]? = some (.int kd n) ∧ (Lit.int kd n).wf = true := by
  obtain ⟨cs, h1, h2, h3⟩ := open_row ht hC hce hv hd
  refine ⟨cs, h1, h2, fun i hi => ?_⟩
  obtain ⟨f, x, hx⟩ := h3 i cs[i] (Array.getElem?_eq_getElem (by omega))
  obtain ⟨n, hn, _, hw⟩ := DataW.trod_int he hx
  have : cs[i] = .int kd n := by simpa using hn
  exact ⟨n, by rw [Array.getElem?_eq_getElem (by omega), this], hw⟩
theorem open_row_str {H : Type} {enc : TypeId × Value → H} {P : Program} {w : World} {b0 base : Nat} {sp : Nat → Bool} {held : Bool} {t e : TypeId} {m : Nat} {v : Value} {d : DataW H} {p : List MemPlace} (ht : P.underlying t = some (.array m e)) (hC : P.cellsOf t = m) (hce : P.cellsOf e = 1) (he : P.underlying e = some .string)
    (hv : Value.okWide P w .any b0 t v) (hd : DataW.Trod enc P w base sp held t v d p) :
    ∃ cs : Array Value, v = .agg cs ∧ cs.size = m ∧ ∀ (i : Nat), i < m → ∃ s, cs[i]? = some (.string s) := by
  obtain ⟨cs, h1, h2, h3⟩ := open_row ht hC hce hv hd
  refine ⟨cs, h1, h2, fun i hi => ?_⟩
  obtain ⟨f, x, hx⟩ := h3 i cs[i] (Array.getElem?_eq_getElem (by omega))
  obtain ⟨s, hn, _⟩ := DataW.trod_string he hx
  have : cs[i] = .string s := by simpa using hn
  exact ⟨s, by rw [Array.getElem?_eq_getElem (by omega), this]⟩
theorem two_cells {cs : Array Value} {a b : Value} (h : cs.size = 2) (h0 : cs[0]? = some a) (h1 : cs[1]? = some b) : cs = #[a, b] := by
  apply Array.ext_getElem?
  intro i
  rcases (by omega : i = 0 ∨ i = 1 ∨ 2 ≤ i) with rfl | rfl | hi
  · rw [h0]; rfl
  · rw [h1]; rfl
  · rw [Array.getElem?_eq_none (by omega), Array.getElem?_eq_none (by simpa using hi)]
theorem walk8 {H : Type} {enc : TypeId × Value → H} {b1 b2 q1 q2 : Nat} {s1 s2 : Nat → Bool} {g1 g2 : Bool} {d1 d2 : DataW H} {p1 p2 : List MemPlace} (n : ByteArray) (v1 v2 : Value) (w : World) (z0 : n.size ≤ 140737488351232)
    (o1 : Value.okWide Tryd.prog w .any b1 48 v1) (r1 : DataW.Trod enc Tryd.prog w q1 s1 g1 48 v1 d1 p1) (o2 : Value.okWide Tryd.prog w .any b2 51 v2) (r2 : DataW.Trod enc Tryd.prog w q2 s2 g2 51 v2 d2 p2) :
    Calls Tryd.prog 8 #[.string n, v1, v2] w fun e w' => e = .returned (.bool true) ∧ Below w.heap.size w w' := by
  obtain ⟨cs1, rfl, e1, f1⟩ := open_row_str Tryd.underlying48 (by kernel_rfl) (by kernel_rfl) Tryd.underlying9 o1 r1
  obtain ⟨t0, e10⟩ := f1 0 (by omega)
  obtain ⟨t1, e11⟩ := f1 1 (by omega)
  obtain rfl := two_cells e1 e10 e11
  obtain ⟨cs2, rfl, e2, f2⟩ := open_row_int Tryd.underlying51 (by kernel_rfl) (by kernel_rfl) Tryd.underlying5 o2 r2
  obtain ⟨k0, e20, w0⟩ := f2 0 (by omega)
  obtain ⟨k1, e21, w1⟩ := f2 1 (by omega)
  obtain rfl := two_cells e2 e20 e21
  simp [Lit.wf, IntKind.min, IntKind.max, IntKind.signed, IntKind.bits] at w0 w1
  exact copies8 n t0 t1 k0 k1 w0 w1 w
end Go.Proofs.YtpahemgofhpfnaaDoor.V8

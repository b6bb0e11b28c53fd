/- NameMatchesReference, walked. -/
import Derived.Test.YtpahemgofhpfnaaDoorV8
namespace Go.Proofs.YtpahemgofhpfnaaDoor.V3
open Go.RowKit Go.Shelf Go.Proofs.YtpahemgofhpfnaaDoorW.PrintWords Go.Proofs.YtpahemgofhpfnaaDoorW.PrintLast Go.Proofs.YtpahemgofhpfnaaDoorW.PrintMore
open Go.Proofs.YtpahemgofhpfnaaDoor Go.Proofs.YtpahemgofhpfnaaDoor.D Go.Proofs.YtpahemgofhpfnaaDoor.E Go.Proofs.YtpahemgofhpfnaaDoor.F Go.Proofs.YtpahemgofhpfnaaDoor.Sp Go.Proofs.YtpahemgofhpfnaaDoor.K Go.Proofs.YtpahemgofhpfnaaDoor.H Go.Proofs.YtpahemgofhpfnaaDoor.L Go.Proofs.YtpahemgofhpfnaaDoor.P
set_option linter.unusedVariables false
set_option linter.unusedSimpArgs false
def T4 : Bool × List (List Nat × List Nat) := (true, [([], []), ([0], [0]), ([], []), ([2], [2]), ([], []), ([4], [4]), ([], []), ([6], [6]), ([1, 3, 5, 7], [1, 3, 5, 7]), ([], []), ([9, 8, 7, 0, 1, 2, 3, 4, 5, 6, 7, 8, 9], [8, 9])])
def B4 : List Nat := [0, 1, 0, 4, 0, 16, 0, 64, 255, 0, 1023]
theorem tab4 : rtab .any (opsOf Tryd.f3 4) = T4 := by kernel_rfl
theorem bits4 : waitsOk T4.2 B4 = true := by kernel_rfl
def T8 : Bool × List (List Nat × List Nat) := (true, [([], []), ([0], [0]), ([1], [1]), ([], []), ([3], [3]), ([4], [4]), ([5], [5]), ([6], [6]), ([2, 0, 1, 2], [2]), ([7, 8, 0, 1, 2, 3, 4, 5, 6, 7, 8], [7])])
def B8 : List Nat := [0, 1, 3, 0, 8, 24, 56, 120, 7, 511]
theorem tab8 : rtab .any (opsOf Tryd.f3 8) = T8 := by kernel_rfl
theorem bits8 : waitsOk T8.2 B8 = true := by kernel_rfl
def T11 : Bool × List (List Nat × List Nat) := (true, [([], []), ([], []), ([0, 1], [0, 1]), ([], []), ([], []), ([3, 4, 2], [3, 4]), ([2, 5], [2, 5]), ([6, 5], [6]), ([7], [7]), ([7], [7]), ([7], [7]), ([10, 7], [7, 10]), ([8, 9, 11, 7, 7], [7, 8, 9, 11]), ([7], [7]), ([7], [7]), ([7], [7]), ([15, 7], [7, 15]), ([13, 14, 16, 12, 7], [7, 13, 14, 16]), ([12, 17, 7], [7, 12, 17]), ([7, 18], [7, 18]), ([19, 17], [19]), ([20], [20]), ([20], [20]), ([20], [20]), ([21, 22, 23, 20, 20], [20, 21, 22, 23]), ([20], [20]), ([20], [20]), ([20], [20]), ([25, 26, 27, 24, 20], [20, 25, 26, 27]), ([24, 28, 20], [20, 24, 28]), ([20, 29], [20, 29]), ([30, 28], [30]), ([31], [31]), ([32, 31, 31], [31, 32]), ([31], [31]), ([34, 31], [31, 34]), ([33, 35, 31], [31, 33, 35]), ([31, 36], [31, 36])])
def B11 : List Nat := [0, 0, 3, 0, 0, 31, 63, 127, 255, 255, 255, 1279, 4095, 255, 255, 255, 33023, 131071, 262143, 524287, 1048575, 2097151, 2097151, 2097151, 16777215, 2097151, 2097151, 2097151, 268435455, 536870911, 1073741823, 2147483647, 4294967295, 8589934591, 4294967295, 21474836479, 68719476735, 137438953471]
theorem tab11 : rtab .any (opsOf Tryd.f3 11) = T11 := by kernel_rfl
theorem bits11 : waitsOk T11.2 B11 = true := by kernel_rfl
set_option maxHeartbeats 20000000 in
set_option maxRecDepth 100000 in
theorem matches3 (t0 t1 t2 : ByteArray) (A1 : Option Addr) (c1 : Nat) (l : List Int) (k : Int) (w : World)
    (r1 : Kd.C (Kd.int .u8) w A1 l.length l) (h1 : l.length ≤ c1) (n1 : ∀ x ∈ l, 0 ≤ x) :
    Calls Tryd.prog 3 #[.agg #[.string t0, .string t1, .string t2], .slice A1 l.length c1, .int .i64 k] w fun e w' => e = .returned (.bool true) ∧ Below w.heap.size w w' := by
  have hu22 := Tryd.underlying22
  have hu26 := Tryd.underlying26
  have CL := fun W (hb : Below w.heap.size w W) => long12 A1 c1 l n1 W (Kd.C_below r1 hb) h1
  have zq := P.longB_size l
  generalize longB l = q at CL zq
  go_enter Tryd.func3, Tryd.ntmps3
  go_wp2_with fail
  refine (sanity11 _).mono ?_
  rintro e w1 ⟨rfl, hb1⟩
  have HB := Aside0.mk (below_step (below_alloc (Below.refl _ _) _) hb1)
  have BX := Aside0.mk (blk_below (blk_new w (.cells #[.string t0, .string t1, .string t2] 22)) hb1)
  clear hb1
  have f0 : w1.cell? ⟨w.heap.size, 0, none⟩ = some (.string t0) := (blk_cell BX.out 0).trans rfl
  have f1 : w1.cell? ⟨w.heap.size, 1, none⟩ = some (.string t1) := (blk_cell BX.out 1).trans rfl
  have f2 : w1.cell? ⟨w.heap.size, 2, none⟩ = some (.string t2) := (blk_cell BX.out 2).trans rfl
  by_cases z0 : (200 : Int) < (t0.size : Int)
  · have y0 : decide ((200 : Int) < (t0.size : Int)) = true := decide_eq_true z0
    go_wp2
    go_ret
    exact ⟨rfl, HB.out⟩
  have y0 : decide ((200 : Int) < (t0.size : Int)) = false := decide_eq_false z0
  by_cases z1 : (200 : Int) < (t1.size : Int)
  · have y1 : decide ((200 : Int) < (t1.size : Int)) = true := decide_eq_true z1
    go_wp2
    go_ret
    exact ⟨rfl, HB.out⟩
  have y1 : decide ((200 : Int) < (t1.size : Int)) = false := decide_eq_false z1
  by_cases z2 : (200 : Int) < (t2.size : Int)
  · have y2 : decide ((200 : Int) < (t2.size : Int)) = true := decide_eq_true z2
    go_wp2
    go_ret
    exact ⟨rfl, HB.out⟩
  have y2 : decide ((200 : Int) < (t2.size : Int)) = false := decide_eq_false z2
  have hz0 : t0.size ≤ 200 := by omega
  have hz1 : t1.size ≤ 200 := by omega
  have hz2 : t2.size ≤ 200 := by omega
  clear z0 z1 z2
  go_upto_region 4 with (fail)
  go_cut [8] (fun v8 wc => ∃ g : Nat, v8 = .pointer (some ⟨g, 0, none⟩) ∧ Aside0 (wc.heap[g]? = some (.cells #[.string t0, .string t1, .string t2, .string q] 26 (0, 0))) ∧ Aside0 (w.heap.size ≤ g) ∧ Aside0 (wc.heap[w.heap.size]? = some (.cells #[.string t0, .string t1, .string t2] 22 (0, 0))) ∧ Aside0 (Below w.heap.size w wc))
  case first =>
    refine start_ (n := 11) (S := fun w' => w'.cell? ⟨w.heap.size, 0, none⟩ = some (.string t0) ∧ w'.cell? ⟨w.heap.size, 1, none⟩ = some (.string t1) ∧ w'.cell? ⟨w.heap.size, 2, none⟩ = some (.string t2)) (ds := []) #[false, false, false, false, false, false, false, false, false, false, false] (by kernel_rfl) rfl rfl ⟨f0, f1, f2⟩ (fun hHeld => ?_)
    refine with_tabW tab4 bits4 (fun HT_ HW_ => ?_)
    have HBd := Aside0.mk (below_drew1 HB.out)
    have BXd := Aside0.mk (blk_drew BX.out)
    clear HB BX f0 f1 f2
    generalize w1.drew = wd at HBd BXd hHeld ⊢
    refine pure_ (i := 0) (N := some 30) (v := ?_) (a' := ?_) #[true, false, false, false, false, false, false, false, false, false, false] rfl rfl (any_of HT_.out (by kernel_rfl)) (fun _ _ _ h => h) (Or.inl ⟨by rfl, ?_⟩) ?_ ?_
    rotate_left
    · intro w'
      go_simp
      with_reducible rfl
    rotate_left
    · simp only [Act.put, List.setIfInBounds_toArray, List.set_cons_zero, List.set_cons_succ, i64_w, i32_w]
      rfl
    refine take_ (i := 1) (N := some 31) (v := ?_) (a' := ?_) #[true, true, false, false, false, false, false, false, false, false, false] rfl rfl (take_ofW HT_.out HW_.out (by kernel_rfl)) (fun _ _ _ h => h) (Or.inl ⟨by rfl, ?_⟩) hHeld ?_ ?_
    rotate_left
    · rintro w' ⟨s0, s1, s2⟩
      go_simp
      with_reducible rfl
    rotate_left
    · simp only [Act.put, List.setIfInBounds_toArray, List.set_cons_zero, List.set_cons_succ, i64_w, i32_w]
      rfl
    refine pure_ (i := 2) (N := some 32) (v := ?_) (a' := ?_) #[true, true, true, false, false, false, false, false, false, false, false] rfl rfl (any_of HT_.out (by kernel_rfl)) (fun _ _ _ h => h) (Or.inl ⟨by rfl, ?_⟩) ?_ ?_
    rotate_left
    · intro w'
      go_simp
      with_reducible rfl
    rotate_left
    · simp only [Act.put, List.setIfInBounds_toArray, List.set_cons_zero, List.set_cons_succ, i64_w, i32_w]
      rfl
    refine take_ (i := 3) (N := some 33) (v := ?_) (a' := ?_) #[true, true, true, true, false, false, false, false, false, false, false] rfl rfl (take_ofW HT_.out HW_.out (by kernel_rfl)) (fun _ _ _ h => h) (Or.inl ⟨by rfl, ?_⟩) hHeld ?_ ?_
    rotate_left
    · rintro w' ⟨s0, s1, s2⟩
      go_simp
      with_reducible rfl
    rotate_left
    · simp only [Act.put, List.setIfInBounds_toArray, List.set_cons_zero, List.set_cons_succ, i64_w, i32_w]
      rfl
    refine pure_ (i := 4) (N := some 34) (v := ?_) (a' := ?_) #[true, true, true, true, true, false, false, false, false, false, false] rfl rfl (any_of HT_.out (by kernel_rfl)) (fun _ _ _ h => h) (Or.inl ⟨by rfl, ?_⟩) ?_ ?_
    rotate_left
    · intro w'
      go_simp
      with_reducible rfl
    rotate_left
    · simp only [Act.put, List.setIfInBounds_toArray, List.set_cons_zero, List.set_cons_succ, i64_w, i32_w]
      rfl
    refine take_ (i := 5) (N := some 35) (v := ?_) (a' := ?_) #[true, true, true, true, true, true, false, false, false, false, false] rfl rfl (take_ofW HT_.out HW_.out (by kernel_rfl)) (fun _ _ _ h => h) (Or.inl ⟨by rfl, ?_⟩) hHeld ?_ ?_
    rotate_left
    · rintro w' ⟨s0, s1, s2⟩
      go_simp
      with_reducible rfl
    rotate_left
    · simp only [Act.put, List.setIfInBounds_toArray, List.set_cons_zero, List.set_cons_succ, i64_w, i32_w]
      rfl
    refine pure_ (i := 6) (N := some 36) (v := ?_) (a' := ?_) #[true, true, true, true, true, true, true, false, false, false, false] rfl rfl (any_of HT_.out (by kernel_rfl)) (fun _ _ _ h => h) (Or.inl ⟨by rfl, ?_⟩) ?_ ?_
    rotate_left
    · intro w'
      go_simp
      with_reducible rfl
    rotate_left
    · simp only [Act.put, List.setIfInBounds_toArray, List.set_cons_zero, List.set_cons_succ, i64_w, i32_w]
      rfl
    refine two_ (i := 7) (j := 9) (Ni := some 37) (Nj := some 8) #[true, true, true, true, true, true, true, true, false, false, false] #[true, true, true, true, true, true, true, false, false, true, false] rfl rfl rfl rfl (two_of HT_.out (by kernel_rfl)) (by decide) (by decide) (fun K hK => ?_) (fun K hK => ?_)
    · skip
      refine goes_ Tryd.func12 (by kernel_rfl) rfl #[.slice A1 l.length c1] (by rfl) rfl rfl (by (try simp only [List.map_toArray, List.map_cons, List.map_nil]); first | done | rfl) ?_
      refine (CL _ HBd.out).mono ?_
      rintro e w7 ⟨rfl, hbl⟩
      refine ⟨_, rfl, ?_⟩
      have HBc := Aside0.mk (below_step HBd.out hbl)
      have BXc := Aside0.mk (blk_below BXd.out hbl)
      clear hbl
      refine hK.out _ _ ⟨(blk_cell BXc.out 0).trans rfl, (blk_cell BXc.out 1).trans rfl, (blk_cell BXc.out 2).trans rfl⟩ (fun hHeld => ?_)
      clear hK K
      refine norm_ (a' := ?_) ?_ ?_
      rotate_left
      · show Act.put _ (some 37) _ = _
        simp only [Act.put, List.setIfInBounds_toArray, List.set_cons_zero, List.set_cons_succ, i64_w, i32_w]
        rfl
      refine pure_ (i := 8) (N := some 38) (v := ?_) (a' := ?_) #[true, true, true, true, true, true, true, true, true, false, false] rfl rfl (any_of HT_.out (by kernel_rfl)) (fun _ _ _ h => h) (Or.inl ⟨by rfl, ?_⟩) ?_ ?_
      rotate_left
      · intro w'
        go_simp
        with_reducible rfl
      rotate_left
      · simp only [Act.put, List.setIfInBounds_toArray, List.set_cons_zero, List.set_cons_succ, i64_w, i32_w]
        rfl
      refine one_ (i := 9) (N := some 8) #[true, true, true, true, true, true, true, true, true, true, false] rfl rfl (one_of HT_.out (by kernel_rfl)) (by decide) (fun K hK => ?_)
      refine value_ (w1 := ?_) (v := ?_) (by rfl) rfl ?_ ?_
      rotate_left 2
      · go_simp
        constructor
        · rfl
        · rfl
      have BXe := Aside0.mk (blk_alloc BXc.out (.cells #[.string ⟨#[]⟩, .string ⟨#[]⟩, .string ⟨#[]⟩, .string ⟨#[]⟩] 26))
      refine hK.out _ _ ⟨(blk_cell BXe.out 0).trans rfl, (blk_cell BXe.out 1).trans rfl, (blk_cell BXe.out 2).trans rfl⟩ (fun hHeld => ?_)
      clear hK K
      refine norm_ (a' := ?_) ?_ ?_
      rotate_left
      · show Act.put _ (some 8) _ = _
        simp only [Act.put, List.setIfInBounds_toArray, List.set_cons_zero, List.set_cons_succ, i64_w, i32_w]
        rfl
      refine one_ (i := 10) (N := none) #[true, true, true, true, true, true, true, true, true, true, true] rfl rfl (one_of HT_.out (by kernel_rfl)) (by decide) (fun K hK => ?_)
      refine skip_ (w1 := ?_) (by rfl) rfl ?_ ?_
      rotate_left
      · go_simp
        rfl
      have HBf := Aside0.mk (below_alloc HBc.out (.cells #[.string t0, .string t1, .string t2, .string q] 26))
      have BXf := Aside0.mk (blk_alloc BXc.out (.cells #[.string t0, .string t1, .string t2, .string q] 26))
      refine hK.out _ _ ⟨(blk_cell BXf.out 0).trans rfl, (blk_cell BXf.out 1).trans rfl, (blk_cell BXf.out 2).trans rfl⟩ (fun hHeld => ?_)
      clear hK K
      refine norm_ (a' := ?_) ?_ ?_
      rotate_left
      · rfl
      refine done_ (done_of HT_.out (by kernel_rfl)) ?_
      try go_wp2
      go_meet
      case rel => exact ⟨_, rfl, ⟨blk_new _ _⟩, ⟨below_size HBc.out⟩, BXf, HBf⟩
    · skip
      refine value_ (w1 := ?_) (v := ?_) (by rfl) rfl ?_ ?_
      rotate_left 2
      · go_simp
        constructor
        · rfl
        · rfl
      have BXe := Aside0.mk (blk_alloc BXd.out (.cells #[.string ⟨#[]⟩, .string ⟨#[]⟩, .string ⟨#[]⟩, .string ⟨#[]⟩] 26))
      refine hK.out _ _ ⟨(blk_cell BXe.out 0).trans rfl, (blk_cell BXe.out 1).trans rfl, (blk_cell BXe.out 2).trans rfl⟩ (fun hHeld => ?_)
      clear hK K
      refine norm_ (a' := ?_) ?_ ?_
      rotate_left
      · show Act.put _ (some 8) _ = _
        simp only [Act.put, List.setIfInBounds_toArray, List.set_cons_zero, List.set_cons_succ, i64_w, i32_w]
        rfl
      have HBe := Aside0.mk (below_alloc HBd.out (.cells #[.string ⟨#[]⟩, .string ⟨#[]⟩, .string ⟨#[]⟩, .string ⟨#[]⟩] 26))
      have GE := Aside0.mk (below_size HBd.out)
      have LT := Aside0.mk (blk_lt BXd.out)
      have BZe := Aside0.mk (blk_new wd (.cells #[.string ⟨#[]⟩, .string ⟨#[]⟩, .string ⟨#[]⟩, .string ⟨#[]⟩] 26))
      refine one_ (i := 7) (N := some 37) #[true, true, true, true, true, true, true, true, false, true, false] rfl rfl (one_of HT_.out (by kernel_rfl)) (by decide) (fun K hK => ?_)
      refine goes_ Tryd.func12 (by kernel_rfl) rfl #[.slice A1 l.length c1] (by rfl) rfl rfl (by (try simp only [List.map_toArray, List.map_cons, List.map_nil]); first | done | rfl) ?_
      refine (CL _ HBe.out).mono ?_
      rintro e w8 ⟨rfl, hbl⟩
      refine ⟨_, rfl, ?_⟩
      have HBc := Aside0.mk (below_step HBe.out hbl)
      have BXc := Aside0.mk (blk_below BXe.out hbl)
      have BZc := Aside0.mk (blk_below BZe.out hbl)
      clear hbl
      refine hK.out _ _ ⟨(blk_cell BXc.out 0).trans rfl, (blk_cell BXc.out 1).trans rfl, (blk_cell BXc.out 2).trans rfl⟩ (fun hHeld => ?_)
      clear hK K
      refine norm_ (a' := ?_) ?_ ?_
      rotate_left
      · show Act.put _ (some 37) _ = _
        simp only [Act.put, List.setIfInBounds_toArray, List.set_cons_zero, List.set_cons_succ, i64_w, i32_w]
        rfl
      refine pure_ (i := 8) (N := some 38) (v := ?_) (a' := ?_) #[true, true, true, true, true, true, true, true, true, true, false] rfl rfl (any_of HT_.out (by kernel_rfl)) (fun _ _ _ h => h) (Or.inl ⟨by rfl, ?_⟩) ?_ ?_
      rotate_left
      · intro w'
        go_simp
        with_reducible rfl
      rotate_left
      · simp only [Act.put, List.setIfInBounds_toArray, List.set_cons_zero, List.set_cons_succ, i64_w, i32_w]
        rfl
      have hcz0 : w8.cell? ⟨wd.heap.size, 0, none⟩ = some (.string ⟨#[]⟩) := (blk_cell BZc.out 0).trans rfl
      have hfz0 := blk_frozen BZc.out 0
      have hcz1 : w8.cell? ⟨wd.heap.size, 1, none⟩ = some (.string ⟨#[]⟩) := (blk_cell BZc.out 1).trans rfl
      have hfz1 := blk_frozen BZc.out 1
      have hcz2 : w8.cell? ⟨wd.heap.size, 2, none⟩ = some (.string ⟨#[]⟩) := (blk_cell BZc.out 2).trans rfl
      have hfz2 := blk_frozen BZc.out 2
      have hcz3 : w8.cell? ⟨wd.heap.size, 3, none⟩ = some (.string ⟨#[]⟩) := (blk_cell BZc.out 3).trans rfl
      have hfz3 := blk_frozen BZc.out 3
      refine one_ (i := 10) (N := none) #[true, true, true, true, true, true, true, true, true, true, true] rfl rfl (one_of HT_.out (by kernel_rfl)) (by decide) (fun K hK => ?_)
      refine skip_ (w1 := ?_) (by rfl) rfl ?_ ?_
      rotate_left
      · go_simp
        rfl
      have s0_ := blk_put (cs := #[.string ⟨#[]⟩, .string ⟨#[]⟩, .string ⟨#[]⟩, .string ⟨#[]⟩]) (cs' := #[.string t0, .string ⟨#[]⟩, .string ⟨#[]⟩, .string ⟨#[]⟩]) BZc.out 0 (.string t0) rfl
      have t0_ := blk_far BXc.out (p := ⟨wd.heap.size, 0, none⟩) (by show w.heap.size ≠ wd.heap.size; have := LT.out; omega) (.string t0)
      have u0_ := below_set (j := 0) (v := .string t0) HBc.out GE.out
      have s1_ := blk_put (cs := #[.string t0, .string ⟨#[]⟩, .string ⟨#[]⟩, .string ⟨#[]⟩]) (cs' := #[.string t0, .string t1, .string ⟨#[]⟩, .string ⟨#[]⟩]) s0_ 1 (.string t1) rfl
      have t1_ := blk_far t0_ (p := ⟨wd.heap.size, 1, none⟩) (by show w.heap.size ≠ wd.heap.size; have := LT.out; omega) (.string t1)
      have u1_ := below_set (j := 1) (v := .string t1) u0_ GE.out
      have s2_ := blk_put (cs := #[.string t0, .string t1, .string ⟨#[]⟩, .string ⟨#[]⟩]) (cs' := #[.string t0, .string t1, .string t2, .string ⟨#[]⟩]) s1_ 2 (.string t2) rfl
      have t2_ := blk_far t1_ (p := ⟨wd.heap.size, 2, none⟩) (by show w.heap.size ≠ wd.heap.size; have := LT.out; omega) (.string t2)
      have u2_ := below_set (j := 2) (v := .string t2) u1_ GE.out
      have s3_ := blk_put (cs := #[.string t0, .string t1, .string t2, .string ⟨#[]⟩]) (cs' := #[.string t0, .string t1, .string t2, .string q]) s2_ 3 (.string q) rfl
      have t3_ := blk_far t2_ (p := ⟨wd.heap.size, 3, none⟩) (by show w.heap.size ≠ wd.heap.size; have := LT.out; omega) (.string q)
      have u3_ := below_set (j := 3) (v := .string q) u2_ GE.out
      have BXf := Aside0.mk t3_
      have HTf := Aside0.mk s3_
      have HBf := Aside0.mk u3_
      clear s0_ s1_ s2_ s3_ t0_ t1_ t2_ t3_ u0_ u1_ u2_ u3_ hcz0 hcz1 hcz2 hcz3 hfz0 hfz1 hfz2 hfz3
      refine hK.out _ _ ⟨(blk_cell BXf.out 0).trans rfl, (blk_cell BXf.out 1).trans rfl, (blk_cell BXf.out 2).trans rfl⟩ (fun hHeld => ?_)
      clear hK K
      refine norm_ (a' := ?_) ?_ ?_
      rotate_left
      · rfl
      refine done_ (done_of HT_.out (by kernel_rfl)) ?_
      try go_wp2
      go_meet
      case rel => exact ⟨_, rfl, HTf, GE, BXf, HBf⟩
  case rest =>
    obtain ⟨g, rfl, HT, HG, BX, HB⟩ := hcut
    clear f0 f1 f2
    go_wp2_with fail
    go_loopg [9] 4 (fun kq v9 w' => ∃ i : Nat, v9 = .int .i64 (i : Int) ∧ Aside0 (i + kq = 4) ∧ Aside0 (w'.heap[g]? = some (.cells #[.string t0, .string t1, .string t2, .string q] 26 (0, 0))) ∧ Aside0 (w'.heap[w.heap.size]? = some (.cells #[.string t0, .string t1, .string t2] 22 (0, 0))) ∧ Aside0 (Below w.heap.size w w'))
    case atStart => exact ⟨0, rfl, ⟨rfl⟩, HT, BX, HB⟩
    case round =>
      clear HT BX HB
      obtain ⟨i, rfl, HK, HT, BX, HB⟩ := hrel
      cases gk with
      | zero =>
        obtain rfl : i = 4 := by have := HK.out; omega
        go_wp2
        go_ret
        exact ⟨rfl, HB.out⟩
      | succ kk =>
        have hi : i < 4 := by have := HK.out; omega
        have hT := HT.out
        have d0 : wr.cell? ⟨g, 0, none⟩ = some (.string t0) := (blk_cell hT 0).trans rfl
        have d1 : wr.cell? ⟨g, 1, none⟩ = some (.string t1) := (blk_cell hT 1).trans rfl
        have d2 : wr.cell? ⟨g, 2, none⟩ = some (.string t2) := (blk_cell hT 2).trans rfl
        have d3 : wr.cell? ⟨g, 3, none⟩ = some (.string q) := (blk_cell hT 3).trans rfl
        obtain ⟨i2, p, r, hi2, u2, hp, hr, hps, hrs⟩ : ∃ (i2 : Nat) (p r : ByteArray), i2 < 4 ∧ Int.tmod (wrap64 ((i : Int) + 1)) 4 = (i2 : Int) ∧ wr.cell? ⟨g, i, none⟩ = some (.string p) ∧ wr.cell? ⟨g, i2, none⟩ = some (.string r) ∧ p.size ≤ 200 ∧ r.size ≤ 200 := by
          rcases (by omega : i = 0 ∨ i = 1 ∨ i = 2 ∨ i = 3) with rfl | rfl | rfl | rfl
          · exact ⟨1, t0, t1, by omega, by rw [w64 (by omega) (by omega)]; rfl, d0, d1, hz0, hz1⟩
          · exact ⟨2, t1, t2, by omega, by rw [w64 (by omega) (by omega)]; rfl, d1, d2, hz1, hz2⟩
          · exact ⟨3, t2, q, by omega, by rw [w64 (by omega) (by omega)]; rfl, d2, d3, hz2, by omega⟩
          · exact ⟨0, q, t0, by omega, by rw [w64 (by omega) (by omega)]; rfl, d3, d0, by omega, hz0⟩
        have e0 : (0 ≤ (i : Int)) = True := eq_true (by omega)
        have e1 : ((i : Int) < 4) = True := eq_true (by omega)
        have e2 : (0 ≤ (i2 : Int)) = True := eq_true (by omega)
        have e3 : ((i2 : Int) < 4) = True := eq_true (by omega)
        have e4 : decide ((i : Int) < 4) = true := decide_eq_true (by omega)
        have e5 : (i2 < 4) = True := eq_true (by omega)
        have e6 : (i < 4) = True := eq_true (by omega)
        clear d0 d1 d2 d3 hT
        go_wp2
        refine start_ (n := 10) (S := fun w' => w'.cell? ⟨g, i, none⟩ = some (.string p) ∧ w'.cell? ⟨g, i2, none⟩ = some (.string r)) (ds := []) #[false, false, false, false, false, false, false, false, false, false] (by kernel_rfl) rfl rfl ⟨hp, hr⟩ (fun hHeld => ?_)
        refine with_tabW tab8 bits8 (fun HT_ HW_ => ?_)
        refine pure_ (i := 0) (N := some 43) (v := ?_) (a' := ?_) #[true, false, false, false, false, false, false, false, false, false] rfl rfl (any_of HT_.out (by kernel_rfl)) (fun _ _ _ h => h) (Or.inl ⟨by rfl, ?_⟩) ?_ ?_
        rotate_left
        · intro w'
          go_simp
          with_reducible rfl
        rotate_left
        · simp only [Act.put, List.setIfInBounds_toArray, List.set_cons_zero, List.set_cons_succ, i64_w, i32_w]
          rfl
        refine pure_ (i := 1) (N := some 44) (v := ?_) (a' := ?_) #[true, true, false, false, false, false, false, false, false, false] rfl rfl (any_of HT_.out (by kernel_rfl)) (fun _ _ _ h => h) (Or.inl ⟨by rfl, ?_⟩) ?_ ?_
        rotate_left
        · intro w'
          go_simp
          with_reducible rfl
        rotate_left
        · simp only [Act.put, List.setIfInBounds_toArray, List.set_cons_zero, List.set_cons_succ, i64_w, i32_w]
          rfl
        refine pure_ (i := 3) (N := some 46) (v := ?_) (a' := ?_) #[true, true, false, true, false, false, false, false, false, false] rfl rfl (any_of HT_.out (by kernel_rfl)) (fun _ _ _ h => h) (Or.inl ⟨by rfl, ?_⟩) ?_ ?_
        rotate_left
        · intro w'
          go_simp
          with_reducible rfl
        rotate_left
        · simp only [Act.put, List.setIfInBounds_toArray, List.set_cons_zero, List.set_cons_succ, i64_w, i32_w]
          rfl
        refine pure_ (i := 4) (N := some 47) (v := ?_) (a' := ?_) #[true, true, false, true, true, false, false, false, false, false] rfl rfl (any_of HT_.out (by kernel_rfl)) (fun _ _ _ h => h) (Or.inl ⟨by rfl, ?_⟩) ?_ ?_
        rotate_left
        · intro w'
          go_simp
          with_reducible rfl
        rotate_left
        · simp only [Act.put, List.setIfInBounds_toArray, List.set_cons_zero, List.set_cons_succ, i64_w, i32_w]
          rfl
        refine pure_ (i := 5) (N := some 48) (v := ?_) (a' := ?_) #[true, true, false, true, true, true, false, false, false, false] rfl rfl (any_of HT_.out (by kernel_rfl)) (fun _ _ _ h => h) (Or.inl ⟨by rfl, ?_⟩) ?_ ?_
        rotate_left
        · intro w'
          go_simp
          with_reducible rfl
        rotate_left
        · simp only [Act.put, List.setIfInBounds_toArray, List.set_cons_zero, List.set_cons_succ, i64_w, i32_w]
          rfl
        refine pure_ (i := 6) (N := some 49) (v := ?_) (a' := ?_) #[true, true, false, true, true, true, true, false, false, false] rfl rfl (any_of HT_.out (by kernel_rfl)) (fun _ _ _ h => h) (Or.inl ⟨by rfl, ?_⟩) ?_ ?_
        rotate_left
        · intro w'
          go_simp
          with_reducible rfl
        rotate_left
        · simp only [Act.put, List.setIfInBounds_toArray, List.set_cons_zero, List.set_cons_succ, i64_w, i32_w]
          rfl
        refine take_ (i := 2) (N := some 45) (v := ?_) (a' := ?_) #[true, true, true, true, true, true, true, false, false, false] rfl rfl (take_ofW HT_.out HW_.out (by kernel_rfl)) (fun _ _ _ h => h) (Or.inl ⟨by rfl, ?_⟩) hHeld ?_ ?_
        rotate_left
        · rintro w' ⟨s0, s1⟩
          go_simp
          with_reducible rfl
        rotate_left
        · simp only [Act.put, List.setIfInBounds_toArray, List.set_cons_zero, List.set_cons_succ, i64_w, i32_w]
          rfl
        refine pure_ (i := 8) (N := some 10) (v := ?_) (a' := ?_) #[true, true, true, true, true, true, true, false, true, false] rfl rfl (any_of HT_.out (by kernel_rfl)) (fun _ _ _ h => h) (Or.inl ⟨by rfl, ?_⟩) ?_ ?_
        rotate_left
        · intro w'
          go_simp
          with_reducible rfl
        rotate_left
        · simp only [Act.put, List.setIfInBounds_toArray, List.set_cons_zero, List.set_cons_succ, i64_w, i32_w]
          rfl
        refine take_ (i := 7) (N := some 50) (v := ?_) (a' := ?_) #[true, true, true, true, true, true, true, true, true, false] rfl rfl (take_ofW HT_.out HW_.out (by kernel_rfl)) (fun _ _ _ h => h) (Or.inl ⟨by rfl, ?_⟩) hHeld ?_ ?_
        rotate_left
        · rintro w' ⟨s0, s1⟩
          go_simp
          with_reducible rfl
        rotate_left
        · simp only [Act.put, List.setIfInBounds_toArray, List.set_cons_zero, List.set_cons_succ, i64_w, i32_w]
          rfl
        refine pure_ (i := 9) (N := some 11) (v := ?_) (a' := ?_) #[true, true, true, true, true, true, true, true, true, true] rfl rfl (any_of HT_.out (by kernel_rfl)) (fun _ _ _ h => h) (Or.inl ⟨by rfl, ?_⟩) ?_ ?_
        rotate_left
        · intro w'
          go_simp
          with_reducible rfl
        rotate_left
        · simp only [Act.put, List.setIfInBounds_toArray, List.set_cons_zero, List.set_cons_succ, i64_w, i32_w]
          rfl
        refine done_ (done_of HT_.out (by kernel_rfl)) ?_

        clear u2 hp hr hHeld HT_ HW_
        go_wp2_with fail
        refine (valid13 p _).mono ?_
        rintro e x1 ⟨rfl, ⟨⟨n1_, rfl⟩⟩⟩
        go_wp2_with fail
        refine (valid14 p _).mono ?_
        rintro e x2 ⟨rfl, ⟨⟨n2_, rfl⟩⟩⟩
        have G1 := Aside0.mk (pw_below_drewN HB.out (1 + n1_ + n2_))
        go_wp2_with fail
        refine (parts16 p (by omega) _).mono ?_
        rintro e x3 ⟨Aa, ca, rfl, hca, hCa, hb3⟩
        have G3 := Aside0.mk (below_step G1.out hb3)
        have BX3 := Aside0.mk (blk_below (blk_drewN BX.out (1 + n1_ + n2_)) hb3)
        have HT3 := Aside0.mk (blk_below (blk_drewN HT.out (1 + n1_ + n2_)) hb3)
        clear hb3
        go_wp2_with fail
        refine (partsOf17 p (by omega) _).mono ?_
        rintro e x4 ⟨Ab, cb, rfl, hcb, hCb, hb4⟩
        have G4 := Aside0.mk (below_step G3.out hb4)
        have BX4 := Aside0.mk (blk_below BX3.out hb4)
        have HT4 := Aside0.mk (blk_below HT3.out hb4)
        replace hCa := Kd.C_below hCa hb4
        clear hb4
        have hlen : (partsB p).1.length ≤ 1001 := by
          unfold partsB
          split
          · have := cutB_len p; show (cutB p).length ≤ 1001; omega
          · show 0 ≤ 1001; omega
        have SM := fun W hA hB => same15 Aa Ab ca cb (partsB p).1 (partsB p).1 (partsB p).2 (partsB p).2 W hA hca hB hcb hlen
        simp only [decide_true, Bool.and_self] at SM
        generalize partsB p = pp at *
        generalize hjj : joinB p r = jj
        generalize hss : splitB p = ss
        generalize hpa : parseB p = pa
        have J1 := fun W => join18 p r (by omega) (by omega) W
        have J2 := fun W => joinOf19 p r (by omega) (by omega) W
        have S1 := fun W => split20 p (by omega) W
        have S2 := fun W => splitOf21 p (by omega) W
        have P1 := fun W => parse22 p (by omega) W
        have P2 := fun W => parseOf23 p (by omega) W
        have hsz : ((⟨#[47]⟩ : ByteArray) ++ p).size ≤ 1000 := by rw [size_app]; show 1 + _ ≤ _; omega
        have P3 := fun W => parse22 ((⟨#[47]⟩ : ByteArray) ++ p) hsz W
        have P4 := fun W => parseOf23 ((⟨#[47]⟩ : ByteArray) ++ p) hsz W
        have p47 : (9223372036854775807 < 1 + p.size) = False := eq_false (by omega)
        go_wp2_with fail
        refine (SM _ hCa hCb).mono ?_
        rintro e x5 ⟨rfl, hb5⟩
        have G5 := Aside0.mk (below_step G4.out hb5)
        have BX5 := Aside0.mk (blk_below BX4.out hb5)
        have HT5 := Aside0.mk (blk_below HT4.out hb5)
        clear hb5 hCa hCb SM
        go_wp2_with fail
        refine (J1 _).mono ?_
        rintro e x6 ⟨rfl, hb6⟩
        have G6 := Aside0.mk (below_step G5.out hb6)
        have BX6 := Aside0.mk (blk_below BX5.out hb6)
        have HT6 := Aside0.mk (blk_below HT5.out hb6)
        clear hb6
        go_wp2_with fail
        refine (J2 _).mono ?_
        rintro e x7 ⟨rfl, hb7⟩
        have G7 := Aside0.mk (below_step G6.out hb7)
        have BX7 := Aside0.mk (blk_below BX6.out hb7)
        have HT7 := Aside0.mk (blk_below HT6.out hb7)
        clear hb7
        go_wp2_with fail
        refine (S1 _).mono ?_
        rintro e x8 ⟨rfl, hb8⟩
        have G8 := Aside0.mk (below_step G7.out hb8)
        have BX8 := Aside0.mk (blk_below BX7.out hb8)
        have HT8 := Aside0.mk (blk_below HT7.out hb8)
        clear hb8
        go_wp2_with fail
        refine (S2 _).mono ?_
        rintro e x9 ⟨rfl, hb9⟩
        have G9 := Aside0.mk (below_step G8.out hb9)
        have BX9 := Aside0.mk (blk_below BX8.out hb9)
        have HT9 := Aside0.mk (blk_below HT8.out hb9)
        clear hb9
        go_wp2_with fail
        refine (P1 _).mono ?_
        rintro e x10 ⟨rfl, hb10⟩
        have G10 := Aside0.mk (below_step G9.out hb10)
        have BX10 := Aside0.mk (blk_below BX9.out hb10)
        have HT10 := Aside0.mk (blk_below HT9.out hb10)
        clear hb10
        go_wp2_with fail
        refine (P2 _).mono ?_
        rintro e x11 ⟨rfl, hb11⟩
        have G11 := Aside0.mk (below_step G10.out hb11)
        have BX11 := Aside0.mk (blk_below BX10.out hb11)
        have HT11 := Aside0.mk (blk_below HT10.out hb11)
        clear hb11
        go_wp2_with fail
        refine (P3 _).mono ?_
        rintro e x12 ⟨rfl, hb12⟩
        have G12 := Aside0.mk (below_step G11.out hb12)
        have BX12 := Aside0.mk (blk_below BX11.out hb12)
        have HT12 := Aside0.mk (blk_below HT11.out hb12)
        clear hb12
        go_wp2_with fail
        refine (P4 _).mono ?_
        rintro e x13 ⟨rfl, hb13⟩
        have G13 := Aside0.mk (below_step G12.out hb13)
        have BX13 := Aside0.mk (blk_below BX12.out hb13)
        have HT13 := Aside0.mk (blk_below HT12.out hb13)
        clear hb13
        go_wp2
        have Q0 := Aside0.mk (below_drew1 G13.out)
        have W0 := Aside0.mk (blk_drew BX13.out)
        have V0 := Aside0.mk (blk_drew HT13.out)
        have B24 := fun W => below24 p r (by omega) W
        have B25 := fun W => belowR25 p r (by omega) W
        have S26 := fun W => swap26 p r t2 (by omega) (by omega) (by omega) W
        have S27 := fun W => swapR27 p r t2 (by omega) (by omega) (by omega) W
        have K28 := fun W => copy28 p r k W
        have K29 := fun W => copy29 p r k W
        have P30 := fun W => print30 p (by omega) W
        refine start_ (n := 38) (S := fun w' => w'.cell? ⟨w.heap.size, 2, none⟩ = some (.string t2)) (ds := []) #[false, false, false, false, false, false, false, false, false, false, false, false, false, false, false, false, false, false, false, false, false, false, false, false, false, false, false, false, false, false, false, false, false, false, false, false, false, false] (by kernel_rfl) rfl rfl ((blk_cell W0.out 2).trans rfl) (fun hHeld => ?_)
        refine with_tabW tab11 bits11 (fun HT_ HW_ => ?_)
        refine pure_ (i := 0) (N := some 96) (v := ?_) (a' := ?_) #[true, false, false, false, false, false, false, false, false, false, false, false, false, false, false, false, false, false, false, false, false, false, false, false, false, false, false, false, false, false, false, false, false, false, false, false, false, false] rfl rfl (any_of HT_.out (by kernel_rfl)) (fun _ _ _ h => h) (Or.inl ⟨by rfl, ?_⟩) ?_ ?_
        rotate_left
        · intro w'
          go_simp
          with_reducible rfl
        rotate_left
        · simp only [Act.put, List.setIfInBounds_toArray, List.set_cons_zero, List.set_cons_succ, i64_w, i32_w]
          rfl
        refine pure_ (i := 1) (N := some 97) (v := ?_) (a' := ?_) #[true, true, false, false, false, false, false, false, false, false, false, false, false, false, false, false, false, false, false, false, false, false, false, false, false, false, false, false, false, false, false, false, false, false, false, false, false, false] rfl rfl (any_of HT_.out (by kernel_rfl)) (fun _ _ _ h => h) (Or.inl ⟨by rfl, ?_⟩) ?_ ?_
        rotate_left
        · intro w'
          go_simp
          with_reducible rfl
        rotate_left
        · simp only [Act.put, List.setIfInBounds_toArray, List.set_cons_zero, List.set_cons_succ, i64_w, i32_w]
          rfl
        refine pure_ (i := 3) (N := some 99) (v := ?_) (a' := ?_) #[true, true, false, true, false, false, false, false, false, false, false, false, false, false, false, false, false, false, false, false, false, false, false, false, false, false, false, false, false, false, false, false, false, false, false, false, false, false] rfl rfl (any_of HT_.out (by kernel_rfl)) (fun _ _ _ h => h) (Or.inl ⟨by rfl, ?_⟩) ?_ ?_
        rotate_left
        · intro w'
          go_simp
          with_reducible rfl
        rotate_left
        · simp only [Act.put, List.setIfInBounds_toArray, List.set_cons_zero, List.set_cons_succ, i64_w, i32_w]
          rfl
        refine pure_ (i := 4) (N := some 100) (v := ?_) (a' := ?_) #[true, true, false, true, true, false, false, false, false, false, false, false, false, false, false, false, false, false, false, false, false, false, false, false, false, false, false, false, false, false, false, false, false, false, false, false, false, false] rfl rfl (any_of HT_.out (by kernel_rfl)) (fun _ _ _ h => h) (Or.inl ⟨by rfl, ?_⟩) ?_ ?_
        rotate_left
        · intro w'
          go_simp
          with_reducible rfl
        rotate_left
        · simp only [Act.put, List.setIfInBounds_toArray, List.set_cons_zero, List.set_cons_succ, i64_w, i32_w]
          rfl
        refine one_ (i := 2) (N := some 98) #[true, true, true, true, true, false, false, false, false, false, false, false, false, false, false, false, false, false, false, false, false, false, false, false, false, false, false, false, false, false, false, false, false, false, false, false, false, false] rfl rfl (one_of HT_.out (by kernel_rfl)) (by decide) (fun K hK => ?_)
        refine goes_ Tryd.func24 (by kernel_rfl) rfl #[.string p, .string r] (by rfl) rfl rfl (by (try simp only [List.map_toArray, List.map_cons, List.map_nil]); first | done | rfl) ?_
        refine (B24 _).mono ?_
        rintro e y2 ⟨rfl, ⟨⟨m2_, rfl⟩⟩⟩
        refine ⟨_, rfl, ?_⟩
        have Q2 := Aside0.mk (pw_below_drewN Q0.out m2_)
        have W2 := Aside0.mk (blk_drewN W0.out m2_)
        have V2 := Aside0.mk (blk_drewN V0.out m2_)
        refine hK.out _ _ ((blk_cell W2.out 2).trans rfl) (fun hHeld => ?_)
        clear hK K
        refine norm_ (a' := ?_) ?_ ?_
        rotate_left
        · show Act.put _ (some 98) _ = _
          simp only [Act.put, List.setIfInBounds_toArray, List.set_cons_zero, List.set_cons_succ, i64_w, i32_w]
          rfl
        refine one_ (i := 5) (N := some 101) #[true, true, true, true, true, true, false, false, false, false, false, false, false, false, false, false, false, false, false, false, false, false, false, false, false, false, false, false, false, false, false, false, false, false, false, false, false, false] rfl rfl (one_of HT_.out (by kernel_rfl)) (by decide) (fun K hK => ?_)
        refine goes_ Tryd.func25 (by kernel_rfl) rfl #[.string p, .string r] (by rfl) rfl rfl (by (try simp only [List.map_toArray, List.map_cons, List.map_nil]); first | done | rfl) ?_
        refine (B25 _).mono ?_
        rintro e y5 ⟨rfl, ⟨⟨m5_, rfl⟩⟩⟩
        refine ⟨_, rfl, ?_⟩
        have Q5 := Aside0.mk (pw_below_drewN Q2.out m5_)
        have W5 := Aside0.mk (blk_drewN W2.out m5_)
        have V5 := Aside0.mk (blk_drewN V2.out m5_)
        refine hK.out _ _ ((blk_cell W5.out 2).trans rfl) (fun hHeld => ?_)
        clear hK K
        refine norm_ (a' := ?_) ?_ ?_
        rotate_left
        · show Act.put _ (some 101) _ = _
          simp only [Act.put, List.setIfInBounds_toArray, List.set_cons_zero, List.set_cons_succ, i64_w, i32_w]
          rfl
        refine pure_ (i := 6) (N := some 102) (v := ?_) (a' := ?_) #[true, true, true, true, true, true, true, false, false, false, false, false, false, false, false, false, false, false, false, false, false, false, false, false, false, false, false, false, false, false, false, false, false, false, false, false, false, false] rfl rfl (any_of HT_.out (by kernel_rfl)) (fun _ _ _ h => h) (Or.inl ⟨by rfl, ?_⟩) ?_ ?_
        rotate_left
        · intro w'
          go_simp
          with_reducible rfl
        rotate_left
        · simp only [Act.put, List.setIfInBounds_toArray, List.set_cons_zero, List.set_cons_succ, i64_w, i32_w]
          rfl
        refine pure_ (i := 7) (N := some 103) (v := ?_) (a' := ?_) #[true, true, true, true, true, true, true, true, false, false, false, false, false, false, false, false, false, false, false, false, false, false, false, false, false, false, false, false, false, false, false, false, false, false, false, false, false, false] rfl rfl (any_of HT_.out (by kernel_rfl)) (fun _ _ _ h => h) (Or.inl ⟨by rfl, ?_⟩) ?_ ?_
        rotate_left
        · intro w'
          go_simp
          with_reducible rfl
        rotate_left
        · simp only [Act.put, List.setIfInBounds_toArray, List.set_cons_zero, List.set_cons_succ, i64_w, i32_w]
          rfl
        refine pure_ (i := 8) (N := some 104) (v := ?_) (a' := ?_) #[true, true, true, true, true, true, true, true, true, false, false, false, false, false, false, false, false, false, false, false, false, false, false, false, false, false, false, false, false, false, false, false, false, false, false, false, false, false] rfl rfl (any_of HT_.out (by kernel_rfl)) (fun _ _ _ h => h) (Or.inl ⟨by rfl, ?_⟩) ?_ ?_
        rotate_left
        · intro w'
          go_simp
          with_reducible rfl
        rotate_left
        · simp only [Act.put, List.setIfInBounds_toArray, List.set_cons_zero, List.set_cons_succ, i64_w, i32_w]
          rfl
        refine pure_ (i := 9) (N := some 105) (v := ?_) (a' := ?_) #[true, true, true, true, true, true, true, true, true, true, false, false, false, false, false, false, false, false, false, false, false, false, false, false, false, false, false, false, false, false, false, false, false, false, false, false, false, false] rfl rfl (any_of HT_.out (by kernel_rfl)) (fun _ _ _ h => h) (Or.inl ⟨by rfl, ?_⟩) ?_ ?_
        rotate_left
        · intro w'
          go_simp
          with_reducible rfl
        rotate_left
        · simp only [Act.put, List.setIfInBounds_toArray, List.set_cons_zero, List.set_cons_succ, i64_w, i32_w]
          rfl
        refine pure_ (i := 10) (N := some 106) (v := ?_) (a' := ?_) #[true, true, true, true, true, true, true, true, true, true, true, false, false, false, false, false, false, false, false, false, false, false, false, false, false, false, false, false, false, false, false, false, false, false, false, false, false, false] rfl rfl (any_of HT_.out (by kernel_rfl)) (fun _ _ _ h => h) (Or.inl ⟨by rfl, ?_⟩) ?_ ?_
        rotate_left
        · intro w'
          go_simp
          with_reducible rfl
        rotate_left
        · simp only [Act.put, List.setIfInBounds_toArray, List.set_cons_zero, List.set_cons_succ, i64_w, i32_w]
          rfl
        refine pure_ (i := 13) (N := some 109) (v := ?_) (a' := ?_) #[true, true, true, true, true, true, true, true, true, true, true, false, false, true, false, false, false, false, false, false, false, false, false, false, false, false, false, false, false, false, false, false, false, false, false, false, false, false] rfl rfl (any_of HT_.out (by kernel_rfl)) (fun _ _ _ h => h) (Or.inl ⟨by rfl, ?_⟩) ?_ ?_
        rotate_left
        · intro w'
          go_simp
          with_reducible rfl
        rotate_left
        · simp only [Act.put, List.setIfInBounds_toArray, List.set_cons_zero, List.set_cons_succ, i64_w, i32_w]
          rfl
        refine pure_ (i := 14) (N := some 110) (v := ?_) (a' := ?_) #[true, true, true, true, true, true, true, true, true, true, true, false, false, true, true, false, false, false, false, false, false, false, false, false, false, false, false, false, false, false, false, false, false, false, false, false, false, false] rfl rfl (any_of HT_.out (by kernel_rfl)) (fun _ _ _ h => h) (Or.inl ⟨by rfl, ?_⟩) ?_ ?_
        rotate_left
        · intro w'
          go_simp
          with_reducible rfl
        rotate_left
        · simp only [Act.put, List.setIfInBounds_toArray, List.set_cons_zero, List.set_cons_succ, i64_w, i32_w]
          rfl
        refine pure_ (i := 15) (N := some 111) (v := ?_) (a' := ?_) #[true, true, true, true, true, true, true, true, true, true, true, false, false, true, true, true, false, false, false, false, false, false, false, false, false, false, false, false, false, false, false, false, false, false, false, false, false, false] rfl rfl (any_of HT_.out (by kernel_rfl)) (fun _ _ _ h => h) (Or.inl ⟨by rfl, ?_⟩) ?_ ?_
        rotate_left
        · intro w'
          go_simp
          with_reducible rfl
        rotate_left
        · simp only [Act.put, List.setIfInBounds_toArray, List.set_cons_zero, List.set_cons_succ, i64_w, i32_w]
          rfl
        refine take_ (i := 11) (N := some 107) (v := ?_) (a' := ?_) #[true, true, true, true, true, true, true, true, true, true, true, true, false, true, true, true, false, false, false, false, false, false, false, false, false, false, false, false, false, false, false, false, false, false, false, false, false, false] rfl rfl (take_ofW HT_.out HW_.out (by kernel_rfl)) (fun _ _ _ h => h) (Or.inl ⟨by rfl, ?_⟩) hHeld ?_ ?_
        rotate_left
        · intro w' s0
          go_simp
          with_reducible rfl
        rotate_left
        · simp only [Act.put, List.setIfInBounds_toArray, List.set_cons_zero, List.set_cons_succ, i64_w, i32_w]
          rfl
        refine take_ (i := 16) (N := some 112) (v := ?_) (a' := ?_) #[true, true, true, true, true, true, true, true, true, true, true, true, false, true, true, true, true, false, false, false, false, false, false, false, false, false, false, false, false, false, false, false, false, false, false, false, false, false] rfl rfl (take_ofW HT_.out HW_.out (by kernel_rfl)) (fun _ _ _ h => h) (Or.inl ⟨by rfl, ?_⟩) hHeld ?_ ?_
        rotate_left
        · intro w' s0
          go_simp
          with_reducible rfl
        rotate_left
        · simp only [Act.put, List.setIfInBounds_toArray, List.set_cons_zero, List.set_cons_succ, i64_w, i32_w]
          rfl
        refine one_ (i := 12) (N := some 108) #[true, true, true, true, true, true, true, true, true, true, true, true, true, true, true, true, true, false, false, false, false, false, false, false, false, false, false, false, false, false, false, false, false, false, false, false, false, false] rfl rfl (one_of HT_.out (by kernel_rfl)) (by decide) (fun K hK => ?_)
        refine goes_ Tryd.func26 (by kernel_rfl) rfl #[.string p, .string r, .string t2] (by rfl) rfl rfl (by (try simp only [List.map_toArray, List.map_cons, List.map_nil]); first | done | rfl) ?_
        refine (S26 _).mono ?_
        rintro e y12 ⟨rfl, hb12⟩
        refine ⟨_, rfl, ?_⟩
        have Q12 := Aside0.mk (below_step Q5.out hb12)
        have W12 := Aside0.mk (blk_below W5.out hb12)
        have V12 := Aside0.mk (blk_below V5.out hb12)
        clear hb12
        refine hK.out _ _ ((blk_cell W12.out 2).trans rfl) (fun hHeld => ?_)
        clear hK K
        refine norm_ (a' := ?_) ?_ ?_
        rotate_left
        · show Act.put _ (some 108) _ = _
          simp only [Act.put, List.setIfInBounds_toArray, List.set_cons_zero, List.set_cons_succ, i64_w, i32_w]
          rfl
        refine one_ (i := 17) (N := some 113) #[true, true, true, true, true, true, true, true, true, true, true, true, true, true, true, true, true, true, false, false, false, false, false, false, false, false, false, false, false, false, false, false, false, false, false, false, false, false] rfl rfl (one_of HT_.out (by kernel_rfl)) (by decide) (fun K hK => ?_)
        refine goes_ Tryd.func27 (by kernel_rfl) rfl #[.string p, .string r, .string t2] (by rfl) rfl rfl (by (try simp only [List.map_toArray, List.map_cons, List.map_nil]); first | done | rfl) ?_
        refine (S27 _).mono ?_
        rintro e y17 ⟨rfl, hb17⟩
        refine ⟨_, rfl, ?_⟩
        have Q17 := Aside0.mk (below_step Q12.out hb17)
        have W17 := Aside0.mk (blk_below W12.out hb17)
        have V17 := Aside0.mk (blk_below V12.out hb17)
        clear hb17
        refine hK.out _ _ ((blk_cell W17.out 2).trans rfl) (fun hHeld => ?_)
        clear hK K
        refine norm_ (a' := ?_) ?_ ?_
        rotate_left
        · show Act.put _ (some 113) _ = _
          simp only [Act.put, List.setIfInBounds_toArray, List.set_cons_zero, List.set_cons_succ, i64_w, i32_w]
          rfl
        refine pure_ (i := 18) (N := some 114) (v := ?_) (a' := ?_) #[true, true, true, true, true, true, true, true, true, true, true, true, true, true, true, true, true, true, true, false, false, false, false, false, false, false, false, false, false, false, false, false, false, false, false, false, false, false] rfl rfl (any_of HT_.out (by kernel_rfl)) (fun _ _ _ h => h) (Or.inl ⟨by rfl, ?_⟩) ?_ ?_
        rotate_left
        · intro w'
          go_simp
          with_reducible rfl
        rotate_left
        · simp only [Act.put, List.setIfInBounds_toArray, List.set_cons_zero, List.set_cons_succ, i64_w, i32_w]
          rfl
        refine pure_ (i := 19) (N := some 115) (v := ?_) (a' := ?_) #[true, true, true, true, true, true, true, true, true, true, true, true, true, true, true, true, true, true, true, true, false, false, false, false, false, false, false, false, false, false, false, false, false, false, false, false, false, false] rfl rfl (any_of HT_.out (by kernel_rfl)) (fun _ _ _ h => h) (Or.inl ⟨by rfl, ?_⟩) ?_ ?_
        rotate_left
        · intro w'
          go_simp
          with_reducible rfl
        rotate_left
        · simp only [Act.put, List.setIfInBounds_toArray, List.set_cons_zero, List.set_cons_succ, i64_w, i32_w]
          rfl
        refine pure_ (i := 20) (N := some 116) (v := ?_) (a' := ?_) #[true, true, true, true, true, true, true, true, true, true, true, true, true, true, true, true, true, true, true, true, true, false, false, false, false, false, false, false, false, false, false, false, false, false, false, false, false, false] rfl rfl (any_of HT_.out (by kernel_rfl)) (fun _ _ _ h => h) (Or.inl ⟨by rfl, ?_⟩) ?_ ?_
        rotate_left
        · intro w'
          go_simp
          with_reducible rfl
        rotate_left
        · simp only [Act.put, List.setIfInBounds_toArray, List.set_cons_zero, List.set_cons_succ, i64_w, i32_w]
          rfl
        refine pure_ (i := 21) (N := some 117) (v := ?_) (a' := ?_) #[true, true, true, true, true, true, true, true, true, true, true, true, true, true, true, true, true, true, true, true, true, true, false, false, false, false, false, false, false, false, false, false, false, false, false, false, false, false] rfl rfl (any_of HT_.out (by kernel_rfl)) (fun _ _ _ h => h) (Or.inl ⟨by rfl, ?_⟩) ?_ ?_
        rotate_left
        · intro w'
          go_simp
          with_reducible rfl
        rotate_left
        · simp only [Act.put, List.setIfInBounds_toArray, List.set_cons_zero, List.set_cons_succ, i64_w, i32_w]
          rfl
        refine pure_ (i := 22) (N := some 118) (v := ?_) (a' := ?_) #[true, true, true, true, true, true, true, true, true, true, true, true, true, true, true, true, true, true, true, true, true, true, true, false, false, false, false, false, false, false, false, false, false, false, false, false, false, false] rfl rfl (any_of HT_.out (by kernel_rfl)) (fun _ _ _ h => h) (Or.inl ⟨by rfl, ?_⟩) ?_ ?_
        rotate_left
        · intro w'
          go_simp
          with_reducible rfl
        rotate_left
        · simp only [Act.put, List.setIfInBounds_toArray, List.set_cons_zero, List.set_cons_succ, i64_w, i32_w]
          rfl
        refine pure_ (i := 23) (N := some 119) (v := ?_) (a' := ?_) #[true, true, true, true, true, true, true, true, true, true, true, true, true, true, true, true, true, true, true, true, true, true, true, true, false, false, false, false, false, false, false, false, false, false, false, false, false, false] rfl rfl (any_of HT_.out (by kernel_rfl)) (fun _ _ _ h => h) (Or.inl ⟨by rfl, ?_⟩) ?_ ?_
        rotate_left
        · intro w'
          go_simp
          with_reducible rfl
        rotate_left
        · simp only [Act.put, List.setIfInBounds_toArray, List.set_cons_zero, List.set_cons_succ, i64_w, i32_w]
          rfl
        refine pure_ (i := 25) (N := some 121) (v := ?_) (a' := ?_) #[true, true, true, true, true, true, true, true, true, true, true, true, true, true, true, true, true, true, true, true, true, true, true, true, false, true, false, false, false, false, false, false, false, false, false, false, false, false] rfl rfl (any_of HT_.out (by kernel_rfl)) (fun _ _ _ h => h) (Or.inl ⟨by rfl, ?_⟩) ?_ ?_
        rotate_left
        · intro w'
          go_simp
          with_reducible rfl
        rotate_left
        · simp only [Act.put, List.setIfInBounds_toArray, List.set_cons_zero, List.set_cons_succ, i64_w, i32_w]
          rfl
        refine pure_ (i := 26) (N := some 122) (v := ?_) (a' := ?_) #[true, true, true, true, true, true, true, true, true, true, true, true, true, true, true, true, true, true, true, true, true, true, true, true, false, true, true, false, false, false, false, false, false, false, false, false, false, false] rfl rfl (any_of HT_.out (by kernel_rfl)) (fun _ _ _ h => h) (Or.inl ⟨by rfl, ?_⟩) ?_ ?_
        rotate_left
        · intro w'
          go_simp
          with_reducible rfl
        rotate_left
        · simp only [Act.put, List.setIfInBounds_toArray, List.set_cons_zero, List.set_cons_succ, i64_w, i32_w]
          rfl
        refine pure_ (i := 27) (N := some 123) (v := ?_) (a' := ?_) #[true, true, true, true, true, true, true, true, true, true, true, true, true, true, true, true, true, true, true, true, true, true, true, true, false, true, true, true, false, false, false, false, false, false, false, false, false, false] rfl rfl (any_of HT_.out (by kernel_rfl)) (fun _ _ _ h => h) (Or.inl ⟨by rfl, ?_⟩) ?_ ?_
        rotate_left
        · intro w'
          go_simp
          with_reducible rfl
        rotate_left
        · simp only [Act.put, List.setIfInBounds_toArray, List.set_cons_zero, List.set_cons_succ, i64_w, i32_w]
          rfl
        refine one_ (i := 24) (N := some 120) #[true, true, true, true, true, true, true, true, true, true, true, true, true, true, true, true, true, true, true, true, true, true, true, true, true, true, true, true, false, false, false, false, false, false, false, false, false, false] rfl rfl (one_of HT_.out (by kernel_rfl)) (by decide) (fun K hK => ?_)
        refine goes_ Tryd.func28 (by kernel_rfl) rfl #[.string p, .string r, .int .i64 k] (by rfl) rfl rfl (by (try simp only [List.map_toArray, List.map_cons, List.map_nil]); first | done | rfl) ?_
        refine (K28 _).mono ?_
        rintro e y24 ⟨rfl, hb24⟩
        refine ⟨_, rfl, ?_⟩
        have Q24 := Aside0.mk (below_step Q17.out hb24)
        have W24 := Aside0.mk (blk_below W17.out hb24)
        have V24 := Aside0.mk (blk_below V17.out hb24)
        clear hb24
        refine hK.out _ _ ((blk_cell W24.out 2).trans rfl) (fun hHeld => ?_)
        clear hK K
        refine norm_ (a' := ?_) ?_ ?_
        rotate_left
        · show Act.put _ (some 120) _ = _
          simp only [Act.put, List.setIfInBounds_toArray, List.set_cons_zero, List.set_cons_succ, i64_w, i32_w]
          rfl
        refine one_ (i := 28) (N := some 124) #[true, true, true, true, true, true, true, true, true, true, true, true, true, true, true, true, true, true, true, true, true, true, true, true, true, true, true, true, true, false, false, false, false, false, false, false, false, false] rfl rfl (one_of HT_.out (by kernel_rfl)) (by decide) (fun K hK => ?_)
        refine goes_ Tryd.func29 (by kernel_rfl) rfl #[.string p, .string r, .int .i64 k] (by rfl) rfl rfl (by (try simp only [List.map_toArray, List.map_cons, List.map_nil]); first | done | rfl) ?_
        refine (K29 _).mono ?_
        rintro e y28 ⟨rfl, hb28⟩
        refine ⟨_, rfl, ?_⟩
        have Q28 := Aside0.mk (below_step Q24.out hb28)
        have W28 := Aside0.mk (blk_below W24.out hb28)
        have V28 := Aside0.mk (blk_below V24.out hb28)
        clear hb28
        refine hK.out _ _ ((blk_cell W28.out 2).trans rfl) (fun hHeld => ?_)
        clear hK K
        refine norm_ (a' := ?_) ?_ ?_
        rotate_left
        · show Act.put _ (some 124) _ = _
          simp only [Act.put, List.setIfInBounds_toArray, List.set_cons_zero, List.set_cons_succ, i64_w, i32_w]
          rfl
        refine pure_ (i := 29) (N := some 125) (v := ?_) (a' := ?_) #[true, true, true, true, true, true, true, true, true, true, true, true, true, true, true, true, true, true, true, true, true, true, true, true, true, true, true, true, true, true, false, false, false, false, false, false, false, false] rfl rfl (any_of HT_.out (by kernel_rfl)) (fun _ _ _ h => h) (Or.inl ⟨by rfl, ?_⟩) ?_ ?_
        rotate_left
        · intro w'
          go_simp
          with_reducible rfl
        rotate_left
        · simp only [Act.put, List.setIfInBounds_toArray, List.set_cons_zero, List.set_cons_succ, i64_w, i32_w]
          rfl
        refine pure_ (i := 30) (N := some 126) (v := ?_) (a' := ?_) #[true, true, true, true, true, true, true, true, true, true, true, true, true, true, true, true, true, true, true, true, true, true, true, true, true, true, true, true, true, true, true, false, false, false, false, false, false, false] rfl rfl (any_of HT_.out (by kernel_rfl)) (fun _ _ _ h => h) (Or.inl ⟨by rfl, ?_⟩) ?_ ?_
        rotate_left
        · intro w'
          go_simp
          with_reducible rfl
        rotate_left
        · simp only [Act.put, List.setIfInBounds_toArray, List.set_cons_zero, List.set_cons_succ, i64_w, i32_w]
          rfl
        refine pure_ (i := 31) (N := some 127) (v := ?_) (a' := ?_) #[true, true, true, true, true, true, true, true, true, true, true, true, true, true, true, true, true, true, true, true, true, true, true, true, true, true, true, true, true, true, true, true, false, false, false, false, false, false] rfl rfl (any_of HT_.out (by kernel_rfl)) (fun _ _ _ h => h) (Or.inl ⟨by rfl, ?_⟩) ?_ ?_
        rotate_left
        · intro w'
          go_simp
          with_reducible rfl
        rotate_left
        · simp only [Act.put, List.setIfInBounds_toArray, List.set_cons_zero, List.set_cons_succ, i64_w, i32_w]
          rfl
        refine pure_ (i := 32) (N := some 128) (v := ?_) (a' := ?_) #[true, true, true, true, true, true, true, true, true, true, true, true, true, true, true, true, true, true, true, true, true, true, true, true, true, true, true, true, true, true, true, true, true, false, false, false, false, false] rfl rfl (any_of HT_.out (by kernel_rfl)) (fun _ _ _ h => h) (Or.inl ⟨by rfl, ?_⟩) ?_ ?_
        rotate_left
        · intro w'
          go_simp
          with_reducible rfl
        rotate_left
        · simp only [Act.put, List.setIfInBounds_toArray, List.set_cons_zero, List.set_cons_succ, i64_w, i32_w]
          rfl
        refine pure_ (i := 34) (N := some 130) (v := ?_) (a' := ?_) #[true, true, true, true, true, true, true, true, true, true, true, true, true, true, true, true, true, true, true, true, true, true, true, true, true, true, true, true, true, true, true, true, true, false, true, false, false, false] rfl rfl (any_of HT_.out (by kernel_rfl)) (fun _ _ _ h => h) (Or.inl ⟨by rfl, ?_⟩) ?_ ?_
        rotate_left
        · intro w'
          go_simp
          with_reducible rfl
        rotate_left
        · simp only [Act.put, List.setIfInBounds_toArray, List.set_cons_zero, List.set_cons_succ, i64_w, i32_w]
          rfl
        refine pure_ (i := 35) (N := some 131) (v := ?_) (a' := ?_) #[true, true, true, true, true, true, true, true, true, true, true, true, true, true, true, true, true, true, true, true, true, true, true, true, true, true, true, true, true, true, true, true, true, false, true, true, false, false] rfl rfl (any_of HT_.out (by kernel_rfl)) (fun _ _ _ h => h) (Or.inl ⟨by rfl, ?_⟩) ?_ ?_
        rotate_left
        · intro w'
          go_simp
          with_reducible rfl
        rotate_left
        · simp only [Act.put, List.setIfInBounds_toArray, List.set_cons_zero, List.set_cons_succ, i64_w, i32_w]
          rfl
        refine one_ (i := 33) (N := some 129) #[true, true, true, true, true, true, true, true, true, true, true, true, true, true, true, true, true, true, true, true, true, true, true, true, true, true, true, true, true, true, true, true, true, true, true, true, false, false] rfl rfl (one_of HT_.out (by kernel_rfl)) (by decide) (fun K hK => ?_)
        refine goes_ Tryd.func30 (by kernel_rfl) rfl #[.string p] (by rfl) rfl rfl (by (try simp only [List.map_toArray, List.map_cons, List.map_nil]); first | done | rfl) ?_
        refine (P30 _).mono ?_
        rintro e y33 ⟨rfl, ⟨⟨m33_, rfl⟩⟩⟩
        refine ⟨_, rfl, ?_⟩
        have Q33 := Aside0.mk (pw_below_drewN Q28.out m33_)
        have W33 := Aside0.mk (blk_drewN W28.out m33_)
        have V33 := Aside0.mk (blk_drewN V28.out m33_)
        refine hK.out _ _ ((blk_cell W33.out 2).trans rfl) (fun hHeld => ?_)
        clear hK K
        refine norm_ (a' := ?_) ?_ ?_
        rotate_left
        · show Act.put _ (some 129) _ = _
          simp only [Act.put, List.setIfInBounds_toArray, List.set_cons_zero, List.set_cons_succ, i64_w, i32_w]
          rfl
        refine pure_ (i := 36) (N := some 132) (v := ?_) (a' := ?_) #[true, true, true, true, true, true, true, true, true, true, true, true, true, true, true, true, true, true, true, true, true, true, true, true, true, true, true, true, true, true, true, true, true, true, true, true, true, false] rfl rfl (any_of HT_.out (by kernel_rfl)) (fun _ _ _ h => h) (Or.inl ⟨by rfl, ?_⟩) ?_ ?_
        rotate_left
        · intro w'
          go_simp
          with_reducible rfl
        rotate_left
        · simp only [Act.put, List.setIfInBounds_toArray, List.set_cons_zero, List.set_cons_succ, i64_w, i32_w]
          rfl
        refine pure_ (i := 37) (N := some 133) (v := ?_) (a' := ?_) #[true, true, true, true, true, true, true, true, true, true, true, true, true, true, true, true, true, true, true, true, true, true, true, true, true, true, true, true, true, true, true, true, true, true, true, true, true, true] rfl rfl (any_of HT_.out (by kernel_rfl)) (fun _ _ _ h => h) (Or.inl ⟨by rfl, ?_⟩) ?_ ?_
        rotate_left
        · intro w'
          go_simp
          with_reducible rfl
        rotate_left
        · simp only [Act.put, List.setIfInBounds_toArray, List.set_cons_zero, List.set_cons_succ, i64_w, i32_w]
          rfl
        refine done_ (done_of HT_.out (by kernel_rfl)) ?_

        go_wp2
        go_roundg kk
        case measure => omega
        case rel => exact ⟨i + 1, rfl, ⟨by have := HK.out; omega⟩, V33, W33, Q33⟩
theorem three_cells {cs : Array Value} {a b c : Value} (h : cs.size = 3) (h0 : cs[0]? = some a) (h1 : cs[1]? = some b) (h2 : cs[2]? = some c) : cs = #[a, b, c] := by
  apply Array.ext_getElem?
  intro i
  rcases (by omega : i = 0 ∨ i = 1 ∨ i = 2 ∨ 3 ≤ i) with rfl | rfl | rfl | hi
  · rw [h0]; rfl
  · rw [h1]; rfl
  · rw [h2]; rfl
  · rw [Array.getElem?_eq_none (by omega), Array.getElem?_eq_none (by simpa using hi)]
theorem walk3 {H : Type} {enc : TypeId × Value → H} {b0 q0 : Nat} {s0 : Nat → Bool} {g0 : Bool} {d0 : DataW H} {p0 : List MemPlace}
    (v0 : Value) (A1 : Option Addr) (c1 : Nat) (l : List Int) (k : Int) (w : World)
    (o0 : Value.okWide Tryd.prog w .any b0 22 v0) (r0 : DataW.Trod enc Tryd.prog w q0 s0 g0 22 v0 d0 p0)
    (r1 : Kd.C (Kd.int .u8) w A1 l.length l) (h1 : l.length ≤ c1) (n1 : ∀ x ∈ l, 0 ≤ x ∧ x ≤ 255) (_ : l.length ≤ 140737488351232) (_ : (Lit.int .i64 k).wf = true) :
    Calls Tryd.prog 3 #[v0, .slice A1 l.length c1, .int .i64 k] w fun e w' => e = .returned (.bool true) ∧ Below w.heap.size w w' := by
  obtain ⟨cs, rfl, e, f⟩ := V8.open_row_str Tryd.underlying22 (by kernel_rfl) (by kernel_rfl) Tryd.underlying9 o0 r0
  obtain ⟨t0, e0⟩ := f 0 (by omega)
  obtain ⟨t1, e1⟩ := f 1 (by omega)
  obtain ⟨t2, e2⟩ := f 2 (by omega)
  obtain rfl := three_cells e e0 e1 e2
  exact matches3 t0 t1 t2 A1 c1 l k w r1 h1 (fun x h => (n1 x h).1)
end Go.Proofs.YtpahemgofhpfnaaDoor.V3

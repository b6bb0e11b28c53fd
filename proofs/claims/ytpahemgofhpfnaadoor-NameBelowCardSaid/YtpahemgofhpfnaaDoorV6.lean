/- NameBelow, walked. -/
import Derived.Test.YtpahemgofhpfnaaDoorPB
import Derived.Test.YtpahemgofhpfnaaDoorV8
namespace Go.Proofs.YtpahemgofhpfnaaDoor.V6
open Go.RowKit Go.Shelf Go.Proofs.YtpahemgofhpfnaaDoorW.PrintWords Go.Proofs.YtpahemgofhpfnaaDoorW.PrintLast Go.Proofs.YtpahemgofhpfnaaDoorW.PrintMore
open Go.Proofs.YtpahemgofhpfnaaDoor Go.Proofs.YtpahemgofhpfnaaDoor.D Go.Proofs.YtpahemgofhpfnaaDoor.E Go.Proofs.YtpahemgofhpfnaaDoor.F Go.Proofs.YtpahemgofhpfnaaDoor.Sp Go.Proofs.YtpahemgofhpfnaaDoor.K Go.Proofs.YtpahemgofhpfnaaDoor.H Go.Proofs.YtpahemgofhpfnaaDoor.L Go.Proofs.YtpahemgofhpfnaaDoor.P Go.Proofs.YtpahemgofhpfnaaDoor.PB
set_option linter.unusedVariables false
set_option linter.unusedSimpArgs false
def T13 : Bool × List (List Nat × List Nat) := (true, [([], []), ([], []), ([1], [1]), ([2], [2]), ([], []), ([4], [4]), ([5], [5]), ([3, 6], [3, 6]), ([0, 7], [0, 7]), ([8], [8]), ([], []), ([], []), ([11], [11]), ([12], [12]), ([], []), ([14], [14]), ([15], [15]), ([13, 16], [13, 16]), ([10, 17], [10, 17]), ([18, 9], [18]), ([9, 19, 0, 1, 2, 3, 4, 5, 6, 7, 8, 9], [9]), ([19, 20, 0, 1, 2, 3, 4, 5, 6, 7, 8, 9, 10, 11, 12, 13, 14, 15, 16, 17, 18, 19, 20], [19])])
def B13 : List Nat := [0, 0, 2, 6, 0, 16, 48, 126, 255, 511, 0, 0, 2048, 6144, 0, 16384, 49152, 129024, 261120, 524287, 1048575, 2097151]
theorem tab13 : rtab .any (opsOf Tryd.f6 13) = T13 := by kernel_rfl
theorem bits13 : waitsOk T13.2 B13 = true := by kernel_rfl
def T10 : Bool × List (List Nat × List Nat) := (true, [([], []), ([0], [0]), ([1], [1]), ([1], [1]), ([2, 3, 1], [1, 2, 3]), ([4, 1], [1, 4]), ([1], [1]), ([1], [1]), ([6, 7, 1], [1, 6, 7]), ([8, 1], [1, 8]), ([5, 9, 1], [1, 5, 9]), ([1, 10], [1, 10]), ([11, 1, 0, 1, 2, 3, 4, 5, 6, 7, 8, 9, 10, 11], [0, 11])])
def B10 : List Nat := [0, 1, 3, 3, 15, 31, 3, 3, 195, 451, 1023, 2047, 4095]
theorem tab10 : rtab .any (opsOf Tryd.f6 10) = T10 := by kernel_rfl
theorem bits10 : waitsOk T10.2 B10 = true := by kernel_rfl
theorem cut_facts (k : Int) (l : List Int) (c : Nat) (h : 0 ≤ k ∧ k ≤ 255) (hl : l.length ≤ 140737488351232) (hc : l.length ≤ c) : ∃ j : Nat, j ≤ l.length ∧ (l.take j).length = j ∧ Aside0 (wrap64 k = k) ∧ Aside0 (Int.tmod k ((l.length : Int) + 1) = (j : Int)) := by
  have e0 := Int.emod_lt_of_pos k (show (0 : Int) < (l.length : Int) + 1 by omega)
  have e1 := Int.emod_nonneg k (show ((l.length : Int) + 1) ≠ 0 by omega)
  refine ⟨(k % ((l.length : Int) + 1)).toNat, by omega, ?_, ⟨w64 (by omega) (by omega)⟩, ⟨?_⟩⟩
  · rw [List.length_take]; omega
  · rw [Int.tmod_eq_emod_of_nonneg h.1]; omega
set_option maxHeartbeats 20000000 in
set_option maxRecDepth 100000 in
theorem below6 (A0 A1 : Option Addr) (c0 c1 : Nat) (l m : List Int) (k0 k1 : Int) (w : World)
    (r0 : Kd.C (Kd.int .u8) w A0 l.length l) (r1 : Kd.C (Kd.int .u8) w A1 m.length m) (h0 : l.length ≤ c0) (h1 : m.length ≤ c1) (n0 : ∀ x ∈ l, 0 ≤ x) (n1 : ∀ x ∈ m, 0 ≤ x)
    (hl : l.length ≤ 140737488351232) (b0 : 0 ≤ k0 ∧ k0 ≤ 255) (b1 : 0 ≤ k1 ∧ k1 ≤ 255) :
    Calls Tryd.prog 6 #[.slice A0 l.length c0, .slice A1 m.length c1, .agg #[.int .u8 k0, .int .u8 k1]] w fun e w' => e = .returned (.bool true) ∧ Below w.heap.size w w' := by
  obtain ⟨j0, j0l, j0t, wk0, tk0⟩ := cut_facts k0 l c0 b0 hl h0
  obtain ⟨j1, j1l, j1t, wk1, tk1⟩ := cut_facts k1 l c0 b1 hl h0
  have wz : ((l.length : Int) + 1 = 0) = False := eq_false (by omega)
  obtain ⟨i5, hi5, _, _, _⟩ := info_parts Go.Proofs.YtpahemgofhpfnaaDoor.Q.info5
  have s0 := cut_to (P := Tryd.prog) 23 5 .i64 Tryd.underlying23 hi5 A0 l.length c0 (j0 : Int) (by omega) (by omega) h0
  have s1 := cut_to (P := Tryd.prog) 23 5 .i64 Tryd.underlying23 hi5 A0 l.length c0 (j1 : Int) (by omega) (by omega) h0
  rw [Int.toNat_natCast] at s0 s1
  have CL := fun W (hb : Below w.heap.size w W) => long12 A0 c0 l n0 W (Kd.C_below r0 hb) h0
  have CM := fun W (hb : Below w.heap.size w W) => long12 A1 c1 m n1 W (Kd.C_below r1 hb) h1
  have X0 := fun W (hb : Below w.heap.size w W) => long12 A0 c0 (l.take j0) (fun x hx => n0 x (List.mem_of_mem_take hx)) W (Kd.C_take (Kd.C_below r0 hb) j0l) (by omega)
  have X1 := fun W (hb : Below w.heap.size w W) => long12 A0 c0 (l.take j1) (fun x hx => n0 x (List.mem_of_mem_take hx)) W (Kd.C_take (Kd.C_below r0 hb) j1l) (by omega)
  rw [j0t] at X0
  rw [j1t] at X1
  have zp := P.longB_size l
  have zq := P.longB_size m
  have zx := P.longB_size (l.take j0)
  have zy := P.longB_size (l.take j1)
  have hX : (ws l).length ≤ 10 := by unfold ws; rw [List.length_map, List.length_take]; omega
  have ca := cutB_ws l
  have cb := cutB_ws m
  have le := Lib.hid (head_end l m)
  have l3 := law3 l j0
  have l3' := law3 l j1
  have l4 := Lib.hid (law4 l m j0)
  have l5 := Lib.hid (law5 l j0 j1)
  generalize longB (l.take j0) = x at X0 zx l3 l4 l5
  generalize longB (l.take j1) = y at X1 zy l3' l5
  generalize longB l = p at CL zp ca le l3 l3' l4
  generalize longB m = q at CM zq cb le l4
  generalize ws l = X at hX ca le
  generalize ws m = Y at cb le
  have IP := fun W => isPath31 p (by omega) W
  have IQ := fun W => isPath31 q (by omega) W
  have KP := fun W => cut32 p (by omega) W
  have KQ := fun W => cut32 q (by omega) W
  rw [ca] at KP
  rw [cb] at KQ
  simp only [List.length_map] at KP KQ
  have Bpq := fun W => below24 p q (by omega) W
  have Bpp := fun W => below24 p p (by omega) W
  have Bpe := fun W => below24 p ⟨#[]⟩ (by decide) W
  have Bpx := fun W => below24 p x (by omega) W
  have Bpy := fun W => below24 p y (by omega) W
  have Bqp := fun W => below24 q p (by omega) W
  have Bqx := fun W => below24 q x (by omega) W
  have Bxy := fun W => below24 x y (by omega) W
  have Byx := fun W => below24 y x (by omega) W
  rw [below_self] at Bpp
  rw [ub_emp, below_root] at Bpe
  rw [l3] at Bpx
  rw [l3'] at Bpy
  clear l3 l3' ca cb zp zq zx zy
  have wl := Aside0.mk (show wrap64 ((l.length : Int) + 1) = (l.length : Int) + 1 by unfold wrap64; omega)
  have hu51 := Tryd.underlying51
  go_enter Tryd.func6, Tryd.ntmps6
  go_wp2_with fail
  refine (sanity11 _).mono ?_
  rintro e w1 ⟨rfl, hb1⟩
  have HB1 := Aside0.mk (below_step (below_alloc (Below.refl _ _) _) hb1)
  have BX1 := blk_below (blk_new w (.cells #[.int .u8 k0, .int .u8 k1] 51)) hb1
  clear hb1
  go_wp2_with fail
  refine (CL _ HB1.out).mono ?_
  rintro e w2 ⟨rfl, hb2⟩
  have HB2 := Aside0.mk (below_step HB1.out hb2)
  replace BX1 := blk_below BX1 hb2
  go_wp2_with fail
  refine (CM _ HB2.out).mono ?_
  rintro e w3 ⟨rfl, hb3⟩
  have HB3 := Aside0.mk (below_step HB2.out hb3)
  replace BX1 := blk_below BX1 hb3
  clear hb2 hb3 HB1 HB2 CL CM
  have BX3 := Aside0.mk BX1
  clear BX1
  go_wp2_with fail
  refine (IP _).mono ?_
  rintro e w4 ⟨rfl, hb4⟩
  have HB4 := Aside0.mk (below_step HB3.out hb4)
  have BX4 := Aside0.mk (blk_below BX3.out hb4)
  clear hb4 HB3 BX3
  by_cases ip : isPath (ub p) = true
  rotate_left
  · rw [Bool.not_eq_true] at ip
    go_wp2
    go_ret
    exact ⟨rfl, HB4.out⟩
  go_wp2_with fail
  refine (IQ _).mono ?_
  rintro e w5 ⟨rfl, hb5⟩
  have HB5 := Aside0.mk (below_step HB4.out hb5)
  have BX5 := Aside0.mk (blk_below BX4.out hb5)
  clear hb5 HB4 BX4
  by_cases iq : isPath (ub q) = true
  rotate_left
  · rw [Bool.not_eq_true] at iq
    go_wp2
    go_ret
    exact ⟨rfl, HB5.out⟩
  go_wp2_with fail
  refine (KP _).mono ?_
  rintro e w6 ⟨Aa, ac, rfl, hac, hCa, hb6⟩
  have HB6 := Aside0.mk (below_step HB5.out hb6)
  have BX6 := Aside0.mk (blk_below BX5.out hb6)
  clear hb6 HB5 BX5
  go_wp2_with fail
  refine (KQ _).mono ?_
  rintro e w7 ⟨Ab, bc, rfl, hbc, hCb, hb7⟩
  have HB7 := Aside0.mk (below_step HB6.out hb7)
  have BX7 := Aside0.mk (blk_below BX6.out hb7)
  have CA := Aside0.mk (Kd.C_below hCa hb7)
  have CB := Aside0.mk hCb
  clear hb7 HB6 BX6 hCa hCb KP KQ IP IQ
  go_wp2_with fail
  go_loopg [12, 13] 20 (fun kq v12 v13 w' => ∃ i : Nat, v12 = .bool (headB X Y i) ∧ v13 = .int .i64 (i : Int) ∧ Aside0 (i ≤ X.length) ∧ Aside0 (i ≤ Y.length) ∧ Aside0 (i + kq = 20) ∧ Aside0 (Below w7.heap.size w7 w'))
  case atStart => exact ⟨0, by simp [headB], rfl, ⟨by omega⟩, ⟨by omega⟩, ⟨rfl⟩, ⟨Below.refl _ _⟩⟩
  case round =>
    obtain ⟨i, rfl, rfl, HX, HY, HK, HW⟩ := hrel
    by_cases hi : i < X.length ∧ i < Y.length
    · obtain ⟨hx, hy⟩ := hi
      cases gk with
      | zero => have := HK.out; omega
      | succ k =>
        obtain ⟨ad, rfl, hca⟩ := Kd.at_string CA.out (i : Int) (by omega) (by simpa using hx)
        obtain ⟨bd, rfl, hcb⟩ := Kd.at_string CB.out (i : Int) (by omega) (by simpa using hy)
        have ga := pw_cell_below HW.out hca
        have gb := pw_cell_below HW.out hcb
        have er : rdOf ByteArray.empty (X.map bx) (i : Int) = bx X[i] := by simp [rdOf, hx]
        have es : rdOf ByteArray.empty (Y.map bx) (i : Int) = bx Y[i] := by simp [rdOf, hy]
        rw [er, Int.toNat_natCast] at ga
        rw [es, Int.toNat_natCast] at gb
        have e1 : decide ((i : Int) < (X.length : Int)) = true := decide_eq_true (by omega)
        have e2 : decide ((i : Int) < (Y.length : Int)) = true := decide_eq_true (by omega)
        have e3 : (0 ≤ (i : Int)) = True := eq_true (by omega)
        have e4 : ((i : Int) < (X.length : Int)) = True := eq_true (by omega)
        have e5 : ((i : Int) < (Y.length : Int)) = True := eq_true (by omega)
        have hst := Lib.hid (head_step X Y i hx hy)
        clear hca hcb er es
        cases hh : headB X Y i with
        | false =>
          rw [hh] at hst
          go_wp2
          refine start_ (n := 13) (S := fun w' => True) (ds := []) #[false, false, false, false, false, false, false, false, false, false, false, false, false] (by kernel_rfl) rfl rfl trivial (fun hHeld => ?_)
          refine with_tabW tab10 bits10 (fun HT_ HW_ => ?_)
          refine pure_ (i := 0) (N := some 51) (v := ?_) (a' := ?_) #[true, false, false, false, false, false, false, false, false, false, false, false, false] rfl rfl (any_of HT_.out (by kernel_rfl)) (fun _ _ _ h => h) (Or.inl ⟨by rfl, ?_⟩) ?_ ?_
          rotate_left
          · intro w'
            go_simp
            with_reducible rfl
          rotate_left
          · simp only [Act.put, List.setIfInBounds_toArray, List.set_cons_zero, List.set_cons_succ, i64_w, i32_w]
            rfl
          refine pure_ (i := 1) (N := some 52) (v := ?_) (a' := ?_) #[true, true, false, false, false, false, false, false, false, false, false, false, false] rfl rfl (any_of HT_.out (by kernel_rfl)) (fun _ _ _ h => h) (Or.inl ⟨by rfl, ?_⟩) ?_ ?_
          rotate_left
          · intro w'
            go_simp
            with_reducible rfl
          rotate_left
          · simp only [Act.put, List.setIfInBounds_toArray, List.set_cons_zero, List.set_cons_succ, i64_w, i32_w]
            rfl
          refine pure_ (i := 2) (N := some 53) (v := undef) (a' := ?_) #[true, true, true, false, false, false, false, false, false, false, false, false, false] rfl rfl (any_of HT_.out (by kernel_rfl)) (fun _ _ _ h => h) (Or.inr ⟨by rfl, rfl⟩) ?_ ?_
          rotate_left
          · simp only [Act.put, List.setIfInBounds_toArray, List.set_cons_zero, List.set_cons_succ, i64_w, i32_w]
            rfl
          refine pure_ (i := 3) (N := some 54) (v := undef) (a' := ?_) #[true, true, true, true, false, false, false, false, false, false, false, false, false] rfl rfl (any_of HT_.out (by kernel_rfl)) (fun _ _ _ h => h) (Or.inr ⟨by rfl, rfl⟩) ?_ ?_
          rotate_left
          · simp only [Act.put, List.setIfInBounds_toArray, List.set_cons_zero, List.set_cons_succ, i64_w, i32_w]
            rfl
          refine pure_ (i := 4) (N := some 55) (v := undef) (a' := ?_) #[true, true, true, true, true, false, false, false, false, false, false, false, false] rfl rfl (any_of HT_.out (by kernel_rfl)) (fun _ _ _ h => h) (Or.inr ⟨by rfl, rfl⟩) ?_ ?_
          rotate_left
          · simp only [Act.put, List.setIfInBounds_toArray, List.set_cons_zero, List.set_cons_succ, i64_w, i32_w]
            rfl
          refine pure_ (i := 5) (N := some 56) (v := undef) (a' := ?_) #[true, true, true, true, true, true, false, false, false, false, false, false, false] rfl rfl (any_of HT_.out (by kernel_rfl)) (fun _ _ _ h => h) (Or.inr ⟨by rfl, rfl⟩) ?_ ?_
          rotate_left
          · simp only [Act.put, List.setIfInBounds_toArray, List.set_cons_zero, List.set_cons_succ, i64_w, i32_w]
            rfl
          refine pure_ (i := 6) (N := some 57) (v := undef) (a' := ?_) #[true, true, true, true, true, true, true, false, false, false, false, false, false] rfl rfl (any_of HT_.out (by kernel_rfl)) (fun _ _ _ h => h) (Or.inr ⟨by rfl, rfl⟩) ?_ ?_
          rotate_left
          · simp only [Act.put, List.setIfInBounds_toArray, List.set_cons_zero, List.set_cons_succ, i64_w, i32_w]
            rfl
          refine pure_ (i := 7) (N := some 58) (v := undef) (a' := ?_) #[true, true, true, true, true, true, true, true, false, false, false, false, false] rfl rfl (any_of HT_.out (by kernel_rfl)) (fun _ _ _ h => h) (Or.inr ⟨by rfl, rfl⟩) ?_ ?_
          rotate_left
          · simp only [Act.put, List.setIfInBounds_toArray, List.set_cons_zero, List.set_cons_succ, i64_w, i32_w]
            rfl
          refine pure_ (i := 8) (N := some 59) (v := undef) (a' := ?_) #[true, true, true, true, true, true, true, true, true, false, false, false, false] rfl rfl (any_of HT_.out (by kernel_rfl)) (fun _ _ _ h => h) (Or.inr ⟨by rfl, rfl⟩) ?_ ?_
          rotate_left
          · simp only [Act.put, List.setIfInBounds_toArray, List.set_cons_zero, List.set_cons_succ, i64_w, i32_w]
            rfl
          refine pure_ (i := 9) (N := some 60) (v := undef) (a' := ?_) #[true, true, true, true, true, true, true, true, true, true, false, false, false] rfl rfl (any_of HT_.out (by kernel_rfl)) (fun _ _ _ h => h) (Or.inr ⟨by rfl, rfl⟩) ?_ ?_
          rotate_left
          · simp only [Act.put, List.setIfInBounds_toArray, List.set_cons_zero, List.set_cons_succ, i64_w, i32_w]
            rfl
          refine pure_ (i := 10) (N := some 61) (v := undef) (a' := ?_) #[true, true, true, true, true, true, true, true, true, true, true, false, false] rfl rfl (any_of HT_.out (by kernel_rfl)) (fun _ _ _ h => h) (Or.inr ⟨by rfl, rfl⟩) ?_ ?_
          rotate_left
          · simp only [Act.put, List.setIfInBounds_toArray, List.set_cons_zero, List.set_cons_succ, i64_w, i32_w]
            rfl
          refine pure_ (i := 11) (N := some 62) (v := ?_) (a' := ?_) #[true, true, true, true, true, true, true, true, true, true, true, true, false] rfl rfl (any_of HT_.out (by kernel_rfl)) (fun _ _ _ h => h) (Or.inl ⟨by rfl, ?_⟩) ?_ ?_
          rotate_left
          · intro w'
            go_simp
            with_reducible rfl
          rotate_left
          · simp only [Act.put, List.setIfInBounds_toArray, List.set_cons_zero, List.set_cons_succ, i64_w, i32_w]
            rfl
          refine pure_ (i := 12) (N := some 12) (v := ?_) (a' := ?_) #[true, true, true, true, true, true, true, true, true, true, true, true, true] rfl rfl (any_of HT_.out (by kernel_rfl)) (fun _ _ _ h => h) (Or.inl ⟨by rfl, ?_⟩) ?_ ?_
          rotate_left
          · intro w'
            go_simp
            with_reducible rfl
          rotate_left
          · simp only [Act.put, List.setIfInBounds_toArray, List.set_cons_zero, List.set_cons_succ, i64_w, i32_w]
            rfl
          refine done_ (done_of HT_.out (by kernel_rfl)) ?_
          go_wp2
          go_roundg k
          case measure => omega
          case rel => exact ⟨i + 1, by rw [hst.out]; rfl, rfl, ⟨by omega⟩, ⟨by omega⟩, ⟨by have := HK.out; omega⟩, ⟨below_drew1 HW.out⟩⟩
        | true =>
          rw [hh] at hst
          obtain ⟨eq, heq⟩ : ∃ e, e = ((bx X[i]).toList == (bx Y[i]).toList) := ⟨_, rfl⟩
          have heq' := heq.symm
          have hst2 := Aside0.mk (show headB X Y (i + 1) = eq by
            rw [hst.out, heq, Bool.true_and, Bool.eq_iff_iff, decide_eq_true_eq, beq_iff_eq, tl, tl, ub_bx, ub_bx])
          clear heq hst
          go_wp2
          refine start_ (n := 13) (S := fun w' => w'.cell? (ad.add i) = some (.string (bx X[i])) ∧ w'.cell? (bd.add i) = some (.string (bx Y[i]))) (ds := []) #[false, false, false, false, false, false, false, false, false, false, false, false, false] (by kernel_rfl) rfl rfl ⟨ga, gb⟩ (fun hHeld => ?_)
          refine with_tabW tab10 bits10 (fun HT_ HW_ => ?_)
          refine pure_ (i := 0) (N := some 51) (v := ?_) (a' := ?_) #[true, false, false, false, false, false, false, false, false, false, false, false, false] rfl rfl (any_of HT_.out (by kernel_rfl)) (fun _ _ _ h => h) (Or.inl ⟨by rfl, ?_⟩) ?_ ?_
          rotate_left
          · intro w'
            go_simp
            with_reducible rfl
          rotate_left
          · simp only [Act.put, List.setIfInBounds_toArray, List.set_cons_zero, List.set_cons_succ, i64_w, i32_w]
            rfl
          refine pure_ (i := 1) (N := some 52) (v := ?_) (a' := ?_) #[true, true, false, false, false, false, false, false, false, false, false, false, false] rfl rfl (any_of HT_.out (by kernel_rfl)) (fun _ _ _ h => h) (Or.inl ⟨by rfl, ?_⟩) ?_ ?_
          rotate_left
          · intro w'
            go_simp
            with_reducible rfl
          rotate_left
          · simp only [Act.put, List.setIfInBounds_toArray, List.set_cons_zero, List.set_cons_succ, i64_w, i32_w]
            rfl
          refine pure_ (i := 2) (N := some 53) (v := ?_) (a' := ?_) #[true, true, true, false, false, false, false, false, false, false, false, false, false] rfl rfl (any_of HT_.out (by kernel_rfl)) (fun _ _ _ h => h) (Or.inl ⟨by rfl, ?_⟩) ?_ ?_
          rotate_left
          · intro w'
            go_simp
            with_reducible rfl
          rotate_left
          · simp only [Act.put, List.setIfInBounds_toArray, List.set_cons_zero, List.set_cons_succ, i64_w, i32_w]
            rfl
          refine pure_ (i := 3) (N := some 54) (v := ?_) (a' := ?_) #[true, true, true, true, false, false, false, false, false, false, false, false, false] rfl rfl (any_of HT_.out (by kernel_rfl)) (fun _ _ _ h => h) (Or.inl ⟨by rfl, ?_⟩) ?_ ?_
          rotate_left
          · intro w'
            go_simp
            with_reducible rfl
          rotate_left
          · simp only [Act.put, List.setIfInBounds_toArray, List.set_cons_zero, List.set_cons_succ, i64_w, i32_w]
            rfl
          refine pure_ (i := 4) (N := some 55) (v := ?_) (a' := ?_) #[true, true, true, true, true, false, false, false, false, false, false, false, false] rfl rfl (any_of HT_.out (by kernel_rfl)) (fun _ _ _ h => h) (Or.inl ⟨by rfl, ?_⟩) ?_ ?_
          rotate_left
          · intro w'
            go_simp
            with_reducible rfl
          rotate_left
          · simp only [Act.put, List.setIfInBounds_toArray, List.set_cons_zero, List.set_cons_succ, i64_w, i32_w]
            rfl
          refine pure_ (i := 6) (N := some 57) (v := ?_) (a' := ?_) #[true, true, true, true, true, false, true, false, false, false, false, false, false] rfl rfl (any_of HT_.out (by kernel_rfl)) (fun _ _ _ h => h) (Or.inl ⟨by rfl, ?_⟩) ?_ ?_
          rotate_left
          · intro w'
            go_simp
            with_reducible rfl
          rotate_left
          · simp only [Act.put, List.setIfInBounds_toArray, List.set_cons_zero, List.set_cons_succ, i64_w, i32_w]
            rfl
          refine pure_ (i := 7) (N := some 58) (v := ?_) (a' := ?_) #[true, true, true, true, true, false, true, true, false, false, false, false, false] rfl rfl (any_of HT_.out (by kernel_rfl)) (fun _ _ _ h => h) (Or.inl ⟨by rfl, ?_⟩) ?_ ?_
          rotate_left
          · intro w'
            go_simp
            with_reducible rfl
          rotate_left
          · simp only [Act.put, List.setIfInBounds_toArray, List.set_cons_zero, List.set_cons_succ, i64_w, i32_w]
            rfl
          refine pure_ (i := 8) (N := some 59) (v := ?_) (a' := ?_) #[true, true, true, true, true, false, true, true, true, false, false, false, false] rfl rfl (any_of HT_.out (by kernel_rfl)) (fun _ _ _ h => h) (Or.inl ⟨by rfl, ?_⟩) ?_ ?_
          rotate_left
          · intro w'
            go_simp
            with_reducible rfl
          rotate_left
          · simp only [Act.put, List.setIfInBounds_toArray, List.set_cons_zero, List.set_cons_succ, i64_w, i32_w]
            rfl
          refine take_ (i := 5) (N := some 56) (v := ?_) (a' := ?_) #[true, true, true, true, true, true, true, true, true, false, false, false, false] rfl rfl (take_ofW HT_.out HW_.out (by kernel_rfl)) (fun _ _ _ h => h) (Or.inl ⟨by rfl, ?_⟩) hHeld ?_ ?_
          rotate_left
          · rintro w' ⟨s0, s1⟩
            go_simp
            with_reducible rfl
          rotate_left
          · simp only [Act.put, List.setIfInBounds_toArray, List.set_cons_zero, List.set_cons_succ, i64_w, i32_w]
            rfl
          refine take_ (i := 9) (N := some 60) (v := ?_) (a' := ?_) #[true, true, true, true, true, true, true, true, true, true, false, false, false] rfl rfl (take_ofW HT_.out HW_.out (by kernel_rfl)) (fun _ _ _ h => h) (Or.inl ⟨by rfl, ?_⟩) hHeld ?_ ?_
          rotate_left
          · rintro w' ⟨s0, s1⟩
            go_simp
            with_reducible rfl
          rotate_left
          · simp only [Act.put, List.setIfInBounds_toArray, List.set_cons_zero, List.set_cons_succ, i64_w, i32_w]
            rfl
          refine pure_ (i := 10) (N := some 61) (v := ?_) (a' := ?_) #[true, true, true, true, true, true, true, true, true, true, true, false, false] rfl rfl (any_of HT_.out (by kernel_rfl)) (fun _ _ _ h => h) (Or.inl ⟨by rfl, ?_⟩) ?_ ?_
          rotate_left
          · intro w'
            go_simp
            with_reducible rfl
          rotate_left
          · simp only [Act.put, List.setIfInBounds_toArray, List.set_cons_zero, List.set_cons_succ, i64_w, i32_w]
            rfl
          refine pure_ (i := 11) (N := some 62) (v := ?_) (a' := ?_) #[true, true, true, true, true, true, true, true, true, true, true, true, false] rfl rfl (any_of HT_.out (by kernel_rfl)) (fun _ _ _ h => h) (Or.inl ⟨by rfl, ?_⟩) ?_ ?_
          rotate_left
          · intro w'
            go_simp
            with_reducible rfl
          rotate_left
          · simp only [Act.put, List.setIfInBounds_toArray, List.set_cons_zero, List.set_cons_succ, i64_w, i32_w]
            rfl
          refine pure_ (i := 12) (N := some 12) (v := ?_) (a' := ?_) #[true, true, true, true, true, true, true, true, true, true, true, true, true] rfl rfl (any_of HT_.out (by kernel_rfl)) (fun _ _ _ h => h) (Or.inl ⟨by rfl, ?_⟩) ?_ ?_
          rotate_left
          · intro w'
            go_simp
            with_reducible rfl
          rotate_left
          · simp only [Act.put, List.setIfInBounds_toArray, List.set_cons_zero, List.set_cons_succ, i64_w, i32_w]
            rfl
          refine done_ (done_of HT_.out (by kernel_rfl)) ?_
          go_wp2
          go_roundg k
          case measure => omega
          case rel => exact ⟨i + 1, by rw [hst2.out], rfl, ⟨by omega⟩, ⟨by omega⟩, ⟨by have := HK.out; omega⟩, ⟨below_drew1 HW.out⟩⟩
    · have hx := HX.out
      have hy := HY.out
      have hE := le.out i hx hy (by omega)
      clear hx hy
      have e1 : i < X.length ∧ ¬ i < Y.length ∨ ¬ i < X.length := by omega
      rw [hE] at Bpq
      generalize headB X Y i = hd at Bpq hE
      have HBw := Aside0.mk (below_step HB7.out HW.out)
      have BXw := Aside0.mk (blk_below (blk_below BX7.out (Below.refl _ _)) HW.out)
      clear HB7 BX7 HX HY HK HW hi hE CA CB le
      rcases e1 with ⟨e1, e2⟩ | e1
      · have g1 : decide (i < X.length) = true := decide_eq_true e1
        have g2 : decide (i < Y.length) = false := decide_eq_false e2
        have g3 : decide ((i : Int) < (X.length : Int)) = true := decide_eq_true (by omega)
        have g4 : decide ((i : Int) < (Y.length : Int)) = false := decide_eq_false (by omega)
        go_wp2_with fail
        refine (Bpq _).mono ?_
        rintro e ya ⟨rfl, ⟨⟨na, rfl⟩⟩⟩
        go_wp2_with fail
        refine (Bpp _).mono ?_
        rintro e yb ⟨rfl, ⟨⟨nb, rfl⟩⟩⟩
        go_wp2_with fail
        refine (Bpe _).mono ?_
        rintro e yc ⟨rfl, ⟨⟨nc, rfl⟩⟩⟩
        go_wp2
        have HBd := Aside0.mk (below_drew1 (pw_below_drewN HBw.out (na + nb + nc)))
        have f0 : ((wr.drewN (na + nb + nc)).drew).cell? ⟨w.heap.size, 0, none⟩ = some (.int .u8 k0) := (blk_cell BXw.out 0).trans rfl
        have f1 : ((wr.drewN (na + nb + nc)).drew).cell? ⟨w.heap.size, 1, none⟩ = some (.int .u8 k1) := (blk_cell BXw.out 1).trans rfl
        have u1 : (wrap64 ((l.length : Int) + 1) = 0) = False := by rw [wl.out]; exact wz
        have u2 : Int.tmod (wrap64 k0) (wrap64 ((l.length : Int) + 1)) = (j0 : Int) := by rw [wl.out, wk0.out]; exact tk0.out
        have u3 : Int.tmod (wrap64 k1) (wrap64 ((l.length : Int) + 1)) = (j1 : Int) := by rw [wl.out, wk1.out]; exact tk1.out
        refine start_ (n := 22) (S := fun w' => w'.cell? ⟨w.heap.size, 0, none⟩ = some (.int .u8 k0) ∧ w'.cell? ⟨w.heap.size, 1, none⟩ = some (.int .u8 k1)) (ds := []) #[false, false, false, false, false, false, false, false, false, false, false, false, false, false, false, false, false, false, false, false, false, false] (by kernel_rfl) rfl rfl ⟨f0, f1⟩ (fun hHeld => ?_)
        refine with_tabW tab13 bits13 (fun HT_ HW_ => ?_)
        refine pure_ (i := 0) (N := some 79) (v := ?_) (a' := ?_) #[true, false, false, false, false, false, false, false, false, false, false, false, false, false, false, false, false, false, false, false, false, false] rfl rfl (any_of HT_.out (by kernel_rfl)) (fun _ _ _ h => h) (Or.inl ⟨by rfl, ?_⟩) ?_ ?_
        rotate_left
        · intro w'
          go_simp
          with_reducible rfl
        rotate_left
        · simp only [Act.put, List.setIfInBounds_toArray, List.set_cons_zero, List.set_cons_succ, i64_w, i32_w]
          rfl
        refine pure_ (i := 1) (N := some 80) (v := ?_) (a' := ?_) #[true, true, false, false, false, false, false, false, false, false, false, false, false, false, false, false, false, false, false, false, false, false] rfl rfl (any_of HT_.out (by kernel_rfl)) (fun _ _ _ h => h) (Or.inl ⟨by rfl, ?_⟩) ?_ ?_
        rotate_left
        · intro w'
          go_simp
          with_reducible rfl
        rotate_left
        · simp only [Act.put, List.setIfInBounds_toArray, List.set_cons_zero, List.set_cons_succ, i64_w, i32_w]
          rfl
        refine pure_ (i := 4) (N := some 83) (v := ?_) (a' := ?_) #[true, true, false, false, true, false, false, false, false, false, false, false, false, false, false, false, false, false, false, false, false, false] rfl rfl (any_of HT_.out (by kernel_rfl)) (fun _ _ _ h => h) (Or.inl ⟨by rfl, ?_⟩) ?_ ?_
        rotate_left
        · intro w'
          go_simp
          with_reducible rfl
        rotate_left
        · simp only [Act.put, List.setIfInBounds_toArray, List.set_cons_zero, List.set_cons_succ, i64_w, i32_w]
          rfl
        refine pure_ (i := 5) (N := some 84) (v := ?_) (a' := ?_) #[true, true, false, false, true, true, false, false, false, false, false, false, false, false, false, false, false, false, false, false, false, false] rfl rfl (any_of HT_.out (by kernel_rfl)) (fun _ _ _ h => h) (Or.inl ⟨by rfl, ?_⟩) ?_ ?_
        rotate_left
        · intro w'
          go_simp
          with_reducible rfl
        rotate_left
        · simp only [Act.put, List.setIfInBounds_toArray, List.set_cons_zero, List.set_cons_succ, i64_w, i32_w]
          rfl
        refine pure_ (i := 6) (N := some 85) (v := ?_) (a' := ?_) #[true, true, false, false, true, true, true, false, false, false, false, false, false, false, false, false, false, false, false, false, false, false] rfl rfl (any_of HT_.out (by kernel_rfl)) (fun _ _ _ h => h) (Or.inl ⟨by rfl, ?_⟩) ?_ ?_
        rotate_left
        · intro w'
          go_simp
          with_reducible rfl
        rotate_left
        · simp only [Act.put, List.setIfInBounds_toArray, List.set_cons_zero, List.set_cons_succ, i64_w, i32_w]
          rfl
        refine pure_ (i := 10) (N := some 89) (v := ?_) (a' := ?_) #[true, true, false, false, true, true, true, false, false, false, true, false, false, false, false, false, false, false, false, false, false, false] rfl rfl (any_of HT_.out (by kernel_rfl)) (fun _ _ _ h => h) (Or.inl ⟨by rfl, ?_⟩) ?_ ?_
        rotate_left
        · intro w'
          go_simp
          with_reducible rfl
        rotate_left
        · simp only [Act.put, List.setIfInBounds_toArray, List.set_cons_zero, List.set_cons_succ, i64_w, i32_w]
          rfl
        refine pure_ (i := 11) (N := some 90) (v := ?_) (a' := ?_) #[true, true, false, false, true, true, true, false, false, false, true, true, false, false, false, false, false, false, false, false, false, false] rfl rfl (any_of HT_.out (by kernel_rfl)) (fun _ _ _ h => h) (Or.inl ⟨by rfl, ?_⟩) ?_ ?_
        rotate_left
        · intro w'
          go_simp
          with_reducible rfl
        rotate_left
        · simp only [Act.put, List.setIfInBounds_toArray, List.set_cons_zero, List.set_cons_succ, i64_w, i32_w]
          rfl
        refine pure_ (i := 14) (N := some 93) (v := ?_) (a' := ?_) #[true, true, false, false, true, true, true, false, false, false, true, true, false, false, true, false, false, false, false, false, false, false] rfl rfl (any_of HT_.out (by kernel_rfl)) (fun _ _ _ h => h) (Or.inl ⟨by rfl, ?_⟩) ?_ ?_
        rotate_left
        · intro w'
          go_simp
          with_reducible rfl
        rotate_left
        · simp only [Act.put, List.setIfInBounds_toArray, List.set_cons_zero, List.set_cons_succ, i64_w, i32_w]
          rfl
        refine pure_ (i := 15) (N := some 94) (v := ?_) (a' := ?_) #[true, true, false, false, true, true, true, false, false, false, true, true, false, false, true, true, false, false, false, false, false, false] rfl rfl (any_of HT_.out (by kernel_rfl)) (fun _ _ _ h => h) (Or.inl ⟨by rfl, ?_⟩) ?_ ?_
        rotate_left
        · intro w'
          go_simp
          with_reducible rfl
        rotate_left
        · simp only [Act.put, List.setIfInBounds_toArray, List.set_cons_zero, List.set_cons_succ, i64_w, i32_w]
          rfl
        refine pure_ (i := 16) (N := some 95) (v := ?_) (a' := ?_) #[true, true, false, false, true, true, true, false, false, false, true, true, false, false, true, true, true, false, false, false, false, false] rfl rfl (any_of HT_.out (by kernel_rfl)) (fun _ _ _ h => h) (Or.inl ⟨by rfl, ?_⟩) ?_ ?_
        rotate_left
        · intro w'
          go_simp
          with_reducible rfl
        rotate_left
        · simp only [Act.put, List.setIfInBounds_toArray, List.set_cons_zero, List.set_cons_succ, i64_w, i32_w]
          rfl
        refine take_ (i := 2) (N := some 81) (v := ?_) (a' := ?_) #[true, true, true, false, true, true, true, false, false, false, true, true, false, false, true, true, true, false, false, false, false, false] rfl rfl (take_ofW HT_.out HW_.out (by kernel_rfl)) (fun _ _ _ h => h) (Or.inl ⟨by rfl, ?_⟩) hHeld ?_ ?_
        rotate_left
        · rintro w' ⟨s0, s1⟩
          go_simp
          with_reducible rfl
        rotate_left
        · simp only [Act.put, List.setIfInBounds_toArray, List.set_cons_zero, List.set_cons_succ, i64_w, i32_w]
          rfl
        refine pure_ (i := 3) (N := some 82) (v := ?_) (a' := ?_) #[true, true, true, true, true, true, true, false, false, false, true, true, false, false, true, true, true, false, false, false, false, false] rfl rfl (any_of HT_.out (by kernel_rfl)) (fun _ _ _ h => h) (Or.inl ⟨by rfl, ?_⟩) ?_ ?_
        rotate_left
        · intro w'
          go_simp
          with_reducible rfl
        rotate_left
        · simp only [Act.put, List.setIfInBounds_toArray, List.set_cons_zero, List.set_cons_succ, i64_w, i32_w]
          rfl
        refine pure_ (i := 7) (N := some 86) (v := ?_) (a' := ?_) #[true, true, true, true, true, true, true, true, false, false, true, true, false, false, true, true, true, false, false, false, false, false] rfl rfl (any_of HT_.out (by kernel_rfl)) (fun _ _ _ h => h) (Or.inl ⟨by rfl, ?_⟩) ?_ ?_
        rotate_left
        · intro w'
          go_simp
          with_reducible rfl
        rotate_left
        · simp only [Act.put, List.setIfInBounds_toArray, List.set_cons_zero, List.set_cons_succ, i64_w, i32_w]
          rfl
        refine pure_ (i := 8) (N := some 87) (v := ?_) (a' := ?_) #[true, true, true, true, true, true, true, true, true, false, true, true, false, false, true, true, true, false, false, false, false, false] rfl rfl (any_of HT_.out (by kernel_rfl)) (fun _ _ _ h => h) (Or.inl ⟨by rfl, ?_⟩) ?_ ?_
        rotate_left
        · intro w'
          go_simp
          with_reducible rfl
        rotate_left
        · simp only [Act.put, List.setIfInBounds_toArray, List.set_cons_zero, List.set_cons_succ, i64_w, i32_w]
          rfl
        refine take_ (i := 12) (N := some 91) (v := ?_) (a' := ?_) #[true, true, true, true, true, true, true, true, true, false, true, true, true, false, true, true, true, false, false, false, false, false] rfl rfl (take_ofW HT_.out HW_.out (by kernel_rfl)) (fun _ _ _ h => h) (Or.inl ⟨by rfl, ?_⟩) hHeld ?_ ?_
        rotate_left
        · rintro w' ⟨s0, s1⟩
          go_simp
          with_reducible rfl
        rotate_left
        · simp only [Act.put, List.setIfInBounds_toArray, List.set_cons_zero, List.set_cons_succ, i64_w, i32_w]
          rfl
        refine pure_ (i := 13) (N := some 92) (v := ?_) (a' := ?_) #[true, true, true, true, true, true, true, true, true, false, true, true, true, true, true, true, true, false, false, false, false, false] rfl rfl (any_of HT_.out (by kernel_rfl)) (fun _ _ _ h => h) (Or.inl ⟨by rfl, ?_⟩) ?_ ?_
        rotate_left
        · intro w'
          go_simp
          with_reducible rfl
        rotate_left
        · simp only [Act.put, List.setIfInBounds_toArray, List.set_cons_zero, List.set_cons_succ, i64_w, i32_w]
          rfl
        refine pure_ (i := 17) (N := some 96) (v := ?_) (a' := ?_) #[true, true, true, true, true, true, true, true, true, false, true, true, true, true, true, true, true, true, false, false, false, false] rfl rfl (any_of HT_.out (by kernel_rfl)) (fun _ _ _ h => h) (Or.inl ⟨by rfl, ?_⟩) ?_ ?_
        rotate_left
        · intro w'
          go_simp
          with_reducible rfl
        rotate_left
        · simp only [Act.put, List.setIfInBounds_toArray, List.set_cons_zero, List.set_cons_succ, i64_w, i32_w]
          rfl
        refine pure_ (i := 18) (N := some 97) (v := ?_) (a' := ?_) #[true, true, true, true, true, true, true, true, true, false, true, true, true, true, true, true, true, true, true, false, false, false] rfl rfl (any_of HT_.out (by kernel_rfl)) (fun _ _ _ h => h) (Or.inl ⟨by rfl, ?_⟩) ?_ ?_
        rotate_left
        · intro w'
          go_simp
          with_reducible rfl
        rotate_left
        · simp only [Act.put, List.setIfInBounds_toArray, List.set_cons_zero, List.set_cons_succ, i64_w, i32_w]
          rfl
        refine one_ (i := 9) (N := some 88) #[true, true, true, true, true, true, true, true, true, true, true, true, true, true, true, true, true, true, true, false, false, false] rfl rfl (one_of HT_.out (by kernel_rfl)) (by decide) (fun K hK => ?_)
        refine goes_ Tryd.func12 (by kernel_rfl) rfl #[.slice A0 j0 c0] (by rfl) rfl rfl (by (try simp only [List.map_toArray, List.map_cons, List.map_nil]); first | done | rfl) ?_
        refine (X0 _ HBd.out).mono ?_
        rintro e v9 ⟨rfl, hb9⟩
        refine ⟨_, rfl, ?_⟩
        have HB9 := Aside0.mk (below_step HBd.out hb9)
        have d9_0 := pw_cell_below hb9 f0
        have d9_1 := pw_cell_below hb9 f1
        clear hb9
        refine hK.out _ _ ⟨d9_0, d9_1⟩ (fun hHeld => ?_)
        clear hK K
        refine norm_ (a' := ?_) ?_ ?_
        rotate_left
        · show Act.put _ (some 88) _ = _
          simp only [Act.put, List.setIfInBounds_toArray, List.set_cons_zero, List.set_cons_succ, i64_w, i32_w]
          rfl
        refine one_ (i := 19) (N := some 98) #[true, true, true, true, true, true, true, true, true, true, true, true, true, true, true, true, true, true, true, true, false, false] rfl rfl (one_of HT_.out (by kernel_rfl)) (by decide) (fun K hK => ?_)
        refine goes_ Tryd.func12 (by kernel_rfl) rfl #[.slice A0 j1 c0] (by rfl) rfl rfl (by (try simp only [List.map_toArray, List.map_cons, List.map_nil]); first | done | rfl) ?_
        refine (X1 _ HB9.out).mono ?_
        rintro e v19 ⟨rfl, hb19⟩
        refine ⟨_, rfl, ?_⟩
        have HB19 := Aside0.mk (below_step HB9.out hb19)
        have d19_0 := pw_cell_below hb19 d9_0
        have d19_1 := pw_cell_below hb19 d9_1
        clear hb19
        refine hK.out _ _ ⟨d19_0, d19_1⟩ (fun hHeld => ?_)
        clear hK K
        refine norm_ (a' := ?_) ?_ ?_
        rotate_left
        · show Act.put _ (some 98) _ = _
          simp only [Act.put, List.setIfInBounds_toArray, List.set_cons_zero, List.set_cons_succ, i64_w, i32_w]
          rfl
        refine pure_ (i := 20) (N := some 14) (v := ?_) (a' := ?_) #[true, true, true, true, true, true, true, true, true, true, true, true, true, true, true, true, true, true, true, true, true, false] rfl rfl (any_of HT_.out (by kernel_rfl)) (fun _ _ _ h => h) (Or.inl ⟨by rfl, ?_⟩) ?_ ?_
        rotate_left
        · intro w'
          go_simp
          with_reducible rfl
        rotate_left
        · simp only [Act.put, List.setIfInBounds_toArray, List.set_cons_zero, List.set_cons_succ, i64_w, i32_w]
          rfl
        refine pure_ (i := 21) (N := some 15) (v := ?_) (a' := ?_) #[true, true, true, true, true, true, true, true, true, true, true, true, true, true, true, true, true, true, true, true, true, true] rfl rfl (any_of HT_.out (by kernel_rfl)) (fun _ _ _ h => h) (Or.inl ⟨by rfl, ?_⟩) ?_ ?_
        rotate_left
        · intro w'
          go_simp
          with_reducible rfl
        rotate_left
        · simp only [Act.put, List.setIfInBounds_toArray, List.set_cons_zero, List.set_cons_succ, i64_w, i32_w]
          rfl
        refine done_ (done_of HT_.out (by kernel_rfl)) ?_
        clear u1 u2 u3 d19_0 d19_1 hHeld HT_ HW_ wz s0 s1 X0 X1 Bpq Bpp Bpe
        rcases Bool.eq_false_or_eq_true (below (ub q) (ub p)) with hqp | hqp
        · have hqx := l4.out hqp
          rw [hqp] at Bqp
          rw [hqx] at Bqx
          clear l4 hqp hqx
          rcases Bool.eq_false_or_eq_true (below (ub x) (ub y)) with hxy | hxy
          · rw [hxy] at Bxy
            go_wp2_with fail
            refine (Bpx _).mono ?_
            rintro e yd ⟨rfl, ⟨⟨nd, rfl⟩⟩⟩
            go_wp2_with fail
            refine (Bpy _).mono ?_
            rintro e ye ⟨rfl, ⟨⟨ne, rfl⟩⟩⟩
            go_wp2_with fail
            refine (Bqp _).mono ?_
            rintro e yf ⟨rfl, ⟨⟨nf, rfl⟩⟩⟩
            go_wp2_with fail
            refine (Bqx _).mono ?_
            rintro e yg ⟨rfl, ⟨⟨ng, rfl⟩⟩⟩
            go_wp2_with fail
            refine (Bxy _).mono ?_
            rintro e yh ⟨rfl, ⟨⟨nh, rfl⟩⟩⟩
            go_wp2
            go_ret
            exact ⟨rfl, pw_below_drewN HB19.out _⟩
          · have hyx : below (ub y) (ub x) = true := by
              rcases l5.out with h | h
              · rw [hxy] at h; cases h
              · exact h
            rw [hxy] at Bxy
            rw [hyx] at Byx
            go_wp2_with fail
            refine (Bpx _).mono ?_
            rintro e yd ⟨rfl, ⟨⟨nd, rfl⟩⟩⟩
            go_wp2_with fail
            refine (Bpy _).mono ?_
            rintro e ye ⟨rfl, ⟨⟨ne, rfl⟩⟩⟩
            go_wp2_with fail
            refine (Bqp _).mono ?_
            rintro e yf ⟨rfl, ⟨⟨nf, rfl⟩⟩⟩
            go_wp2_with fail
            refine (Bqx _).mono ?_
            rintro e yg ⟨rfl, ⟨⟨ng, rfl⟩⟩⟩
            go_wp2_with fail
            refine (Bxy _).mono ?_
            rintro e yh ⟨rfl, ⟨⟨nh, rfl⟩⟩⟩
            go_wp2_with fail
            refine (Byx _).mono ?_
            rintro e yj ⟨rfl, ⟨⟨nj, rfl⟩⟩⟩
            go_wp2
            go_ret
            exact ⟨rfl, pw_below_drewN HB19.out _⟩
        · rw [hqp] at Bqp
          clear l4 hqp
          rcases Bool.eq_false_or_eq_true (below (ub x) (ub y)) with hxy | hxy
          · rw [hxy] at Bxy
            go_wp2_with fail
            refine (Bpx _).mono ?_
            rintro e yd ⟨rfl, ⟨⟨nd, rfl⟩⟩⟩
            go_wp2_with fail
            refine (Bpy _).mono ?_
            rintro e ye ⟨rfl, ⟨⟨ne, rfl⟩⟩⟩
            go_wp2_with fail
            refine (Bqp _).mono ?_
            rintro e yf ⟨rfl, ⟨⟨nf, rfl⟩⟩⟩
            go_wp2_with fail
            refine (Bxy _).mono ?_
            rintro e yh ⟨rfl, ⟨⟨nh, rfl⟩⟩⟩
            go_wp2
            go_ret
            exact ⟨rfl, pw_below_drewN HB19.out _⟩
          · have hyx : below (ub y) (ub x) = true := by
              rcases l5.out with h | h
              · rw [hxy] at h; cases h
              · exact h
            rw [hxy] at Bxy
            rw [hyx] at Byx
            go_wp2_with fail
            refine (Bpx _).mono ?_
            rintro e yd ⟨rfl, ⟨⟨nd, rfl⟩⟩⟩
            go_wp2_with fail
            refine (Bpy _).mono ?_
            rintro e ye ⟨rfl, ⟨⟨ne, rfl⟩⟩⟩
            go_wp2_with fail
            refine (Bqp _).mono ?_
            rintro e yf ⟨rfl, ⟨⟨nf, rfl⟩⟩⟩
            go_wp2_with fail
            refine (Bxy _).mono ?_
            rintro e yh ⟨rfl, ⟨⟨nh, rfl⟩⟩⟩
            go_wp2_with fail
            refine (Byx _).mono ?_
            rintro e yj ⟨rfl, ⟨⟨nj, rfl⟩⟩⟩
            go_wp2
            go_ret
            exact ⟨rfl, pw_below_drewN HB19.out _⟩
      · have g1 : decide (i < X.length) = false := decide_eq_false e1
        have g3 : decide ((i : Int) < (X.length : Int)) = false := decide_eq_false (by omega)
        go_wp2_with fail
        refine (Bpq _).mono ?_
        rintro e ya ⟨rfl, ⟨⟨na, rfl⟩⟩⟩
        go_wp2_with fail
        refine (Bpp _).mono ?_
        rintro e yb ⟨rfl, ⟨⟨nb, rfl⟩⟩⟩
        go_wp2_with fail
        refine (Bpe _).mono ?_
        rintro e yc ⟨rfl, ⟨⟨nc, rfl⟩⟩⟩
        go_wp2
        have HBd := Aside0.mk (below_drew1 (pw_below_drewN HBw.out (na + nb + nc)))
        have f0 : ((wr.drewN (na + nb + nc)).drew).cell? ⟨w.heap.size, 0, none⟩ = some (.int .u8 k0) := (blk_cell BXw.out 0).trans rfl
        have f1 : ((wr.drewN (na + nb + nc)).drew).cell? ⟨w.heap.size, 1, none⟩ = some (.int .u8 k1) := (blk_cell BXw.out 1).trans rfl
        have u1 : (wrap64 ((l.length : Int) + 1) = 0) = False := by rw [wl.out]; exact wz
        have u2 : Int.tmod (wrap64 k0) (wrap64 ((l.length : Int) + 1)) = (j0 : Int) := by rw [wl.out, wk0.out]; exact tk0.out
        have u3 : Int.tmod (wrap64 k1) (wrap64 ((l.length : Int) + 1)) = (j1 : Int) := by rw [wl.out, wk1.out]; exact tk1.out
        refine start_ (n := 22) (S := fun w' => w'.cell? ⟨w.heap.size, 0, none⟩ = some (.int .u8 k0) ∧ w'.cell? ⟨w.heap.size, 1, none⟩ = some (.int .u8 k1)) (ds := []) #[false, false, false, false, false, false, false, false, false, false, false, false, false, false, false, false, false, false, false, false, false, false] (by kernel_rfl) rfl rfl ⟨f0, f1⟩ (fun hHeld => ?_)
        refine with_tabW tab13 bits13 (fun HT_ HW_ => ?_)
        refine pure_ (i := 0) (N := some 79) (v := ?_) (a' := ?_) #[true, false, false, false, false, false, false, false, false, false, false, false, false, false, false, false, false, false, false, false, false, false] rfl rfl (any_of HT_.out (by kernel_rfl)) (fun _ _ _ h => h) (Or.inl ⟨by rfl, ?_⟩) ?_ ?_
        rotate_left
        · intro w'
          go_simp
          with_reducible rfl
        rotate_left
        · simp only [Act.put, List.setIfInBounds_toArray, List.set_cons_zero, List.set_cons_succ, i64_w, i32_w]
          rfl
        refine pure_ (i := 1) (N := some 80) (v := ?_) (a' := ?_) #[true, true, false, false, false, false, false, false, false, false, false, false, false, false, false, false, false, false, false, false, false, false] rfl rfl (any_of HT_.out (by kernel_rfl)) (fun _ _ _ h => h) (Or.inl ⟨by rfl, ?_⟩) ?_ ?_
        rotate_left
        · intro w'
          go_simp
          with_reducible rfl
        rotate_left
        · simp only [Act.put, List.setIfInBounds_toArray, List.set_cons_zero, List.set_cons_succ, i64_w, i32_w]
          rfl
        refine pure_ (i := 4) (N := some 83) (v := ?_) (a' := ?_) #[true, true, false, false, true, false, false, false, false, false, false, false, false, false, false, false, false, false, false, false, false, false] rfl rfl (any_of HT_.out (by kernel_rfl)) (fun _ _ _ h => h) (Or.inl ⟨by rfl, ?_⟩) ?_ ?_
        rotate_left
        · intro w'
          go_simp
          with_reducible rfl
        rotate_left
        · simp only [Act.put, List.setIfInBounds_toArray, List.set_cons_zero, List.set_cons_succ, i64_w, i32_w]
          rfl
        refine pure_ (i := 5) (N := some 84) (v := ?_) (a' := ?_) #[true, true, false, false, true, true, false, false, false, false, false, false, false, false, false, false, false, false, false, false, false, false] rfl rfl (any_of HT_.out (by kernel_rfl)) (fun _ _ _ h => h) (Or.inl ⟨by rfl, ?_⟩) ?_ ?_
        rotate_left
        · intro w'
          go_simp
          with_reducible rfl
        rotate_left
        · simp only [Act.put, List.setIfInBounds_toArray, List.set_cons_zero, List.set_cons_succ, i64_w, i32_w]
          rfl
        refine pure_ (i := 6) (N := some 85) (v := ?_) (a' := ?_) #[true, true, false, false, true, true, true, false, false, false, false, false, false, false, false, false, false, false, false, false, false, false] rfl rfl (any_of HT_.out (by kernel_rfl)) (fun _ _ _ h => h) (Or.inl ⟨by rfl, ?_⟩) ?_ ?_
        rotate_left
        · intro w'
          go_simp
          with_reducible rfl
        rotate_left
        · simp only [Act.put, List.setIfInBounds_toArray, List.set_cons_zero, List.set_cons_succ, i64_w, i32_w]
          rfl
        refine pure_ (i := 10) (N := some 89) (v := ?_) (a' := ?_) #[true, true, false, false, true, true, true, false, false, false, true, false, false, false, false, false, false, false, false, false, false, false] rfl rfl (any_of HT_.out (by kernel_rfl)) (fun _ _ _ h => h) (Or.inl ⟨by rfl, ?_⟩) ?_ ?_
        rotate_left
        · intro w'
          go_simp
          with_reducible rfl
        rotate_left
        · simp only [Act.put, List.setIfInBounds_toArray, List.set_cons_zero, List.set_cons_succ, i64_w, i32_w]
          rfl
        refine pure_ (i := 11) (N := some 90) (v := ?_) (a' := ?_) #[true, true, false, false, true, true, true, false, false, false, true, true, false, false, false, false, false, false, false, false, false, false] rfl rfl (any_of HT_.out (by kernel_rfl)) (fun _ _ _ h => h) (Or.inl ⟨by rfl, ?_⟩) ?_ ?_
        rotate_left
        · intro w'
          go_simp
          with_reducible rfl
        rotate_left
        · simp only [Act.put, List.setIfInBounds_toArray, List.set_cons_zero, List.set_cons_succ, i64_w, i32_w]
          rfl
        refine pure_ (i := 14) (N := some 93) (v := ?_) (a' := ?_) #[true, true, false, false, true, true, true, false, false, false, true, true, false, false, true, false, false, false, false, false, false, false] rfl rfl (any_of HT_.out (by kernel_rfl)) (fun _ _ _ h => h) (Or.inl ⟨by rfl, ?_⟩) ?_ ?_
        rotate_left
        · intro w'
          go_simp
          with_reducible rfl
        rotate_left
        · simp only [Act.put, List.setIfInBounds_toArray, List.set_cons_zero, List.set_cons_succ, i64_w, i32_w]
          rfl
        refine pure_ (i := 15) (N := some 94) (v := ?_) (a' := ?_) #[true, true, false, false, true, true, true, false, false, false, true, true, false, false, true, true, false, false, false, false, false, false] rfl rfl (any_of HT_.out (by kernel_rfl)) (fun _ _ _ h => h) (Or.inl ⟨by rfl, ?_⟩) ?_ ?_
        rotate_left
        · intro w'
          go_simp
          with_reducible rfl
        rotate_left
        · simp only [Act.put, List.setIfInBounds_toArray, List.set_cons_zero, List.set_cons_succ, i64_w, i32_w]
          rfl
        refine pure_ (i := 16) (N := some 95) (v := ?_) (a' := ?_) #[true, true, false, false, true, true, true, false, false, false, true, true, false, false, true, true, true, false, false, false, false, false] rfl rfl (any_of HT_.out (by kernel_rfl)) (fun _ _ _ h => h) (Or.inl ⟨by rfl, ?_⟩) ?_ ?_
        rotate_left
        · intro w'
          go_simp
          with_reducible rfl
        rotate_left
        · simp only [Act.put, List.setIfInBounds_toArray, List.set_cons_zero, List.set_cons_succ, i64_w, i32_w]
          rfl
        refine take_ (i := 2) (N := some 81) (v := ?_) (a' := ?_) #[true, true, true, false, true, true, true, false, false, false, true, true, false, false, true, true, true, false, false, false, false, false] rfl rfl (take_ofW HT_.out HW_.out (by kernel_rfl)) (fun _ _ _ h => h) (Or.inl ⟨by rfl, ?_⟩) hHeld ?_ ?_
        rotate_left
        · rintro w' ⟨s0, s1⟩
          go_simp
          with_reducible rfl
        rotate_left
        · simp only [Act.put, List.setIfInBounds_toArray, List.set_cons_zero, List.set_cons_succ, i64_w, i32_w]
          rfl
        refine pure_ (i := 3) (N := some 82) (v := ?_) (a' := ?_) #[true, true, true, true, true, true, true, false, false, false, true, true, false, false, true, true, true, false, false, false, false, false] rfl rfl (any_of HT_.out (by kernel_rfl)) (fun _ _ _ h => h) (Or.inl ⟨by rfl, ?_⟩) ?_ ?_
        rotate_left
        · intro w'
          go_simp
          with_reducible rfl
        rotate_left
        · simp only [Act.put, List.setIfInBounds_toArray, List.set_cons_zero, List.set_cons_succ, i64_w, i32_w]
          rfl
        refine pure_ (i := 7) (N := some 86) (v := ?_) (a' := ?_) #[true, true, true, true, true, true, true, true, false, false, true, true, false, false, true, true, true, false, false, false, false, false] rfl rfl (any_of HT_.out (by kernel_rfl)) (fun _ _ _ h => h) (Or.inl ⟨by rfl, ?_⟩) ?_ ?_
        rotate_left
        · intro w'
          go_simp
          with_reducible rfl
        rotate_left
        · simp only [Act.put, List.setIfInBounds_toArray, List.set_cons_zero, List.set_cons_succ, i64_w, i32_w]
          rfl
        refine pure_ (i := 8) (N := some 87) (v := ?_) (a' := ?_) #[true, true, true, true, true, true, true, true, true, false, true, true, false, false, true, true, true, false, false, false, false, false] rfl rfl (any_of HT_.out (by kernel_rfl)) (fun _ _ _ h => h) (Or.inl ⟨by rfl, ?_⟩) ?_ ?_
        rotate_left
        · intro w'
          go_simp
          with_reducible rfl
        rotate_left
        · simp only [Act.put, List.setIfInBounds_toArray, List.set_cons_zero, List.set_cons_succ, i64_w, i32_w]
          rfl
        refine take_ (i := 12) (N := some 91) (v := ?_) (a' := ?_) #[true, true, true, true, true, true, true, true, true, false, true, true, true, false, true, true, true, false, false, false, false, false] rfl rfl (take_ofW HT_.out HW_.out (by kernel_rfl)) (fun _ _ _ h => h) (Or.inl ⟨by rfl, ?_⟩) hHeld ?_ ?_
        rotate_left
        · rintro w' ⟨s0, s1⟩
          go_simp
          with_reducible rfl
        rotate_left
        · simp only [Act.put, List.setIfInBounds_toArray, List.set_cons_zero, List.set_cons_succ, i64_w, i32_w]
          rfl
        refine pure_ (i := 13) (N := some 92) (v := ?_) (a' := ?_) #[true, true, true, true, true, true, true, true, true, false, true, true, true, true, true, true, true, false, false, false, false, false] rfl rfl (any_of HT_.out (by kernel_rfl)) (fun _ _ _ h => h) (Or.inl ⟨by rfl, ?_⟩) ?_ ?_
        rotate_left
        · intro w'
          go_simp
          with_reducible rfl
        rotate_left
        · simp only [Act.put, List.setIfInBounds_toArray, List.set_cons_zero, List.set_cons_succ, i64_w, i32_w]
          rfl
        refine pure_ (i := 17) (N := some 96) (v := ?_) (a' := ?_) #[true, true, true, true, true, true, true, true, true, false, true, true, true, true, true, true, true, true, false, false, false, false] rfl rfl (any_of HT_.out (by kernel_rfl)) (fun _ _ _ h => h) (Or.inl ⟨by rfl, ?_⟩) ?_ ?_
        rotate_left
        · intro w'
          go_simp
          with_reducible rfl
        rotate_left
        · simp only [Act.put, List.setIfInBounds_toArray, List.set_cons_zero, List.set_cons_succ, i64_w, i32_w]
          rfl
        refine pure_ (i := 18) (N := some 97) (v := ?_) (a' := ?_) #[true, true, true, true, true, true, true, true, true, false, true, true, true, true, true, true, true, true, true, false, false, false] rfl rfl (any_of HT_.out (by kernel_rfl)) (fun _ _ _ h => h) (Or.inl ⟨by rfl, ?_⟩) ?_ ?_
        rotate_left
        · intro w'
          go_simp
          with_reducible rfl
        rotate_left
        · simp only [Act.put, List.setIfInBounds_toArray, List.set_cons_zero, List.set_cons_succ, i64_w, i32_w]
          rfl
        refine one_ (i := 9) (N := some 88) #[true, true, true, true, true, true, true, true, true, true, true, true, true, true, true, true, true, true, true, false, false, false] rfl rfl (one_of HT_.out (by kernel_rfl)) (by decide) (fun K hK => ?_)
        refine goes_ Tryd.func12 (by kernel_rfl) rfl #[.slice A0 j0 c0] (by rfl) rfl rfl (by (try simp only [List.map_toArray, List.map_cons, List.map_nil]); first | done | rfl) ?_
        refine (X0 _ HBd.out).mono ?_
        rintro e v9 ⟨rfl, hb9⟩
        refine ⟨_, rfl, ?_⟩
        have HB9 := Aside0.mk (below_step HBd.out hb9)
        have d9_0 := pw_cell_below hb9 f0
        have d9_1 := pw_cell_below hb9 f1
        clear hb9
        refine hK.out _ _ ⟨d9_0, d9_1⟩ (fun hHeld => ?_)
        clear hK K
        refine norm_ (a' := ?_) ?_ ?_
        rotate_left
        · show Act.put _ (some 88) _ = _
          simp only [Act.put, List.setIfInBounds_toArray, List.set_cons_zero, List.set_cons_succ, i64_w, i32_w]
          rfl
        refine one_ (i := 19) (N := some 98) #[true, true, true, true, true, true, true, true, true, true, true, true, true, true, true, true, true, true, true, true, false, false] rfl rfl (one_of HT_.out (by kernel_rfl)) (by decide) (fun K hK => ?_)
        refine goes_ Tryd.func12 (by kernel_rfl) rfl #[.slice A0 j1 c0] (by rfl) rfl rfl (by (try simp only [List.map_toArray, List.map_cons, List.map_nil]); first | done | rfl) ?_
        refine (X1 _ HB9.out).mono ?_
        rintro e v19 ⟨rfl, hb19⟩
        refine ⟨_, rfl, ?_⟩
        have HB19 := Aside0.mk (below_step HB9.out hb19)
        have d19_0 := pw_cell_below hb19 d9_0
        have d19_1 := pw_cell_below hb19 d9_1
        clear hb19
        refine hK.out _ _ ⟨d19_0, d19_1⟩ (fun hHeld => ?_)
        clear hK K
        refine norm_ (a' := ?_) ?_ ?_
        rotate_left
        · show Act.put _ (some 98) _ = _
          simp only [Act.put, List.setIfInBounds_toArray, List.set_cons_zero, List.set_cons_succ, i64_w, i32_w]
          rfl
        refine pure_ (i := 20) (N := some 14) (v := ?_) (a' := ?_) #[true, true, true, true, true, true, true, true, true, true, true, true, true, true, true, true, true, true, true, true, true, false] rfl rfl (any_of HT_.out (by kernel_rfl)) (fun _ _ _ h => h) (Or.inl ⟨by rfl, ?_⟩) ?_ ?_
        rotate_left
        · intro w'
          go_simp
          with_reducible rfl
        rotate_left
        · simp only [Act.put, List.setIfInBounds_toArray, List.set_cons_zero, List.set_cons_succ, i64_w, i32_w]
          rfl
        refine pure_ (i := 21) (N := some 15) (v := ?_) (a' := ?_) #[true, true, true, true, true, true, true, true, true, true, true, true, true, true, true, true, true, true, true, true, true, true] rfl rfl (any_of HT_.out (by kernel_rfl)) (fun _ _ _ h => h) (Or.inl ⟨by rfl, ?_⟩) ?_ ?_
        rotate_left
        · intro w'
          go_simp
          with_reducible rfl
        rotate_left
        · simp only [Act.put, List.setIfInBounds_toArray, List.set_cons_zero, List.set_cons_succ, i64_w, i32_w]
          rfl
        refine done_ (done_of HT_.out (by kernel_rfl)) ?_
        clear u1 u2 u3 d19_0 d19_1 hHeld HT_ HW_ wz s0 s1 X0 X1 Bpq Bpp Bpe
        rcases Bool.eq_false_or_eq_true (below (ub q) (ub p)) with hqp | hqp
        · have hqx := l4.out hqp
          rw [hqp] at Bqp
          rw [hqx] at Bqx
          clear l4 hqp hqx
          rcases Bool.eq_false_or_eq_true (below (ub x) (ub y)) with hxy | hxy
          · rw [hxy] at Bxy
            go_wp2_with fail
            refine (Bpx _).mono ?_
            rintro e yd ⟨rfl, ⟨⟨nd, rfl⟩⟩⟩
            go_wp2_with fail
            refine (Bpy _).mono ?_
            rintro e ye ⟨rfl, ⟨⟨ne, rfl⟩⟩⟩
            go_wp2_with fail
            refine (Bqp _).mono ?_
            rintro e yf ⟨rfl, ⟨⟨nf, rfl⟩⟩⟩
            go_wp2_with fail
            refine (Bqx _).mono ?_
            rintro e yg ⟨rfl, ⟨⟨ng, rfl⟩⟩⟩
            go_wp2_with fail
            refine (Bxy _).mono ?_
            rintro e yh ⟨rfl, ⟨⟨nh, rfl⟩⟩⟩
            go_wp2
            go_ret
            exact ⟨rfl, pw_below_drewN HB19.out _⟩
          · have hyx : below (ub y) (ub x) = true := by
              rcases l5.out with h | h
              · rw [hxy] at h; cases h
              · exact h
            rw [hxy] at Bxy
            rw [hyx] at Byx
            go_wp2_with fail
            refine (Bpx _).mono ?_
            rintro e yd ⟨rfl, ⟨⟨nd, rfl⟩⟩⟩
            go_wp2_with fail
            refine (Bpy _).mono ?_
            rintro e ye ⟨rfl, ⟨⟨ne, rfl⟩⟩⟩
            go_wp2_with fail
            refine (Bqp _).mono ?_
            rintro e yf ⟨rfl, ⟨⟨nf, rfl⟩⟩⟩
            go_wp2_with fail
            refine (Bqx _).mono ?_
            rintro e yg ⟨rfl, ⟨⟨ng, rfl⟩⟩⟩
            go_wp2_with fail
            refine (Bxy _).mono ?_
            rintro e yh ⟨rfl, ⟨⟨nh, rfl⟩⟩⟩
            go_wp2_with fail
            refine (Byx _).mono ?_
            rintro e yj ⟨rfl, ⟨⟨nj, rfl⟩⟩⟩
            go_wp2
            go_ret
            exact ⟨rfl, pw_below_drewN HB19.out _⟩
        · rw [hqp] at Bqp
          clear l4 hqp
          rcases Bool.eq_false_or_eq_true (below (ub x) (ub y)) with hxy | hxy
          · rw [hxy] at Bxy
            go_wp2_with fail
            refine (Bpx _).mono ?_
            rintro e yd ⟨rfl, ⟨⟨nd, rfl⟩⟩⟩
            go_wp2_with fail
            refine (Bpy _).mono ?_
            rintro e ye ⟨rfl, ⟨⟨ne, rfl⟩⟩⟩
            go_wp2_with fail
            refine (Bqp _).mono ?_
            rintro e yf ⟨rfl, ⟨⟨nf, rfl⟩⟩⟩
            go_wp2_with fail
            refine (Bxy _).mono ?_
            rintro e yh ⟨rfl, ⟨⟨nh, rfl⟩⟩⟩
            go_wp2
            go_ret
            exact ⟨rfl, pw_below_drewN HB19.out _⟩
          · have hyx : below (ub y) (ub x) = true := by
              rcases l5.out with h | h
              · rw [hxy] at h; cases h
              · exact h
            rw [hxy] at Bxy
            rw [hyx] at Byx
            go_wp2_with fail
            refine (Bpx _).mono ?_
            rintro e yd ⟨rfl, ⟨⟨nd, rfl⟩⟩⟩
            go_wp2_with fail
            refine (Bpy _).mono ?_
            rintro e ye ⟨rfl, ⟨⟨ne, rfl⟩⟩⟩
            go_wp2_with fail
            refine (Bqp _).mono ?_
            rintro e yf ⟨rfl, ⟨⟨nf, rfl⟩⟩⟩
            go_wp2_with fail
            refine (Bxy _).mono ?_
            rintro e yh ⟨rfl, ⟨⟨nh, rfl⟩⟩⟩
            go_wp2_with fail
            refine (Byx _).mono ?_
            rintro e yj ⟨rfl, ⟨⟨nj, rfl⟩⟩⟩
            go_wp2
            go_ret
            exact ⟨rfl, pw_below_drewN HB19.out _⟩
theorem walk6 {H : Type} {enc : TypeId × Value → H} {b2 q2 : Nat} {s2 : Nat → Bool} {g2 : Bool} {d2 : DataW H} {p2 : List MemPlace}
    (A0 : Option Addr) (c0 : Nat) (l : List Int) (A1 : Option Addr) (c1 : Nat) (m : List Int) (v2 : Value) (w : World)
    (r0 : Kd.C (Kd.int .u8) w A0 l.length l) (h0 : l.length ≤ c0) (n0 : ∀ x ∈ l, 0 ≤ x ∧ x ≤ 255) (z0 : l.length ≤ 140737488351232)
    (r1 : Kd.C (Kd.int .u8) w A1 m.length m) (h1 : m.length ≤ c1) (n1 : ∀ x ∈ m, 0 ≤ x ∧ x ≤ 255) (_ : m.length ≤ 140737488351232)
    (o2 : Value.okWide Tryd.prog w .any b2 51 v2) (r2 : DataW.Trod enc Tryd.prog w q2 s2 g2 51 v2 d2 p2) :
    Calls Tryd.prog 6 #[.slice A0 l.length c0, .slice A1 m.length c1, v2] w fun e w' => e = .returned (.bool true) ∧ Below w.heap.size w w' := by
  obtain ⟨cs2, rfl, e2, f2⟩ := V8.open_row_int Tryd.underlying51 (by kernel_rfl) (by kernel_rfl) Tryd.underlying5 o2 r2
  obtain ⟨k0, e20, w0⟩ := f2 0 (by omega)
  obtain ⟨k1, e21, w1⟩ := f2 1 (by omega)
  obtain rfl := V8.two_cells e2 e20 e21
  simp [Lit.wf, IntKind.min, IntKind.max, IntKind.signed, IntKind.bits] at w0 w1
  exact below6 A0 A1 c0 c1 l m k0 k1 w r0 r1 h0 h1 (fun x h => (n0 x h).1) (fun x h => (n1 x h).1) z0 w0 w1
end Go.Proofs.YtpahemgofhpfnaaDoor.V6

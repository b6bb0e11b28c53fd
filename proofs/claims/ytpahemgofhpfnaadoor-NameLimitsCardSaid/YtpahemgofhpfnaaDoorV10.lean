/- NameLimits, walked. -/
import Derived.Test.YtpahemgofhpfnaaDoorP
namespace Go.Proofs.YtpahemgofhpfnaaDoor.V10
open Go.RowKit Go.Shelf Go.Proofs.YtpahemgofhpfnaaDoorW.PrintWords Go.Proofs.YtpahemgofhpfnaaDoorW.PrintLast Go.Proofs.YtpahemgofhpfnaaDoorW.PrintMore
open Go.Proofs.YtpahemgofhpfnaaDoor Go.Proofs.YtpahemgofhpfnaaDoor.D Go.Proofs.YtpahemgofhpfnaaDoor.E Go.Proofs.YtpahemgofhpfnaaDoor.F Go.Proofs.YtpahemgofhpfnaaDoor.Sp Go.Proofs.YtpahemgofhpfnaaDoor.K Go.Proofs.YtpahemgofhpfnaaDoor.H Go.Proofs.YtpahemgofhpfnaaDoor.L Go.Proofs.YtpahemgofhpfnaaDoor.P
set_option linter.unusedVariables false
set_option linter.unusedSimpArgs false
attribute [local go_sem] Go.Instr.field Go.asAgg

theorem rep_valid (c : UInt8) (h : okB c = true) (hc : c ≠ 46) (n : Nat) : valid (List.replicate n c) = (decide (1 ≤ n) && decide (n ≤ 16)) := by
  unfold valid
  have h1 : (List.replicate n c).all okB = true := by rw [List.all_eq_true]; intro x hx; rw [(List.mem_replicate.1 hx).2]; exact h
  have h2 : (List.replicate n c == [46]) = false := by
    rw [beq_eq_false_iff_ne]; intro e
    have := List.mem_replicate.1 (show (46 : UInt8) ∈ List.replicate n c by rw [e]; simp)
    exact hc this.2.symm
  have h3 : (List.replicate n c == [46, 46]) = false := by
    rw [beq_eq_false_iff_ne]; intro e
    have := List.mem_replicate.1 (show (46 : UInt8) ∈ List.replicate n c by rw [e]; simp)
    exact hc this.2.symm
  rw [h1, h2, h3]; simp
theorem y_valid : valid [121] = true := by decide +kernel
theorem ys_valid (n : Nat) : ∀ y ∈ List.replicate n ([121] : Bs), valid y = true := by
  intro y hy
  rw [(List.mem_replicate.1 hy).2]; exact y_valid
theorem ys_path (n : Nat) : isPath (glue (List.replicate n ([121] : Bs))) = decide (n ≤ 8) := by
  rw [isPath_glue _ (ys_valid n), List.length_replicate]
theorem rep_snoc {α : Type} (n : Nat) (c : α) : List.replicate (n + 1) c = List.replicate n c ++ [c] := List.replicate_succ'
theorem s_step (i : Nat) : bx (List.replicate i 120) ++ (⟨#[120]⟩ : ByteArray) = bx (List.replicate (i + 1) 120) := by
  rw [rep_snoc]; show bx _ ++ bx [120] = _; rw [bx_app]
theorem p_step (i : Nat) (h : 0 < i) : bx (glue (List.replicate i [121])) ++ (⟨#[47]⟩ : ByteArray) ++ (⟨#[121]⟩ : ByteArray) = bx (glue (List.replicate (i + 1) [121])) := by
  rw [rep_snoc, glue_snoc' _ _ (by intro e; have := congrArg List.length e; simp at this; omega)]
  show bx _ ++ bx [47] ++ bx [121] = _; rw [bx_app, bx_app]
theorem p_size (i : Nat) : (bx (glue (List.replicate i ([121] : Bs)))).size ≤ 2 * i := by
  rw [bx_size]
  have := glue_size (List.replicate i ([121] : Bs)) 1 (fun x hx => by rw [(List.mem_replicate.1 hx).2]; simp)
  simpa using this
/-- a name of letters x, of which one is another byte -/
theorem odd_valid (N k : Nat) (c : UInt8) (h1 : 1 ≤ N) (h16 : N ≤ 16) (hk : k < N) :
    valid ((List.replicate N 120).take k ++ [c] ++ (List.replicate N 120).drop (k + 1)) = (okB c && !(decide (N = 1) && decide (c = 46))) := by
  have hl : ((List.replicate N (120 : UInt8)).take k ++ [c] ++ (List.replicate N 120).drop (k + 1)).length = N := by simp; omega
  have e : (List.replicate N (120 : UInt8)).take k ++ [c] ++ (List.replicate N 120).drop (k + 1) = List.replicate k 120 ++ [c] ++ List.replicate (N - (k + 1)) 120 := by
    rw [List.take_replicate, List.drop_replicate, Nat.min_eq_left (by omega)]
  have hx : okB 120 = true := by decide +kernel
  have ha : ∀ n, (List.replicate n (120 : UInt8)).all okB = true := by
    intro n; rw [List.all_eq_true]; intro x hx'; rw [(List.mem_replicate.1 hx').2]; exact hx
  unfold valid
  rw [hl, decide_eq_true h1, decide_eq_true h16, e]
  have h3 : (List.replicate k (120 : UInt8) ++ [c] ++ List.replicate (N - (k + 1)) 120 == [46, 46]) = false := by
    rw [beq_eq_false_iff_ne]; intro e2
    have hN : N = 2 := by rw [e] at hl; rw [e2] at hl; simpa using hl.symm
    have : (120 : UInt8) ∈ ([46, 46] : List UInt8) := by
      rw [← e2]
      rcases (by omega : k = 0 ∨ k = 1) with rfl | rfl
      · subst hN; simp
      · simp
    simp at this
  have h2 : (List.replicate k (120 : UInt8) ++ [c] ++ List.replicate (N - (k + 1)) 120 == [46]) = (decide (N = 1) && decide (c = 46)) := by
    rw [Bool.eq_iff_iff, beq_iff_eq, Bool.and_eq_true, decide_eq_true_eq, decide_eq_true_eq]
    constructor
    · intro e2
      have hN : N = 1 := by rw [e] at hl; rw [e2] at hl; simpa using hl.symm
      subst hN
      obtain rfl : k = 0 := by omega
      exact ⟨rfl, by simpa using e2⟩
    · rintro ⟨hN, rfl⟩
      subst hN
      obtain rfl : k = 0 := by omega
      rfl
  rw [h2, h3]
  simp only [List.all_append, ha, List.all_cons, List.all_nil, Bool.and_true, Bool.true_and, Bool.not_false]
  rw [Bool.and_comm]
/-- the bytes of names, by their numbers -/
theorem okB_num (n : Nat) (h : n < 256) : okB (UInt8.ofNat n) = (decide (48 ≤ n ∧ n ≤ 57) || decide (97 ≤ n ∧ n ≤ 122) || decide (65 ≤ n ∧ n ≤ 90) || decide (n = 95) || decide (n = 45) || decide (n = 126) || decide (n = 46)) := by
  have h2 : ∀ m : Fin 256, okB (UInt8.ofNat m.val) = (decide (48 ≤ m.val ∧ m.val ≤ 57) || decide (97 ≤ m.val ∧ m.val ≤ 122) || decide (65 ≤ m.val ∧ m.val ≤ 90) || decide (m.val = 95) || decide (m.val = 45) || decide (m.val = 126) || decide (m.val = 46)) := by decide +kernel
  exact h2 ⟨n, h⟩
theorem byte46 (n : Nat) (h : n < 256) : decide (UInt8.ofNat n = 46) = decide (n = 46) := by
  have h2 : ∀ m : Fin 256, decide (UInt8.ofNat m.val = 46) = decide (m.val = 46) := by decide +kernel
  exact h2 ⟨n, h⟩

theorem at_facts (a2 : Int) (i : Nat) (s : ByteArray) (h2 : 0 ≤ a2 ∧ a2 ≤ 255) (zs : s.size = i) (hn1 : 1 ≤ i) (hn2 : i ≤ 16) : ∃ kk : Nat, kk < i ∧ Int.tmod a2 (i : Int) = (kk : Int) ∧ wrap64 a2 = a2 ∧ wrap64 (kk : Int) = kk ∧ wrap64 ((kk : Int) + 1) = (kk : Int) + 1 ∧
    (((i : Int) = 0) = False) ∧ ((i = 0) = False) ∧ ((0 ≤ (kk : Int)) = True) ∧ (((kk : Int) ≤ (i : Int)) = True) ∧ ((0 ≤ (kk : Int) + 1) = True) ∧ (((kk : Int) + 1 ≤ (i : Int)) = True) ∧
    (s.extract 0 kk).size = kk ∧ (s.extract (kk + 1) i).size = i - (kk + 1) ∧ ((9223372036854775807 < kk + 1) = False) ∧ ((9223372036854775807 < kk + 1 + (i - (kk + 1))) = False) := by
  have e0 := Int.emod_lt_of_pos a2 (show (0 : Int) < i by omega)
  have e1 := Int.emod_nonneg a2 (show (i : Int) ≠ 0 by omega)
  refine ⟨(a2 % (i : Int)).toNat, by omega, ?_, w64 (by omega) (by omega), w64 (by omega) (by omega), w64 (by omega) (by omega), eq_false (by omega), eq_false (by omega), eq_true (by omega), eq_true (by omega), eq_true (by omega), eq_true (by omega), ?_, ?_, eq_false (by omega), eq_false (by omega)⟩
  · rw [Int.tmod_eq_emod_of_nonneg h2.1]; omega
  · rw [size_ext]; omega
  · rw [size_ext]; omega
/-- is the byte right at that place? -/
theorem right_at (a1 : Int) (i : Nat) (h1 : 0 ≤ a1 ∧ a1 ≤ 255) (b : Bool)
    (h : b = (decide (48 ≤ a1.toNat ∧ a1.toNat ≤ 57) || decide (97 ≤ a1.toNat ∧ a1.toNat ≤ 122) || decide (65 ≤ a1.toNat ∧ a1.toNat ≤ 90) || decide (a1.toNat = 95) || decide (a1.toNat = 45) || decide (a1.toNat = 126) || (decide (a1.toNat = 46) && !decide (i = 1)))) :
    (okB (UInt8.ofNat a1.toNat) && !(decide (i = 1) && decide (UInt8.ofNat a1.toNat = 46))) = b := by
  rw [okB_num _ (by omega), byte46 _ (by omega), h]
  by_cases h46 : a1.toNat = 46
  · simp [h46]
  · simp [h46]
theorem odd_at (i kk : Nat) (a1 : Int) (s : ByteArray) (hn1 : 1 ≤ i) (hn2 : i ≤ 16) (hkk : kk < i) (hs : bx (List.replicate i 120) = s) :
    valid (ub (s.extract 0 kk ++ strOfNums [a1] ++ s.extract (kk + 1) i)) = (okB (UInt8.ofNat a1.toNat) && !(decide (i = 1) && decide (UInt8.ofNat a1.toNat = 46))) := by
  rw [← odd_valid i kk _ hn1 hn2 hkk]
  congr 1
  subst hs
  rw [ub_app, ub_app, ub_extract, ub_extract, ub_bx]
  have e1 : ub (strOfNums [a1]) = [UInt8.ofNat a1.toNat] := by simp [ub, strOfNums]
  rw [e1, List.drop_zero, List.take_of_length_le (i := i) (by simp)]
def T15 : Bool × List (List Nat × List Nat) := (true, [([], []), ([], []), ([0, 1], [0, 1]), ([], []), ([3], [3]), ([4], [4]), ([2, 5], [2, 5]), ([], []), ([], []), ([8], [8]), ([7, 9], [7, 9]), ([6, 10], [6, 10]), ([11, 0, 1, 2, 3, 4, 5, 6, 7, 8, 9, 10, 11], [11])])
def B15 : List Nat := [0, 0, 3, 0, 8, 24, 63, 0, 0, 256, 896, 2047, 4095]
theorem tab15 : rtab .any (opsOf Tryd.f10 15) = T15 := by kernel_rfl
theorem bits15 : waitsOk T15.2 B15 = true := by kernel_rfl
set_option maxHeartbeats 4000000 in
set_option maxRecDepth 100000 in
theorem limits10 (a0 a1 a2 : Int) (h0 : 0 ≤ a0) (h1 : 0 ≤ a1 ∧ a1 ≤ 255) (h2 : 0 ≤ a2 ∧ a2 ≤ 255) (w : World) :
    Calls Tryd.prog 10 #[.int .u8 a0, .int .u8 a1, .int .u8 a2] w fun e w' => e = .returned (.bool true) ∧ Below w.heap.size w w' := by
  obtain ⟨N, hN20, hN⟩ : ∃ N : Nat, N < 20 ∧ Int.tmod a0 20 = (N : Int) := by
    refine ⟨(a0 % 20).toNat, by omega, ?_⟩
    rw [Int.tmod_eq_emod_of_nonneg h0]; omega
  have hNw : wrap64 (N : Int) = N := w64 (by omega) (by omega)
  have hu32 := Tryd.underlying32
  go_enter Tryd.func10, Tryd.ntmps10
  go_wp2_with fail
  refine (sanity11 _).mono ?_
  rintro e w1 ⟨rfl, hb1⟩
  go_wp2_with fail
  go_loopg [8, 9, 10] 20 (fun kq v8 v9 v10 w' => ∃ i : Nat, v8 = .string (bx (List.replicate i 120)) ∧ v9 = .string (bx (glue (List.replicate i [121]))) ∧ v10 = .int .i64 (i : Int) ∧ Aside0 (i ≤ N) ∧ Aside0 (i + kq = 20) ∧ Aside0 (Below w.heap.size w w'))
  case atStart => exact ⟨0, rfl, rfl, rfl, ⟨by omega⟩, ⟨rfl⟩, ⟨hb1⟩⟩
  case round =>
    clear hb1
    obtain ⟨i, rfl, rfl, rfl, HI, HK, HB⟩ := hrel
    have zs : (bx (List.replicate i (120 : UInt8))).size = i := by rw [bx_size, List.length_replicate]
    have zp := p_size i
    have hI := HI.out
    by_cases hi : i < N
    · cases gk with
      | zero => have := HK.out; omega
      | succ k =>
        have c1 : decide ((i : Int) < (N : Int)) = true := decide_eq_true (by omega)
        have c2 : ((bx (List.replicate i (120 : UInt8))).size + 1 ≤ 9223372036854775807) = True := eq_true (by omega)
        have c2n : (9223372036854775807 < (bx (List.replicate i (120 : UInt8))).size + 1) = False := eq_false (by omega)
        rcases Nat.eq_zero_or_pos i with rfl | hpos
        · go_wp2
          go_roundg k
          case measure => omega
          case rel => exact ⟨1, rfl, rfl, rfl, ⟨by omega⟩, ⟨by have := HK.out; omega⟩, HB⟩
        · have c3 : decide (0 < (i : Int)) = true := decide_eq_true (by omega)
          have c4 : ((bx (glue (List.replicate i ([121] : Bs)))).size + 1 ≤ 9223372036854775807) = True := eq_true (by omega)
          have c4n : (9223372036854775807 < (bx (glue (List.replicate i ([121] : Bs)))).size + 1) = False := eq_false (by omega)
          have c5 : ((bx (glue (List.replicate i ([121] : Bs))) ++ (⟨#[47]⟩ : ByteArray)).size + 1 ≤ 9223372036854775807) = True := eq_true (by rw [size_app]; show _ + 1 + 1 ≤ _; omega)
          have c5n : (9223372036854775807 < (bx (glue (List.replicate i ([121] : Bs))) ++ (⟨#[47]⟩ : ByteArray)).size + 1) = False := eq_false (by rw [size_app]; show ¬ _ < _ + 1 + 1; omega)
          have hw : wrap64 ((i : Int) + 1) = (i : Int) + 1 := w64 (by omega) (by omega)
          clear zs
          go_wp2
          go_roundg k
          case measure => omega
          case rel => exact ⟨i + 1, by rw [s_step], by rw [p_step i hpos], rfl, ⟨by omega⟩, ⟨by have := HK.out; omega⟩, HB⟩
    · obtain rfl : i = N := by omega
      have c1 : decide ((i : Int) < (i : Int)) = false := decide_eq_false (by omega)
      have V := fun w => valid13 (bx (List.replicate i 120)) w
      rw [ub_bx, rep_valid 120 (by decide +kernel) (by decide)] at V
      obtain ⟨bN, hbN⟩ : ∃ b, b = decide ((i : Int) ≤ 8) := ⟨_, rfl⟩
      have PQ := fun w => parts16 (bx (glue (List.replicate i [121]))) (by omega) w
      have e0 : ((partsB (bx (glue (List.replicate i [121])))).2 == 0) = bN := by
        unfold partsB
        rw [ub_bx, ys_path, hbN]
        by_cases h8 : i ≤ 8
        · rw [if_pos (by simpa using h8), decide_eq_true (by omega)]; rfl
        · rw [if_neg (by simpa using h8), decide_eq_false (by omega)]; rfl
      generalize partsB (bx (glue (List.replicate i [121]))) = pr at PQ e0
      obtain ⟨pl, pe⟩ := pr
      simp only at PQ e0
      generalize hp : bx (glue (List.replicate i [121])) = p at PQ zp
      obtain ⟨s, hs⟩ : ∃ s, bx (List.replicate i (120 : UInt8)) = s := ⟨_, rfl⟩
      rw [hs] at V zs ⊢
      have HS := Lib.hid hs
      have hB := Lib.hid HB.out
      have hbn := hbN.symm
      clear hp hs HB HI HK hi hbN hI
      go_wp2_with fail
      refine (V _).mono ?_
      rintro e w2 ⟨rfl, ⟨⟨nd, rfl⟩⟩⟩
      have hb2 := Lib.hid (pw_below_drewN hB.out nd)
      clear hB V
      by_cases hn : 1 ≤ i ∧ i ≤ 16
      · obtain ⟨hn1, hn2⟩ := hn
        have d1 : decide (1 ≤ i) = true := decide_eq_true hn1
        have d2 : decide (i ≤ 16) = true := decide_eq_true hn2
        have d3 : decide (1 ≤ (i : Int)) = true := decide_eq_true (by omega)
        have d4 : decide ((i : Int) ≤ 16) = true := decide_eq_true (by omega)
        have d5 : decide ((i : Int) < 1) = false := decide_eq_false (by omega)
        have d6 : decide (16 < (i : Int)) = false := decide_eq_false (by omega)
        go_wp2_with fail
        refine (PQ _).mono ?_
        rintro e w3 ⟨A, c, rfl, hc, hC, hb3⟩
        obtain ⟨kk, hkk, hk1, w2w, kw, kw1, k0, k0', k1, k2, k3, k4, hsz1, hsz2, m2, m3⟩ := at_facts a2 i s h2 zs hn1 hn2
        have m1 : (strOfNums [a1]).size = 1 := by simp [strOfNums, ByteArray.size]
        have hb4 := Aside0.mk (below_step hb2.out hb3)
        clear PQ hC hc hb2 hb3
        have hb3 := hb4
        clear hb4
        go_wp2
        refine start_ (n := 13) (S := fun w' => True) (ds := []) #[false, false, false, false, false, false, false, false, false, false, false, false, false] (by kernel_rfl) rfl rfl trivial (fun hHeld => ?_); refine with_tabW tab15 bits15 (fun HT_ HW_ => ?_)
        have hbd := Lib.hid (below_drew1 hb3.out)
        generalize w3.drew = w4 at hbd hHeld ⊢
        refine pure_ (i := 0) (N := some 65) (v := ?_) (a' := ?_) #[true, false, false, false, false, false, false, false, false, false, false, false, false] rfl rfl (any_of HT_.out (by kernel_rfl)) (fun _ _ _ h => h) (Or.inl ⟨by rfl, ?_⟩) ?_ ?_
        rotate_left
        · intro w'
          go_simp
          with_reducible rfl
        rotate_left
        · simp only [Act.put, List.setIfInBounds_toArray, List.set_cons_zero, List.set_cons_succ, i64_w, i32_w]
          rfl
        refine pure_ (i := 1) (N := some 66) (v := ?_) (a' := ?_) #[true, true, false, false, false, false, false, false, false, false, false, false, false] rfl rfl (any_of HT_.out (by kernel_rfl)) (fun _ _ _ h => h) (Or.inl ⟨by rfl, ?_⟩) ?_ ?_
        rotate_left
        · intro w'
          go_simp
          with_reducible rfl
        rotate_left
        · simp only [Act.put, List.setIfInBounds_toArray, List.set_cons_zero, List.set_cons_succ, i64_w, i32_w]
          rfl
        refine pure_ (i := 2) (N := some 67) (v := ?_) (a' := ?_) #[true, true, true, false, false, false, false, false, false, false, false, false, false] rfl rfl (any_of HT_.out (by kernel_rfl)) (fun _ _ _ h => h) (Or.inl ⟨by rfl, ?_⟩) ?_ ?_
        rotate_left
        · intro w'
          go_simp
          with_reducible rfl
        rotate_left
        · simp only [Act.put, List.setIfInBounds_toArray, List.set_cons_zero, List.set_cons_succ, i64_w, i32_w]
          rfl
        refine pure_ (i := 3) (N := some 68) (v := ?_) (a' := ?_) #[true, true, true, true, false, false, false, false, false, false, false, false, false] rfl rfl (any_of HT_.out (by kernel_rfl)) (fun _ _ _ h => h) (Or.inl ⟨by rfl, ?_⟩) ?_ ?_
        rotate_left
        · intro w'
          go_simp
          with_reducible rfl
        rotate_left
        · simp only [Act.put, List.setIfInBounds_toArray, List.set_cons_zero, List.set_cons_succ, i64_w, i32_w]
          rfl
        refine pure_ (i := 7) (N := some 72) (v := ?_) (a' := ?_) #[true, true, true, true, false, false, false, true, false, false, false, false, false] rfl rfl (any_of HT_.out (by kernel_rfl)) (fun _ _ _ h => h) (Or.inl ⟨by rfl, ?_⟩) ?_ ?_
        rotate_left
        · intro w'
          go_simp
          with_reducible rfl
        rotate_left
        · simp only [Act.put, List.setIfInBounds_toArray, List.set_cons_zero, List.set_cons_succ, i64_w, i32_w]
          rfl
        refine pure_ (i := 8) (N := some 73) (v := ?_) (a' := ?_) #[true, true, true, true, false, false, false, true, true, false, false, false, false] rfl rfl (any_of HT_.out (by kernel_rfl)) (fun _ _ _ h => h) (Or.inl ⟨by rfl, ?_⟩) ?_ ?_
        rotate_left
        · intro w'
          go_simp
          with_reducible rfl
        rotate_left
        · simp only [Act.put, List.setIfInBounds_toArray, List.set_cons_zero, List.set_cons_succ, i64_w, i32_w]
          rfl
        refine pure_ (i := 9) (N := some 74) (v := ?_) (a' := ?_) #[true, true, true, true, false, false, false, true, true, true, false, false, false] rfl rfl (any_of HT_.out (by kernel_rfl)) (fun _ _ _ h => h) (Or.inl ⟨by rfl, ?_⟩) ?_ ?_
        rotate_left
        · intro w'
          go_simp
          with_reducible rfl
        rotate_left
        · simp only [Act.put, List.setIfInBounds_toArray, List.set_cons_zero, List.set_cons_succ, i64_w, i32_w]
          rfl
        refine pure_ (i := 10) (N := some 75) (v := ?_) (a' := ?_) #[true, true, true, true, false, false, false, true, true, true, true, false, false] rfl rfl (any_of HT_.out (by kernel_rfl)) (fun _ _ _ h => h) (Or.inl ⟨by rfl, ?_⟩) ?_ ?_
        rotate_left
        · intro w'
          go_simp
          with_reducible rfl
        rotate_left
        · simp only [Act.put, List.setIfInBounds_toArray, List.set_cons_zero, List.set_cons_succ, i64_w, i32_w]
          rfl
        refine one_ (i := 4) (N := some 69) #[true, true, true, true, true, false, false, true, true, true, true, false, false] rfl rfl (one_of HT_.out (by kernel_rfl)) (by decide) (fun K hK => ?_)
        refine Kd.R_lit_step (Kd.int .u8) _ 5 ?hg (N := 69) ?hd (xs := ([a1] : List Int)) (inner := [.int .u8 a1]) (ok := fun _ => True) (okp := fun _ => True) ?hr ?hp (fun _ hk => hk) trivial (Below.refl _ _) (Nat.le_refl _) (by simp) ?_; (case hd => rfl); (case hg => rfl); (case hr => first | (go_simp; done) | (go_simp; rfl)); (case hp => exact (Reps.one (show Kd.M (Kd.int .u8) _ _ _ a1 [.int .u8 a1] from rfl) (Reps.none _ _)))
        intro v112 w38 ho39 hb hg_ hnew_
        clear hg_ hnew_
        have hB5 := Lib.hid (below_step hbd.out hb)
        clear hb hbd
        refine hK.out _ _ trivial (fun hHeld => ?_)
        clear hK K
        refine norm_ (a' := ?_) ?_ ?_
        rotate_left
        · show Act.put _ (some 69) _ = _
          simp only [Act.put, List.setIfInBounds_toArray, List.set_cons_zero, List.set_cons_succ, i64_w, i32_w]
          rfl
        refine one_ (i := 5) (N := some 70) #[true, true, true, true, true, true, false, true, true, true, true, false, false] rfl rfl (one_of HT_.out (by kernel_rfl)) (by decide) (fun K hK => ?_)
        have hcv40 := own_string (P := Tryd.prog) Tryd.underlying23 Tryd.underlying5 Tryd.underlying9 (Kd.own_of_R ho39)
        refine value_ (w1 := ?_) (v := ?_) (by rfl) rfl ?_ ?_
        rotate_left 2
        · go_simp
          constructor
          · rfl
          · rfl
        clear hcv40
        refine hK.out _ _ trivial (fun hHeld => ?_)
        clear hK K
        refine norm_ (a' := ?_) ?_ ?_
        rotate_left
        · show Act.put _ (some 70) _ = _
          simp only [Act.put, List.setIfInBounds_toArray, List.set_cons_zero, List.set_cons_succ, i64_w, i32_w]
          rfl
        refine pure_ (i := 6) (N := some 71) (v := ?_) (a' := ?_) #[true, true, true, true, true, true, true, true, true, true, true, false, false] rfl rfl (any_of HT_.out (by kernel_rfl)) (fun _ _ _ h => h) (Or.inl ⟨by rfl, ?_⟩) ?_ ?_
        rotate_left
        · intro w'
          go_simp
          with_reducible rfl
        rotate_left
        · simp only [Act.put, List.setIfInBounds_toArray, List.set_cons_zero, List.set_cons_succ, i64_w, i32_w]
          rfl
        refine pure_ (i := 11) (N := some 76) (v := ?_) (a' := ?_) #[true, true, true, true, true, true, true, true, true, true, true, true, false] rfl rfl (any_of HT_.out (by kernel_rfl)) (fun _ _ _ h => h) (Or.inl ⟨by rfl, ?_⟩) ?_ ?_
        rotate_left
        · intro w'
          go_simp
          with_reducible rfl
        rotate_left
        · simp only [Act.put, List.setIfInBounds_toArray, List.set_cons_zero, List.set_cons_succ, i64_w, i32_w]
          rfl
        refine pure_ (i := 12) (N := some 12) (v := ?_) (a' := ?_) #[true, true, true, true, true, true, true, true, true, true, true, true, true] rfl rfl (any_of HT_.out (by kernel_rfl)) (fun _ _ _ h => h) (Or.inl ⟨by rfl, ?_⟩) ?_ ?_
        rotate_left
        · intro w'
          go_simp
          with_reducible rfl
        rotate_left
        · simp only [Act.put, List.setIfInBounds_toArray, List.set_cons_zero, List.set_cons_succ, i64_w, i32_w]
          rfl
        refine done_ (done_of HT_.out (by kernel_rfl)) ?_
        have Vo := fun w => valid13 (s.extract 0 kk ++ strOfNums [a1] ++ s.extract (kk + 1) i) w
        have hv := odd_at i kk a1 s hn1 hn2 hkk HS.out
        obtain ⟨o, ho⟩ : ∃ o, o = s.extract 0 kk ++ strOfNums [a1] ++ s.extract (kk + 1) i := ⟨_, rfl⟩
        rw [← ho] at Vo hv ⊢
        clear ho ho39 hsz1 hsz2 m1 m2 m3
        obtain hcl : (-1 ≤ a1 ∧ a1 ≤ 44) ∨ (45 ≤ a1 ∧ a1 ≤ 45) ∨ (46 ≤ a1 ∧ a1 ≤ 46) ∨ (47 ≤ a1 ∧ a1 ≤ 47) ∨ (48 ≤ a1 ∧ a1 ≤ 57) ∨ (58 ≤ a1 ∧ a1 ≤ 64) ∨ (65 ≤ a1 ∧ a1 ≤ 90) ∨ (91 ≤ a1 ∧ a1 ≤ 94) ∨ (95 ≤ a1 ∧ a1 ≤ 95) ∨ (96 ≤ a1 ∧ a1 ≤ 96) ∨ (97 ≤ a1 ∧ a1 ≤ 122) ∨ (123 ≤ a1 ∧ a1 ≤ 125) ∨ (126 ≤ a1 ∧ a1 ≤ 126) ∨ (127 ≤ a1 ∧ a1 ≤ 255) := by omega
        rcases hcl with hcl | hcl | hcl | hcl | hcl | hcl | hcl | hcl | hcl | hcl | hcl | hcl | hcl | hcl
        · have qge48 : decide (48 ≤ a1) = false := decide_eq_false (by omega)
          have qle57 : decide (a1 ≤ 57) = true := decide_eq_true (by omega)
          have qge97 : decide (97 ≤ a1) = false := decide_eq_false (by omega)
          have qle122 : decide (a1 ≤ 122) = true := decide_eq_true (by omega)
          have qge65 : decide (65 ≤ a1) = false := decide_eq_false (by omega)
          have qle90 : decide (a1 ≤ 90) = true := decide_eq_true (by omega)
          have qeq95 : (a1 == 95) = false := beq_eq_false_iff_ne.mpr (by omega)
          have qeq45 : (a1 == 45) = false := beq_eq_false_iff_ne.mpr (by omega)
          have qeq126 : (a1 == 126) = false := beq_eq_false_iff_ne.mpr (by omega)
          have qeq46 : (a1 == 46) = false := beq_eq_false_iff_ne.mpr (by omega)
          have hR : valid (ub o) = false := by rw [hv]; exact right_at a1 i h1 false (by simp; omega)
          rw [hR] at Vo
          clear hv hR
          go_wp2_with fail
          refine (Vo _).mono ?_
          rintro e w5 ⟨rfl, ⟨⟨nd5, rfl⟩⟩⟩
          go_wp2
          go_ret
          exact ⟨rfl, pw_below_drewN hB5.out _⟩
        · have qge48 : decide (48 ≤ a1) = false := decide_eq_false (by omega)
          have qle57 : decide (a1 ≤ 57) = true := decide_eq_true (by omega)
          have qge97 : decide (97 ≤ a1) = false := decide_eq_false (by omega)
          have qle122 : decide (a1 ≤ 122) = true := decide_eq_true (by omega)
          have qge65 : decide (65 ≤ a1) = false := decide_eq_false (by omega)
          have qle90 : decide (a1 ≤ 90) = true := decide_eq_true (by omega)
          have qeq95 : (a1 == 95) = false := beq_eq_false_iff_ne.mpr (by omega)
          have qeq45 : (a1 == 45) = true := beq_iff_eq.mpr (by omega)
          have qeq126 : (a1 == 126) = false := beq_eq_false_iff_ne.mpr (by omega)
          have qeq46 : (a1 == 46) = false := beq_eq_false_iff_ne.mpr (by omega)
          have hR : valid (ub o) = true := by rw [hv]; exact right_at a1 i h1 true (by simp; omega)
          rw [hR] at Vo
          clear hv hR
          go_wp2_with fail
          refine (Vo _).mono ?_
          rintro e w5 ⟨rfl, ⟨⟨nd5, rfl⟩⟩⟩
          go_wp2
          go_ret
          exact ⟨rfl, pw_below_drewN hB5.out _⟩
        · have qge48 : decide (48 ≤ a1) = false := decide_eq_false (by omega)
          have qle57 : decide (a1 ≤ 57) = true := decide_eq_true (by omega)
          have qge97 : decide (97 ≤ a1) = false := decide_eq_false (by omega)
          have qle122 : decide (a1 ≤ 122) = true := decide_eq_true (by omega)
          have qge65 : decide (65 ≤ a1) = false := decide_eq_false (by omega)
          have qle90 : decide (a1 ≤ 90) = true := decide_eq_true (by omega)
          have qeq95 : (a1 == 95) = false := beq_eq_false_iff_ne.mpr (by omega)
          have qeq45 : (a1 == 45) = false := beq_eq_false_iff_ne.mpr (by omega)
          have qeq126 : (a1 == 126) = false := beq_eq_false_iff_ne.mpr (by omega)
          have qeq46 : (a1 == 46) = true := beq_iff_eq.mpr (by omega)
          by_cases hi1 : i = 1
          · have d7 : decide (1 < (i : Int)) = false := decide_eq_false (by omega)
            have hR : valid (ub o) = false := by rw [hv]; exact right_at a1 i h1 false (by simp; omega)
            rw [hR] at Vo
            clear hv hR
            go_wp2_with fail
            refine (Vo _).mono ?_
            rintro e w5 ⟨rfl, ⟨⟨nd5, rfl⟩⟩⟩
            go_wp2
            go_ret
            exact ⟨rfl, pw_below_drewN hB5.out _⟩
          · have d7 : decide (1 < (i : Int)) = true := decide_eq_true (by omega)
            have hR : valid (ub o) = true := by rw [hv]; exact right_at a1 i h1 true (by simp; omega)
            rw [hR] at Vo
            clear hv hR
            go_wp2_with fail
            refine (Vo _).mono ?_
            rintro e w5 ⟨rfl, ⟨⟨nd5, rfl⟩⟩⟩
            go_wp2
            go_ret
            exact ⟨rfl, pw_below_drewN hB5.out _⟩
        · have qge48 : decide (48 ≤ a1) = false := decide_eq_false (by omega)
          have qle57 : decide (a1 ≤ 57) = true := decide_eq_true (by omega)
          have qge97 : decide (97 ≤ a1) = false := decide_eq_false (by omega)
          have qle122 : decide (a1 ≤ 122) = true := decide_eq_true (by omega)
          have qge65 : decide (65 ≤ a1) = false := decide_eq_false (by omega)
          have qle90 : decide (a1 ≤ 90) = true := decide_eq_true (by omega)
          have qeq95 : (a1 == 95) = false := beq_eq_false_iff_ne.mpr (by omega)
          have qeq45 : (a1 == 45) = false := beq_eq_false_iff_ne.mpr (by omega)
          have qeq126 : (a1 == 126) = false := beq_eq_false_iff_ne.mpr (by omega)
          have qeq46 : (a1 == 46) = false := beq_eq_false_iff_ne.mpr (by omega)
          have hR : valid (ub o) = false := by rw [hv]; exact right_at a1 i h1 false (by simp; omega)
          rw [hR] at Vo
          clear hv hR
          go_wp2_with fail
          refine (Vo _).mono ?_
          rintro e w5 ⟨rfl, ⟨⟨nd5, rfl⟩⟩⟩
          go_wp2
          go_ret
          exact ⟨rfl, pw_below_drewN hB5.out _⟩
        · have qge48 : decide (48 ≤ a1) = true := decide_eq_true (by omega)
          have qle57 : decide (a1 ≤ 57) = true := decide_eq_true (by omega)
          have qge97 : decide (97 ≤ a1) = false := decide_eq_false (by omega)
          have qle122 : decide (a1 ≤ 122) = true := decide_eq_true (by omega)
          have qge65 : decide (65 ≤ a1) = false := decide_eq_false (by omega)
          have qle90 : decide (a1 ≤ 90) = true := decide_eq_true (by omega)
          have qeq95 : (a1 == 95) = false := beq_eq_false_iff_ne.mpr (by omega)
          have qeq45 : (a1 == 45) = false := beq_eq_false_iff_ne.mpr (by omega)
          have qeq126 : (a1 == 126) = false := beq_eq_false_iff_ne.mpr (by omega)
          have qeq46 : (a1 == 46) = false := beq_eq_false_iff_ne.mpr (by omega)
          have hR : valid (ub o) = true := by rw [hv]; exact right_at a1 i h1 true (by simp; omega)
          rw [hR] at Vo
          clear hv hR
          go_wp2_with fail
          refine (Vo _).mono ?_
          rintro e w5 ⟨rfl, ⟨⟨nd5, rfl⟩⟩⟩
          go_wp2
          go_ret
          exact ⟨rfl, pw_below_drewN hB5.out _⟩
        · have qge48 : decide (48 ≤ a1) = true := decide_eq_true (by omega)
          have qle57 : decide (a1 ≤ 57) = false := decide_eq_false (by omega)
          have qge97 : decide (97 ≤ a1) = false := decide_eq_false (by omega)
          have qle122 : decide (a1 ≤ 122) = true := decide_eq_true (by omega)
          have qge65 : decide (65 ≤ a1) = false := decide_eq_false (by omega)
          have qle90 : decide (a1 ≤ 90) = true := decide_eq_true (by omega)
          have qeq95 : (a1 == 95) = false := beq_eq_false_iff_ne.mpr (by omega)
          have qeq45 : (a1 == 45) = false := beq_eq_false_iff_ne.mpr (by omega)
          have qeq126 : (a1 == 126) = false := beq_eq_false_iff_ne.mpr (by omega)
          have qeq46 : (a1 == 46) = false := beq_eq_false_iff_ne.mpr (by omega)
          have hR : valid (ub o) = false := by rw [hv]; exact right_at a1 i h1 false (by simp; omega)
          rw [hR] at Vo
          clear hv hR
          go_wp2_with fail
          refine (Vo _).mono ?_
          rintro e w5 ⟨rfl, ⟨⟨nd5, rfl⟩⟩⟩
          go_wp2
          go_ret
          exact ⟨rfl, pw_below_drewN hB5.out _⟩
        · have qge48 : decide (48 ≤ a1) = true := decide_eq_true (by omega)
          have qle57 : decide (a1 ≤ 57) = false := decide_eq_false (by omega)
          have qge97 : decide (97 ≤ a1) = false := decide_eq_false (by omega)
          have qle122 : decide (a1 ≤ 122) = true := decide_eq_true (by omega)
          have qge65 : decide (65 ≤ a1) = true := decide_eq_true (by omega)
          have qle90 : decide (a1 ≤ 90) = true := decide_eq_true (by omega)
          have qeq95 : (a1 == 95) = false := beq_eq_false_iff_ne.mpr (by omega)
          have qeq45 : (a1 == 45) = false := beq_eq_false_iff_ne.mpr (by omega)
          have qeq126 : (a1 == 126) = false := beq_eq_false_iff_ne.mpr (by omega)
          have qeq46 : (a1 == 46) = false := beq_eq_false_iff_ne.mpr (by omega)
          have hR : valid (ub o) = true := by rw [hv]; exact right_at a1 i h1 true (by simp; omega)
          rw [hR] at Vo
          clear hv hR
          go_wp2_with fail
          refine (Vo _).mono ?_
          rintro e w5 ⟨rfl, ⟨⟨nd5, rfl⟩⟩⟩
          go_wp2
          go_ret
          exact ⟨rfl, pw_below_drewN hB5.out _⟩
        · have qge48 : decide (48 ≤ a1) = true := decide_eq_true (by omega)
          have qle57 : decide (a1 ≤ 57) = false := decide_eq_false (by omega)
          have qge97 : decide (97 ≤ a1) = false := decide_eq_false (by omega)
          have qle122 : decide (a1 ≤ 122) = true := decide_eq_true (by omega)
          have qge65 : decide (65 ≤ a1) = true := decide_eq_true (by omega)
          have qle90 : decide (a1 ≤ 90) = false := decide_eq_false (by omega)
          have qeq95 : (a1 == 95) = false := beq_eq_false_iff_ne.mpr (by omega)
          have qeq45 : (a1 == 45) = false := beq_eq_false_iff_ne.mpr (by omega)
          have qeq126 : (a1 == 126) = false := beq_eq_false_iff_ne.mpr (by omega)
          have qeq46 : (a1 == 46) = false := beq_eq_false_iff_ne.mpr (by omega)
          have hR : valid (ub o) = false := by rw [hv]; exact right_at a1 i h1 false (by simp; omega)
          rw [hR] at Vo
          clear hv hR
          go_wp2_with fail
          refine (Vo _).mono ?_
          rintro e w5 ⟨rfl, ⟨⟨nd5, rfl⟩⟩⟩
          go_wp2
          go_ret
          exact ⟨rfl, pw_below_drewN hB5.out _⟩
        · have qge48 : decide (48 ≤ a1) = true := decide_eq_true (by omega)
          have qle57 : decide (a1 ≤ 57) = false := decide_eq_false (by omega)
          have qge97 : decide (97 ≤ a1) = false := decide_eq_false (by omega)
          have qle122 : decide (a1 ≤ 122) = true := decide_eq_true (by omega)
          have qge65 : decide (65 ≤ a1) = true := decide_eq_true (by omega)
          have qle90 : decide (a1 ≤ 90) = false := decide_eq_false (by omega)
          have qeq95 : (a1 == 95) = true := beq_iff_eq.mpr (by omega)
          have qeq45 : (a1 == 45) = false := beq_eq_false_iff_ne.mpr (by omega)
          have qeq126 : (a1 == 126) = false := beq_eq_false_iff_ne.mpr (by omega)
          have qeq46 : (a1 == 46) = false := beq_eq_false_iff_ne.mpr (by omega)
          have hR : valid (ub o) = true := by rw [hv]; exact right_at a1 i h1 true (by simp; omega)
          rw [hR] at Vo
          clear hv hR
          go_wp2_with fail
          refine (Vo _).mono ?_
          rintro e w5 ⟨rfl, ⟨⟨nd5, rfl⟩⟩⟩
          go_wp2
          go_ret
          exact ⟨rfl, pw_below_drewN hB5.out _⟩
        · have qge48 : decide (48 ≤ a1) = true := decide_eq_true (by omega)
          have qle57 : decide (a1 ≤ 57) = false := decide_eq_false (by omega)
          have qge97 : decide (97 ≤ a1) = false := decide_eq_false (by omega)
          have qle122 : decide (a1 ≤ 122) = true := decide_eq_true (by omega)
          have qge65 : decide (65 ≤ a1) = true := decide_eq_true (by omega)
          have qle90 : decide (a1 ≤ 90) = false := decide_eq_false (by omega)
          have qeq95 : (a1 == 95) = false := beq_eq_false_iff_ne.mpr (by omega)
          have qeq45 : (a1 == 45) = false := beq_eq_false_iff_ne.mpr (by omega)
          have qeq126 : (a1 == 126) = false := beq_eq_false_iff_ne.mpr (by omega)
          have qeq46 : (a1 == 46) = false := beq_eq_false_iff_ne.mpr (by omega)
          have hR : valid (ub o) = false := by rw [hv]; exact right_at a1 i h1 false (by simp; omega)
          rw [hR] at Vo
          clear hv hR
          go_wp2_with fail
          refine (Vo _).mono ?_
          rintro e w5 ⟨rfl, ⟨⟨nd5, rfl⟩⟩⟩
          go_wp2
          go_ret
          exact ⟨rfl, pw_below_drewN hB5.out _⟩
        · have qge48 : decide (48 ≤ a1) = true := decide_eq_true (by omega)
          have qle57 : decide (a1 ≤ 57) = false := decide_eq_false (by omega)
          have qge97 : decide (97 ≤ a1) = true := decide_eq_true (by omega)
          have qle122 : decide (a1 ≤ 122) = true := decide_eq_true (by omega)
          have qge65 : decide (65 ≤ a1) = true := decide_eq_true (by omega)
          have qle90 : decide (a1 ≤ 90) = false := decide_eq_false (by omega)
          have qeq95 : (a1 == 95) = false := beq_eq_false_iff_ne.mpr (by omega)
          have qeq45 : (a1 == 45) = false := beq_eq_false_iff_ne.mpr (by omega)
          have qeq126 : (a1 == 126) = false := beq_eq_false_iff_ne.mpr (by omega)
          have qeq46 : (a1 == 46) = false := beq_eq_false_iff_ne.mpr (by omega)
          have hR : valid (ub o) = true := by rw [hv]; exact right_at a1 i h1 true (by simp; omega)
          rw [hR] at Vo
          clear hv hR
          go_wp2_with fail
          refine (Vo _).mono ?_
          rintro e w5 ⟨rfl, ⟨⟨nd5, rfl⟩⟩⟩
          go_wp2
          go_ret
          exact ⟨rfl, pw_below_drewN hB5.out _⟩
        · have qge48 : decide (48 ≤ a1) = true := decide_eq_true (by omega)
          have qle57 : decide (a1 ≤ 57) = false := decide_eq_false (by omega)
          have qge97 : decide (97 ≤ a1) = true := decide_eq_true (by omega)
          have qle122 : decide (a1 ≤ 122) = false := decide_eq_false (by omega)
          have qge65 : decide (65 ≤ a1) = true := decide_eq_true (by omega)
          have qle90 : decide (a1 ≤ 90) = false := decide_eq_false (by omega)
          have qeq95 : (a1 == 95) = false := beq_eq_false_iff_ne.mpr (by omega)
          have qeq45 : (a1 == 45) = false := beq_eq_false_iff_ne.mpr (by omega)
          have qeq126 : (a1 == 126) = false := beq_eq_false_iff_ne.mpr (by omega)
          have qeq46 : (a1 == 46) = false := beq_eq_false_iff_ne.mpr (by omega)
          have hR : valid (ub o) = false := by rw [hv]; exact right_at a1 i h1 false (by simp; omega)
          rw [hR] at Vo
          clear hv hR
          go_wp2_with fail
          refine (Vo _).mono ?_
          rintro e w5 ⟨rfl, ⟨⟨nd5, rfl⟩⟩⟩
          go_wp2
          go_ret
          exact ⟨rfl, pw_below_drewN hB5.out _⟩
        · have qge48 : decide (48 ≤ a1) = true := decide_eq_true (by omega)
          have qle57 : decide (a1 ≤ 57) = false := decide_eq_false (by omega)
          have qge97 : decide (97 ≤ a1) = true := decide_eq_true (by omega)
          have qle122 : decide (a1 ≤ 122) = false := decide_eq_false (by omega)
          have qge65 : decide (65 ≤ a1) = true := decide_eq_true (by omega)
          have qle90 : decide (a1 ≤ 90) = false := decide_eq_false (by omega)
          have qeq95 : (a1 == 95) = false := beq_eq_false_iff_ne.mpr (by omega)
          have qeq45 : (a1 == 45) = false := beq_eq_false_iff_ne.mpr (by omega)
          have qeq126 : (a1 == 126) = true := beq_iff_eq.mpr (by omega)
          have qeq46 : (a1 == 46) = false := beq_eq_false_iff_ne.mpr (by omega)
          have hR : valid (ub o) = true := by rw [hv]; exact right_at a1 i h1 true (by simp; omega)
          rw [hR] at Vo
          clear hv hR
          go_wp2_with fail
          refine (Vo _).mono ?_
          rintro e w5 ⟨rfl, ⟨⟨nd5, rfl⟩⟩⟩
          go_wp2
          go_ret
          exact ⟨rfl, pw_below_drewN hB5.out _⟩
        · have qge48 : decide (48 ≤ a1) = true := decide_eq_true (by omega)
          have qle57 : decide (a1 ≤ 57) = false := decide_eq_false (by omega)
          have qge97 : decide (97 ≤ a1) = true := decide_eq_true (by omega)
          have qle122 : decide (a1 ≤ 122) = false := decide_eq_false (by omega)
          have qge65 : decide (65 ≤ a1) = true := decide_eq_true (by omega)
          have qle90 : decide (a1 ≤ 90) = false := decide_eq_false (by omega)
          have qeq95 : (a1 == 95) = false := beq_eq_false_iff_ne.mpr (by omega)
          have qeq45 : (a1 == 45) = false := beq_eq_false_iff_ne.mpr (by omega)
          have qeq126 : (a1 == 126) = false := beq_eq_false_iff_ne.mpr (by omega)
          have qeq46 : (a1 == 46) = false := beq_eq_false_iff_ne.mpr (by omega)
          have hR : valid (ub o) = false := by rw [hv]; exact right_at a1 i h1 false (by simp; omega)
          rw [hR] at Vo
          clear hv hR
          go_wp2_with fail
          refine (Vo _).mono ?_
          rintro e w5 ⟨rfl, ⟨⟨nd5, rfl⟩⟩⟩
          go_wp2
          go_ret
          exact ⟨rfl, pw_below_drewN hB5.out _⟩
      · by_cases hn0 : i = 0
        · obtain rfl : bN = true := by rw [← hbn]; exact decide_eq_true (by omega)
          have d1 : decide (1 ≤ i) = false := decide_eq_false (by omega)
          have d3 : decide (1 ≤ (i : Int)) = false := decide_eq_false (by omega)
          have d5 : decide ((i : Int) < 1) = true := decide_eq_true (by omega)
          go_wp2_with fail
          refine (PQ _).mono ?_
          rintro e w3 ⟨A, c, rfl, hc, hC, hb3⟩
          go_wp2
          go_ret
          exact ⟨rfl, below_step hb2.out hb3⟩
        · have d1 : decide (1 ≤ i) = true := decide_eq_true (by omega)
          have d2 : decide (i ≤ 16) = false := decide_eq_false (by omega)
          have d3 : decide (1 ≤ (i : Int)) = true := decide_eq_true (by omega)
          have d4 : decide ((i : Int) ≤ 16) = false := decide_eq_false (by omega)
          have d5 : decide ((i : Int) < 1) = false := decide_eq_false (by omega)
          have d6 : decide (16 < (i : Int)) = true := decide_eq_true (by omega)
          go_wp2_with fail
          refine (PQ _).mono ?_
          rintro e w3 ⟨A, c, rfl, hc, hC, hb3⟩
          go_wp2
          go_ret
          exact ⟨rfl, below_step hb2.out hb3⟩
theorem walk10 (a0 a1 a2 : Int) (w : World) (w0 : (Lit.int .u8 a0).wf = true) (w1 : (Lit.int .u8 a1).wf = true) (w2 : (Lit.int .u8 a2).wf = true) :
    Calls Tryd.prog 10 #[.int .u8 a0, .int .u8 a1, .int .u8 a2] w fun e w' => e = .returned (.bool true) ∧ Below w.heap.size w w' := by
  simp [Lit.wf, IntKind.min, IntKind.max, IntKind.signed, IntKind.bits] at w0 w1 w2
  exact limits10 a0 a1 a2 w0.1 w1 w2 w
end Go.Proofs.YtpahemgofhpfnaaDoor.V10

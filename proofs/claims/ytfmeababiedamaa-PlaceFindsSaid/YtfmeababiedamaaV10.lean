/- The fixed examples of sanity. -/
import Derived.Test.YtfmeababiedamaaY
import Derived.Test.YtfmeababiedamaaB
namespace Go.Proofs.Ytfmeababiedamaa.V10
open Go.RowKit Go.Shelf Go.Proofs.YtfmeababiedamaaW.PrintWords Go.Proofs.YtfmeababiedamaaW.PrintLast Go.Proofs.YtfmeababiedamaaW.PrintMore
open Go.Proofs.Ytfmeababiedamaa Go.Proofs.Ytfmeababiedamaa.M Go.Proofs.Ytfmeababiedamaa.Sp Go.Proofs.Ytfmeababiedamaa.E Go.Proofs.Ytfmeababiedamaa.G Go.Proofs.Ytfmeababiedamaa.A Go.Proofs.Ytfmeababiedamaa.T Go.Proofs.Ytfmeababiedamaa.K Go.Proofs.Ytfmeababiedamaa.X Go.Proofs.Ytfmeababiedamaa.V25 Go.Proofs.Ytfmeababiedamaa.V26 Go.Proofs.Ytfmeababiedamaa.V23 Go.Proofs.Ytfmeababiedamaa.V13 Go.Proofs.Ytfmeababiedamaa.V38 Go.Proofs.Ytfmeababiedamaa.V52 Go.Proofs.Ytfmeababiedamaa.V24 Go.Proofs.Ytfmeababiedamaa.B Go.Proofs.Ytfmeababiedamaa.Y
set_option linter.unusedVariables false
set_option linter.unusedSimpArgs false

/-- a box that holds a map -/
structure Bx (w W : World) (b : Nat) (a : Addr) (c n : Nat) (l : List S32) : Prop where
  below : Below w.heap.size w W
  blk : W.heap[b]? = some (.cells #[.slice (some a) n c] 27 (0, 0))
  row : Kd.C k32 W (some a) n l
  cap : n ≤ c
theorem Bx.next {w W W' : World} {b : Nat} {a : Addr} {c n : Nat} {l : List S32} (h : Bx w W b a c n l) (hb : Below W.heap.size W W') : Bx w W' b a c n l :=
  ⟨below_step h.below hb, blk_below h.blk hb, Kd.C_below h.row hb, h.cap⟩
theorem Bx.drew {w W : World} {b : Nat} {a : Addr} {c n : Nat} {l : List S32} (h : Bx w W b a c n l) : Bx w W.drew b a c n l := h.next (below_drew1 (Below.refl _ _))
theorem Bx.cell {w W : World} {b : Nat} {a : Addr} {c n : Nat} {l : List S32} (h : Bx w W b a c n l) : W.cell? ⟨b, 0, none⟩ = some (.slice (some a) n c) := (blk_cell h.blk 0).trans rfl
theorem box_new {w u : World} {a : Addr} {c n : Nat} {l : List S32} (hb : Below w.heap.size w u) (hr : Kd.C k32 u (some a) n l) (hc : n ≤ c) :
    Bx w (u.alloc (.cells #[.slice (some a) n c] 27)) u.heap.size a c n l :=
  ⟨below_alloc hb _, blk_new u _, Kd.C_alloc hr _, hc⟩
theorem box_step (u : World) (o : Obj) : Below u.heap.size u (u.alloc o) := below_alloc (Below.refl _ u) _
theorem map_some {w : World} {v : Value} {l : List S32} (h : MapC w v l) (hp : 0 < l.length) : ∃ a c, v = .slice (some a) l.length c ∧ l.length ≤ c ∧ Kd.C k32 w (some a) l.length l := by
  obtain ⟨A, c, rfl, hc, hr⟩ := h
  obtain ⟨ad, e, _⟩ := hr.2.2 hp
  exact ⟨ad, c, by rw [e], hc, e ▸ hr⟩
theorem sm0 : Small L0 := by decide
theorem sm1 : Small L1 := by decide
theorem c35 (w : World) : Calls Try.prog 35 #[.int .i64 0, .int .i64 3] w fun e w' => ∃ a c, e = .returned (.agg #[.slice (some a) 1 c]) ∧ 1 ≤ c ∧ Kd.C k32 w' (some a) 1 L0 ∧ Below w.heap.size w w' := by
  refine (M.place_New.calls 0 3 L0 w rfl).mono ?_
  rintro e w4 ⟨v, rfl, hR, hb⟩
  obtain ⟨a, c, rfl, hc, hr⟩ := map_some (MapC.of_R hR) (by decide)
  exact ⟨a, c, rfl, hc, hr, hb⟩
theorem c20 (w : World) : Calls Try.prog 20 #[.int .i64 0, .int .i64 3] w fun e w' => ∃ a c, e = .returned (.agg #[.slice (some a) 1 c]) ∧ 1 ≤ c ∧ Kd.C k32 w' (some a) 1 L0 ∧ Below w.heap.size w w' := by
  refine (M.burgageref24_New.calls 0 3 L0 w rfl).mono ?_
  rintro e w4 ⟨v, rfl, hR, hb⟩
  obtain ⟨a, c, rfl, hc, hr⟩ := map_some (MapC.of_R hR) (by decide)
  exact ⟨a, c, rfl, hc, hr, hb⟩
theorem c18 (n : Nat) (l : List S32) (hn : l.length = n) (hl : n ≤ 1000) {a b : Addr} {c d : Nat} {w : World} (hr : Kd.C k32 w (some a) n l) (hc : n ≤ c) (hm : Kd.C k32 w (some b) n l) (hd : n ≤ d) :
    Calls Try.prog 18 #[.agg #[.slice (some a) n c], .agg #[.slice (some b) n d]] w fun e w' => e = .returned (.bool true) ∧ Below w.heap.size w w' := by
  subst hn
  have := same18 (some a) (some b) c d l l w hl hr hc hm hd
  rwa [decide_eq_true rfl] at this
theorem c23 {w W : World} {b c : Nat} {a : Addr} (h : Bx w W b a c 1 L0) : Calls Try.prog 23 #[.agg #[.slice (some a) 1 c]] W fun e w' => e = .returned (.bool true) ∧ Below W.heap.size W w' := valid23 a c L0 W valid0 h.row h.cap
theorem c25a {w W : World} {b c : Nat} {a : Addr} (h : Bx w W b a c 1 L0) : Calls Try.prog 25 #[.agg #[.slice (some a) 1 c], .string sA, .int .i64 1] W fun e w' => ∃ a c, e = .returned (.tuple #[.agg #[.slice (some a) 2 c], .int .i64 0]) ∧ 2 ≤ c ∧ Kd.C k32 w' (some a) 2 L1 ∧ Below W.heap.size W w' := by
  have := split25 a c L0 sA 1 1 W sm0 (by decide) (by decide) h.row h.cap (by decide) (by intro j hj; obtain rfl : j = 0 := by omega
                                                                                          exact lessA) (by intro j h1 h2; exact absurd h2 (by show ¬ j < 1; omega))
  rw [split_a] at this
  refine this.mono ?_
  rintro e w4 ⟨v, rfl, hM, hb⟩
  obtain ⟨a, c, rfl, hc, hr⟩ := map_some hM (by decide)
  exact ⟨a, c, rfl, hc, hr, hb⟩
theorem c25b {w W : World} {b c : Nat} {a : Addr} (h : Bx w W b a c 2 L1) : Calls Try.prog 25 #[.agg #[.slice (some a) 2 c], .string sB, .int .i64 1] W fun e w' => ∃ a c, e = .returned (.tuple #[.agg #[.slice (some a) 2 c], .int .i64 240]) ∧ 2 ≤ c ∧ Kd.C k32 w' (some a) 2 L1 ∧ Below W.heap.size W w' := by
  have := split25 a c L1 sB 1 2 W sm1 (by decide) (by decide) h.row h.cap (by decide) (by intro j hj; rcases (show j = 0 ∨ j = 1 by omega) with rfl | rfl
                                                                                          · exact lessB0
                                                                                          · exact lessB1) (by intro j h1 h2; exact absurd h2 (by show ¬ j < 2; omega))
  rw [split_b] at this
  refine this.mono ?_
  rintro e w4 ⟨v, rfl, hM, hb⟩
  obtain ⟨a, c, rfl, hc, hr⟩ := map_some hM (by decide)
  exact ⟨a, c, rfl, hc, hr, hb⟩
theorem c24b {w W : World} {b c : Nat} {a : Addr} (h : Bx w W b a c 2 L1) : Calls Try.prog 24 #[.agg #[.slice (some a) 2 c], .string sB, .int .i64 1] W fun e w' => ∃ a c, e = .returned (.tuple #[.agg #[.slice (some a) 2 c], .int .i64 240]) ∧ 2 ≤ c ∧ Kd.C k32 w' (some a) 2 L1 ∧ Below W.heap.size W w' := by
  have := move24 (some a) c L1 sB 1 W sm1 (by decide) (by decide) h.row h.cap
  rw [move_b] at this
  refine this.mono ?_
  rintro e w4 ⟨v, rfl, hM, hb⟩
  obtain ⟨a, c, rfl, hc, hr⟩ := map_some hM (by decide)
  exact ⟨a, c, rfl, hc, hr, hb⟩
theorem c26a {w W : World} {b c : Nat} {a : Addr} (h : Bx w W b a c 2 L1) : Calls Try.prog 26 #[.agg #[.slice (some a) 2 c], .string sA] W fun e w' => ∃ a c, e = .returned (.tuple #[.agg #[.slice (some a) 1 c], .int .i64 0]) ∧ 1 ≤ c ∧ Kd.C k32 w' (some a) 1 L2 ∧ Below W.heap.size W w' := by
  have := join26 a c L1 sA W sm1 (by decide) (by show (⟨#[]⟩ : ByteArray).toList = []; rw [tl]; rfl) (by decide) h.row h.cap
  rw [join_a] at this
  refine this.mono ?_
  rintro e w4 ⟨v, rfl, hM, hb⟩
  obtain ⟨a, c, rfl, hc, hr⟩ := map_some hM (by decide)
  exact ⟨a, c, rfl, hc, hr, hb⟩
theorem c22a (w : World) : Calls Try.prog 22 #[.agg #[.string sA, .int .i64 1, .int .i64 3, .int .i64 2], .string sAsB] w fun e w' => e = .returned (.tuple #[.string sB, .int .i64 0]) ∧ Below w.heap.size w w' := by
  have := local22 p1 sAsB w (by decide) (by decide)
  rwa [local_1] at this
theorem c22b (w : World) : Calls Try.prog 22 #[.agg #[.string sA, .int .i64 1, .int .i64 3, .int .i64 2], .string sAB] w fun e w' => e = .returned (.tuple #[.string ⟨#[]⟩, .int .i64 240]) ∧ Below w.heap.size w w' := by
  have := local22 p1 sAB w (by decide) (by decide)
  rwa [local_2] at this
theorem c13a {w W : World} {b c : Nat} {a : Addr} (h : Bx w W b a c 2 L1) : Calls Try.prog 13 #[.agg #[.slice (some a) 2 c], .string sAsB] W fun e w' => e = .returned (.agg #[.string sA, .int .i64 1, .int .i64 3, .int .i64 2, .int .i64 0]) ∧ Below W.heap.size W w' := by
  have := found13 a c L1 sAsB W sm1 (by decide) (by decide) h.row h.cap
  rwa [find_1] at this
theorem c13b {w W : World} {b c : Nat} {a : Addr} (h : Bx w W b a c 2 L1) : Calls Try.prog 13 #[.agg #[.slice (some a) 2 c], .string sAB] W fun e w' => e = .returned (.agg #[.string ⟨#[]⟩, .int .i64 0, .int .i64 3, .int .i64 2, .int .i64 0]) ∧ Below W.heap.size W w' := by
  have := found13 a c L1 sAB W sm1 (by decide) (by decide) h.row h.cap
  rwa [find_2] at this
theorem c13c {w W : World} {b c : Nat} {a : Addr} (h : Bx w W b a c 2 L1) : Calls Try.prog 13 #[.agg #[.slice (some a) 2 c], .string sS] W fun e w' => e = .returned (.agg #[.string ⟨#[]⟩, .int .i64 0, .int .i64 0, .int .i64 0, .int .i64 10]) ∧ Below W.heap.size W w' := by
  have := found13 a c L1 sS W sm1 (by decide) (by decide) h.row h.cap
  rwa [find_3] at this
theorem c21a {w W : World} {b c : Nat} {a : Addr} (h : Bx w W b a c 2 L1) : Calls Try.prog 21 #[.agg #[.slice (some a) 2 c], .string sA, .int .i64 2] W fun e w' => e = .returned (.int .i64 0) ∧ Below W.heap.size W w' := by
  have := check21 a c L1 sA 2 W sm1 (by decide) (by decide) h.row h.cap
  rwa [check_1] at this
theorem c21b {w W : World} {b c : Nat} {a : Addr} (h : Bx w W b a c 2 L1) : Calls Try.prog 21 #[.agg #[.slice (some a) 2 c], .string sA, .int .i64 1] W fun e w' => e = .returned (.int .i64 241) ∧ Below W.heap.size W w' := by
  have := check21 a c L1 sA 1 W sm1 (by decide) (by decide) h.row h.cap
  rwa [check_2] at this
theorem two_row (W : World) : Kd.C k32 (W.alloc (.cells #[.string ⟨#[]⟩, .int .i64 0, .int .i64 3, .int .i64 2, .string sA, .int .i64 1, .int .i64 3, .int .i64 2] 32)) (some ⟨W.heap.size, 0, none⟩) 2 L1 :=
  C_of_block (l := L1) (cap := 2) (blk_new W _) (by decide) rfl rfl
theorem one_row (W : World) : Kd.C k32 (W.alloc (.cells #[.string ⟨#[]⟩, .int .i64 0, .int .i64 3, .int .i64 3] 32)) (some ⟨W.heap.size, 0, none⟩) 1 L2 :=
  C_of_block (l := L2) (cap := 1) (blk_new W _) (by decide) rfl rfl
def T2 : Bool × List (List Nat × List Nat) := (true, [([], []), ([], []), ([0, 1, 1], [0, 1]), ([2], [2]), ([3, 2], [3]), ([4], [4]), ([5, 4, 4], [4, 5]), ([6, 4], [4, 6]), ([4, 7], [4, 7])])
def B2 : List Nat := [0, 0, 3, 7, 15, 31, 63, 127, 255]
theorem tab2 : rtab .any (opsOf Try.f10 2) = T2 := by kernel_rfl
theorem bits2 : waitsOk T2.2 B2 = true := by kernel_rfl
def T10 : Bool × List (List Nat × List Nat) := (true, [([], []), ([0], [0]), ([1], [1]), ([], []), ([3], [3]), ([4], [4]), ([5], [5]), ([2, 6], [2, 6]), ([7, 1], [7]), ([8], [8]), ([9, 8, 8], [8, 9]), ([10, 8], [8, 10]), ([8], [8]), ([12, 8], [8, 12]), ([13, 8], [8, 13]), ([14, 8], [8, 14]), ([11, 15, 8], [8, 11, 15]), ([8, 16], [8, 16]), ([17, 10], [17]), ([18], [18]), ([19, 18, 18], [18, 19]), ([20, 18], [18, 20]), ([21, 18], [18, 21]), ([18, 22], [18, 22]), ([23, 20, 0, 1, 2, 3, 4, 5, 6, 7, 8, 9, 10, 11, 12, 13, 14, 15, 16, 17, 18, 19, 20, 21, 22, 23], [23])])
def B10 : List Nat := [0, 1, 3, 0, 8, 24, 56, 127, 255, 511, 1023, 2047, 511, 4607, 12799, 29183, 65535, 131071, 262143, 524287, 1048575, 2097151, 4194303, 8388607, 16777215]
theorem tab10 : rtab .any (opsOf Try.f10 10) = T10 := by kernel_rfl
theorem bits10 : waitsOk T10.2 B10 = true := by kernel_rfl
attribute [local go_sem high] eqA32
attribute [local go_sem] Go.Instr.field Go.asAgg
set_option maxHeartbeats 8000000 in
set_option maxRecDepth 100000 in
theorem sanity10 (w : World) : Calls Try.prog 10 #[] w fun e w' => e = .returned (.bool true) ∧ Below w.heap.size w w' := by
  have hu27 := Try.underlying27
  have hu25 := Try.underlying25
  have hu32 := Try.underlying32
  have hu35 := Try.underlying35
  go_enter Try.func10, Try.ntmps10
  go_wp2_with (go_at_call 35; refine (c35 _).mono ?_; rintro e w2 ⟨a1, c1, rfl, h1, hr1, hb1⟩; have X3 := box_new hb1 hr1 h1; clear hb1 hr1)
  obtain ⟨q1, hq1⟩ : ∃ q, w2.heap.size = q := ⟨_, rfl⟩
  rw [hq1] at X3 ⊢
  generalize w2.alloc (.cells #[.slice (some a1) 1 c1] 27) = w4 at X3 ⊢
  have X4 := X3.drew
  have k4 := X4.cell
  clear X3 hq1
  refine start_ (n := 9) (S := fun w' => w'.cell? ⟨q1, 0, none⟩ = some (.slice (some a1) 1 c1)) (ds := []) #[false, false, false, false, false, false, false, false, false] (by kernel_rfl) rfl rfl (k4) (fun hHeld => ?_)
  refine with_tabW tab2 bits2 (fun HT_ HW_ => ?_)
  refine take_ (i := 0) (N := some 16) (v := ?_) (a' := ?_) #[true, false, false, false, false, false, false, false, false] rfl rfl (take_ofW HT_.out HW_.out (by kernel_rfl)) (fun _ _ _ h => h) (Or.inl ⟨by rfl, ?_⟩) hHeld ?_ ?_
  rotate_left
  · intro w' s0
    go_simp
    with_reducible rfl
  rotate_left
  · simp only [Act.put, List.setIfInBounds_toArray, List.set_cons_zero, List.set_cons_succ, i64_w, i32_w]
    rfl
  refine one_ (i := 1) (N := some 17) #[true, true, false, false, false, false, false, false, false] rfl rfl (one_of HT_.out (by kernel_rfl)) (by decide) (fun K hK => ?_)
  refine goes_ Try.func20 (by kernel_rfl) rfl #[.int .i64 0, .int .i64 3] (by rfl) rfl rfl (by (try simp only [List.map_toArray, List.map_cons, List.map_nil]); first | done | rfl) ?_
  refine (c20 _).mono ?_
  rintro e w5 ⟨b1, d1, rfl, hd1, hm1, hb5⟩
  refine ⟨_, rfl, ?_⟩
  have X5 := X4.next hb5
  have Y5 := Aside0.mk hm1
  clear hm1 hb5 X4
  refine hK.out _ _ (X5.cell) (fun hHeld => ?_)
  clear hK K
  refine norm_ (a' := ?_) ?_ ?_
  rotate_left
  · show Act.put _ (some 17) _ = _
    simp only [Act.put, List.setIfInBounds_toArray, List.set_cons_zero, List.set_cons_succ, i64_w, i32_w]
    rfl
  refine one_ (i := 2) (N := some 18) #[true, true, true, false, false, false, false, false, false] rfl rfl (one_of HT_.out (by kernel_rfl)) (by decide) (fun K hK => ?_)
  refine goes_ Try.func18 (by kernel_rfl) rfl #[.agg #[.slice (some a1) 1 c1], .agg #[.slice (some b1) 1 d1]] (by rfl) rfl rfl (by (try simp only [List.map_toArray, List.map_cons, List.map_nil]); first | done | rfl) ?_
  refine (c18 1 L0 rfl (by decide) X5.row X5.cap Y5.out hd1).mono ?_
  rintro e w6 ⟨rfl, hb6⟩
  refine ⟨_, rfl, ?_⟩
  have X6 := X5.next hb6
  clear X5 Y5 hb6
  refine hK.out _ _ (X6.cell) (fun hHeld => ?_)
  clear hK K
  refine norm_ (a' := ?_) ?_ ?_
  rotate_left
  · show Act.put _ (some 18) _ = _
    simp only [Act.put, List.setIfInBounds_toArray, List.set_cons_zero, List.set_cons_succ, i64_w, i32_w]
    rfl
  refine pure_ (i := 3) (N := some 19) (v := ?_) (a' := ?_) #[true, true, true, true, false, false, false, false, false] rfl rfl (any_of HT_.out (by kernel_rfl)) (fun _ _ _ h => h) (Or.inl ⟨by rfl, ?_⟩) ?_ ?_
  rotate_left
  · intro w'
    go_simp
    with_reducible rfl
  rotate_left
  · simp only [Act.put, List.setIfInBounds_toArray, List.set_cons_zero, List.set_cons_succ, i64_w, i32_w]
    rfl
  refine pure_ (i := 4) (N := some 20) (v := ?_) (a' := ?_) #[true, true, true, true, true, false, false, false, false] rfl rfl (any_of HT_.out (by kernel_rfl)) (fun _ _ _ h => h) (Or.inl ⟨by rfl, ?_⟩) ?_ ?_
  rotate_left
  · intro w'
    go_simp
    with_reducible rfl
  rotate_left
  · simp only [Act.put, List.setIfInBounds_toArray, List.set_cons_zero, List.set_cons_succ, i64_w, i32_w]
    rfl
  refine take_ (i := 5) (N := some 21) (v := ?_) (a' := ?_) #[true, true, true, true, true, true, false, false, false] rfl rfl (take_ofW HT_.out HW_.out (by kernel_rfl)) (fun _ _ _ h => h) (Or.inl ⟨by rfl, ?_⟩) hHeld ?_ ?_
  rotate_left
  · intro w' s0
    go_simp
    with_reducible rfl
  rotate_left
  · simp only [Act.put, List.setIfInBounds_toArray, List.set_cons_zero, List.set_cons_succ, i64_w, i32_w]
    rfl
  refine one_ (i := 6) (N := some 22) #[true, true, true, true, true, true, true, false, false] rfl rfl (one_of HT_.out (by kernel_rfl)) (by decide) (fun K hK => ?_)
  refine goes_ Try.func23 (by kernel_rfl) rfl #[.agg #[.slice (some a1) 1 c1]] (by rfl) rfl rfl (by (try simp only [List.map_toArray, List.map_cons, List.map_nil]); first | done | rfl) ?_
  refine (c23 X6).mono ?_
  rintro e w7 ⟨rfl, hb7⟩
  refine ⟨_, rfl, ?_⟩
  have X7 := X6.next hb7
  clear X6 hb7
  refine hK.out _ _ (X7.cell) (fun hHeld => ?_)
  clear hK K
  refine norm_ (a' := ?_) ?_ ?_
  rotate_left
  · show Act.put _ (some 22) _ = _
    simp only [Act.put, List.setIfInBounds_toArray, List.set_cons_zero, List.set_cons_succ, i64_w, i32_w]
    rfl
  refine pure_ (i := 7) (N := some 23) (v := ?_) (a' := ?_) #[true, true, true, true, true, true, true, true, false] rfl rfl (any_of HT_.out (by kernel_rfl)) (fun _ _ _ h => h) (Or.inl ⟨by rfl, ?_⟩) ?_ ?_
  rotate_left
  · intro w'
    go_simp
    with_reducible rfl
  rotate_left
  · simp only [Act.put, List.setIfInBounds_toArray, List.set_cons_zero, List.set_cons_succ, i64_w, i32_w]
    rfl
  refine pure_ (i := 8) (N := some 24) (v := ?_) (a' := ?_) #[true, true, true, true, true, true, true, true, true] rfl rfl (any_of HT_.out (by kernel_rfl)) (fun _ _ _ h => h) (Or.inl ⟨by rfl, ?_⟩) ?_ ?_
  rotate_left
  · intro w'
    go_simp
    with_reducible rfl
  rotate_left
  · simp only [Act.put, List.setIfInBounds_toArray, List.set_cons_zero, List.set_cons_succ, i64_w, i32_w]
    rfl
  refine done_ (done_of HT_.out (by kernel_rfl)) ?_
  clear HT_ HW_ hHeld hd1 h1
  have k7 := X7.cell
  go_wp2_with fail
  refine (c25a X7).mono ?_
  rintro e w8 ⟨a2, c2, rfl, h2, hr2, hb8⟩
  have X9 := box_new (below_step X7.below hb8) hr2 h2
  have k9 := X9.cell
  have T9 := X9.next (box_step _ (.cells #[.string ⟨#[]⟩, .int .i64 0, .int .i64 3, .int .i64 2, .string sA, .int .i64 1, .int .i64 3, .int .i64 2] 32))
  have S9 := Aside0.mk (two_row (w8.alloc (.cells #[.slice (some a2) 2 c2] 27)))
  rw [World.size_alloc] at S9
  obtain ⟨q2, hq2⟩ : ∃ q, w8.heap.size = q := ⟨_, rfl⟩
  rw [hq2] at X9 k9 T9 S9
  clear X7 hb8 hr2
  go_wp2_with fail
  refine (c18 2 L1 rfl (by decide) T9.row T9.cap S9.out (by decide)).mono ?_
  rintro e w10 ⟨rfl, hb10⟩
  have X10 := T9.next hb10
  have k10 := X10.cell
  clear T9 S9 X9 k9 hb10 hq2
  go_wp2_with fail
  refine (c26a X10).mono ?_
  rintro e w11 ⟨a4, c4, rfl, h4, hr4, hb11⟩
  have Z12 := box_new (below_step X10.below hb11) hr4 h4
  have X12 := (X10.next hb11).next (box_step _ (.cells #[.slice (some a4) 1 c4] 27))
  obtain ⟨q4, hq4⟩ : ∃ q, w11.heap.size = q := ⟨_, rfl⟩
  rw [hq4] at Z12
  have k12 := X12.cell
  obtain ⟨ad12, ead12, x120, x121, x122, x123⟩ := at_T32 X12.row 1 (by decide) (by decide)
  cases ead12
  have x120 : (w11.alloc (.cells #[.slice (some a4) 1 c4] 27)).cell? ⟨a2.block, a2.off + 4, none⟩ = some (.string sA) := x120
  have x121 : (w11.alloc (.cells #[.slice (some a4) 1 c4] 27)).cell? ⟨a2.block, a2.off + 4 + 1, none⟩ = some (.int .i64 1) := x121
  have x122 : (w11.alloc (.cells #[.slice (some a4) 1 c4] 27)).cell? ⟨a2.block, a2.off + 4 + 2, none⟩ = some (.int .i64 3) := x122
  have x123 : (w11.alloc (.cells #[.slice (some a4) 1 c4] 27)).cell? ⟨a2.block, a2.off + 4 + 3, none⟩ = some (.int .i64 2) := x123
  clear X10 k10 hb11 hr4
  go_wp2_with fail
  refine (c22a _).mono ?_
  rintro e w13 ⟨rfl, hb13⟩
  have X13 := X12.next hb13
  have Z13 := Z12.next hb13
  have k13 := X13.cell
  obtain ⟨ad13, ead13, x130, x131, x132, x133⟩ := at_T32 X13.row 1 (by decide) (by decide)
  cases ead13
  have x130 : w13.cell? ⟨a2.block, a2.off + 4, none⟩ = some (.string sA) := x130
  have x131 : w13.cell? ⟨a2.block, a2.off + 4 + 1, none⟩ = some (.int .i64 1) := x131
  have x132 : w13.cell? ⟨a2.block, a2.off + 4 + 2, none⟩ = some (.int .i64 3) := x132
  have x133 : w13.cell? ⟨a2.block, a2.off + 4 + 3, none⟩ = some (.int .i64 2) := x133
  clear X12 Z12 k12 hb13
  go_wp2_with fail
  refine (c22b _).mono ?_
  rintro e w14 ⟨rfl, hb14⟩
  have X14 := (X13.next hb14).drew
  have Z14 := (Z13.next hb14).drew
  have k14 := X14.cell
  obtain ⟨ad14, ead14, x140, x141, x142, x143⟩ := at_T32 X14.row 1 (by decide) (by decide)
  cases ead14
  have x140 : w14.drew.cell? ⟨a2.block, a2.off + 4, none⟩ = some (.string sA) := x140
  have x141 : w14.drew.cell? ⟨a2.block, a2.off + 4 + 1, none⟩ = some (.int .i64 1) := x141
  have x142 : w14.drew.cell? ⟨a2.block, a2.off + 4 + 2, none⟩ = some (.int .i64 3) := x142
  have x143 : w14.drew.cell? ⟨a2.block, a2.off + 4 + 3, none⟩ = some (.int .i64 2) := x143
  obtain ⟨ae14, eae14, y140, y141, y142, y143⟩ := at_T32 X14.row 0 (by decide) (by decide)
  cases eae14
  have y140 : w14.drew.cell? a2 = some (.string ⟨#[]⟩) := y140
  have y141 : w14.drew.cell? ⟨a2.block, a2.off + 1, none⟩ = some (.int .i64 0) := y141
  have y142 : w14.drew.cell? ⟨a2.block, a2.off + 2, none⟩ = some (.int .i64 3) := y142
  have y143 : w14.drew.cell? ⟨a2.block, a2.off + 3, none⟩ = some (.int .i64 2) := y143
  clear X13 Z13 k13 hb14
  go_wp2_with fail
  refine start_ (n := 25) (S := fun w' => w'.cell? ⟨q2, 0, none⟩ = some (.slice (some a2) 2 c2) ∧ w'.cell? ⟨a2.block, a2.off + 4, none⟩ = some (.string sA) ∧ w'.cell? ⟨a2.block, a2.off + 4 + 1, none⟩ = some (.int .i64 1) ∧ w'.cell? ⟨a2.block, a2.off + 4 + 2, none⟩ = some (.int .i64 3) ∧ w'.cell? ⟨a2.block, a2.off + 4 + 3, none⟩ = some (.int .i64 2) ∧ w'.cell? a2 = some (.string ⟨#[]⟩) ∧ w'.cell? ⟨a2.block, a2.off + 1, none⟩ = some (.int .i64 0) ∧ w'.cell? ⟨a2.block, a2.off + 2, none⟩ = some (.int .i64 3) ∧ w'.cell? ⟨a2.block, a2.off + 3, none⟩ = some (.int .i64 2)) (ds := []) #[false, false, false, false, false, false, false, false, false, false, false, false, false, false, false, false, false, false, false, false, false, false, false, false, false] (by kernel_rfl) rfl rfl ⟨k14, x140, x141, x142, x143, y140, y141, y142, y143⟩ (fun hHeld => ?_)
  refine with_tabW tab10 bits10 (fun HT_ HW_ => ?_)
  refine pure_ (i := 3) (N := some 65) (v := ?_) (a' := ?_) #[false, false, false, true, false, false, false, false, false, false, false, false, false, false, false, false, false, false, false, false, false, false, false, false, false] rfl rfl (any_of HT_.out (by kernel_rfl)) (fun _ _ _ h => h) (Or.inl ⟨by rfl, ?_⟩) ?_ ?_
  rotate_left
  · intro w'
    go_simp
    with_reducible rfl
  rotate_left
  · simp only [Act.put, List.setIfInBounds_toArray, List.set_cons_zero, List.set_cons_succ, i64_w, i32_w]
    rfl
  refine take_ (i := 0) (N := some 62) (v := ?_) (a' := ?_) #[true, false, false, true, false, false, false, false, false, false, false, false, false, false, false, false, false, false, false, false, false, false, false, false, false] rfl rfl (take_ofW HT_.out HW_.out (by kernel_rfl)) (fun _ _ _ h => h) (Or.inl ⟨by rfl, ?_⟩) hHeld ?_ ?_
  rotate_left
  · rintro w' ⟨s0, s1, s2, s3, s4, s5, s6, s7, s8⟩
    go_simp
    with_reducible rfl
  rotate_left
  · simp only [Act.put, List.setIfInBounds_toArray, List.set_cons_zero, List.set_cons_succ, i64_w, i32_w]
    rfl
  refine take_ (i := 4) (N := some 66) (v := ?_) (a' := ?_) #[true, false, false, true, true, false, false, false, false, false, false, false, false, false, false, false, false, false, false, false, false, false, false, false, false] rfl rfl (take_ofW HT_.out HW_.out (by kernel_rfl)) (fun _ _ _ h => h) (Or.inl ⟨by rfl, ?_⟩) hHeld ?_ ?_
  rotate_left
  · rintro w' ⟨s0, s1, s2, s3, s4, s5, s6, s7, s8⟩
    go_simp
    with_reducible rfl
  rotate_left
  · simp only [Act.put, List.setIfInBounds_toArray, List.set_cons_zero, List.set_cons_succ, i64_w, i32_w]
    rfl
  refine pure_ (i := 5) (N := some 67) (v := ?_) (a' := ?_) #[true, false, false, true, true, true, false, false, false, false, false, false, false, false, false, false, false, false, false, false, false, false, false, false, false] rfl rfl (any_of HT_.out (by kernel_rfl)) (fun _ _ _ h => h) (Or.inl ⟨by rfl, ?_⟩) ?_ ?_
  rotate_left
  · intro w'
    go_simp
    with_reducible rfl
  rotate_left
  · simp only [Act.put, List.setIfInBounds_toArray, List.set_cons_zero, List.set_cons_succ, i64_w, i32_w]
    rfl
  refine take_ (i := 6) (N := some 68) (v := ?_) (a' := ?_) #[true, false, false, true, true, true, true, false, false, false, false, false, false, false, false, false, false, false, false, false, false, false, false, false, false] rfl rfl (take_ofW HT_.out HW_.out (by kernel_rfl)) (fun _ _ _ h => h) (Or.inl ⟨by rfl, ?_⟩) hHeld ?_ ?_
  rotate_left
  · rintro w' ⟨s0, s1, s2, s3, s4, s5, s6, s7, s8⟩
    go_simp
    with_reducible rfl
  rotate_left
  · simp only [Act.put, List.setIfInBounds_toArray, List.set_cons_zero, List.set_cons_succ, i64_w, i32_w]
    rfl
  refine one_ (i := 1) (N := some 63) #[true, true, false, true, true, true, true, false, false, false, false, false, false, false, false, false, false, false, false, false, false, false, false, false, false] rfl rfl (one_of HT_.out (by kernel_rfl)) (by decide) (fun K hK => ?_)
  refine goes_ Try.func13 (by kernel_rfl) rfl #[.agg #[.slice (some a2) 2 c2], .string sAsB] (by rfl) rfl rfl (by (try simp only [List.map_toArray, List.map_cons, List.map_nil]); first | done | rfl) ?_
  refine (c13a X14).mono ?_
  rintro e w15 ⟨rfl, hb15⟩
  refine ⟨_, rfl, ?_⟩
  have X15 := X14.next hb15
  have Z15 := Z14.next hb15
  have k15 := X15.cell
  obtain ⟨ad15, ead15, x150, x151, x152, x153⟩ := at_T32 X15.row 1 (by decide) (by decide)
  cases ead15
  have x150 : w15.cell? ⟨a2.block, a2.off + 4, none⟩ = some (.string sA) := x150
  have x151 : w15.cell? ⟨a2.block, a2.off + 4 + 1, none⟩ = some (.int .i64 1) := x151
  have x152 : w15.cell? ⟨a2.block, a2.off + 4 + 2, none⟩ = some (.int .i64 3) := x152
  have x153 : w15.cell? ⟨a2.block, a2.off + 4 + 3, none⟩ = some (.int .i64 2) := x153
  obtain ⟨ae15, eae15, y150, y151, y152, y153⟩ := at_T32 X15.row 0 (by decide) (by decide)
  cases eae15
  have y150 : w15.cell? a2 = some (.string ⟨#[]⟩) := y150
  have y151 : w15.cell? ⟨a2.block, a2.off + 1, none⟩ = some (.int .i64 0) := y151
  have y152 : w15.cell? ⟨a2.block, a2.off + 2, none⟩ = some (.int .i64 3) := y152
  have y153 : w15.cell? ⟨a2.block, a2.off + 3, none⟩ = some (.int .i64 2) := y153
  clear X14 Z14 hb15
  refine hK.out _ _ ⟨k15, x150, x151, x152, x153, y150, y151, y152, y153⟩ (fun hHeld => ?_)
  clear hK K
  refine norm_ (a' := ?_) ?_ ?_
  rotate_left
  · show Act.put _ (some 63) _ = _
    simp only [Act.put, List.setIfInBounds_toArray, List.set_cons_zero, List.set_cons_succ, i64_w, i32_w]
    rfl
  refine pure_ (i := 2) (N := some 64) (v := ?_) (a' := ?_) #[true, true, true, true, true, true, true, false, false, false, false, false, false, false, false, false, false, false, false, false, false, false, false, false, false] rfl rfl (any_of HT_.out (by kernel_rfl)) (fun _ _ _ h => h) (Or.inl ⟨by rfl, ?_⟩) ?_ ?_
  rotate_left
  · intro w'
    go_simp
    with_reducible rfl
  rotate_left
  · simp only [Act.put, List.setIfInBounds_toArray, List.set_cons_zero, List.set_cons_succ, i64_w, i32_w]
    rfl
  refine pure_ (i := 7) (N := some 69) (v := ?_) (a' := ?_) #[true, true, true, true, true, true, true, true, false, false, false, false, false, false, false, false, false, false, false, false, false, false, false, false, false] rfl rfl (any_of HT_.out (by kernel_rfl)) (fun _ _ _ h => h) (Or.inl ⟨by rfl, ?_⟩) ?_ ?_
  rotate_left
  · intro w'
    go_simp
    with_reducible rfl
  rotate_left
  · simp only [Act.put, List.setIfInBounds_toArray, List.set_cons_zero, List.set_cons_succ, i64_w, i32_w]
    rfl
  refine pure_ (i := 8) (N := some 70) (v := ?_) (a' := ?_) #[true, true, true, true, true, true, true, true, true, false, false, false, false, false, false, false, false, false, false, false, false, false, false, false, false] rfl rfl (any_of HT_.out (by kernel_rfl)) (fun _ _ _ h => h) (Or.inl ⟨by rfl, ?_⟩) ?_ ?_
  rotate_left
  · intro w'
    go_simp
    with_reducible rfl
  rotate_left
  · simp only [Act.put, List.setIfInBounds_toArray, List.set_cons_zero, List.set_cons_succ, i64_w, i32_w]
    rfl
  refine pure_ (i := 12) (N := some 74) (v := ?_) (a' := ?_) #[true, true, true, true, true, true, true, true, true, false, false, false, true, false, false, false, false, false, false, false, false, false, false, false, false] rfl rfl (any_of HT_.out (by kernel_rfl)) (fun _ _ _ h => h) (Or.inl ⟨by rfl, ?_⟩) ?_ ?_
  rotate_left
  · intro w'
    go_simp
    with_reducible rfl
  rotate_left
  · simp only [Act.put, List.setIfInBounds_toArray, List.set_cons_zero, List.set_cons_succ, i64_w, i32_w]
    rfl
  refine take_ (i := 9) (N := some 71) (v := ?_) (a' := ?_) #[true, true, true, true, true, true, true, true, true, true, false, false, true, false, false, false, false, false, false, false, false, false, false, false, false] rfl rfl (take_ofW HT_.out HW_.out (by kernel_rfl)) (fun _ _ _ h => h) (Or.inl ⟨by rfl, ?_⟩) hHeld ?_ ?_
  rotate_left
  · rintro w' ⟨s0, s1, s2, s3, s4, s5, s6, s7, s8⟩
    go_simp
    with_reducible rfl
  rotate_left
  · simp only [Act.put, List.setIfInBounds_toArray, List.set_cons_zero, List.set_cons_succ, i64_w, i32_w]
    rfl
  refine take_ (i := 13) (N := some 75) (v := ?_) (a' := ?_) #[true, true, true, true, true, true, true, true, true, true, false, false, true, true, false, false, false, false, false, false, false, false, false, false, false] rfl rfl (take_ofW HT_.out HW_.out (by kernel_rfl)) (fun _ _ _ h => h) (Or.inl ⟨by rfl, ?_⟩) hHeld ?_ ?_
  rotate_left
  · rintro w' ⟨s0, s1, s2, s3, s4, s5, s6, s7, s8⟩
    go_simp
    with_reducible rfl
  rotate_left
  · simp only [Act.put, List.setIfInBounds_toArray, List.set_cons_zero, List.set_cons_succ, i64_w, i32_w]
    rfl
  refine pure_ (i := 14) (N := some 76) (v := ?_) (a' := ?_) #[true, true, true, true, true, true, true, true, true, true, false, false, true, true, true, false, false, false, false, false, false, false, false, false, false] rfl rfl (any_of HT_.out (by kernel_rfl)) (fun _ _ _ h => h) (Or.inl ⟨by rfl, ?_⟩) ?_ ?_
  rotate_left
  · intro w'
    go_simp
    with_reducible rfl
  rotate_left
  · simp only [Act.put, List.setIfInBounds_toArray, List.set_cons_zero, List.set_cons_succ, i64_w, i32_w]
    rfl
  refine take_ (i := 15) (N := some 77) (v := ?_) (a' := ?_) #[true, true, true, true, true, true, true, true, true, true, false, false, true, true, true, true, false, false, false, false, false, false, false, false, false] rfl rfl (take_ofW HT_.out HW_.out (by kernel_rfl)) (fun _ _ _ h => h) (Or.inl ⟨by rfl, ?_⟩) hHeld ?_ ?_
  rotate_left
  · rintro w' ⟨s0, s1, s2, s3, s4, s5, s6, s7, s8⟩
    go_simp
    with_reducible rfl
  rotate_left
  · simp only [Act.put, List.setIfInBounds_toArray, List.set_cons_zero, List.set_cons_succ, i64_w, i32_w]
    rfl
  refine one_ (i := 10) (N := some 72) #[true, true, true, true, true, true, true, true, true, true, true, false, true, true, true, true, false, false, false, false, false, false, false, false, false] rfl rfl (one_of HT_.out (by kernel_rfl)) (by decide) (fun K hK => ?_)
  refine goes_ Try.func13 (by kernel_rfl) rfl #[.agg #[.slice (some a2) 2 c2], .string sAB] (by rfl) rfl rfl (by (try simp only [List.map_toArray, List.map_cons, List.map_nil]); first | done | rfl) ?_
  refine (c13b X15).mono ?_
  rintro e w16 ⟨rfl, hb16⟩
  refine ⟨_, rfl, ?_⟩
  have X16 := X15.next hb16
  have Z16 := Z15.next hb16
  have k16 := X16.cell
  obtain ⟨ad16, ead16, x160, x161, x162, x163⟩ := at_T32 X16.row 1 (by decide) (by decide)
  cases ead16
  have x160 : w16.cell? ⟨a2.block, a2.off + 4, none⟩ = some (.string sA) := x160
  have x161 : w16.cell? ⟨a2.block, a2.off + 4 + 1, none⟩ = some (.int .i64 1) := x161
  have x162 : w16.cell? ⟨a2.block, a2.off + 4 + 2, none⟩ = some (.int .i64 3) := x162
  have x163 : w16.cell? ⟨a2.block, a2.off + 4 + 3, none⟩ = some (.int .i64 2) := x163
  obtain ⟨ae16, eae16, y160, y161, y162, y163⟩ := at_T32 X16.row 0 (by decide) (by decide)
  cases eae16
  have y160 : w16.cell? a2 = some (.string ⟨#[]⟩) := y160
  have y161 : w16.cell? ⟨a2.block, a2.off + 1, none⟩ = some (.int .i64 0) := y161
  have y162 : w16.cell? ⟨a2.block, a2.off + 2, none⟩ = some (.int .i64 3) := y162
  have y163 : w16.cell? ⟨a2.block, a2.off + 3, none⟩ = some (.int .i64 2) := y163
  clear X15 Z15 hb16
  refine hK.out _ _ ⟨k16, x160, x161, x162, x163, y160, y161, y162, y163⟩ (fun hHeld => ?_)
  clear hK K
  refine norm_ (a' := ?_) ?_ ?_
  rotate_left
  · show Act.put _ (some 72) _ = _
    simp only [Act.put, List.setIfInBounds_toArray, List.set_cons_zero, List.set_cons_succ, i64_w, i32_w]
    rfl
  refine pure_ (i := 11) (N := some 73) (v := ?_) (a' := ?_) #[true, true, true, true, true, true, true, true, true, true, true, true, true, true, true, true, false, false, false, false, false, false, false, false, false] rfl rfl (any_of HT_.out (by kernel_rfl)) (fun _ _ _ h => h) (Or.inl ⟨by rfl, ?_⟩) ?_ ?_
  rotate_left
  · intro w'
    go_simp
    with_reducible rfl
  rotate_left
  · simp only [Act.put, List.setIfInBounds_toArray, List.set_cons_zero, List.set_cons_succ, i64_w, i32_w]
    rfl
  refine pure_ (i := 16) (N := some 78) (v := ?_) (a' := ?_) #[true, true, true, true, true, true, true, true, true, true, true, true, true, true, true, true, true, false, false, false, false, false, false, false, false] rfl rfl (any_of HT_.out (by kernel_rfl)) (fun _ _ _ h => h) (Or.inl ⟨by rfl, ?_⟩) ?_ ?_
  rotate_left
  · intro w'
    go_simp
    with_reducible rfl
  rotate_left
  · simp only [Act.put, List.setIfInBounds_toArray, List.set_cons_zero, List.set_cons_succ, i64_w, i32_w]
    rfl
  refine pure_ (i := 17) (N := some 79) (v := ?_) (a' := ?_) #[true, true, true, true, true, true, true, true, true, true, true, true, true, true, true, true, true, true, false, false, false, false, false, false, false] rfl rfl (any_of HT_.out (by kernel_rfl)) (fun _ _ _ h => h) (Or.inl ⟨by rfl, ?_⟩) ?_ ?_
  rotate_left
  · intro w'
    go_simp
    with_reducible rfl
  rotate_left
  · simp only [Act.put, List.setIfInBounds_toArray, List.set_cons_zero, List.set_cons_succ, i64_w, i32_w]
    rfl
  refine pure_ (i := 18) (N := some 80) (v := ?_) (a' := ?_) #[true, true, true, true, true, true, true, true, true, true, true, true, true, true, true, true, true, true, true, false, false, false, false, false, false] rfl rfl (any_of HT_.out (by kernel_rfl)) (fun _ _ _ h => h) (Or.inl ⟨by rfl, ?_⟩) ?_ ?_
  rotate_left
  · intro w'
    go_simp
    with_reducible rfl
  rotate_left
  · simp only [Act.put, List.setIfInBounds_toArray, List.set_cons_zero, List.set_cons_succ, i64_w, i32_w]
    rfl
  refine take_ (i := 19) (N := some 81) (v := ?_) (a' := ?_) #[true, true, true, true, true, true, true, true, true, true, true, true, true, true, true, true, true, true, true, true, false, false, false, false, false] rfl rfl (take_ofW HT_.out HW_.out (by kernel_rfl)) (fun _ _ _ h => h) (Or.inl ⟨by rfl, ?_⟩) hHeld ?_ ?_
  rotate_left
  · rintro w' ⟨s0, s1, s2, s3, s4, s5, s6, s7, s8⟩
    go_simp
    with_reducible rfl
  rotate_left
  · simp only [Act.put, List.setIfInBounds_toArray, List.set_cons_zero, List.set_cons_succ, i64_w, i32_w]
    rfl
  refine one_ (i := 20) (N := some 82) #[true, true, true, true, true, true, true, true, true, true, true, true, true, true, true, true, true, true, true, true, true, false, false, false, false] rfl rfl (one_of HT_.out (by kernel_rfl)) (by decide) (fun K hK => ?_)
  refine goes_ Try.func13 (by kernel_rfl) rfl #[.agg #[.slice (some a2) 2 c2], .string sS] (by rfl) rfl rfl (by (try simp only [List.map_toArray, List.map_cons, List.map_nil]); first | done | rfl) ?_
  refine (c13c X16).mono ?_
  rintro e w17 ⟨rfl, hb17⟩
  refine ⟨_, rfl, ?_⟩
  have X17 := X16.next hb17
  have Z17 := Z16.next hb17
  have k17 := X17.cell
  obtain ⟨ad17, ead17, x170, x171, x172, x173⟩ := at_T32 X17.row 1 (by decide) (by decide)
  cases ead17
  have x170 : w17.cell? ⟨a2.block, a2.off + 4, none⟩ = some (.string sA) := x170
  have x171 : w17.cell? ⟨a2.block, a2.off + 4 + 1, none⟩ = some (.int .i64 1) := x171
  have x172 : w17.cell? ⟨a2.block, a2.off + 4 + 2, none⟩ = some (.int .i64 3) := x172
  have x173 : w17.cell? ⟨a2.block, a2.off + 4 + 3, none⟩ = some (.int .i64 2) := x173
  obtain ⟨ae17, eae17, y170, y171, y172, y173⟩ := at_T32 X17.row 0 (by decide) (by decide)
  cases eae17
  have y170 : w17.cell? a2 = some (.string ⟨#[]⟩) := y170
  have y171 : w17.cell? ⟨a2.block, a2.off + 1, none⟩ = some (.int .i64 0) := y171
  have y172 : w17.cell? ⟨a2.block, a2.off + 2, none⟩ = some (.int .i64 3) := y172
  have y173 : w17.cell? ⟨a2.block, a2.off + 3, none⟩ = some (.int .i64 2) := y173
  clear X16 Z16 hb17
  refine hK.out _ _ ⟨k17, x170, x171, x172, x173, y170, y171, y172, y173⟩ (fun hHeld => ?_)
  clear hK K
  refine norm_ (a' := ?_) ?_ ?_
  rotate_left
  · show Act.put _ (some 82) _ = _
    simp only [Act.put, List.setIfInBounds_toArray, List.set_cons_zero, List.set_cons_succ, i64_w, i32_w]
    rfl
  refine pure_ (i := 21) (N := some 83) (v := ?_) (a' := ?_) #[true, true, true, true, true, true, true, true, true, true, true, true, true, true, true, true, true, true, true, true, true, true, false, false, false] rfl rfl (any_of HT_.out (by kernel_rfl)) (fun _ _ _ h => h) (Or.inl ⟨by rfl, ?_⟩) ?_ ?_
  rotate_left
  · intro w'
    go_simp
    with_reducible rfl
  rotate_left
  · simp only [Act.put, List.setIfInBounds_toArray, List.set_cons_zero, List.set_cons_succ, i64_w, i32_w]
    rfl
  refine pure_ (i := 22) (N := some 84) (v := ?_) (a' := ?_) #[true, true, true, true, true, true, true, true, true, true, true, true, true, true, true, true, true, true, true, true, true, true, true, false, false] rfl rfl (any_of HT_.out (by kernel_rfl)) (fun _ _ _ h => h) (Or.inl ⟨by rfl, ?_⟩) ?_ ?_
  rotate_left
  · intro w'
    go_simp
    with_reducible rfl
  rotate_left
  · simp only [Act.put, List.setIfInBounds_toArray, List.set_cons_zero, List.set_cons_succ, i64_w, i32_w]
    rfl
  refine pure_ (i := 23) (N := some 85) (v := ?_) (a' := ?_) #[true, true, true, true, true, true, true, true, true, true, true, true, true, true, true, true, true, true, true, true, true, true, true, true, false] rfl rfl (any_of HT_.out (by kernel_rfl)) (fun _ _ _ h => h) (Or.inl ⟨by rfl, ?_⟩) ?_ ?_
  rotate_left
  · intro w'
    go_simp
    with_reducible rfl
  rotate_left
  · simp only [Act.put, List.setIfInBounds_toArray, List.set_cons_zero, List.set_cons_succ, i64_w, i32_w]
    rfl
  refine pure_ (i := 24) (N := some 10) (v := ?_) (a' := ?_) #[true, true, true, true, true, true, true, true, true, true, true, true, true, true, true, true, true, true, true, true, true, true, true, true, true] rfl rfl (any_of HT_.out (by kernel_rfl)) (fun _ _ _ h => h) (Or.inl ⟨by rfl, ?_⟩) ?_ ?_
  rotate_left
  · intro w'
    go_simp
    with_reducible rfl
  rotate_left
  · simp only [Act.put, List.setIfInBounds_toArray, List.set_cons_zero, List.set_cons_succ, i64_w, i32_w]
    rfl
  refine done_ (done_of HT_.out (by kernel_rfl)) ?_
  have k17 := X17.cell
  clear HT_ HW_ hHeld
  go_wp2_with fail
  refine (c25b X17).mono ?_
  rintro e w18 ⟨a18, d18, rfl, _, _, hb18⟩
  have X18 := (X17.next hb18).next (box_step _ (.cells #[.slice (some a18) 2 d18] 27))
  have Z18 := (Z17.next hb18).next (box_step _ (.cells #[.slice (some a18) 2 d18] 27))
  have k18 := X18.cell
  clear X17 Z17 hb18
  go_wp2_with fail
  refine (c24b X18).mono ?_
  rintro e w19 ⟨a19, d19, rfl, _, _, hb19⟩
  have X19 := (X18.next hb19).next (box_step _ (.cells #[.slice (some a19) 2 d19] 27))
  have Z19 := (Z18.next hb19).next (box_step _ (.cells #[.slice (some a19) 2 d19] 27))
  have k19 := Z19.cell
  have X20 := X19.next (box_step _ (.cells #[.string ⟨#[]⟩, .int .i64 0, .int .i64 3, .int .i64 3] 32))
  have Z20 := Z19.next (box_step _ (.cells #[.string ⟨#[]⟩, .int .i64 0, .int .i64 3, .int .i64 3] 32))
  have S20 := Aside0.mk (one_row (w19.alloc (.cells #[.slice (some a19) 2 d19] 27)))
  rw [World.size_alloc] at S20
  clear X18 Z18 hb19 k18 X19 Z19
  go_wp2_with fail
  refine (c18 1 L2 rfl (by decide) Z20.row Z20.cap S20.out (by decide)).mono ?_
  rintro e w21 ⟨rfl, hb21⟩
  have X21 := X20.next hb21
  have k21 := X21.cell
  clear X20 Z20 S20 hb21 k19
  go_wp2_with fail
  refine (c21a X21).mono ?_
  rintro e w22 ⟨rfl, hb22⟩
  have X22 := X21.next hb22
  have k22 := X22.cell
  clear X21 hb22 k21
  go_wp2_with fail
  refine (c21b X22).mono ?_
  rintro e w23 ⟨rfl, hb23⟩
  go_wp2_with fail
  go_ret
  exact ⟨rfl, below_step X22.below hb23⟩
end Go.Proofs.Ytfmeababiedamaa.V10

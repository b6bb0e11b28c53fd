/- place.Split, walked. -/
import Derived.Test.YtfmeababiedamaaV55
import Derived.Test.YtfmeababiedamaaV29
namespace Go.Proofs.Ytfmeababiedamaa.V25
open Go.RowKit Go.Shelf Go.Proofs.YtfmeababiedamaaW.PrintWords Go.Proofs.YtfmeababiedamaaW.PrintLast Go.Proofs.YtfmeababiedamaaW.PrintMore
open Go.Proofs.Ytfmeababiedamaa Go.Proofs.Ytfmeababiedamaa.M Go.Proofs.Ytfmeababiedamaa.Sp Go.Proofs.Ytfmeababiedamaa.E Go.Proofs.Ytfmeababiedamaa.G Go.Proofs.Ytfmeababiedamaa.A Go.Proofs.Ytfmeababiedamaa.T Go.Proofs.Ytfmeababiedamaa.K Go.Proofs.Ytfmeababiedamaa.X Go.Proofs.Ytfmeababiedamaa.V28 Go.Proofs.Ytfmeababiedamaa.V29 Go.Proofs.Ytfmeababiedamaa.V52 Go.Proofs.Ytfmeababiedamaa.V55
set_option linter.unusedVariables false
set_option linter.unusedSimpArgs false
def T3 : Bool × List (List Nat × List Nat) := (true, [([], []), ([0], [0]), ([], []), ([2], [2]), ([1, 3, 3], [1, 3]), ([4, 4], [4])])
def B3 : List Nat := [0, 1, 0, 4, 15, 31]
theorem tab3 : rtab .any (opsOf Try.f25 3) = T3 := by kernel_rfl
theorem bits3 : waitsOk T3.2 B3 = true := by kernel_rfl
def T7 : Bool × List (List Nat × List Nat) := (true, [([], []), ([0], [0]), ([], []), ([2], [2]), ([1, 3, 3], [1, 3]), ([4, 4], [4])])
def B7 : List Nat := [0, 1, 0, 4, 15, 31]
theorem tab7 : rtab .any (opsOf Try.f25 7) = T7 := by kernel_rfl
theorem bits7 : waitsOk T7.2 B7 = true := by kernel_rfl
def T10 : Bool × List (List Nat × List Nat) := (true, [([], []), ([0], [0]), ([], []), ([], []), ([2, 3], [2, 3]), ([1, 4], [1, 4]), ([5, 4, 0, 1, 2, 3, 4, 5], [5])])
def B10 : List Nat := [0, 1, 0, 0, 12, 31, 63]
theorem tab10 : rtab .any (opsOf Try.f25 10) = T10 := by kernel_rfl
theorem bits10 : waitsOk T10.2 B10 = true := by kernel_rfl
def insOn (l : List S32) (i m : Nat) (s : ByteArray) (home : Int) : List S32 :=
  (upd l i bump).take m ++ ⟨s, home, (rd_T32 (upd l i bump) (i : Int)).f2, (rd_T32 (upd l i bump) (i : Int)).f3⟩ :: (upd l i bump).drop m
theorem R_of_block' {W : World} {g n : Nat} {l : List S32} {cur : Array Value} (hb : W.heap[g]? = some (.cells cur 32 (0, 0))) (hm : n ≤ maxLen) (hs : cur.size = n * 4) (hc : cur.toList.take (l.length * 4) = flat l) (hn : l.length = n) :
    Kd.R k32 32 W 0 (fun _ => True) (.slice (some ⟨g, 0, none⟩) l.length l.length) l := by
  subst hn
  exact R_of_block hb (Nat.zero_le _) trivial hm hs hc
/-- m: where the new part is laid -/
def splitP (l : List S32) (s : ByteArray) (home : Int) (m : Nat) : List S32 × Int :=
  if isPath (ub s) = true ∧ ¬ s.toList = [] then (if exL l s < 0 then (if 0 ≤ home ∧ home ≤ 15 then (if hmL l home < 0 then (insOn l (idxL l s) m s home, 0) else (l, 240)) else (l, 1)) else (l, 240)) else (l, 10)
set_option maxHeartbeats 16000000 in
set_option maxRecDepth 100000 in
theorem split25 (a : Addr) (c : Nat) (l : List S32) (s : ByteArray) (home : Int) (m : Nat) (w : World) (hl : Small l) (h0 : 0 < l.length) (hs : s.size ≤ 1000) (hr : Kd.C k32 w (some a) l.length l) (hc : l.length ≤ c)
    (hm : m ≤ l.length) (h1 : ∀ j, j < m → less (rd_T32 l (j : Int)).f0 s = true) (h2 : ∀ j, m ≤ j → j < l.length → less (rd_T32 l (j : Int)).f0 s = false) :
    Calls Try.prog 25 #[.agg #[.slice (some a) l.length c], .string s, .int .i64 home] w fun e w' => ∃ v, e = .returned (.tuple #[.agg #[v], .int .i64 (splitP l s home m).2]) ∧ MapC w' v (splitP l s home m).1 ∧ Below w.heap.size w w' := by
  have hu27 := Try.underlying27
  have hu25 := Try.underlying25
  have hu32 := Try.underlying32
  have HR := Aside0.mk hr
  have HC := Aside0.mk hc
  have HL := Aside0.mk hl
  have hln := hl.1
  have H1 := Lib.hid h1
  have H2 := Lib.hid h2
  have HB := Aside0.mk (below_alloc (below_alloc (Below.refl w.heap.size w) (.cells #[.slice (some a) l.length c] 27)) (.cells #[.slice none 0 0] 27))
  have B0 := Aside0.mk (blk_alloc (blk_new w (.cells #[.slice (some a) l.length c] 27)) (.cells #[.slice none 0 0] 27))
  have B1 := Aside0.mk (blk_new (w.alloc (.cells #[.slice (some a) l.length c] 27)) (.cells #[.slice none 0 0] 27))
  rw [World.size_alloc] at B1
  have P43 := path43 s hs
  have P50 := fun W (hb : Below w.heap.size w W) => own50x a c l W (Kd.C_below hr hb) h0 (by omega)
  have P51 := fun W (hb : Below w.heap.size w W) => index51 (some a) c l s W hl (Kd.C_below hr hb) hc
  clear hr hc hl h1 h2
  have hi := idxL_lt l s h0
  obtain ⟨i, hiL⟩ : ∃ i, idxL l s = i := ⟨_, rfl⟩
  rw [hiL] at hi P51
  have Hi := Lib.hid hiL
  have i0 : (0 ≤ (i : Int)) = True := by simp
  have i1 : decide ((i : Int) < (l.length : Int)) = true := decide_eq_true (by omega)
  clear hiL
  obtain ⟨bp, hbp⟩ : ∃ b, isPath (ub s) = b := ⟨_, rfl⟩
  have Hp := Lib.hid hbp
  rw [hbp] at P43
  clear hbp
  cases bp
  · go_enter Try.func25, Try.ntmps25
    go_wp2_with (go_at_call 43; refine (P43 _).mono ?_; rintro e w4 ⟨rfl, hb4⟩; have B0c := Aside0.mk (blk_below B0.out hb4); have B1c := Aside0.mk (blk_below B1.out hb4); have HBc := Aside0.mk (below_step HB.out hb4); have cm : w4.cell? ⟨w.heap.size, 0, none⟩ = some (.slice (some a) l.length c) := (blk_cell B0c.out 0).trans rfl; have cr : w4.cell? ⟨w.heap.size + 1, 0, none⟩ = some (.slice none 0 0) := (blk_cell B1c.out 0).trans rfl; have cf := blk_frozen B1c.out 0; clear hb4)
    have r1 := blk_put (cs := #[.slice none 0 0]) B1c.out 0 (.slice (some a) l.length c) rfl
    have q1 := (blk_cell r1 0).trans rfl
    refine bodyPost_ret (v := .tuple #[.agg #[.slice (some a) l.length c], .int .i64 10]) (by simp [results, Try.results25, go_sem, q1]) rfl ?_
    have hb := HBc.out.setCell (p := ⟨w.heap.size + 1, 0, none⟩) (by simp) (.slice (some a) l.length c)
    have e : splitP l s home m = (l, 10) := by unfold splitP; rw [Hp.out, if_neg (fun h => absurd h.1 (by decide))]
    rw [e]
    exact ⟨_, rfl, ⟨_, _, rfl, HC.out, Kd.C_below HR.out hb⟩, hb⟩
  · by_cases hse : s.toList = []
    · have hse' : (s.toList == ([] : List UInt8)) = true := by simpa using hse
      have Hs := Lib.hid hse
      clear hse
      go_enter Try.func25, Try.ntmps25
      go_wp2_with (go_at_call 43; refine (P43 _).mono ?_; rintro e w4 ⟨rfl, hb4⟩; have B0c := Aside0.mk (blk_below B0.out hb4); have B1c := Aside0.mk (blk_below B1.out hb4); have HBc := Aside0.mk (below_step HB.out hb4); have cm : w4.cell? ⟨w.heap.size, 0, none⟩ = some (.slice (some a) l.length c) := (blk_cell B0c.out 0).trans rfl; have cr : w4.cell? ⟨w.heap.size + 1, 0, none⟩ = some (.slice none 0 0) := (blk_cell B1c.out 0).trans rfl; have cf := blk_frozen B1c.out 0; clear hb4)
      have r1 := blk_put (cs := #[.slice none 0 0]) B1c.out 0 (.slice (some a) l.length c) rfl
      have q1 := (blk_cell r1 0).trans rfl
      refine bodyPost_ret (v := .tuple #[.agg #[.slice (some a) l.length c], .int .i64 10]) (by simp [results, Try.results25, go_sem, q1]) rfl ?_
      have hb := HBc.out.setCell (p := ⟨w.heap.size + 1, 0, none⟩) (by simp) (.slice (some a) l.length c)
      have e : splitP l s home m = (l, 10) := by unfold splitP; rw [Hp.out, if_neg (fun h => h.2 Hs.out)]
      rw [e]
      exact ⟨_, rfl, ⟨_, _, rfl, HC.out, Kd.C_below HR.out hb⟩, hb⟩
    · have hse' : (s.toList == ([] : List UInt8)) = false := by simpa using hse
      have Hs := Lib.hid hse
      clear hse
      go_enter Try.func25, Try.ntmps25
      go_wp2_with (go_at_call 43; refine (P43 _).mono ?_; rintro e w4 ⟨rfl, hb4⟩; have B0c := Aside0.mk (blk_below B0.out hb4); have B1c := Aside0.mk (blk_below B1.out hb4); have HBc := Aside0.mk (below_step HB.out hb4); have cm : w4.cell? ⟨w.heap.size, 0, none⟩ = some (.slice (some a) l.length c) := (blk_cell B0c.out 0).trans rfl; have cr : w4.cell? ⟨w.heap.size + 1, 0, none⟩ = some (.slice none 0 0) := (blk_cell B1c.out 0).trans rfl; have cf := blk_frozen B1c.out 0; clear hb4)
      have k0 := cm
      clear cm cr cf
      replace HBc := Aside0.mk (below_drew1 HBc.out)
      replace B0c := Aside0.mk (blk_drew B0c.out)
      replace B1c := Aside0.mk (blk_drew B1c.out)
      refine start_ (n := 6) (S := fun w' => w'.cell? ⟨w.heap.size, 0, none⟩ = some (.slice (some a) l.length c)) (ds := []) #[false, false, false, false, false, false] (by kernel_rfl) rfl rfl (k0) (fun hHeld => ?_)
      refine with_tabW tab3 bits3 (fun HT_ HW_ => ?_)
      refine pure_ (i := 0) (N := some 23) (v := ?_) (a' := ?_) #[true, false, false, false, false, false] rfl rfl (any_of HT_.out (by kernel_rfl)) (fun _ _ _ h => h) (Or.inl ⟨by rfl, ?_⟩) ?_ ?_
      rotate_left
      · intro w'
        go_simp
        with_reducible rfl
      rotate_left
      · simp only [Act.put, List.setIfInBounds_toArray, List.set_cons_zero, List.set_cons_succ, i64_w, i32_w]
        rfl
      refine pure_ (i := 2) (N := some 25) (v := ?_) (a' := ?_) #[true, false, true, false, false, false] rfl rfl (any_of HT_.out (by kernel_rfl)) (fun _ _ _ h => h) (Or.inl ⟨by rfl, ?_⟩) ?_ ?_
      rotate_left
      · intro w'
        go_simp
        with_reducible rfl
      rotate_left
      · simp only [Act.put, List.setIfInBounds_toArray, List.set_cons_zero, List.set_cons_succ, i64_w, i32_w]
        rfl
      refine take_ (i := 1) (N := some 24) (v := ?_) (a' := ?_) #[true, true, true, false, false, false] rfl rfl (take_ofW HT_.out HW_.out (by kernel_rfl)) (fun _ _ _ h => h) (Or.inl ⟨by rfl, ?_⟩) hHeld ?_ ?_
      rotate_left
      · intro w' s0
        go_simp
        with_reducible rfl
      rotate_left
      · simp only [Act.put, List.setIfInBounds_toArray, List.set_cons_zero, List.set_cons_succ, i64_w, i32_w]
        rfl
      refine one_ (i := 3) (N := some 26) #[true, true, true, true, false, false] rfl rfl (one_of HT_.out (by kernel_rfl)) (by decide) (fun K hK => ?_)
      refine goes_ Try.func49 (by kernel_rfl) rfl #[.string s] (by rfl) rfl rfl (by (try simp only [List.map_toArray, List.map_cons, List.map_nil]); first | done | rfl) ?_
      refine (at49 s _).mono ?_
      rintro e y3 ⟨rfl, rfl⟩
      refine ⟨_, rfl, ?_⟩
      have BX3 := Aside0.mk (blk_new w4.drew (.cells #[.string s] 9))
      have B0d_ := Aside0.mk (blk_alloc B0c.out (.cells #[.string s] 9))
      have B1d_ := Aside0.mk (blk_alloc B1c.out (.cells #[.string s] 9))
      have HBd_ := Aside0.mk (below_alloc HBc.out (.cells #[.string s] 9))
      refine hK.out _ _ ((blk_cell B0d_.out 0).trans rfl) (fun hHeld => ?_)
      clear hK K
      refine norm_ (a' := ?_) ?_ ?_
      rotate_left
      · show Act.put _ (some 26) _ = _
        simp only [Act.put, List.setIfInBounds_toArray, List.set_cons_zero, List.set_cons_succ, i64_w, i32_w]
        rfl
      refine one_ (i := 4) (N := some 27) #[true, true, true, true, true, false] rfl rfl (one_of HT_.out (by kernel_rfl)) (by decide) (fun K hK => ?_)
      refine goes_ Try.func46 (by kernel_rfl) rfl #[.slice (some a) l.length c, .func (.func 64) #[] #[.pointer (some ⟨w4.drew.heap.size, 0, none⟩)]] (by rfl) rfl rfl (by (try simp only [List.map_toArray, List.map_cons, List.map_nil]); first | done | rfl) ?_
      refine (hasF _ _ _ _ _ (idxAt (some a) c l s w4.drew.heap.size _ (Kd.C_below HR.out HBd_.out) BX3.out)).mono ?_
      rintro e wd ⟨rfl, hb_⟩
      refine ⟨_, rfl, ?_⟩
      have B0d := Aside0.mk (blk_below B0d_.out hb_)
      have B1d := Aside0.mk (blk_below B1d_.out hb_)
      have HBd := Aside0.mk (below_step HBd_.out hb_)
      clear hb_
      refine hK.out _ _ ((blk_cell B0d.out 0).trans rfl) (fun hHeld => ?_)
      clear hK K
      refine norm_ (a' := ?_) ?_ ?_
      rotate_left
      · show Act.put _ (some 27) _ = _
        simp only [Act.put, List.setIfInBounds_toArray, List.set_cons_zero, List.set_cons_succ, i64_w, i32_w]
        rfl
      refine pure_ (i := 5) (N := some 22) (v := ?_) (a' := ?_) #[true, true, true, true, true, true] rfl rfl (any_of HT_.out (by kernel_rfl)) (fun _ _ _ h => h) (Or.inl ⟨by rfl, ?_⟩) ?_ ?_
      rotate_left
      · intro w'
        go_simp
        with_reducible rfl
      rotate_left
      · simp only [Act.put, List.setIfInBounds_toArray, List.set_cons_zero, List.set_cons_succ, i64_w, i32_w]
        rfl
      refine done_ (done_of HT_.out (by kernel_rfl)) ?_

      have dm : wd.cell? ⟨w.heap.size, 0, none⟩ = some (.slice (some a) l.length c) := (blk_cell B0d.out 0).trans rfl
      have dr : wd.cell? ⟨w.heap.size + 1, 0, none⟩ = some (.slice none 0 0) := (blk_cell B1d.out 0).trans rfl
      have df := blk_frozen B1d.out 0
      by_cases hx : exL l s < 0
      · have hx' : decide (0 ≤ exL l s) = false := decide_eq_false (by omega)
        have Hx := Lib.hid hx
        clear hx
        generalize decide (0 ≤ exL l s) = bx at hx' ⊢
        subst hx'
        by_cases hh : 0 ≤ home ∧ home ≤ 15
        · have j1 : decide (home < 0) = false := decide_eq_false (by omega)
          have j2 : decide (15 < home) = false := decide_eq_false (by omega)
          have Hh := Lib.hid hh
          clear hh
          go_wp2_with fail
          have k1 := dm
          replace HBd := Aside0.mk (below_drew1 HBd.out)
          have HBe := HBd
          have B0e := Aside0.mk (blk_drew B0d.out)
          have B1e := Aside0.mk (blk_drew B1d.out)
          clear dm dr df
          refine start_ (n := 6) (S := fun w' => w'.cell? ⟨w.heap.size, 0, none⟩ = some (.slice (some a) l.length c)) (ds := []) #[false, false, false, false, false, false] (by kernel_rfl) rfl rfl (k1) (fun hHeld => ?_)
          refine with_tabW tab7 bits7 (fun HT_ HW_ => ?_)
          refine pure_ (i := 0) (N := some 38) (v := ?_) (a' := ?_) #[true, false, false, false, false, false] rfl rfl (any_of HT_.out (by kernel_rfl)) (fun _ _ _ h => h) (Or.inl ⟨by rfl, ?_⟩) ?_ ?_
          rotate_left
          · intro w'
            go_simp
            with_reducible rfl
          rotate_left
          · simp only [Act.put, List.setIfInBounds_toArray, List.set_cons_zero, List.set_cons_succ, i64_w, i32_w]
            rfl
          refine pure_ (i := 2) (N := some 40) (v := ?_) (a' := ?_) #[true, false, true, false, false, false] rfl rfl (any_of HT_.out (by kernel_rfl)) (fun _ _ _ h => h) (Or.inl ⟨by rfl, ?_⟩) ?_ ?_
          rotate_left
          · intro w'
            go_simp
            with_reducible rfl
          rotate_left
          · simp only [Act.put, List.setIfInBounds_toArray, List.set_cons_zero, List.set_cons_succ, i64_w, i32_w]
            rfl
          refine take_ (i := 1) (N := some 39) (v := ?_) (a' := ?_) #[true, true, true, false, false, false] rfl rfl (take_ofW HT_.out HW_.out (by kernel_rfl)) (fun _ _ _ h => h) (Or.inl ⟨by rfl, ?_⟩) hHeld ?_ ?_
          rotate_left
          · intro w' s0
            go_simp
            with_reducible rfl
          rotate_left
          · simp only [Act.put, List.setIfInBounds_toArray, List.set_cons_zero, List.set_cons_succ, i64_w, i32_w]
            rfl
          refine one_ (i := 3) (N := some 41) #[true, true, true, true, false, false] rfl rfl (one_of HT_.out (by kernel_rfl)) (by decide) (fun K hK => ?_)
          refine goes_ Try.func47 (by kernel_rfl) rfl #[.int .i64 home] (by rfl) rfl rfl (by (try simp only [List.map_toArray, List.map_cons, List.map_nil]); first | done | rfl) ?_
          refine (of47 home _).mono ?_
          rintro e y7 ⟨rfl, rfl⟩
          refine ⟨_, rfl, ?_⟩
          have BX7 := Aside0.mk (blk_new wd.drew (.cells #[.int .i64 home] 3))
          have B0f_ := Aside0.mk (blk_alloc B0e.out (.cells #[.int .i64 home] 3))
          have B1f_ := Aside0.mk (blk_alloc B1e.out (.cells #[.int .i64 home] 3))
          have HBf_ := Aside0.mk (below_alloc HBe.out (.cells #[.int .i64 home] 3))
          refine hK.out _ _ ((blk_cell B0f_.out 0).trans rfl) (fun hHeld => ?_)
          clear hK K
          refine norm_ (a' := ?_) ?_ ?_
          rotate_left
          · show Act.put _ (some 41) _ = _
            simp only [Act.put, List.setIfInBounds_toArray, List.set_cons_zero, List.set_cons_succ, i64_w, i32_w]
            rfl
          refine one_ (i := 4) (N := some 42) #[true, true, true, true, true, false] rfl rfl (one_of HT_.out (by kernel_rfl)) (by decide) (fun K hK => ?_)
          refine goes_ Try.func46 (by kernel_rfl) rfl #[.slice (some a) l.length c, .func (.func 63) #[] #[.pointer (some ⟨wd.drew.heap.size, 0, none⟩)]] (by rfl) rfl rfl (by (try simp only [List.map_toArray, List.map_cons, List.map_nil]); first | done | rfl) ?_
          refine (hasF _ _ _ _ _ (idxOf (some a) c l home wd.drew.heap.size _ (Kd.C_below HR.out HBf_.out) BX7.out)).mono ?_
          rintro e wf ⟨rfl, hb_⟩
          refine ⟨_, rfl, ?_⟩
          have B0f := Aside0.mk (blk_below B0f_.out hb_)
          have B1f := Aside0.mk (blk_below B1f_.out hb_)
          have HBf := Aside0.mk (below_step HBf_.out hb_)
          clear hb_
          refine hK.out _ _ ((blk_cell B0f.out 0).trans rfl) (fun hHeld => ?_)
          clear hK K
          refine norm_ (a' := ?_) ?_ ?_
          rotate_left
          · show Act.put _ (some 42) _ = _
            simp only [Act.put, List.setIfInBounds_toArray, List.set_cons_zero, List.set_cons_succ, i64_w, i32_w]
            rfl
          refine pure_ (i := 5) (N := some 37) (v := ?_) (a' := ?_) #[true, true, true, true, true, true] rfl rfl (any_of HT_.out (by kernel_rfl)) (fun _ _ _ h => h) (Or.inl ⟨by rfl, ?_⟩) ?_ ?_
          rotate_left
          · intro w'
            go_simp
            with_reducible rfl
          rotate_left
          · simp only [Act.put, List.setIfInBounds_toArray, List.set_cons_zero, List.set_cons_succ, i64_w, i32_w]
            rfl
          refine done_ (done_of HT_.out (by kernel_rfl)) ?_

          have ym : wf.cell? ⟨w.heap.size, 0, none⟩ = some (.slice (some a) l.length c) := (blk_cell B0f.out 0).trans rfl
          have yr : wf.cell? ⟨w.heap.size + 1, 0, none⟩ = some (.slice none 0 0) := (blk_cell B1f.out 0).trans rfl
          have yf := blk_frozen B1f.out 0
          by_cases hq : hmL l home < 0
          · have hq' : decide (0 ≤ hmL l home) = false := decide_eq_false (by omega)
            have Hq := Lib.hid hq
            clear hq
            generalize decide (0 ≤ hmL l home) = bx at hq' ⊢
            subst hq'
            go_wp2_with (go_at_call 50; refine (P50 _ HBf.out).mono ?_; rintro e w7 ⟨g, rfl, hR7, hb7⟩; obtain ⟨cur, hblk, _, _, _, hg⟩ := block_at hR7 h0; have B0g := Aside0.mk (blk_alloc (blk_below B0f.out hb7) (.cells #[.slice (some ⟨g, 0, none⟩) l.length l.length] 27)); have B1g := Aside0.mk (blk_alloc (blk_below B1f.out hb7) (.cells #[.slice (some ⟨g, 0, none⟩) l.length l.length] 27)); have HBg := Aside0.mk (below_alloc (below_step HBf.out hb7) (.cells #[.slice (some ⟨g, 0, none⟩) l.length l.length] 27)); have BOg := Aside0.mk (blk_new w7 (.cells #[.slice (some ⟨g, 0, none⟩) l.length l.length] 27)); have HRg := Aside0.mk (Kd.R_alloc hR7 (.cells #[.slice (some ⟨g, 0, none⟩) l.length l.length] 27)); have GW := Aside0.mk (Nat.le_trans HBf.out.size hg); have GB1 := Aside0.mk (show g ≠ w.heap.size + 1 from fun e => absurd (blk_lt B1f.out) (by omega)); have GO := Aside0.mk (Nat.ne_of_lt (blk_lt hblk)); have G7 := Aside0.mk (show w.heap.size + 1 < w7.heap.size from Nat.lt_of_lt_of_le (blk_lt B1f.out) hb7.size); clear hb7 hR7 hblk hg ym yr yf)
            have dO : (w7.alloc (.cells #[.slice (some ⟨g, 0, none⟩) l.length l.length] 27)).cell? ⟨w7.heap.size, 0, none⟩ = some (.slice (some ⟨g, 0, none⟩) l.length l.length) := (blk_cell BOg.out 0).trans rfl
            have d0 : (w7.alloc (.cells #[.slice (some ⟨g, 0, none⟩) l.length l.length] 27)).cell? ⟨w.heap.size, 0, none⟩ = some (.slice (some a) l.length c) := (blk_cell B0g.out 0).trans rfl
            replace B0g := Aside0.mk (blk_drew B0g.out)
            replace B1g := Aside0.mk (blk_drew B1g.out)
            replace BOg := Aside0.mk (blk_drew BOg.out)
            replace HBg := Aside0.mk (below_drew1 HBg.out)
            replace HRg := Aside0.mk (Kd.R_drew HRg.out)
            refine start_ (n := 7) (S := fun w' => w'.cell? ⟨w7.heap.size, 0, none⟩ = some (.slice (some ⟨g, 0, none⟩) l.length l.length) ∧ w'.cell? ⟨w.heap.size, 0, none⟩ = some (.slice (some a) l.length c)) (ds := []) #[false, false, false, false, false, false, false] (by kernel_rfl) rfl rfl ⟨dO, d0⟩ (fun hHeld => ?_)
            refine with_tabW tab10 bits10 (fun HT_ HW_ => ?_)
            refine pure_ (i := 0) (N := some 46) (v := ?_) (a' := ?_) #[true, false, false, false, false, false, false] rfl rfl (any_of HT_.out (by kernel_rfl)) (fun _ _ _ h => h) (Or.inl ⟨by rfl, ?_⟩) ?_ ?_
            rotate_left
            · intro w'
              go_simp
              with_reducible rfl
            rotate_left
            · simp only [Act.put, List.setIfInBounds_toArray, List.set_cons_zero, List.set_cons_succ, i64_w, i32_w]
              rfl
            refine pure_ (i := 3) (N := some 49) (v := ?_) (a' := ?_) #[true, false, false, true, false, false, false] rfl rfl (any_of HT_.out (by kernel_rfl)) (fun _ _ _ h => h) (Or.inl ⟨by rfl, ?_⟩) ?_ ?_
            rotate_left
            · intro w'
              go_simp
              with_reducible rfl
            rotate_left
            · simp only [Act.put, List.setIfInBounds_toArray, List.set_cons_zero, List.set_cons_succ, i64_w, i32_w]
              rfl
            refine take_ (i := 1) (N := some 47) (v := ?_) (a' := ?_) #[true, true, false, true, false, false, false] rfl rfl (take_ofW HT_.out HW_.out (by kernel_rfl)) (fun _ _ _ h => h) (Or.inl ⟨by rfl, ?_⟩) hHeld ?_ ?_
            rotate_left
            · rintro w' ⟨s0, s1⟩
              go_simp
              with_reducible rfl
            rotate_left
            · simp only [Act.put, List.setIfInBounds_toArray, List.set_cons_zero, List.set_cons_succ, i64_w, i32_w]
              rfl
            refine take_ (i := 2) (N := some 48) (v := ?_) (a' := ?_) #[true, true, true, true, false, false, false] rfl rfl (take_ofW HT_.out HW_.out (by kernel_rfl)) (fun _ _ _ h => h) (Or.inl ⟨by rfl, ?_⟩) hHeld ?_ ?_
            rotate_left
            · rintro w' ⟨s0, s1⟩
              go_simp
              with_reducible rfl
            rotate_left
            · simp only [Act.put, List.setIfInBounds_toArray, List.set_cons_zero, List.set_cons_succ, i64_w, i32_w]
              rfl
            refine one_ (i := 4) (N := some 50) #[true, true, true, true, true, false, false] rfl rfl (one_of HT_.out (by kernel_rfl)) (by decide) (fun K hK => ?_)
            refine goes_ Try.func51 (by kernel_rfl) rfl #[.agg #[.slice (some a) l.length c], .string s] (by rfl) rfl rfl (by (try simp only [List.map_toArray, List.map_cons, List.map_nil]); first | done | rfl) ?_
            refine (P51 _ HBg.out).mono ?_
            rintro e w9 ⟨rfl, hb9⟩
            refine ⟨_, rfl, ?_⟩
            have B1h := Aside0.mk (blk_below B1g.out hb9)
            have BOh := Aside0.mk (blk_below BOg.out hb9)
            have HBh := Aside0.mk (below_step HBg.out hb9)
            have HRh := Aside0.mk (Kd.R_below HRg.out hb9)
            have B0h := Aside0.mk (blk_below B0g.out hb9)
            clear hb9
            refine hK.out _ _ ⟨(blk_cell BOh.out 0).trans rfl, (blk_cell B0h.out 0).trans rfl⟩ (fun hHeld => ?_)
            clear hK K
            refine norm_ (a' := ?_) ?_ ?_
            rotate_left
            · show Act.put _ (some 50) _ = _
              simp only [Act.put, List.setIfInBounds_toArray, List.set_cons_zero, List.set_cons_succ, i64_w, i32_w]
              rfl
            refine pure_ (i := 5) (N := some 51) (v := ?_) (a' := ?_) #[true, true, true, true, true, true, false] rfl rfl (any_of HT_.out (by kernel_rfl)) (fun _ _ _ h => h) (Or.inl ⟨by rfl, ?_⟩) ?_ ?_
            rotate_left
            · intro w'
              go_simp
              with_reducible rfl
            rotate_left
            · simp only [Act.put, List.setIfInBounds_toArray, List.set_cons_zero, List.set_cons_succ, i64_w, i32_w]
              rfl
            refine pure_ (i := 6) (N := some 9) (v := ?_) (a' := ?_) #[true, true, true, true, true, true, true] rfl rfl (any_of HT_.out (by kernel_rfl)) (fun _ _ _ h => h) (Or.inl ⟨by rfl, ?_⟩) ?_ ?_
            rotate_left
            · intro w'
              go_simp
              with_reducible rfl
            rotate_left
            · simp only [Act.put, List.setIfInBounds_toArray, List.set_cons_zero, List.set_cons_succ, i64_w, i32_w]
              rfl
            refine done_ (done_of HT_.out (by kernel_rfl)) ?_

            obtain ⟨⟨x0, x1, x2, x3⟩, xf⟩ := R_cells HRh.out i hi
            have xf3 := xf 3
            clear xf
            obtain ⟨y, hy⟩ : ∃ y, bump (rd_T32 l (i : Int)) = y := ⟨_, rfl⟩
            obtain ⟨l1, hl1⟩ : ∃ l1, l.set i y = l1 := ⟨_, rfl⟩
            have HY := Lib.hid hy
            have HL1 := Lib.hid hl1
            have hl1n : l1.length = l.length := by rw [← hl1]; exact List.length_set
            have hy1 : rd_T32 l1 (i : Int) = y := by rw [← hl1]; exact rd_set _ _ _ hi
            have hf : ∀ j, j < l.length → (rd_T32 l1 (j : Int)).f0 = (rd_T32 l (j : Int)).f0 := fun j hj => by
              rw [rd_at l1 j (by omega), rd_at l j hj]
              simp only [← hl1, List.getElem_set]
              split
              · rename_i e; subst e; rw [← hy, rd_at l i hi]; rfl
              · rfl
            obtain ⟨F, hF⟩ : ∃ F, l1.take m ++ (⟨s, home, y.f2, y.f3⟩ : S32) :: l1.drop m = F := ⟨_, rfl⟩
            have HF := Lib.hid hF
            have P52 : ∀ (W : World) (g : Nat), Kd.C k32 W (some ⟨g, 0, none⟩) l1.length l1 → Calls Try.prog 52 #[.slice (some ⟨g, 0, none⟩) l.length l.length, .string s, .func (.func 53) #[] #[]] W fun e w' => ∃ b, e = .returned (.tuple #[.int .i64 m, .bool b]) ∧ Below W.heap.size W w' := fun W g h => by
              have := search52 ⟨g, 0, none⟩ l.length l1 s m W h (by omega) (by omega) (fun j hj => by rw [hf j (by omega)]; exact H1.out j hj) (fun j h1 h2 => by rw [hf j (by omega)]; exact H2.out j h1 (by omega))
              rwa [hl1n] at this
            have P55 : ∀ (W : World) (g vb : Nat), Kd.R k32 32 W 0 (fun _ => True) (.slice (some ⟨g, 0, none⟩) l1.length l1.length) l1 → W.heap[vb]? = some (.cells (partC (⟨s, home, y.f2, y.f3⟩ : S32)).toArray 32 (0, 0)) → Calls Try.prog 55 #[.slice (some ⟨g, 0, none⟩) l.length l.length, .int .i64 m, .slice (some ⟨vb, 0, none⟩) 1 1] W fun e w' => ∃ v, e = .returned v ∧ Kd.R k32 32 w' W.heap.size (fun _ => True) v F ∧ Below W.heap.size W w' := fun W g vb h1 h2 => by
              have := ins55 g vb m l1 ⟨s, home, y.f2, y.f3⟩ 0 _ W h1 (by omega) (by omega) (by omega) h2
              rw [hF] at this
              rwa [hl1n] at this
            clear hy hl1 hf hF
            go_wp2_with (first | ((with_reducible refine gate_store (t := 3) (p := 58) rfl ?_); refine store_event (t := 3) (p := 58) (v := ?vo58) (w1 := (w9.setCell ⟨g, i * 4 + 3, none⟩ (.int .i64 (wrap64 ((rd_T32 l (i : Int)).f3 + 1))))) ?hg ?ho ?hn ?hr ?_; (case ho => rfl); (case hg => rfl); (case hn => rfl); (case hr => first | (go_simp; done) | (go_simp; rfl)); intro w10 hw; obtain ⟨hR10, hG10⟩ := R_field2 HRh.out i 3 hi (by decide) (.int .i64 (wrap64 ((rd_T32 l (i : Int)).f3 + 1))) y rfl (by rw [← HY.out]; rfl); rw [← hw, HL1.out] at hR10; rw [← hw] at hG10; have B1i := Aside0.mk (blk_grown B1h.out hG10 (fun e => GB1.out (Option.some.inj e).symm)); have BOi := Aside0.mk (blk_grown BOh.out hG10 (fun e => GO.out (Option.some.inj e).symm)); have HBi := Aside0.mk (HBh.out.grown hG10 (below_size HBh.out) (fun k e => (Option.some.inj e) ▸ GW.out)); obtain ⟨⟨v0, v1, v2, v3⟩, vf⟩ := R_cells hR10 i (by rw [hl1n]; exact hi); rw [hy1] at v0 v1 v2 v3; obtain ⟨curg, gb, gs, gc, gm, _⟩ := block_at hR10 (by rw [hl1n]; exact h0); have BGi := Aside0.mk gb; have L7 := Aside0.mk (blk_lt BOi.out); have LG := Aside0.mk (blk_lt gb); have L1 := Aside0.mk (blk_lt B1i.out); clear hR10 hG10 hw gb vf x0 x1 x2 x3 xf3) | ((with_reducible refine gate_store (t := 9) (p := 64) rfl ?_); refine store_event (t := 9) (p := 64) (v := ?vo64) (w1 := ((w10.alloc (.cells #[.string y.f0, .int .i64 y.f1, .int .i64 y.f2, .int .i64 y.f3] 32)).setCell ⟨w10.heap.size, 0, none⟩ (.string s))) ?hg ?ho ?hn ?hr ?_; (case ho => rfl); (case hg => rfl); (case hn => rfl); (case hr => first | (go_simp; done) | (go_simp; rfl)); intro w11 hw; have BPj := Aside0.mk (show w11.heap[w10.heap.size]? = some (.cells #[.string s, .int .i64 y.f1, .int .i64 y.f2, .int .i64 y.f3] 32 (0, 0)) by rw [hw]; exact blk_put (cs := #[.string y.f0, .int .i64 y.f1, .int .i64 y.f2, .int .i64 y.f3]) (blk_new w10 _) 0 _ rfl); have B1j : Aside0 (w11.heap[w.heap.size + 1]? = some (.cells #[.slice none 0 0] 27 (0, 0))) := ⟨(by rw [hw]; exact blk_far (blk_alloc B1i.out _) (p := ⟨w10.heap.size, 0, none⟩) (Nat.ne_of_lt L1.out) _)⟩; have BOj : Aside0 (w11.heap[w7.heap.size]? = some (.cells #[.slice (some ⟨g, 0, none⟩) l.length l.length] 27 (0, 0))) := ⟨(by rw [hw]; exact blk_far (blk_alloc BOi.out _) (p := ⟨w10.heap.size, 0, none⟩) (Nat.ne_of_lt L7.out) _)⟩; have BGj : Aside0 (w11.heap[g]? = some (.cells curg 32 (0, 0))) := ⟨(by rw [hw]; exact blk_far (blk_alloc BGi.out _) (p := ⟨w10.heap.size, 0, none⟩) (Nat.ne_of_lt LG.out) _)⟩; have HBj : Aside0 (Below w.heap.size w w11) := ⟨by rw [hw]; exact below_set (below_alloc HBi.out _) (Nat.le_trans (Nat.le_succ _) (Nat.le_of_lt L1.out))⟩; have p0 := (blk_cell BPj.out 0).trans rfl; have p1 := (blk_cell BPj.out 1).trans rfl; have pf1 := blk_frozen BPj.out 1; clear hw v0 v1 v2 v3) | ((with_reducible refine gate_store (t := 3) (p := 65) rfl ?_); refine store_event (t := 3) (p := 65) (v := ?vo65) (w1 := (w11.setCell ⟨w10.heap.size, 1, none⟩ (.int .i64 home))) ?hg ?ho ?hn ?hr ?_; (case ho => rfl); (case hg => rfl); (case hn => rfl); (case hr => first | (go_simp; done) | (go_simp; rfl)); intro w12 hw; have BPk := Aside0.mk (show w12.heap[w10.heap.size]? = some (.cells #[.string s, .int .i64 home, .int .i64 y.f2, .int .i64 y.f3] 32 (0, 0)) by rw [hw]; exact blk_put (cs := #[.string s, .int .i64 y.f1, .int .i64 y.f2, .int .i64 y.f3]) BPj.out 1 _ rfl); have B1k : Aside0 (w12.heap[w.heap.size + 1]? = some (.cells #[.slice none 0 0] 27 (0, 0))) := ⟨(by rw [hw]; exact blk_far B1j.out (p := ⟨w10.heap.size, 1, none⟩) (Nat.ne_of_lt L1.out) _)⟩; have BOk : Aside0 (w12.heap[w7.heap.size]? = some (.cells #[.slice (some ⟨g, 0, none⟩) l.length l.length] 27 (0, 0))) := ⟨(by rw [hw]; exact blk_far BOj.out (p := ⟨w10.heap.size, 1, none⟩) (Nat.ne_of_lt L7.out) _)⟩; have BGk : Aside0 (w12.heap[g]? = some (.cells curg 32 (0, 0))) := ⟨(by rw [hw]; exact blk_far BGj.out (p := ⟨w10.heap.size, 1, none⟩) (Nat.ne_of_lt LG.out) _)⟩; have HBk : Aside0 (Below w.heap.size w w12) := ⟨by rw [hw]; exact below_set HBj.out (Nat.le_trans (Nat.le_succ _) (Nat.le_of_lt L1.out))⟩; have cOk : w12.cell? ⟨w7.heap.size, 0, none⟩ = some (.slice (some ⟨g, 0, none⟩) l.length l.length) := (blk_cell BOk.out 0).trans rfl; clear hw p0 p1 pf1) | (go_at_call 52; refine (P52 _ g (C_of_block BGk.out gm gs gc)).mono ?_; rintro e w13 ⟨b52, rfl, hb13⟩; have BPl := Aside0.mk (blk_below BPk.out hb13); have B1l := Aside0.mk (blk_below B1k.out hb13); have BOl := Aside0.mk (blk_below BOk.out hb13); have BGl := Aside0.mk (blk_below BGk.out hb13); have HBl := Aside0.mk (below_step HBk.out hb13); have cOl : w13.cell? ⟨w7.heap.size, 0, none⟩ = some (.slice (some ⟨g, 0, none⟩) l.length l.length) := (blk_cell BOl.out 0).trans rfl; have s0 := (blk_cell BPl.out 0).trans rfl; have s1 := (blk_cell BPl.out 1).trans rfl; have s2 := (blk_cell BPl.out 2).trans rfl; have s3 := (blk_cell BPl.out 3).trans rfl; clear cOk hb13) | (go_at_call 55; refine (P55 _ g w13.heap.size (R_of_block' (blk_alloc BGl.out (.cells #[.string s, .int .i64 home, .int .i64 y.f2, .int .i64 y.f3] 32)) gm gs gc hl1n) (blk_new w13 _)).mono ?_; rintro e w14 ⟨v, rfl, hR14, hb14⟩; obtain ⟨Av, cv, rfl⟩ := Kd.R_slice hR14; have B1m := Aside0.mk (blk_below (blk_alloc B1l.out (.cells #[.string s, .int .i64 home, .int .i64 y.f2, .int .i64 y.f3] 32)) hb14); have BOm := Aside0.mk (blk_below (blk_alloc BOl.out (.cells #[.string s, .int .i64 home, .int .i64 y.f2, .int .i64 y.f3] 32)) hb14); have HBm := Aside0.mk (below_step (below_alloc HBl.out (.cells #[.string s, .int .i64 home, .int .i64 y.f2, .int .i64 y.f3] 32)) hb14); have HR14 := Aside0.mk hR14; have cOm : w14.cell? ⟨w7.heap.size, 0, none⟩ = some (.slice (some ⟨g, 0, none⟩) l.length l.length) := (blk_cell BOm.out 0).trans rfl; have fOm := blk_frozen BOm.out 0; clear cOl s0 s1 s2 s3 hb14 hR14) | ((with_reducible refine gate_store (t := 25) (p := 79) rfl ?_); refine store_event (t := 25) (p := 79) (v := ?vo79) (w1 := (w14.setCell ⟨w7.heap.size, 0, none⟩ (.slice Av F.length cv))) ?hg ?ho ?hn ?hr ?_; (case ho => rfl); (case hg => rfl); (case hn => rfl); (case hr => first | (go_simp; done) | (go_simp; rfl)); intro w15 hw; have BOn := Aside0.mk (show w15.heap[w7.heap.size]? = some (.cells #[.slice Av F.length cv] 27 (0, 0)) by rw [hw]; exact blk_put (cs := #[.slice (some ⟨g, 0, none⟩) l.length l.length]) BOm.out 0 _ rfl); have B1n : Aside0 (w15.heap[w.heap.size + 1]? = some (.cells #[.slice none 0 0] 27 (0, 0))) := ⟨by rw [hw]; exact blk_far B1m.out (p := ⟨w7.heap.size, 0, none⟩) (Nat.ne_of_lt G7.out) _⟩; have HBn : Aside0 (Below w.heap.size w w15) := ⟨by rw [hw]; exact below_set HBm.out (Nat.le_trans (Nat.le_succ _) (Nat.le_of_lt G7.out))⟩; have HR15 : Aside0 (Kd.R k32 32 w15 (w13.alloc (.cells #[.string s, .int .i64 home, .int .i64 y.f2, .int .i64 y.f3] 32)).heap.size (fun k => True ∧ k ≠ w7.heap.size) (.slice Av F.length cv) F) := ⟨by rw [hw]; exact Kd.R_far (p := ⟨w7.heap.size, 0, none⟩) (Kd.R_types HR14.out BOm.out (by decide)) (fun k hk => hk.2) _⟩; have n0 : w15.cell? ⟨w7.heap.size, 0, none⟩ = some (.slice Av F.length cv) := (blk_cell BOn.out 0).trans rfl; have n1 : w15.cell? ⟨w.heap.size + 1, 0, none⟩ = some (.slice none 0 0) := (blk_cell B1n.out 0).trans rfl; have n2 := blk_frozen B1n.out 0; clear hw cOm fOm))
            have r1 := blk_put (cs := #[.slice none 0 0]) B1n.out 0 (.slice Av F.length cv) rfl
            have q1 := (blk_cell r1 0).trans rfl
            refine bodyPost_ret (v := .tuple #[.agg #[.slice Av F.length cv], .int .i64 0]) (by simp [results, Try.results25, go_sem, q1]) rfl ?_
            have hb := HBn.out.setCell (p := ⟨w.heap.size + 1, 0, none⟩) (by simp) (.slice Av F.length cv)
            have e : splitP l s home m = (F, 0) := by
              unfold splitP
              rw [Hp.out, if_pos ⟨rfl, Hs.out⟩, if_pos Hx.out, if_pos Hh.out, if_pos Hq.out, Hi.out]
              have e1 : upd l i bump = l1 := by unfold upd; rw [HY.out, HL1.out]
              unfold insOn
              rw [e1, hy1, HF.out]
            rw [e]
            exact ⟨_, rfl, MapC.of_R (Kd.R_far (p := ⟨w.heap.size + 1, 0, none⟩) (Kd.R_types HR15.out B1n.out (by decide)) (fun k hk => hk.2) _), hb⟩
          · have hq' : decide (0 ≤ hmL l home) = true := decide_eq_true (by omega)
            have Hq := Lib.hid hq
            clear hq
            generalize decide (0 ≤ hmL l home) = bx at hq' ⊢
            subst hq'
            go_wp2
            have r1 := blk_put (cs := #[.slice none 0 0]) B1f.out 0 (.slice (some a) l.length c) rfl
            have q1 := (blk_cell r1 0).trans rfl
            refine bodyPost_ret (v := .tuple #[.agg #[.slice (some a) l.length c], .int .i64 240]) (by simp [results, Try.results25, go_sem, q1]) rfl ?_
            have hb := HBf.out.setCell (p := ⟨w.heap.size + 1, 0, none⟩) (by simp) (.slice (some a) l.length c)
            have e : splitP l s home m = (l, 240) := by unfold splitP; rw [Hp.out, if_pos ⟨rfl, Hs.out⟩, if_pos Hx.out, if_pos Hh.out, if_neg (by have := Hq.out; omega)]
            rw [e]
            exact ⟨_, rfl, ⟨_, _, rfl, HC.out, Kd.C_below HR.out hb⟩, hb⟩
        · have Hh := Lib.hid hh
          by_cases hn : home < 0
          · have j1 : decide (home < 0) = true := decide_eq_true hn
            clear hh
            go_wp2
            have r1 := blk_put (cs := #[.slice none 0 0]) B1d.out 0 (.slice (some a) l.length c) rfl
            have q1 := (blk_cell r1 0).trans rfl
            refine bodyPost_ret (v := .tuple #[.agg #[.slice (some a) l.length c], .int .i64 1]) (by simp [results, Try.results25, go_sem, q1]) rfl ?_
            have hb := HBd.out.setCell (p := ⟨w.heap.size + 1, 0, none⟩) (by simp) (.slice (some a) l.length c)
            have e : splitP l s home m = (l, 1) := by unfold splitP; rw [Hp.out, if_pos ⟨rfl, Hs.out⟩, if_pos Hx.out, if_neg Hh.out]
            rw [e]
            exact ⟨_, rfl, ⟨_, _, rfl, HC.out, Kd.C_below HR.out hb⟩, hb⟩
          · have j1 : decide (home < 0) = false := decide_eq_false hn
            have j2 : decide (15 < home) = true := decide_eq_true (by omega)
            clear hh
            go_wp2
            have r1 := blk_put (cs := #[.slice none 0 0]) B1d.out 0 (.slice (some a) l.length c) rfl
            have q1 := (blk_cell r1 0).trans rfl
            refine bodyPost_ret (v := .tuple #[.agg #[.slice (some a) l.length c], .int .i64 1]) (by simp [results, Try.results25, go_sem, q1]) rfl ?_
            have hb := HBd.out.setCell (p := ⟨w.heap.size + 1, 0, none⟩) (by simp) (.slice (some a) l.length c)
            have e : splitP l s home m = (l, 1) := by unfold splitP; rw [Hp.out, if_pos ⟨rfl, Hs.out⟩, if_pos Hx.out, if_neg Hh.out]
            rw [e]
            exact ⟨_, rfl, ⟨_, _, rfl, HC.out, Kd.C_below HR.out hb⟩, hb⟩
      · have hx' : decide (0 ≤ exL l s) = true := decide_eq_true (by omega)
        have Hx := Lib.hid hx
        clear hx
        generalize decide (0 ≤ exL l s) = bx at hx' ⊢
        subst hx'
        go_wp2
        have r1 := blk_put (cs := #[.slice none 0 0]) B1d.out 0 (.slice (some a) l.length c) rfl
        have q1 := (blk_cell r1 0).trans rfl
        refine bodyPost_ret (v := .tuple #[.agg #[.slice (some a) l.length c], .int .i64 240]) (by simp [results, Try.results25, go_sem, q1]) rfl ?_
        have hb := HBd.out.setCell (p := ⟨w.heap.size + 1, 0, none⟩) (by simp) (.slice (some a) l.length c)
        have e : splitP l s home m = (l, 240) := by unfold splitP; rw [Hp.out, if_pos ⟨rfl, Hs.out⟩, if_neg (by have := Hx.out; omega)]
        rw [e]
        exact ⟨_, rfl, ⟨_, _, rfl, HC.out, Kd.C_below HR.out hb⟩, hb⟩
end Go.Proofs.Ytfmeababiedamaa.V25

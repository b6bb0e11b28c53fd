/- slices.Delete of one element of a row of one's own, walked. -/
import Derived.Test.YtfmeababiedamaaX
namespace Go.Proofs.Ytfmeababiedamaa.V56
open Go.RowKit Go.Shelf Go.Proofs.YtfmeababiedamaaW.PrintWords Go.Proofs.YtfmeababiedamaaW.PrintLast Go.Proofs.YtfmeababiedamaaW.PrintMore
open Go.Proofs.Ytfmeababiedamaa Go.Proofs.Ytfmeababiedamaa.M Go.Proofs.Ytfmeababiedamaa.Sp Go.Proofs.Ytfmeababiedamaa.E Go.Proofs.Ytfmeababiedamaa.G Go.Proofs.Ytfmeababiedamaa.A Go.Proofs.Ytfmeababiedamaa.T Go.Proofs.Ytfmeababiedamaa.K Go.Proofs.Ytfmeababiedamaa.X
set_option linter.unusedVariables false
set_option linter.unusedSimpArgs false
def T5 : Bool × List (List Nat × List Nat) := (true, [([], []), ([], []), ([0, 1], [0, 1]), ([], []), ([], []), ([3, 4], [3, 4]), ([2, 5], [2, 5]), ([6, 6, 0, 1, 2, 3, 4, 5, 6], [0, 3, 6])])
def B5 : List Nat := [0, 0, 3, 0, 0, 24, 63, 127]
theorem tab5 : rtab .any (opsOf Try.f56 5) = T5 := by kernel_rfl
theorem bits5 : waitsOk T5.2 B5 = true := by kernel_rfl
theorem below_drew1' {base : Nat} (w : World) : Below base w w.drew := ⟨rfl, rfl, rfl, Nat.le_refl _, fun _ _ => rfl⟩
def Z4 : List Value := [.string ⟨#[]⟩, .int .i64 0, .int .i64 0, .int .i64 0]
theorem run_clear1 (w : World) (ty : TypeId) (g o c2 : Nat) (cur : Array Value) (hg : w.heap[g]? = some (.cells cur 32 (0, 0))) (hfit : o + 4 ≤ cur.size) :
    (Builtin.clear_ #[25] ty #[.slice (some ⟨g, o, none⟩) 1 c2]).run Try.prog w = .ok (.tuple #[]) (w.setRow g (cur.toList.take o ++ Z4 ++ cur.toList.drop (o + 4)).toArray) := by
  have hst := run_storeCells_at Try.prog g o 32 Z4 0 cur w hg (by simpa [Z4] using hfit) (by intro v hv; simp only [Z4, List.mem_cons, List.not_mem_nil, or_false] at hv; rcases hv with rfl | rfl | rfl | rfl <;> rfl)
  have hz : (Builtin.zeroCells (Value.agg #[.string ⟨#[]⟩, .int .i64 0, .int .i64 0, .int .i64 0]).cells 1).toList = Z4 := by kernel_rfl
  have hst' : Sem.run Try.prog (storeCells ⟨g, o, none⟩ Z4) w = .ok () (w.setRow g (cur.toList.take o ++ Z4 ++ cur.toList.drop (o + 4)).toArray) := hst
  simp only [Builtin.clear_, run_underlying Try.underlying25, Sem.run_bind, Sem.run_pure, Result.andThen_ok, Try.zeroValue32, hz, List.getElem?_toArray, List.getElem?_cons_zero, hst']
theorem wpList_clear_run {P : Program} (w : World) {ops : Array Oper} {rest : List Oper} {o : Oper} {a : Act} {Q : Exit → Act → World → Prop} (hgd : o.guard = none) (hd : o.dst = none) (s : Operand) (t : TypeId)
    (ho : o.op = .call { callee := .builtin .clear, args := #[s], argTypes := #[t] }) (u : Value) (hs : a.eval s = u) {v' : Value} {w' : World}
    (hr : (Builtin.clear_ #[t] o.type #[u]).run P w = .ok v' w') (h : wpList P ops Q rest a w') : wpList P ops Q (o :: rest) a w := by
  refine wpList_plain hgd fun K hK => ?_
  unfold Oper.wp execOp
  simp only [ho, resolve, invoke, builtin, Sem.run_bind, Sem.run_pure, Result.andThen_ok, List.map_toArray, List.map_cons, List.map_nil, hs, hr]
  show K (a.put o.dst v') w'
  rw [hd]
  exact hK a _ h
theorem block_at' {W : World} {base g n cap : Nat} {ok : Nat → Prop} {l : List S32} (h : Kd.R k32 32 W base ok (.slice (some ⟨g, 0, none⟩) n cap) l) (hn : l.length = n) :
    ∃ cur : Array Value, W.heap[g]? = some (.cells cur 32 (0, 0)) ∧ cur.size = cap * 4 ∧ cur.toList.take (n * 4) = flat l ∧ cap ≤ maxLen ∧ base ≤ g := by
  obtain ⟨hok, inner, ⟨h1, h2⟩, hr⟩ := h
  rcases h2 with ⟨h2, _⟩ | ⟨g', cap', cur, hv, hg, hb, hn', hm, hs, hc⟩
  · cases h2
  · injection hv with ha _ hc'
    injection ha with ha
    injection ha with hg'
    subst hg'; subst hc'
    refine ⟨cur, hb, hs, ?_, hm, hg⟩
    rcases Nat.eq_zero_or_pos l.length with h0 | h0
    · have e : l = [] := List.length_eq_zero_iff.1 h0
      subst e
      rw [← hn]; rfl
    · subst hn
      obtain ⟨cur', hb', _, hc', _, _⟩ := block_at (W := W) (base := base) (g := g) (n := l.length) (cap := cap) (ok := ok) ⟨hok, inner, ⟨h1, .inr ⟨g, cap, cur, rfl, hg, hb, hn', hm, hs, hc⟩⟩, hr⟩ h0
      rw [hb] at hb'
      cases hb'
      exact hc'
theorem hsz4 : (Try.prog.info? 32).map (·.size) = some k32.sz := by kernel_rfl
set_option maxHeartbeats 4000000 in
set_option maxRecDepth 100000 in
theorem del56 (g cap base : Nat) (ok : Nat → Prop) (l : List S32) (i : Nat) (w : World) (HO0 : Kd.R k32 32 w base ok (.slice (some ⟨g, 0, none⟩) l.length cap) l) (hi : i < l.length) (hb : base ≤ w.heap.size) (hl : l.length ≤ 1000) :
    Calls Try.prog 56 #[.slice (some ⟨g, 0, none⟩) l.length cap, .int .i64 i, .int .i64 ((i : Int) + 1)] w fun e w' => e = .returned (.slice (some ⟨g, 0, none⟩) (l.length - 1) cap) ∧
      Kd.R k32 32 w' base ok (.slice (some ⟨g, 0, none⟩) (l.length - 1) cap) (l.eraseIdx i) ∧ w.grownBy w' (some g) := by
  have hu25 := Try.underlying25
  have hu32 := Try.underlying32
  obtain ⟨cur, hblk, hcs, hct, hcm, hbg⟩ := block_at HO0 (by omega)
  have hlc : l.length ≤ cap := (Kd.R_reads' HO0).2.1
  have HO := Aside0.mk HO0
  have hbase : base ≤ w.drew.heap.size := hb
  have z0 : (0 ≤ (i : Int)) = True := by simp
  have z1 : (0 ≤ (i : Int) + 1) = True := by simp; omega
  have z2 : ((i : Int) == (i : Int) + 1) = false := by simp; omega
  have z3 : ((i : Int) + 1).toNat = i + 1 := by omega
  have z4 : i ≤ l.length := by omega
  have z5 : i + 1 ≤ l.length := by omega
  have z6 : i ≤ cap := by omega
  have z7 : i + 1 ≤ cap := by omega
  have z8 : ((i : Int) + 1 ≤ (l.length : Int)) = True := by simp; omega
  clear HO0 hblk hcs hct
  go_enter Try.func56, Try.ntmps56
  go_wp2_with fail
  refine start_ (n := 8) (S := fun w' => True) (ds := []) #[false, false, false, false, false, false, false, false] (by kernel_rfl) rfl rfl trivial (fun hHeld => ?_)
  refine with_tabW tab5 bits5 (fun HT_ HW_ => ?_)
  refine pure_ (i := 0) (N := some 20) (v := ?_) (a' := ?_) #[true, false, false, false, false, false, false, false] rfl rfl (any_of HT_.out (by kernel_rfl)) (fun _ _ _ h => h) (Or.inl ⟨by rfl, ?_⟩) ?_ ?_
  rotate_left
  · intro w'
    go_simp
    with_reducible rfl
  rotate_left
  · simp only [Act.put, List.setIfInBounds_toArray, List.set_cons_zero, List.set_cons_succ, i64_w, i32_w]
    rfl
  refine pure_ (i := 1) (N := some 21) (v := ?_) (a' := ?_) #[true, true, false, false, false, false, false, false] rfl rfl (any_of HT_.out (by kernel_rfl)) (fun _ _ _ h => h) (Or.inl ⟨by rfl, ?_⟩) ?_ ?_
  rotate_left
  · intro w'
    go_simp
    with_reducible rfl
  rotate_left
  · simp only [Act.put, List.setIfInBounds_toArray, List.set_cons_zero, List.set_cons_succ, i64_w, i32_w]
    rfl
  refine pure_ (i := 2) (N := some 22) (v := ?_) (a' := ?_) #[true, true, true, false, false, false, false, false] rfl rfl (any_of HT_.out (by kernel_rfl)) (fun _ _ _ h => h) (Or.inl ⟨by rfl, ?_⟩) ?_ ?_
  rotate_left
  · intro w'
    go_simp
    with_reducible rfl
  rotate_left
  · simp only [Act.put, List.setIfInBounds_toArray, List.set_cons_zero, List.set_cons_succ, i64_w, i32_w]
    rfl
  refine pure_ (i := 3) (N := some 23) (v := ?_) (a' := ?_) #[true, true, true, true, false, false, false, false] rfl rfl (any_of HT_.out (by kernel_rfl)) (fun _ _ _ h => h) (Or.inl ⟨by rfl, ?_⟩) ?_ ?_
  rotate_left
  · intro w'
    go_simp
    with_reducible rfl
  rotate_left
  · simp only [Act.put, List.setIfInBounds_toArray, List.set_cons_zero, List.set_cons_succ, i64_w, i32_w]
    rfl
  refine pure_ (i := 4) (N := some 24) (v := ?_) (a' := ?_) #[true, true, true, true, true, false, false, false] rfl rfl (any_of HT_.out (by kernel_rfl)) (fun _ _ _ h => h) (Or.inl ⟨by rfl, ?_⟩) ?_ ?_
  rotate_left
  · intro w'
    go_simp
    with_reducible rfl
  rotate_left
  · simp only [Act.put, List.setIfInBounds_toArray, List.set_cons_zero, List.set_cons_succ, i64_w, i32_w]
    rfl
  refine pure_ (i := 5) (N := some 25) (v := ?_) (a' := ?_) #[true, true, true, true, true, true, false, false] rfl rfl (any_of HT_.out (by kernel_rfl)) (fun _ _ _ h => h) (Or.inl ⟨by rfl, ?_⟩) ?_ ?_
  rotate_left
  · intro w'
    go_simp
    with_reducible rfl
  rotate_left
  · simp only [Act.put, List.setIfInBounds_toArray, List.set_cons_zero, List.set_cons_succ, i64_w, i32_w]
    rfl
  refine one_ (i := 6) (N := some 26) #[true, true, true, true, true, true, true, false] rfl rfl (one_of HT_.out (by kernel_rfl)) (by decide) (fun K hK => ?_)
  refine Kd.R_delete_step k32 (w0 := w) base rfl (.tmp 22) (.tmp 25) 25 32 rfl Try.underlying25 hsz4 (g := g) (n := l.length) (c := cap) (k := i) rfl rfl ?hA rfl (Kd.R_drew HO.out) hi (below_drew1' _) hbase ?_
  (case hA => simp only [Option.map_some, add_plain]; rfl)
  intro w3 h1 h2 h3
  have H1 := Aside0.mk h1
  have H3 := Aside0.mk h3
  clear h1 h2 h3
  refine hK.out _ _ trivial (fun hHeld => ?_)
  clear hK K
  refine norm_ (a' := ?_) ?_ ?_
  rotate_left
  · show Act.put _ (some 26) _ = _
    simp only [Act.put, List.setIfInBounds_toArray, List.set_cons_zero, List.set_cons_succ, i64_w, i32_w]
    rfl
  refine pure_ (i := 7) (N := some 0) (v := ?_) (a' := ?_) #[true, true, true, true, true, true, true, true] rfl rfl (any_of HT_.out (by kernel_rfl)) (fun _ _ _ h => h) (Or.inl ⟨by rfl, ?_⟩) ?_ ?_
  rotate_left
  · intro w'
    go_simp
    with_reducible rfl
  rotate_left
  · simp only [Act.put, List.setIfInBounds_toArray, List.set_cons_zero, List.set_cons_succ, i64_w, i32_w]
    rfl
  refine done_ (done_of HT_.out (by kernel_rfl)) ?_

  generalize (if cap = i + 1 then some (⟨g, 0, none⟩ : Addr) else some ⟨g, (i + 1) * 4, none⟩) = A25
  obtain ⟨cur3, g3, s3, c3, m3, _⟩ := block_at' H1.out (by rw [List.length_eraseIdx_of_lt hi])
  have G3 := Aside0.mk g3
  clear g3
  have hn : l.length - 1 + 1 = l.length := by omega
  have y0 : (0 ≤ ((l.length - 1 : Nat) : Int)) = True := by simp
  have y1 : l.length - 1 ≤ l.length := by omega
  have y2 : l.length - 1 ≤ cap := by omega
  have y3 : ¬ (cap = l.length - 1) := by omega
  have y4 : l.length - (l.length - 1) = 1 := by omega
  go_wp2_with ((with_reducible refine gate_builtin (b := .clear) (xs := #[.tmp 31]) rfl ?_); refine wpList_clear_run _ rfl rfl (.tmp 31) 25 rfl _ rfl (run_clear1 w3 _ g ((l.length - 1) * 4) _ cur3 G3.out (by omega)) ?_)
  go_ret
  have hlen : (l.eraseIdx i).length = l.length - 1 := List.length_eraseIdx_of_lt hi
  have hl3 : cur3.toList.length = cap * 4 := by rw [Array.length_toList]; exact s3
  refine ⟨rfl, ?_, ⟨H3.out.os, H3.out.tape, H3.out.output, by simpa using H3.out.size, fun k hk hne => (setRow_other _ _ _ _ (fun e => hne (by rw [e]))).trans (H3.out.block k hk hne)⟩⟩
  rw [← hlen]
  refine R_of_block (setRow_heap w3 g cur3 _ 32 (0, 0) G3.out) hbg (H1.out.1 g (by simp [Value.ownBlock])) hcm ?_ ?_
  · simp only [List.size_toArray, List.length_append, List.length_take, List.length_drop, hl3, Z4, List.length_cons, List.length_nil]
    omega
  · rw [hlen, List.append_assoc, List.take_append_of_le_length (by rw [List.length_take, hl3]; omega), List.take_of_length_le (by rw [List.length_take]; omega)]
    exact c3
end Go.Proofs.Ytfmeababiedamaa.V56

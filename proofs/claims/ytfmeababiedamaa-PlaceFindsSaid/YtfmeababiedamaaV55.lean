/- slices.Insert of one element into a full row, walked. -/
import Derived.Test.YtfmeababiedamaaX
import Derived.Test.YtfmeababiedamaaV52
import Derived.Lib.AppendZeros
import Derived.Lib.AppendZerosOnto
import Derived.Laws.Append
namespace Go.Proofs.Ytfmeababiedamaa.V55
open Go.RowKit Go.Shelf Go.Proofs.YtfmeababiedamaaW.PrintWords Go.Proofs.YtfmeababiedamaaW.PrintLast Go.Proofs.YtfmeababiedamaaW.PrintMore
open Go.Proofs.Ytfmeababiedamaa Go.Proofs.Ytfmeababiedamaa.M Go.Proofs.Ytfmeababiedamaa.Sp Go.Proofs.Ytfmeababiedamaa.E Go.Proofs.Ytfmeababiedamaa.G Go.Proofs.Ytfmeababiedamaa.A Go.Proofs.Ytfmeababiedamaa.T Go.Proofs.Ytfmeababiedamaa.K Go.Proofs.Ytfmeababiedamaa.X
set_option linter.unusedVariables false
set_option linter.unusedSimpArgs false
def T11 : Bool × List (List Nat × List Nat) := (true, [([], []), ([], []), ([], []), ([1, 2], [1, 2]), ([0, 3], [0, 3]), ([], []), ([], []), ([5, 6], [5, 6]), ([4, 7], [4, 7])])
def B11 : List Nat := [0, 0, 0, 6, 15, 0, 0, 96, 255]
theorem tab11 : rtab .any (opsOf Try.f55 11) = T11 := by kernel_rfl
theorem bits11 : waitsOk T11.2 B11 = true := by kernel_rfl
theorem step_copy_row {P : Program} (k : Nat) (w : World) {ops : Array Oper} {o : Oper} {a : Act} {K : Act → World → Prop} {Q : Exit → Act → World → Prop} {E : Prop} (hgd : o.guard = none) (d s : Operand) (t t' : TypeId)
    (ho : o.op = .call { callee := .builtin .copy, args := #[d, s], argTypes := #[t, t'] }) (elem : TypeId) (g off dLen dCap : Nat) (ad : Addr) (sLen sCap : Nat) (cur : Array Value) (te : TypeId) (cs : List Value)
    (hd : a.eval d = .slice (some ⟨g, off, none⟩) dLen dCap) (hs : a.eval s = .slice (some ad) sLen sCap)
    (hu : P.underlying t = some (.slice elem)) (hz : (P.info? elem).map (·.size) = some k)
    (hg : w.heap[g]? = some (.cells cur te (0, 0))) (hn : cs.length = Nat.min sLen dLen * k)
    (hsrc : ∀ j v, cs[j]? = some v → w.cell? (ad.add j) = some v) (hfit : off + cs.length ≤ cur.size) (h1 : ∀ v ∈ cs, v.oneCell' = true)
    (h : ∀ w2, w2.heap[g]? = some (.cells (cur.toList.take off ++ cs ++ cur.toList.drop (off + cs.length)).toArray te (0, 0)) → Only g w w2 → K (a.put o.dst (goInt (Nat.min sLen dLen))) w2) :
    if Region.wanted o (yielded ops a.tmps) = true then Oper.wp P o a w K Q else E := by
  have hw : Region.wanted o (yielded ops a.tmps) = true := by simp [Region.wanted, hgd]
  rw [if_pos hw]
  unfold Oper.wp execOp
  simp only [ho, resolve, invoke, builtin, Sem.run_bind, Sem.run_pure, Result.andThen_ok, List.map_toArray, List.map_cons, List.map_nil, hd, hs, run_copy_rowk k w t t' o.type elem g off dLen dCap ad sLen sCap cur te cs hu hz hg hn hsrc hfit h1]
  exact h _ (setRow_heap w g cur _ te (0, 0) hg) (only_setRow w g _)
theorem below_drew1' {base : Nat} (w : World) : Below base w w.drew := ⟨rfl, rfl, rfl, Nat.le_refl _, fun _ _ => rfl⟩
theorem hz4 : (Try.prog.info? 32).map (·.size) = some 4 := by kernel_rfl
theorem zc_len (n : Nat) : (Builtin.zeroCells (Value.agg #[.string ⟨#[]⟩, .int .i64 0, .int .i64 0, .int .i64 0]).cells n).size = n * 4 := by
  simp [Builtin.zeroCells, Value.cells]
theorem part_one (p : S32) : ∀ v ∈ partC p, v.oneCell' = true := by
  intro v hv
  exact flat_one [p] v (by simpa [flat] using hv)
theorem part_len (p : S32) : (partC p).length = 4 := rfl
set_option maxHeartbeats 8000000 in
set_option maxRecDepth 100000 in
theorem ins55 (g vb i : Nat) (l : List S32) (p : S32) (base : Nat) (ok : Nat → Prop) (w : World) (HO : Kd.R k32 32 w base ok (.slice (some ⟨g, 0, none⟩) l.length l.length) l) (h0 : 0 < l.length) (hl : l.length ≤ 1000) (hi : i ≤ l.length)
    (hv : w.heap[vb]? = some (.cells (partC p).toArray 32 (0, 0))) :
    Calls Try.prog 55 #[.slice (some ⟨g, 0, none⟩) l.length l.length, .int .i64 i, .slice (some ⟨vb, 0, none⟩) 1 1] w fun e w' => ∃ v, e = .returned v ∧ Kd.R k32 32 w' w.heap.size (fun _ => True) v (l.take i ++ p :: l.drop i) ∧ Below w.heap.size w w' := by
  obtain ⟨i0, hi0, hz0, hzs, hzb⟩ := info_parts info32
  have hu25 := Try.underlying25
  have hu32 := Try.underlying32
  have hC : Kd.C k32 w (some ⟨g, 0, none⟩) l.length l := (Kd.R_reads' HO).2.2
  have hcs := C_flat hC
  obtain ⟨_, hgb, _, _, _, _⟩ := block_at HO h0
  have hgl := blk_lt hgb
  have hvl := blk_lt hv
  have hvs : ∀ j v, (partC p)[j]? = some v → w.cell? ((⟨vb, 0, none⟩ : Addr).add j) = some v := fun j v hj => by
    rw [add_plain, blk_cell hv j]; simpa using hj
  have z0 : (0 ≤ (i : Int)) = True := by simp
  by_cases he : i = l.length
  · subst he
    have hrun := run_append_grow (P := Try.prog) (w := w) 25 25 32 i0 _ hu25 hi0 hz0 ⟨g, 0, none⟩ l.length l.length (flat l) (by rw [flat_len, hzs]) hcs ⟨vb, 0, none⟩ 1 1 (partC p) (by rw [hzs]; rfl) hvs (by omega) (by omega) (by rw [hzb]; exact growslice_fits (by omega) (by omega))
    obtain ⟨G, hG⟩ : ∃ G, G = grownCap w (l.length + 1) l.length 32 := ⟨_, rfl⟩
    have hGn : l.length + 1 ≤ G := by rw [hG]; exact grownCap_ge w _ _ _
    have hGm : G ≤ maxLen := by rw [hG]; exact grownCap_le_maxLen w _ _ _ (by unfold maxLen; omega)
    rw [← hG] at hrun
    have hbe := below_alloc (below_drew1 (Below.refl w.heap.size w)) (.cells ((flat l).toArray ++ (partC p).toArray ++ Builtin.zeroCells (Value.agg #[.string ⟨#[]⟩, .int .i64 0, .int .i64 0, .int .i64 0]).cells (G - (l.length + 1))) 32)
    have hnew := blk_new w.drew (.cells ((flat l).toArray ++ (partC p).toArray ++ Builtin.zeroCells (Value.agg #[.string ⟨#[]⟩, .int .i64 0, .int .i64 0, .int .i64 0]).cells (G - (l.length + 1))) 32)
    generalize hW : w.drew.alloc (.cells ((flat l).toArray ++ (partC p).toArray ++ Builtin.zeroCells (Value.agg #[.string ⟨#[]⟩, .int .i64 0, .int .i64 0, .int .i64 0]).cells (G - (l.length + 1))) 32) = W at hrun hbe hnew
    have HBE := Aside0.mk hbe
    have HNW := Aside0.mk hnew
    have hq : ((l.length : Int) == (l.length : Int)) = true := by simp
    clear hW hbe hnew hC hcs hgb hvs hv HO hG
    go_enter Try.func55, Try.ntmps55
    go_wp2_with ((with_reducible refine gate_builtin (b := .append) (xs := #[.tmp 23, .tmp 24]) rfl ?_); at_builtin; refine Lib.wpList_append_run _ rfl _ _ _ _ rfl _ _ rfl rfl _ _ hrun ?_)
    go_ret
    have e : l.take l.length ++ p :: l.drop l.length = l ++ [p] := by simp
    have hN : (show World from w.drew).heap.size = w.heap.size := rfl
    refine ⟨_, rfl, ?_, HBE.out⟩
    rw [e]
    have hlen : (l ++ [p]).length = l.length + 1 := by simp
    rw [← hlen]
    refine R_of_block HNW.out (Nat.le_refl _) trivial hGm ?_ ?_
    · simp only [Array.size_append, List.size_toArray, flat_len, part_len, zc_len]; omega
    · rw [hlen, flat_app, Array.toList_append, Array.toList_append]
      simp only [List.toList_toArray]
      rw [List.take_append_of_le_length (by rw [List.length_append, flat_len, part_len]; omega)]
      exact List.take_of_length_le (by rw [List.length_append, flat_len, part_len]; omega)
  · have hin : i < l.length := by omega
    have hold : (Builtin.firstCells i0.size i (.slice (some ⟨g, 0, none⟩) i l.length)).run Try.prog w.drew = .ok (flat (l.take i)).toArray w.drew := by
      rw [hzs]
      refine run_firstCells_some (P := Try.prog) (w := w.drew) 4 i ⟨g, 0, none⟩ i l.length (flat (l.take i)) (by rw [flat_len, List.length_take]; omega) (fun j v hj => ?_)
      rw [← flat_take l i hi, List.getElem?_take] at hj
      split at hj
      · exact hcs j v hj
      · cases hj
    have hrun : ∀ ty, (Builtin.append_ #[25, 3] ty #[.slice (some ⟨g, 0, none⟩) i l.length, .int .i64 ((l.length : Int) + 1 - (i : Int))]).run Try.prog w = .ok (.slice (some ⟨w.heap.size, 0, none⟩) (l.length + 1) (grownCap w (l.length + 1) l.length 32)) (w.drew.alloc (.cells ((flat (l.take i)).toArray ++ Builtin.zeroCells (Value.agg #[.string ⟨#[]⟩, .int .i64 0, .int .i64 0, .int .i64 0]).cells (l.length + 1 - i) ++ Builtin.zeroCells (Value.agg #[.string ⟨#[]⟩, .int .i64 0, .int .i64 0, .int .i64 0]).cells (grownCap w (l.length + 1) l.length 32 - (l.length + 1))) 32)) := fun ty => by
      have h := Lib.run_append_grow_zeros w 25 3 ty 32 i0 _ .i64 .i64 hu25 Try.underlying3 hi0 hz0 (some ⟨g, 0, none⟩) i l.length (flat (l.take i)) hold (l.length + 1 - i) (by omega) (by omega) (by omega) (by omega) (by rw [hzb]; omega) (by rw [hzb]; exact growslice_fits (by omega) (by omega))
      rw [show ((l.length + 1 - i : Nat) : Int) = (l.length : Int) + 1 - (i : Int) by omega, show i + (l.length + 1 - i) = l.length + 1 by omega] at h
      exact h
    obtain ⟨G, hG⟩ : ∃ G, G = grownCap w (l.length + 1) l.length 32 := ⟨_, rfl⟩
    have hGn : l.length + 1 ≤ G := by rw [hG]; exact grownCap_ge w _ _ _
    have hGm : G ≤ maxLen := by rw [hG]; exact grownCap_le_maxLen w _ _ _ (by unfold maxLen; omega)
    rw [← hG] at hrun
    obtain ⟨ROW, hROW⟩ : ∃ ROW : Array Value, ROW = (flat (l.take i)).toArray ++ Builtin.zeroCells (Value.agg #[.string ⟨#[]⟩, .int .i64 0, .int .i64 0, .int .i64 0]).cells (l.length + 1 - i) ++ Builtin.zeroCells (Value.agg #[.string ⟨#[]⟩, .int .i64 0, .int .i64 0, .int .i64 0]).cells (G - (l.length + 1)) := ⟨_, rfl⟩
    rw [← hROW] at hrun
    have hRs : ROW.size = G * 4 := by
      rw [hROW]
      simp only [Array.size_append, List.size_toArray, flat_len, List.length_take, zc_len]
      omega
    have hRt : ROW.toList.take (i * 4) = flat (l.take i) := by
      rw [hROW, Array.toList_append, Array.toList_append, List.append_assoc]
      exact List.take_left' (by simp only [List.toList_toArray, flat_len, List.length_take]; omega)
    have hbe := below_alloc (below_drew1 (Below.refl w.heap.size w)) (.cells ROW 32)
    have hnew := blk_new w.drew (.cells ROW 32)
    have hgW := blk_alloc (blk_drew hgb) (.cells ROW 32)
    have hvW := blk_alloc (blk_drew hv) (.cells ROW 32)
    have hcW := Kd.C_below hC hbe
    generalize w.drew.alloc (.cells ROW 32) = W at hrun hbe hnew hgW hvW hcW
    have HBE := Aside0.mk hbe
    have HNW := Aside0.mk hnew
    have HVW := Aside0.mk hvW
    have HCW := Aside0.mk hcW
    have HRS := Aside0.mk hRs
    have HRT := Aside0.mk hRt
    have q1 : ((i : Int) == (l.length : Int)) = false := by simp; omega
    have q2 : IntKind.i64.wrap ((l.length : Int) + 1) = (l.length : Int) + 1 := IntWalk.i64_in _ (by omega)
    have q3 : decide ((l.length : Int) < (l.length : Int) + 1) = true := decide_eq_true (by omega)
    have q4 : IntKind.i64.wrap ((l.length : Int) + 1 - (i : Int)) = (l.length : Int) + 1 - (i : Int) := IntWalk.i64_in _ (by omega)
    have q5 : IntKind.i64.wrap ((i : Int) + 1) = (i : Int) + 1 := IntWalk.i64_in _ (by omega)
    have q6 : (0 ≤ (i : Int) + 1) = True := by simp; omega
    have q7 : ((i : Int) + 1).toNat = i + 1 := by omega
    have hGi : ¬ (G = i) := by omega
    have hGi1 : ¬ (G = i + 1) := by omega
    have hni : ¬ (l.length = i) := by omega
    have q8 : i ≤ l.length + 1 := by omega
    have q9 : i + 1 ≤ l.length + 1 := by omega
    have q10 : ((i : Int) + 1 ≤ (l.length : Int) + 1) = True := by simp; omega
    have hnl : w.heap.size ≠ vb := by omega
    have hng : w.heap.size ≠ g := by omega
    clear hC hcs hvs hROW hRs hRt hbe hnew hgW hvW hcW hgb hv HO hG hold
    go_enter Try.func55, Try.ntmps55
    go_wp2_with (first
      | ((with_reducible refine gate_builtin (b := .append) (xs := #[.tmp 34, .tmp 39]) rfl ?_); at_builtin; refine Lib.wpList_append_run _ rfl _ _ _ _ rfl _ _ rfl rfl _ _ (hrun _) ?_)
      | ((with_reducible refine gate_dst (N := 45) rfl ?_); refine wpList_copy_row 4 _ rfl (.tmp 43) (.tmp 44) 25 25 rfl 32 w.heap.size (i * 4) (l.length + 1 - i) (G - i) ⟨vb, 0, none⟩ 1 1 ROW 32 (partC p) rfl rfl hu25 hz4 HNW.out (by rw [part_len]; simp only [Nat.min_def]; split <;> omega) (fun j v hj => by rw [add_plain, blk_cell HVW.out j]; simpa using hj) (by rw [part_len, HRS.out]; omega) (part_one p) ?_; intro w2 h2 hO2; have H2 := Aside0.mk h2; have HO2 := Aside0.mk hO2; clear h2 hO2))
    obtain ⟨cur2, hcur2⟩ : ∃ c : List Value, ROW.toList.take (i * 4) ++ partC p ++ ROW.toList.drop (i * 4 + (partC p).length) = c := ⟨_, rfl⟩
    rw [hcur2] at H2
    have hRl : ROW.toList.length = G * 4 := by rw [Array.length_toList]; exact HRS.out
    have HL2 := Aside0.mk (show cur2.length = G * 4 by rw [← hcur2]; simp only [List.length_append, List.length_take, List.length_drop, part_len, hRl]; omega)
    have HT2 := Aside0.mk (show cur2.take ((i + 1) * 4) = flat (l.take i) ++ partC p by
      rw [← hcur2, HRT.out]
      exact List.take_left' (by rw [List.length_append, flat_len, List.length_take, part_len]; omega))
    have HSRC := Aside0.mk (show ∀ j v, (flat (l.drop i))[j]? = some v → w2.cell? ((⟨g, i * 4, none⟩ : Addr).add j) = some v from fun j v hj => by
      rw [← flat_drop l i hi, List.getElem?_drop] at hj
      have h1 := C_flat HCW.out _ v hj
      rw [Addr.add_lit] at h1 ⊢
      rw [World.cell?_of_block (w := W) (HO2.out.other g (fun e => hng e.symm)), ← h1]
      simp)
    clear hcur2 hRl
    refine start_ (n := 9) (S := fun w' => True) (ds := []) #[false, false, false, false, false, false, false, false, false] (by kernel_rfl) rfl rfl trivial (fun hHeld => ?_)
    refine with_tabW tab11 bits11 (fun HT_ HW_ => ?_)
    refine pure_ (i := 0) (N := some 46) (v := ?_) (a' := ?_) #[true, false, false, false, false, false, false, false, false] rfl rfl (any_of HT_.out (by kernel_rfl)) (fun _ _ _ h => h) (Or.inl ⟨by rfl, ?_⟩) ?_ ?_
    rotate_left
    · intro w'
      go_simp
      with_reducible rfl
    rotate_left
    · simp only [Act.put, List.setIfInBounds_toArray, List.set_cons_zero, List.set_cons_succ, i64_w, i32_w]
      rfl
    refine pure_ (i := 1) (N := some 47) (v := ?_) (a' := ?_) #[true, true, false, false, false, false, false, false, false] rfl rfl (any_of HT_.out (by kernel_rfl)) (fun _ _ _ h => h) (Or.inl ⟨by rfl, ?_⟩) ?_ ?_
    rotate_left
    · intro w'
      go_simp
      with_reducible rfl
    rotate_left
    · simp only [Act.put, List.setIfInBounds_toArray, List.set_cons_zero, List.set_cons_succ, i64_w, i32_w]
      rfl
    refine pure_ (i := 2) (N := some 48) (v := ?_) (a' := ?_) #[true, true, true, false, false, false, false, false, false] rfl rfl (any_of HT_.out (by kernel_rfl)) (fun _ _ _ h => h) (Or.inl ⟨by rfl, ?_⟩) ?_ ?_
    rotate_left
    · intro w'
      go_simp
      with_reducible rfl
    rotate_left
    · simp only [Act.put, List.setIfInBounds_toArray, List.set_cons_zero, List.set_cons_succ, i64_w, i32_w]
      rfl
    refine pure_ (i := 3) (N := some 49) (v := ?_) (a' := ?_) #[true, true, true, true, false, false, false, false, false] rfl rfl (any_of HT_.out (by kernel_rfl)) (fun _ _ _ h => h) (Or.inl ⟨by rfl, ?_⟩) ?_ ?_
    rotate_left
    · intro w'
      go_simp
      with_reducible rfl
    rotate_left
    · simp only [Act.put, List.setIfInBounds_toArray, List.set_cons_zero, List.set_cons_succ, i64_w, i32_w]
      rfl
    refine pure_ (i := 4) (N := some 50) (v := ?_) (a' := ?_) #[true, true, true, true, true, false, false, false, false] rfl rfl (any_of HT_.out (by kernel_rfl)) (fun _ _ _ h => h) (Or.inl ⟨by rfl, ?_⟩) ?_ ?_
    rotate_left
    · intro w'
      go_simp
      with_reducible rfl
    rotate_left
    · simp only [Act.put, List.setIfInBounds_toArray, List.set_cons_zero, List.set_cons_succ, i64_w, i32_w]
      rfl
    refine pure_ (i := 5) (N := some 51) (v := ?_) (a' := ?_) #[true, true, true, true, true, true, false, false, false] rfl rfl (any_of HT_.out (by kernel_rfl)) (fun _ _ _ h => h) (Or.inl ⟨by rfl, ?_⟩) ?_ ?_
    rotate_left
    · intro w'
      go_simp
      with_reducible rfl
    rotate_left
    · simp only [Act.put, List.setIfInBounds_toArray, List.set_cons_zero, List.set_cons_succ, i64_w, i32_w]
      rfl
    refine pure_ (i := 6) (N := some 52) (v := ?_) (a' := ?_) #[true, true, true, true, true, true, true, false, false] rfl rfl (any_of HT_.out (by kernel_rfl)) (fun _ _ _ h => h) (Or.inl ⟨by rfl, ?_⟩) ?_ ?_
    rotate_left
    · intro w'
      go_simp
      with_reducible rfl
    rotate_left
    · simp only [Act.put, List.setIfInBounds_toArray, List.set_cons_zero, List.set_cons_succ, i64_w, i32_w]
      rfl
    refine pure_ (i := 7) (N := some 53) (v := ?_) (a' := ?_) #[true, true, true, true, true, true, true, true, false] rfl rfl (any_of HT_.out (by kernel_rfl)) (fun _ _ _ h => h) (Or.inl ⟨by rfl, ?_⟩) ?_ ?_
    rotate_left
    · intro w'
      go_simp
      with_reducible rfl
    rotate_left
    · simp only [Act.put, List.setIfInBounds_toArray, List.set_cons_zero, List.set_cons_succ, i64_w, i32_w]
      rfl
    refine one_ (i := 8) (N := some 54) #[true, true, true, true, true, true, true, true, true] rfl rfl (one_of HT_.out (by kernel_rfl)) (by decide) (fun K hK => ?_)
    refine step_copy_row 4 _ rfl (.tmp 50) (.tmp 53) 25 25 rfl 32 w.heap.size ((i + 1) * 4) _ _ ⟨g, i * 4, none⟩ (l.length - i) (l.length - i) cur2.toArray 32 (flat (l.drop i)) rfl rfl Try.underlying25 hz4 H2.out ?n1 ?n2 ?n3 (flat_one _) ?_
    (case n1 => rw [flat_len, List.length_drop]; simp only [Nat.min_def]; split <;> omega)
    (case n2 => exact HSRC.out)
    (case n3 => rw [flat_len, List.length_drop, List.size_toArray, HL2.out]; omega)
    intro w3 h3 hO3
    have H3 := Aside0.mk h3
    have HO3 := Aside0.mk hO3
    clear h3 hO3
    refine hK.out _ _ trivial (fun hHeld => ?_)
    clear hK K
    refine norm_ (a' := ?_) ?_ ?_
    rotate_left
    · show Act.put _ (some 54) _ = _
      simp only [Act.put, List.setIfInBounds_toArray, List.set_cons_zero, List.set_cons_succ, i64_w, i32_w]
      rfl
    refine done_ (done_of HT_.out (by kernel_rfl)) ?_

    go_wp2
    go_ret
    have hlen : (l.take i ++ p :: l.drop i).length = l.length + 1 := by simp only [List.length_append, List.length_take, List.length_cons, List.length_drop]; omega
    refine ⟨_, rfl, ?_, ?_⟩
    · rw [← hlen]
      refine R_of_block H3.out (Nat.le_refl _) trivial hGm ?_ ?_
      · simp only [List.size_toArray, List.length_append, List.length_take, List.length_drop, flat_len, List.toList_toArray, HL2.out]; omega
      · rw [hlen]
        simp only [List.toList_toArray]
        rw [HT2.out, List.take_append_of_le_length (by simp only [List.length_append, flat_len, List.length_take, List.length_drop, part_len]; omega), List.take_of_length_le (by simp only [List.length_append, flat_len, List.length_take, List.length_drop, part_len]; omega)]
        rw [flat_app, flat_cons, List.append_assoc]
    · exact (HBE.out.trans (HO2.out.bel)).trans (below_drew1' _ |>.trans HO3.out.bel)
end Go.Proofs.Ytfmeababiedamaa.V55

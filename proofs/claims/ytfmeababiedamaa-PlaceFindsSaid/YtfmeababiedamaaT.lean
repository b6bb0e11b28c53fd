/- Rows of parts, cell by cell; place.own. -/
import Derived.Test.YtfmeababiedamaaG
import Derived.Laws.CopyRow
import Derived.Laws.Tables
import Derived.Lib.AppendZerosOnto
import Derived.Laws.NewBlocks
import Derived.Shelf.RegionOpenPlain
namespace Go.Proofs.Ytfmeababiedamaa.T
open Go.RowKit Go.Shelf Go.Proofs.YtfmeababiedamaaW.PrintWords Go.Proofs.YtfmeababiedamaaW.PrintLast Go.Proofs.YtfmeababiedamaaW.PrintMore
open Go.Proofs.Ytfmeababiedamaa Go.Proofs.Ytfmeababiedamaa.M Go.Proofs.Ytfmeababiedamaa.G
set_option linter.unusedVariables false
set_option linter.unusedSimpArgs false

def partC (x : S32) : List Value := [.string x.f0, .int .i64 x.f1, .int .i64 x.f2, .int .i64 x.f3]
def flat (l : List S32) : List Value := l.flatMap partC
theorem flat_nil : flat [] = [] := rfl
theorem flat_cons (x : S32) (l : List S32) : flat (x :: l) = partC x ++ flat l := rfl
theorem flat_app (a b : List S32) : flat (a ++ b) = flat a ++ flat b := by simp [flat]
theorem flat_len (l : List S32) : (flat l).length = l.length * 4 := by
  induction l with
  | nil => rfl
  | cons x l ih => rw [flat_cons, List.length_append, ih, List.length_cons]; simp [partC]; omega
theorem flat_one (l : List S32) : ∀ v ∈ flat l, v.oneCell' = true := by
  intro v hv
  obtain ⟨x, _, hx⟩ := List.mem_flatMap.1 hv
  simp only [partC, List.mem_cons, List.not_mem_nil, or_false] at hx
  rcases hx with rfl | rfl | rfl | rfl <;> rfl
theorem flat_drop (l : List S32) (m : Nat) (hm : m ≤ l.length) : (flat l).drop (m * 4) = flat (l.drop m) := by
  conv => lhs; rw [← List.take_append_drop m l, flat_app]
  exact List.drop_left' (by rw [flat_len, List.length_take]; omega)
theorem flat_take (l : List S32) (m : Nat) (hm : m ≤ l.length) : (flat l).take (m * 4) = flat (l.take m) := by
  conv => lhs; rw [← List.take_append_drop m l, flat_app]
  exact List.take_left' (by rw [flat_len, List.length_take]; omega)
theorem flat_at (l : List S32) (i : Nat) (hi : i < l.length) : (((flat l).drop (i * 4)).take 4) = partC l[i] := by
  rw [flat_drop l i (by omega), List.drop_eq_getElem_cons hi, flat_cons]
  rfl

/-- the cells of a row of parts that is read -/
theorem C_flat {w : World} {a : Addr} {n : Nat} {l : List S32} (h : Kd.C k32 w (some a) n l) : ∀ j v, (flat l)[j]? = some v → w.cell? (a.add j) = some v := by
  intro j v hj
  obtain ⟨hl, _, hc⟩ := h
  have hlt : j < l.length * 4 := by
    have := (List.getElem?_eq_some_iff.1 hj).1
    rwa [flat_len] at this
  obtain ⟨ad, e, hr⟩ := hc (by omega)
  cases e
  have hi : j / 4 < l.length := by omega
  obtain ⟨c, _, hK, hcell⟩ := hr (j / 4) _ (List.getElem?_eq_getElem hi)
  obtain rfl := k32_open hK
  have h2 := flat_at l (j / 4) hi
  have h3 : (((flat l).drop (j / 4 * 4)).take 4)[j % 4]? = some v := by
    rw [List.getElem?_take, if_pos (by omega), List.getElem?_drop, show j / 4 * 4 + j % 4 = j by omega]; exact hj
  rw [h2] at h3
  have := hcell (j % 4) v h3
  rwa [show j / 4 * k32.sz + j % 4 = j from by show j / 4 * 4 + j % 4 = j; omega] at this
theorem reps_flat {R : S32 → List Value → Prop} (hR : ∀ x, R x (partC x)) (l : List S32) : Reps R 4 l (flat l) := by
  refine ⟨flat_len l, fun j p hp => ?_⟩
  obtain ⟨hj, rfl⟩ := List.getElem?_eq_some_iff.1 hp
  rw [flat_at l j hj]
  exact hR _
/-- a row of one's own, out of its block -/
theorem R_of_block {W : World} {g cap base : Nat} {ok : Nat → Prop} {l : List S32} {cur : Array Value} (hb : W.heap[g]? = some (.cells cur 32 (0, 0))) (hg : base ≤ g) (hok : ok g) (hm : cap ≤ maxLen) (hs : cur.size = cap * 4)
    (hc : cur.toList.take (l.length * 4) = flat l) : Kd.R k32 32 W base ok (.slice (some ⟨g, 0, none⟩) l.length cap) l := by
  refine ⟨fun k hk => ?_, flat l, ⟨flat_len l, .inr ⟨g, cap, cur, rfl, hg, hb, ?_, hm, hs, hc⟩⟩, reps_flat (fun x => k32_mkM _ _ _ x) l⟩
  · have : g = k := by simpa [Value.ownBlock] using hk
    exact this ▸ hok
  · have e1 := congrArg List.length hc
    have e2 : cur.toList.length = cap * 4 := by rw [Array.length_toList]; exact hs
    rw [flat_len, List.length_take, e2] at e1
    omega
/-- .. and its block -/
theorem block_of_R {W : World} {base : Nat} {ok : Nat → Prop} {v : Value} {l : List S32} (h : Kd.R k32 32 W base ok v l) (hl : 0 < l.length) :
    ∃ g cap cur, v = .slice (some ⟨g, 0, none⟩) l.length cap ∧ base ≤ g ∧ ok g ∧ W.heap[g]? = some (.cells cur 32 (0, 0)) ∧ l.length ≤ cap ∧ cap ≤ maxLen ∧ cur.size = cap * 4 ∧ cur.toList.take (l.length * 4) = flat l := by
  obtain ⟨hok, inner, ⟨h1, h2⟩, hr⟩ := h
  rcases h2 with ⟨rfl, h0⟩ | ⟨g, cap, cur, rfl, hg, hb, hn, hm, hs, hc⟩
  · omega
  · refine ⟨g, cap, cur, rfl, hg, hok g (by simp [Value.ownBlock]), hb, hn, hm, hs, ?_⟩
    have hc' : cur.toList.take (l.length * 4) = inner := hc
    rw [hc']
    have h1' : inner.length = l.length * 4 := h1
    apply List.ext_getElem?
    intro j
    rcases Nat.lt_or_ge j (l.length * 4) with hj | hj
    · have hi : j / 4 < l.length := by omega
      have e1 := k32_openM (hr.2 (j / 4) _ (List.getElem?_eq_getElem hi))
      have e1' : (inner.drop (j / 4 * 4)).take 4 = partC l[j / 4] := e1
      have e2 := flat_at l (j / 4) hi
      have e3 := congrArg (fun (z : List Value) => z[j % 4]?) (e1'.trans e2.symm)
      simp only [List.getElem?_take, if_pos (show j % 4 < 4 by omega), List.getElem?_drop, show j / 4 * 4 + j % 4 = j by omega] at e3
      exact e3
    · rw [List.getElem?_eq_none (by omega), List.getElem?_eq_none (by rw [flat_len]; omega)]
theorem below_setRow {n : Nat} {w W : World} {g : Nat} (h : Below n w W) (hg : n ≤ g) (cs : Array Value) : Below n w (W.setRow g cs) :=
  h.trans ⟨rfl, rfl, rfl, by simp, fun k hk => setRow_other W g k cs (by omega)⟩
theorem below_grown {n : Nat} {w W W' : World} (h : Below n w W) (hg : W.grownBy W' none) (hn : n ≤ W.heap.size) : Below n w W' :=
  h.trans ⟨hg.os, hg.tape, hg.output, hg.size, fun k hk => hg.block k (by omega) (by simp)⟩

/-- copy at elements of k cells -/
theorem run_copy_rowk {P : Program} (k : Nat) (w : World) (dT sT ty elem : TypeId) (g o dLen dCap : Nat) (a : Addr) (sLen sCap : Nat) (cur : Array Value) (t : TypeId) (cs : List Value)
    (hu : P.underlying dT = some (.slice elem)) (hs : (P.info? elem).map (·.size) = some k)
    (hg : w.heap[g]? = some (.cells cur t (0, 0))) (hn : cs.length = Nat.min sLen dLen * k)
    (hsrc : ∀ j v, cs[j]? = some v → w.cell? (a.add j) = some v) (hfit : o + cs.length ≤ cur.size) (h1 : ∀ v ∈ cs, v.oneCell' = true) :
    (Builtin.copy_ #[dT, sT] ty #[.slice (some ⟨g, o, none⟩) dLen dCap, .slice (some a) sLen sCap]).run P w =
      .ok (goInt (Nat.min sLen dLen)) (w.setRow g (cur.toList.take o ++ cs ++ cur.toList.drop (o + cs.length)).toArray) := by
  have hl := run_loadCells_list (P := P) w a cs hsrc
  have hst := run_storeCells_at P g o t cs 0 cur w hg (by simpa using hfit) h1
  rw [hn] at hl
  cases hq : P.info? elem with
  | none => simp [hq] at hs
  | some i =>
    have hi : i.size = k := by simpa [hq] using hs
    simp [Builtin.copy_, run_underlying hu, Builtin.lenOf, Builtin.firstCells, sizeOf, typeInfo, hq, hi, hl, hst]

/-- what a call leaves as it was -/
structure Only (g : Nat) (w w2 : World) : Prop where
  other : ∀ k, k ≠ g → w2.heap[k]? = w.heap[k]?
  bel : Below g w w2
theorem Only.cell {g : Nat} {w w2 : World} (h : Only g w w2) {k : Nat} {t : TypeId} {cs : Array Value} (hb : w.heap[k]? = some (.cells cs t (0, 0))) (hk : k ≠ g) : w2.heap[k]? = some (.cells cs t (0, 0)) := (h.other k hk).trans hb
theorem only_setRow (w : World) (g : Nat) (cs : Array Value) : Only g w (w.setRow g cs) := ⟨fun k hk => setRow_other w g k cs hk, below_setRow (Below.refl g w) (Nat.le_refl _) cs⟩
/-- a copy of rows of k cells, as a step of a walk -/
theorem wpList_copy_row {P : Program} (k : Nat) (w : World) {ops : Array Oper} {rest : List Oper} {o : Oper} {a : Act} {Q : Exit → Act → World → Prop} (hgd : o.guard = none) (d s : Operand) (t t' : TypeId)
    (ho : o.op = .call { callee := .builtin .copy, args := #[d, s], argTypes := #[t, t'] }) (elem : TypeId) (g off dLen dCap : Nat) (ad : Addr) (sLen sCap : Nat) (cur : Array Value) (te : TypeId) (cs : List Value)
    (hd : a.eval d = .slice (some ⟨g, off, none⟩) dLen dCap) (hs : a.eval s = .slice (some ad) sLen sCap)
    (hu : P.underlying t = some (.slice elem)) (hz : (P.info? elem).map (·.size) = some k)
    (hg : w.heap[g]? = some (.cells cur te (0, 0))) (hn : cs.length = Nat.min sLen dLen * k)
    (hsrc : ∀ j v, cs[j]? = some v → w.cell? (ad.add j) = some v) (hfit : off + cs.length ≤ cur.size) (h1 : ∀ v ∈ cs, v.oneCell' = true)
    (h : ∀ w2, w2.heap[g]? = some (.cells (cur.toList.take off ++ cs ++ cur.toList.drop (off + cs.length)).toArray te (0, 0)) → Only g w w2 → wpList P ops Q rest (a.put o.dst (goInt (Nat.min sLen dLen))) w2) :
    wpList P ops Q (o :: rest) a w := by
  refine wpList_plain hgd fun K hK => ?_
  unfold Oper.wp execOp
  simp only [ho, resolve, invoke, builtin, Sem.run_bind, Sem.run_pure, Result.andThen_ok, List.map_toArray, List.map_cons, List.map_nil, hd, hs, run_copy_rowk k w t t' o.type elem g off dLen dCap ad sLen sCap cur te cs hu hz hg hn hsrc hfit h1]
  exact hK _ _ (h _ (setRow_heap w g cur _ te (0, 0) hg) (only_setRow w g _))
theorem own_cur {w : World} {base g n : Nat} {e : TypeId} {size : Nat} {xs : List Value} (h : w.ownsRow base e size (.slice (some ⟨g, 0, none⟩) n n) n xs) : ∃ cur, w.heap[g]? = some (.cells cur e (0, 0)) ∧ cur.size = n * size := by
  rcases h.2 with ⟨h2, _⟩ | ⟨g', cap, cur, hv, hg, hb, hn, hm, hs, hc⟩
  · cases h2
  · injection hv with ha _ hc'
    injection ha with ha
    injection ha with hg'
    subst hg'; subst hc'
    exact ⟨cur, hb, hs⟩
theorem keep2 {w w1 : World} {u v : Value} {t : TypeId} (hg : ((w.alloc (.cells #[u] t)).alloc (.cells #[v] t)).grownBy w1 none) :
    w1.heap[w.heap.size]? = some (.cells #[u] t (0, 0)) ∧ w1.heap[w.heap.size + 1]? = some (.cells #[v] t (0, 0)) ∧
    w1.cell? ⟨w.heap.size, 0, none⟩ = some u ∧ w1.frozen? ⟨w.heap.size, 0, none⟩ = false ∧ w1.cell? ⟨w.heap.size + 1, 0, none⟩ = some v ∧ w1.frozen? ⟨w.heap.size + 1, 0, none⟩ = false := by
  have b0 : w1.heap[w.heap.size]? = some (.cells #[u] t (0, 0)) := (hg.block _ (by simp; omega) (by simp)).trans (blk_alloc (blk_new _ _) _)
  have b1 : w1.heap[w.heap.size + 1]? = some (.cells #[v] t (0, 0)) := (hg.block _ (by simp) (by simp)).trans (by have := blk_new (w.alloc (.cells #[u] t)) (.cells #[v] t); rwa [World.size_alloc] at this)
  exact ⟨b0, b1, blk_cell b0 0, blk_frozen b0 0, blk_cell b1 0, blk_frozen b1 0⟩
set_option maxRecDepth 100000 in
set_option maxHeartbeats 2000000 in
theorem own50x (a : Addr) (c : Nat) (l : List S32) (w : World) (hr : Kd.C k32 w (some a) l.length l) (hl : 0 < l.length) (hb : l.length ≤ 1000000) :
    Calls Try.prog 50 #[.agg #[.slice (some a) l.length c]] w fun e w' => ∃ g : Nat, e = .returned (.agg #[.slice (some ⟨g, 0, none⟩) l.length l.length]) ∧ Kd.R k32 32 w' w.heap.size (fun _ => True) (.slice (some ⟨g, 0, none⟩) l.length l.length) l ∧ Below w.heap.size w w' := by
  obtain ⟨i0, hi, hz0, hz1, hz2⟩ := info_parts info32
  have hu27 := Try.underlying27
  have hu25 := Try.underlying25
  have hu32 := Try.underlying32
  have HR := Aside0.mk hr
  clear hr
  go_enter Try.func50, Try.ntmps50
  have hz : (Try.prog.info? 32).map (·.size) = some 4 := by rw [hi]; simp [hz1]
  go_wp2_with (first
    | ((with_reducible refine gate_dst (N := 7) rfl ?_); refine wpList_make_full _ rfl (.tmp 6) (.tmp 6) 25 rfl w.heap.size 32 i0 _ 4 hu25 hi hz0 hz1 .i64 .i64 _ _ l.length rfl rfl rfl rfl (by rw [hz2]; omega) (by unfold maxLen; omega) (by simp; omega) ?_; intro w1 hown hgrow; obtain ⟨b0, b1, c0, f0, c1, f1⟩ := keep2 hgrow; obtain ⟨cur, hcur, hcs⟩ := own_cur hown; have HG := Aside0.mk (below_grown (below_alloc (below_alloc (Below.refl w.heap.size w) _) _) hgrow (by simp; omega)); have HC := Aside0.mk hcur; have HS := Aside0.mk hcs; have HB0 := Aside0.mk b0; have HB1 := Aside0.mk b1; clear hgrow hown b0 b1 hcur hcs)
    | ((with_reducible refine gate_dst (N := 11) rfl ?_); refine wpList_copy_row 4 _ rfl (.tmp 8) (.tmp 10) 25 25 rfl 32 (w.heap.size + 1 + 1) 0 l.length l.length a l.length c cur 32 (flat l) rfl rfl hu25 hz (by simpa using HC.out) (by rw [flat_len]; simp [Nat.min_def]) (C_flat (Kd.C_below HR.out HG.out)) (by rw [flat_len, HS.out]; omega) (flat_one l) ?_; clear c0 f0 c1 f1; intro w2 hg2 hO; have b1 := hO.cell HB1.out (by omega); have c1 : w2.cell? ⟨w.heap.size + 1, 0, none⟩ = some (.slice none 0 0) := blk_cell b1 0; have f1 := blk_frozen b1 0; have HB1' := Aside0.mk b1; have HG2 := Aside0.mk hg2; have HO := Aside0.mk hO; clear hg2 hO b1))
  refine bodyPost_ret (results_cell_row rfl _ _ (w.heap.size + 1) 27 #[.slice (some ⟨w.heap.size + 1 + 1, 0, none⟩) l.length l.length] (0, 0) _ rfl (blk_put (cs := #[.slice none 0 0]) HB1'.out 0 _ rfl) Try.underlying27 rfl (by kernel_rfl)) rfl ?_
  have e : (flat l ++ List.drop (flat l).length cur.toList) = flat l := by
    rw [List.drop_eq_nil_of_le (by rw [flat_len, Array.length_toList, HS.out]; omega), List.append_nil]
  have hg2 : w2.heap[w.heap.size + 1 + 1]? = some (.cells (flat l).toArray 32 (0, 0)) := by rw [← e]; simpa using HG2.out
  have hfar := blk_far hg2 (p := ⟨w.heap.size + 1, 0, none⟩) (by simp) (Value.slice (some ⟨w.heap.size + 1 + 1, 0, none⟩) l.length l.length)
  refine ⟨_, rfl, R_of_block hfar (by omega) trivial (by unfold maxLen; omega) (by simp [flat_len]) (by simp [flat_len, List.take_of_length_le]), ?_⟩
  exact (HG.out.trans (HO.out.bel.mono (by omega))).setCell (p := ⟨w.heap.size + 1, 0, none⟩) (by simp) _
theorem own50 (a : Addr) (c : Nat) (l : List S32) (w : World) (hr : Kd.C k32 w (some a) l.length l) (hl : 0 < l.length) (hb : l.length ≤ 1000000) :
    Calls Try.prog 50 #[.agg #[.slice (some a) l.length c]] w fun e w' => ∃ v0_ : Value, e = .returned (.agg #[v0_]) ∧ Kd.R k32 32 w' w.heap.size (fun _ => True) v0_ l ∧ Below w.heap.size w w' :=
  (own50x a c l w hr hl hb).mono fun _ _ ⟨_, h⟩ => ⟨_, h⟩
end Go.Proofs.Ytfmeababiedamaa.T

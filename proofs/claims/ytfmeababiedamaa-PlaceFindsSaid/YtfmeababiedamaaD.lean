/- 'for n := range each(p)' in a caller, and name.Parts. -/
import Derived.Test.YtfmeababiedamaaC
import Derived.Test.YtfmeababiedamaaE
namespace Go.Proofs.Ytfmeababiedamaa.D
open Go.RowKit Go.Shelf Go.Proofs.YtfmeababiedamaaW.PrintWords Go.Proofs.YtfmeababiedamaaW.PrintLast Go.Proofs.YtfmeababiedamaaW.PrintMore
open Go.Proofs.Ytfmeababiedamaa Go.Proofs.Ytfmeababiedamaa.C
set_option linter.unusedVariables false
set_option linter.unusedSimpArgs false
attribute [local go_sem] Oper.semAt_some

theorem boxed_alloc {W : World} {B : Nat} {t : TypeId} {v : Value} (h : Boxed W B t v) (o : Obj) : Boxed (W.alloc o) B t v := h.alloc o
theorem boxed_putObj {W : World} {B : Nat} {t : TypeId} {v : Value} (h : Boxed W B t v) (l : Nat) (o : Obj) (hl : B ≠ l) : Boxed (W.putObj l o) B t v := (World.putObj_heap_other hl).trans h
theorem keepsBox_putObj {B : Nat} (W : World) (l : Nat) (o : Obj) (hl : B ≠ l) : KeepsBox B W (W.putObj l o) := World.putObj_heap_other hl

/-- 'for n := range each(p)': the law for the caller (the iterator keeps its own variable in block B) -/
theorem range_each {n : Nat} (h1 : 2 ≤ n) {g : Operand} {ps : Array Tmp} {assign body : Code} {Q : Exit → Act → World → Prop} {a : Act} {w : World} {B : Nat} {s0 : ByteArray}
    (hg : a.eval g = .func (.func 74) #[] #[.pointer (some ⟨B, 0, none⟩)]) (hs : s0.size ≤ 140737488351232) (hB : Boxed w B 9 (.string s0)) (hps : ps.size = 1)
    (I : List ByteArray → World → Prop) (Ix : Code → List ByteArray → World → Prop) (hI : OwnFrom w.heap.size I) (hIx : ∀ c, OwnFrom w.heap.size (Ix c))
    (hIb : ∀ pre W v, I pre W → I pre (W.setCell ⟨B, 0, none⟩ v)) (hId : ∀ pre W m, I pre W → I pre (W.drewN m)) (hXb : ∀ c pre W v, Ix c pre W → Ix c pre (W.setCell ⟨B, 0, none⟩ v))
    (h0 : I [] w) (a₁ : ByteArray → Act)
    (hassign : ∀ (l : Nat) (x : ByteArray) (W : World) (K : Act → World → Prop), K (a₁ x) W →
      assign.wpIn (Fence.wide.inRound l) (n - 1 - 1) Try.prog (Exit.then K (fun _ _ _ => False)) { tmps := (ps.zip #[.string x]).foldl (fun t (p, v) => t.setIfInBounds p v) a.tmps, defers := [] } W)
    (hbody : ∀ (l : Nat) (pre : List ByteArray) (x : ByteArray) (W : World), I pre W → body.wpIn (Fence.wide.inRound l) (n - 1 - 1) Try.prog (ownPostG w.heap.size (KeepsBox B) I (fun c xs W' => KeepsBox B W W' ∧ Ix c xs W') (pre ++ [x]) W) (a₁ x) W)
    (hdone : ∀ (D : Nat) (W : World), w.heap.size ≤ D → I (Sp.cutB s0) W → W.heap[D]? = some (.deferred (some [])) → Q .normal { a with defers := { target := .collected D, args := #[] } :: a.defers } W)
    (hstop : ∀ (D : Nat) (c : Code) (pre : List ByteArray) (W : World), w.heap.size ≤ D → pre <+: Sp.cutB s0 → Ix c pre W → W.heap[D]? = some (.deferred (some [])) → c.wpIn Fence.wide n Try.prog Q { a with defers := { target := .collected D, args := #[] } :: a.defers } W) :
    (Code.rangeFunc g ps assign body).wpIn Fence.wide n Try.prog Q a w := by
  refine wpIn_rangeFunc ?_
  intro fn hfn
  rw [show Fence.wide.round = none from rfl]
  have hBlt := hB.lt
  obtain ⟨rec, hrec⟩ : ∃ rec : LoopState → Option Code → Loop, rec = fun st pe => { state := st, pending := pe, fn, tmps := a.tmps, params := ps, assign, body, defers := w.heap.size } := ⟨_, rfl⟩
  obtain ⟨W1, hW1⟩ : ∃ W1, (w.alloc (.deferred (some []))).alloc (.loop (rec .ready none)) = W1 := ⟨_, rfl⟩
  have hL1 : W1.heap[w.heap.size + 1]? = some (.loop (rec .ready none)) := by
    rw [← hW1]; have := World.alloc_heap_new (w.alloc (.deferred (some []))) (.loop (rec .ready none)); rwa [World.size_alloc] at this
  have hK1 : W1.heap[w.heap.size]? = some (.deferred (some [])) := by
    rw [← hW1]; exact (Below.heap_alloc _ _ _ (by simp)).trans (World.alloc_heap_new w _)
  have hI1 : I [] W1 := by rw [← hW1]; exact hI.alloc _ (hI.alloc _ h0)
  have hB1 : Boxed W1 B 9 (.string s0) := by rw [← hW1]; exact (hB.alloc _).alloc _
  have hset : ∀ {W : World} {k : Nat} {o : Obj} (v : Value), w.heap.size ≤ k → W.heap[k]? = some o → (W.setCell ⟨B, 0, none⟩ v).heap[k]? = some o := fun v hk h => (Below.heap_setCell _ _ _ _ (by show _ ≠ B; omega)).trans h
  have eg := enters_of Try.func74 (by kernel_rfl) rfl
  refine ⟨w.heap.size + 1, [{ target := .collected w.heap.size, args := #[] }], W1, { target := .fn (.func 74) #[.pointer (some ⟨B, 0, none⟩)], args := #[.func (.yield (w.heap.size + 1)) #[] #[]] }, W1, 74,
    #[.func (.yield (w.heap.size + 1)) #[] #[]] ++ #[.pointer (some ⟨B, 0, none⟩)], W1, ?_, ?_, ?_, ?_, fun _ => by omega, ?_⟩
  · rw [← hW1, hrec]; exact run_enterLoop_outer _ _ _ _ _
  · simp only [resolve, hg]
    simp [go_sem]
  · intro f' hf'; trivial
  · simp [invoke, go_sem, eg]
  · refine (each1_in (n - 1) (by omega) (w.heap.size + 1) B s0 hs
      (fun pre W => I pre W ∧ W.heap[w.heap.size + 1]? = some (.loop (rec .ready none)) ∧ W.heap[w.heap.size]? = some (.deferred (some [])))
      (fun pre W => ∃ c, Ix c pre W ∧ W.heap[w.heap.size + 1]? = some (.loop (rec .done (some c))) ∧ W.heap[w.heap.size]? = some (.deferred (some [])))
      (fun pre W v h => ⟨hIb _ _ _ h.1, hset v (by omega) h.2.1, hset v (Nat.le_refl _) h.2.2⟩)
      (fun pre W m h => ⟨hId _ _ _ h.1, h.2.1, h.2.2⟩)
      (fun pre W v ⟨c, hc, hl, hk⟩ => ⟨c, hXb _ _ _ _ hc, hset v (by omega) hl, hset v (Nat.le_refl _) hk⟩)
      ?_ W1 hB1 ⟨hI1, hL1, hK1⟩).mono ?_
    · -- one round
      rintro pre x W ⟨hi, hl, hk⟩
      have hlt : w.heap.size + 1 < W.heap.size := (Array.getElem?_eq_some_iff.1 hl).1
      have hy := run_yield (P := Try.prog) (args := #[.string x]) hl (by rw [hrec]; exact hps.symm)
      rw [hrec] at hy
      refine ⟨fn, _, assign, body, hy, roundIn_of_wpIn hfn (hassign _ x W _ ⟨_, run_beginRound hl (by rw [hrec]), ?_⟩)⟩
      have hl2 : (W.putObj (w.heap.size + 1) (.loop { rec .ready none with state := .busy })).heap[w.heap.size + 1]? = some (.loop { rec .ready none with state := .busy }) := World.putObj_heap_same hlt
      have hk2 : (W.putObj (w.heap.size + 1) (.loop { rec .ready none with state := .busy })).heap[w.heap.size]? = some (.deferred (some [])) := (World.putObj_heap_other (by omega)).trans hk
      have hw2 : KeepsBox B W (W.putObj (w.heap.size + 1) (.loop { rec .ready none with state := .busy })) := keepsBox_putObj _ _ _ (by omega)
      refine wpIn_mono (hbody _ pre x _ (hI.putObj _ hi (by omega) hl rfl)) ?_
      have fin : ∀ (jump : Option Code) (W3 : World), KeepsFrom w.heap.size (W.putObj (w.heap.size + 1) (.loop { rec .ready none with state := .busy })) W3 →
          (Instr.endRound (w.heap.size + 1) jump).run Try.prog W3 = .ok (.bool jump.isNone) (W3.putObj (w.heap.size + 1) (.loop (rec (if jump.isNone then .ready else .done) jump))) ∧
          W3.heap[w.heap.size + 1]? = some (.loop { rec .ready none with state := .busy }) ∧
          (W3.putObj (w.heap.size + 1) (.loop (rec (if jump.isNone then .ready else .done) jump))).heap[w.heap.size + 1]? = some (.loop (rec (if jump.isNone then .ready else .done) jump)) ∧
          (W3.putObj (w.heap.size + 1) (.loop (rec (if jump.isNone then .ready else .done) jump))).heap[w.heap.size]? = some (.deferred (some [])) := fun jump W3 hk3 => by
        have hl3 := hk3.same _ _ (by omega) hl2 rfl
        have := run_endRound (P := Try.prog) jump hl3
        rw [hrec] at this ⊢
        exact ⟨this, by rw [hrec] at hl3; exact hl3, World.putObj_heap_same (Array.getElem?_eq_some_iff.1 hl3).1, (World.putObj_heap_other (by omega)).trans (hk3.same _ _ (Nat.le_refl _) hk2 rfl)⟩
      have kb : ∀ {W3 : World} (o : Obj), KeepsBox B (W.putObj (w.heap.size + 1) (.loop { rec .ready none with state := .busy })) W3 → KeepsBox B W (W3.putObj (w.heap.size + 1) o) := fun o h =>
        (keepsBox_putObj _ _ _ (by omega)).trans (h.trans hw2)
      rintro e a3 W3 hp
      cases e with
      | normal =>
        obtain ⟨hk3, hkp3, hi3⟩ := hp
        obtain ⟨hr, hl3, hl4, hk4⟩ := fin none W3 hk3
        exact ⟨_, _, hr, kb _ hkp3, .inl ⟨rfl, hI.putObj _ hi3 (by omega) hl3 rfl, hl4, hk4⟩⟩
      | ret =>
        obtain ⟨hk3, hkp3, hi3⟩ := hp
        obtain ⟨hr, hl3, hl4, hk4⟩ := fin (some .ret) W3 hk3
        exact ⟨_, _, hr, kb _ hkp3, .inr ⟨rfl, .ret, (hIx _).putObj _ hi3 (by omega) hl3 rfl, hl4, hk4⟩⟩
      | exit id =>
        obtain ⟨hk3, hkp3, hi3⟩ := hp
        obtain ⟨hr, hl3, hl4, hk4⟩ := fin (some (.exit id)) W3 hk3
        exact ⟨_, _, hr, kb _ hkp3, .inr ⟨rfl, .exit id, (hIx _).putObj _ hi3 (by omega) hl3 rfl, hl4, hk4⟩⟩
      | goto t =>
        obtain ⟨hk3, hkp3, hi3⟩ := hp
        obtain ⟨hr, hl3, hl4, hk4⟩ := fin (some (.goto t)) W3 hk3
        exact ⟨_, _, hr, kb _ hkp3, .inr ⟨rfl, .goto t, (hIx _).putObj _ hi3 (by omega) hl3 rfl, hl4, hk4⟩⟩
      | panic ch => exact hp.elim
      | outgrown => exact hp.elim
    · -- behind the iterator
      rintro e W2 ⟨⟨v, rfl⟩, (⟨hi, hl, hk⟩ | ⟨pre, hSp, c, hi, hl, hk⟩)⟩
      · exact ⟨none, _, by have := run_endLoop (P := Try.prog) hl (by rw [hrec]; simp); rw [hrec] at this; exact this, hdone _ _ (Nat.le_refl _) (hI.putObj _ hi (by omega) hl rfl) ((World.putObj_heap_other (by omega)).trans hk)⟩
      · exact ⟨some c, _, by have := run_endLoop (P := Try.prog) hl (by rw [hrec]; simp); rw [hrec] at this; exact this, hstop _ c pre _ (Nat.le_refl _) hSp ((hIx c).putObj _ hi (by omega) hl rfl) ((World.putObj_heap_other (by omega)).trans hk)⟩

open Go.Proofs.Ytfmeababiedamaa.E Go.Proofs.Ytfmeababiedamaa.Sp
theorem valid13 (s : ByteArray) (w : World) : Calls Try.prog 70 #[.string s] w fun e w' => e = .returned (.bool (valid (ub s))) ∧ Drawn0 w w' :=
  M.name_Valid.calls 1002 s _ w (valid_at s 1002 (Nat.le_refl _))

/-- name.each -/
theorem each44 (n : Nat) (s : ByteArray) (w : World) :
    CallsIn Fence.wide n Try.prog 69 #[.string s] w fun e w' => e = .returned (.func (.func 74) #[] #[.pointer (some ⟨w.heap.size, 0, none⟩)]) ∧ w' = w.alloc (.cells #[.string s] 9) := by
  refine callsIn_of_wp Try.func69 rfl trivial ?_ rfl
  simp only [Try.ntmps69, List.size_toArray, List.length_cons, List.length_nil, Nat.reduceAdd, Nat.reduceSub, Array.replicate_succ, Array.replicate_zero, List.push_toArray, List.append_toArray, List.nil_append, List.cons_append]
  gi_wp2
  go_ret
  exact ⟨rfl, rfl⟩

/-- so far all are names, and there are not too many -/
def Fine (pre : List ByteArray) : Prop := pre.all (fun x => valid (ub x)) = true ∧ pre.length ≤ 8
theorem fine_isPath (s : ByteArray) (h : Fine (cutB s)) : isPath (ub s) = true := by
  unfold isPath; rw [← cutB_all, h.1, ← cutB_length, decide_eq_true h.2]; rfl
theorem bad_isPath (s : ByteArray) (pre : List ByteArray) (hp : pre <+: cutB s) (h : ¬ Fine pre) : isPath (ub s) = false := by
  rw [Bool.eq_false_iff]
  intro hi
  unfold isPath at hi
  rw [← cutB_all, ← cutB_length, Bool.and_eq_true, decide_eq_true_eq] at hi
  obtain ⟨r, hr⟩ := hp
  rw [← hr] at hi
  exact h ⟨by have := hi.1; rw [List.all_append, Bool.and_eq_true] at this; exact this.1, by have := hi.2; simp at this; omega⟩

structure Mid (n0 : Nat) (w : World) (pre : List ByteArray) (W : World) : Prop where
  row : ∃ v, Boxed W (n0 + 1 + 1) 30 v ∧ W.ownsRow (n0 + 4) 9 1 v pre.length (pre.map Value.string)
  b0 : Boxed W n0 30 (.slice none 0 0)
  b1 : Boxed W (n0 + 1) 33 (.int .i64 0)
  bel : Below n0 w W
  top : n0 + 4 ≤ W.heap.size
  fine : Fine pre
structure Gone (n0 : Nat) (w : World) (c : Code) (pre : List ByteArray) (W : World) : Prop where
  ret : c = .ret
  b0 : Boxed W n0 30 (.slice none 0 0)
  b1 : Boxed W (n0 + 1) 33 (.int .i64 10)
  bel : Below n0 w W
  bad : ¬ Fine pre
theorem own_block_ne {W : World} {base : Nat} {e : TypeId} {size k : Nat} {v : Value} {xs : List Value} (h : W.ownsRow base e size v k xs) {b : Nat} (hb : b < base) : some b ≠ v.ownBlock := by
  intro e'
  have := h.lt b e'.symm
  omega
theorem Mid.kept {n0 : Nat} {w W W' : World} {pre : List ByteArray} (h : Mid n0 w pre W) {row : Option Nat} (hg : W.grownBy W' row) (hr : ∀ r, row = some r → n0 + 3 ≤ r) (hc : ∀ r, row = some r → r = n0 + 3 ∨ ∃ o : Obj, W.heap[r]? = some o ∧ o.isCells = false) : Mid n0 w pre W' := by
  obtain ⟨⟨v, hv, ho⟩, b0, b1, bel, top, fine⟩ := h
  have ne : ∀ k, k < n0 + 3 → some k ≠ row := fun k hk e => by have := hr k e.symm; omega
  refine ⟨⟨v, hv.kept hg (ne _ (by omega)), ho.kept hg ?_⟩, b0.kept hg (ne _ (by omega)), b1.kept hg (ne _ (by omega)), ?_, Nat.le_trans top hg.size, fine⟩
  · cases hob : v.ownBlock with
    | none => exact .inl rfl
    | some g =>
      refine .inr fun e => ?_
      have hlt := ho.lt g hob
      rcases hc g e.symm with h3 | ⟨o, h4, h5⟩
      · omega
      · obtain ⟨cells, h6⟩ := own_typed ho g hob
        rw [h6] at h4; cases h4; cases h5
  · exact bel.grown hg (by have := b0.lt; omega) (fun k hk => by have := hr k hk; omega)
theorem Gone.kept {n0 : Nat} {w W W' : World} {c : Code} {pre : List ByteArray} (h : Gone n0 w c pre W) {row : Option Nat} (hg : W.grownBy W' row) (hr : ∀ r, row = some r → n0 + 3 ≤ r) : Gone n0 w c pre W' := by
  obtain ⟨ret, b0, b1, bel, bad⟩ := h
  have ne : ∀ k, k < n0 + 3 → some k ≠ row := fun k hk e => by have := hr k e.symm; omega
  exact ⟨ret, b0.kept hg (ne _ (by omega)), b1.kept hg (ne _ (by omega)), bel.grown hg (by have := b0.lt; omega) (fun k hk => by have := hr k hk; omega), bad⟩
theorem Mid.drewN {n0 : Nat} {w W : World} {pre : List ByteArray} (h : Mid n0 w pre W) (m : Nat) : Mid n0 w pre (W.drewN m) := by
  have hd : Below W.heap.size W (W.drewN m) := Drawn0.below ⟨⟨m, rfl⟩⟩
  have hh : (W.drewN m).heap = W.heap := World.heap_drewN _ _
  exact h.kept (row := none) ⟨hd.os, hd.tape, hd.output, hd.size, fun k hk _ => hd.block k hk⟩ (fun r e => by cases e) (fun r e => by cases e)

theorem own_drewN {W : World} {base : Nat} {e : TypeId} {size k : Nat} {v : Value} {xs : List Value} (h : W.ownsRow base e size v k xs) (m : Nat) : (W.drewN m).ownsRow base e size v k xs :=
  own_move h (fun j _ => by rw [World.heap_drewN])
theorem keepsOthers_drewN (W : World) (m : Nat) : KeepsOthers W (W.drewN m) := by
  have hd : Below W.heap.size W (W.drewN m) := Drawn0.below ⟨⟨m, rfl⟩⟩
  exact ⟨hd.size, fun k o hk _ => (hd.block k (Array.getElem?_eq_some_iff.1 hk).1).trans hk⟩
theorem boxed_other {W : World} {B : Nat} {t : TypeId} {v : Value} (h : Boxed W B t v) {b : Nat} (hb : B ≠ b) (u : Value) : Boxed (W.setCell ⟨b, 0, none⟩ u) B t v := (Below.heap_setCell _ _ _ _ hb).trans h
theorem stop_step {n0 : Nat} {w W : World} {pre : List ByteArray} {x : ByteArray} (h : Mid n0 w pre W) (hbad : ¬ Fine (pre ++ [x])) (B nd : Nat) :
    KeepsFrom B W (((W.drewN nd).setCell ⟨n0, 0, none⟩ (.slice none 0 0)).setCell ⟨n0 + 1, 0, none⟩ (.int .i64 10)) ∧
    KeepsBox (n0 + 1 + 1 + 1) W (((W.drewN nd).setCell ⟨n0, 0, none⟩ (.slice none 0 0)).setCell ⟨n0 + 1, 0, none⟩ (.int .i64 10)) ∧
    Gone n0 w .ret (pre ++ [x]) (((W.drewN nd).setCell ⟨n0, 0, none⟩ (.slice none 0 0)).setCell ⟨n0 + 1, 0, none⟩ (.int .i64 10)) := by
  obtain ⟨row, b0, b1, bel, top, fine⟩ := h.drewN nd
  refine ⟨(((keepsOthers_drewN W nd).trans (KeepsOthers.setCell _ _ _)).trans (KeepsOthers.setCell _ _ _)).from _, ?_, rfl, ?_, ?_, ?_, hbad⟩
  · show (((W.drewN nd).setCell _ _).setCell _ _).heap[_]? = _
    rw [Below.heap_setCell _ _ _ _ (by show n0 + 1 + 1 + 1 ≠ n0 + 1; omega), Below.heap_setCell _ _ _ _ (by show n0 + 1 + 1 + 1 ≠ n0; omega), World.heap_drewN]
  · exact boxed_other (b0.set _) (by omega) _
  · exact (boxed_other b1 (by omega) _).set _
  · exact (bel.setCell (p := ⟨n0, 0, none⟩) (Nat.le_refl _) _).setCell (p := ⟨n0 + 1, 0, none⟩) (by show n0 ≤ n0 + 1; omega) _
theorem app_step {n0 : Nat} {w W w1 : World} {pre : List ByteArray} {x : ByteArray} {v v' : Value} {tmp : Obj} {nd : Nat} (b0 : Boxed W n0 30 (.slice none 0 0)) (b1 : Boxed W (n0 + 1) 33 (.int .i64 0)) (bp : n0 + 4 ≤ W.heap.size) (bel : Below n0 w W)
    (hv : Boxed W (n0 + 1 + 1) 30 v) (hrow : W.ownsRow (n0 + 4) 9 1 v pre.length (pre.map Value.string)) (hfine : Fine (pre ++ [x]))
    (hown' : w1.ownsRow (n0 + 4) 9 1 v' (pre.length + 1) (pre.map Value.string ++ [Value.string x])) (hgrow : ((W.drewN nd).alloc tmp).grownBy w1 v.ownBlock) :
    Boxed w1 (n0 + 1 + 1) 30 v ∧ (∀ B, KeepsFrom B W (w1.setCell ⟨n0 + 1 + 1, 0, none⟩ v')) ∧ KeepsBox (n0 + 1 + 1 + 1) W (w1.setCell ⟨n0 + 1 + 1, 0, none⟩ v') ∧ Mid n0 w (pre ++ [x]) (w1.setCell ⟨n0 + 1 + 1, 0, none⟩ v') := by
  have hd : Below W.heap.size W (W.drewN nd) := Drawn0.below ⟨⟨nd, rfl⟩⟩
  have hh : (W.drewN nd).heap = W.heap := World.heap_drewN _ _
  have g0 : W.grownBy (W.drewN nd) none := ⟨hd.os, hd.tape, hd.output, hd.size, fun k hk _ => hd.block k hk⟩
  have ne : ∀ k, k < n0 + 4 → some k ≠ v.ownBlock := fun k hk => own_block_ne hrow hk
  have ne' : ∀ k, k < n0 + 4 → some k ≠ v'.ownBlock := fun k hk => own_block_ne hown' hk
  have step : ∀ {k t u}, Boxed W k t u → k < n0 + 4 → Boxed w1 k t u := fun h hk => (((h.kept g0 (by simp)).alloc tmp).kept hgrow (ne _ hk))
  have hv1 := step hv (by omega)
  refine ⟨hv1, ?_, ?_, ⟨⟨v', hv1.set _, ?_⟩, boxed_other (step b0 (by omega)) (by omega) _, boxed_other (step b1 (by omega)) (by omega) _, ?_, ?_, hfine⟩⟩
  · intro B
    refine (((keepsOthers_drewN W nd).trans (KeepsOthers.alloc _ tmp)).trans ?_ |>.trans (KeepsOthers.setCell _ _ _)).from _
    refine KeepsOthers.of_grownBy hgrow fun j o ej hj => ?_
    have hr2 := (own_drewN hrow nd).alloc tmp
    obtain ⟨cells, hc⟩ := own_typed hr2 j ej
    rw [hc] at hj; cases hj; rfl
  · show (w1.setCell _ _).heap[_]? = _
    rw [Below.heap_setCell _ _ _ _ (by show n0 + 1 + 1 + 1 ≠ n0 + 1 + 1; omega), hgrow.block _ (by simp [hh]; omega) (ne _ (by omega)), Below.heap_alloc _ _ _ (by rw [hh]; omega), hh]
  · have := hown'.kept (grownBy_setCell' w1 (n0 + 1 + 1) v') (.inr (fun e => ne' (n0 + 1 + 1) (by omega) e.symm))
    simpa using this
  · refine (((bel.grown g0 (by have := hv.lt; omega) (fun k e => by cases e)).alloc (by rw [hh]; have := hv.lt; omega) tmp).grown hgrow (by simp [hh]; have := hv.lt; omega) (fun k e => ?_)).setCell (p := ⟨n0 + 1 + 1, 0, none⟩) (by show n0 ≤ n0 + 1 + 1; omega) _
    have := hrow.lt k e; omega
  · have := hgrow.size; simp [hh] at this; show n0 + 4 ≤ (w1.setCell _ _).heap.size; rw [show (w1.setCell _ _).heap.size = w1.heap.size from by simp [World.setCell]]; omega

/-- a row of strings of the call's own, as the printed contracts tell it -/
theorem R_of_owns {W : World} {base : Nat} {v : Value} {xs : List ByteArray} (h : W.ownsRow base 9 1 v xs.length (xs.map Value.string)) : Kd.R Kd.string 9 W base (fun _ => True) v xs :=
  Kd.R_of_own h (fun _ _ => trivial)
theorem info9 : (Try.prog.info? 9).map (fun i => (i.zero, i.size, i.bytes)) = some (some (.string ⟨#[]⟩), 1, 16) := by kernel_rfl

set_option maxRecDepth 100000 in
set_option maxHeartbeats 2000000 in
/-- name.Parts -/
theorem parts35 (s : ByteArray) (hs : s.size ≤ 1000) (w : World) :
    Calls Try.prog 61 #[.string s] w fun e w' => ∃ v0_ : Value, e = .returned (.tuple #[v0_, .int .i64 (partsB s).2]) ∧ Kd.R Kd.string 9 w' w.heap.size (fun _ => True) v0_ (partsB s).1 ∧ Below w.heap.size w w' := by
  obtain ⟨i0, hi, hz0, hz1, hz2⟩ := info_parts info9
  have hcl := cutB_len s
  have hcs := cutB_size s
  refine (callsIn_wide (n := 5)).1 ?_
  refine callsIn_of_wp_marks Try.func61 rfl trivial ?_ rfl
  simp only [Try.ntmps61, List.size_toArray, List.length_cons, List.length_nil, Nat.reduceAdd, Nat.reduceSub, Array.replicate_succ, Array.replicate_zero, List.push_toArray, List.append_toArray, List.nil_append, List.cons_append]
  gi_wp2_with (refine ⟨trivial, ?_⟩; gi_at_call 69; refine (each44 _ s _).mono ?_; rintro e w' ⟨rfl, rfl⟩)
  have bO0 := Boxed.new w 30 (.slice none 0 0)
  have bO1 := Boxed.new (w.alloc (.cells #[.slice none 0 0] 30)) 33 (.int .i64 0)
  have bL := Boxed.new ((w.alloc (.cells #[.slice none 0 0] 30)).alloc (.cells #[.int .i64 0] 33)) 30 (.slice none 0 0)
  have bP := Boxed.new (((w.alloc (.cells #[.slice none 0 0] 30)).alloc (.cells #[.int .i64 0] 33)).alloc (.cells #[.slice none 0 0] 30)) 9 (.string s)
  have hB0 : Below w.heap.size w ((((w.alloc (.cells #[.slice none 0 0] 30)).alloc (.cells #[.int .i64 0] 33)).alloc (.cells #[.slice none 0 0] 30)).alloc (.cells #[.string s] 9)) :=
    ((((Below.refl _ w).alloc (Nat.le_refl _) _).alloc (by simp) _).alloc (by simp; omega) _).alloc (by simp; omega) _
  rw [World.size_alloc] at bO1 bL bP
  rw [World.size_alloc] at bL bP
  rw [World.size_alloc] at bP
  have m0 : Mid w.heap.size w [] ((((w.alloc (.cells #[.slice none 0 0] 30)).alloc (.cells #[.int .i64 0] 33)).alloc (.cells #[.slice none 0 0] 30)).alloc (.cells #[.string s] 9)) :=
    ⟨⟨_, bL.alloc _, World.ownsRow_nil _ _ _ _⟩, ((bO0.alloc _).alloc _).alloc _, (bO1.alloc _).alloc _, hB0, by simp, by simp [Fine]⟩
  refine range_each (by omega) rfl (by omega) bP rfl (Mid w.heap.size w) (Gone w.heap.size w)
    (fun pre A B row h hg hr => h.kept hg (fun r e => by have := (hr r e).1; simp at this; omega) (fun r e => .inr (hr r e).2))
    (fun c pre A B row h hg hr => h.kept hg (fun r e => by have := (hr r e).1; simp at this; omega))
    (fun pre W v h => h.kept (grownBy_setCell' _ _ _) (fun r e => by cases e; omega) (fun r e => by cases e; exact .inl (by omega)))
    (fun pre W m h => h.drewN m)
    (fun c pre W v h => h.kept (grownBy_setCell' _ _ _) (fun r e => by cases e; omega))
    m0
    (fun x => { tmps := #[.string s, undef, .pointer (some ⟨w.heap.size, 0, none⟩), .pointer (some ⟨w.heap.size + 1, 0, none⟩), .pointer (some ⟨w.heap.size + 1 + 1, 0, none⟩), .string x, .string s, .func (.func 74) #[] #[.pointer (some ⟨w.heap.size + 1 + 1 + 1, 0, none⟩)], .string x, undef, undef, undef, undef, undef, undef, undef, undef, undef, undef, undef, undef, undef], defers := [] }) ?assign ?body ?done ?stop
  case assign =>
    intro l x W K hK
    gi_wp2
    exact hK
  case body =>
    intro l pre x W hm
    obtain ⟨⟨v, hv, hrow⟩, b0, b1, hB, htop, hfine⟩ := hm
    obtain ⟨A, c, rfl⟩ : ∃ A c, v = .slice A pre.length c := by
      rcases hrow.2 with ⟨rfl, h0⟩ | ⟨g, cap, cur, rfl, _⟩
      · exact ⟨none, 0, by rw [h0]⟩
      · exact ⟨_, _, rfl⟩
    have hc := hv.cell
    have hf := hv.frozen
    have c0 := b0.cell
    have f0 := b0.frozen
    have c1 := b1.cell
    have f1 := b1.frozen
    have hV := valid13 x
    obtain ⟨bv, hbv⟩ : ∃ bv, valid (ub x) = bv := ⟨_, rfl⟩
    rw [hbv] at hV
    have Hbv := Lib.hid hbv
    have Hfine := Lib.hid hfine
    have hfl : pre.length ≤ 8 := hfine.2
    clear hbv hfine
    cases bv
    · gi_wp2_with (refine ⟨trivial, ?_⟩; gi_at_call 70; refine (CallsIn.inRound l (callsIn_wide.2 (hV _))).mono ?_; rintro e w' ⟨rfl, ⟨⟨nd, rfl⟩⟩⟩)
      exact stop_step ⟨⟨_, hv, hrow⟩, b0, b1, hB, htop, Hfine.out⟩ (fun h => by have := h.1; simp [Hbv.out] at this) _ _
    · by_cases h8 : pre.length = 8
      · have h8' : ((pre.length : Int) == 8) = true := by simp [h8]
        have H8 := Lib.hid h8
        clear h8
        gi_wp2_with (refine ⟨trivial, ?_⟩; gi_at_call 70; refine (CallsIn.inRound l (callsIn_wide.2 (hV _))).mono ?_; rintro e w' ⟨rfl, ⟨⟨nd, rfl⟩⟩⟩)
        exact stop_step ⟨⟨_, hv, hrow⟩, b0, b1, hB, htop, Hfine.out⟩ (fun h => by have := h.2; rw [List.length_append, List.length_singleton, H8.out] at this; omega) _ _
      · have h8' : ((pre.length : Int) == 8) = false := by simp; omega
        have hlt : pre.length < 8 := by omega
        clear h8
        gi_wp2_with (first | (refine ⟨trivial, ?_⟩; gi_at_call 70; refine (CallsIn.inRound l (callsIn_wide.2 (hV _))).mono ?_; rintro e w' ⟨rfl, ⟨⟨nd, rfl⟩⟩⟩; have hrowd := own_drewN hrow nd) | (gi_at_builtin; go_must (refine wpListIn_append_own _ rfl _ _ 30 rfl (w.heap.size + 4) 9 i0 (.string ⟨#[]⟩) 1 16 Try.underlying30 hi hz0 hz1 hz2 rfl (by decide) _ _ _ rfl (hrowd.alloc _) ⟨W.heap.size, 0, none⟩ 1 1 [.string x] rfl rfl (cell_one_new _ _ _) (by simp [Value.oneCell']) (by unfold maxLen; omega) (by omega) (by simp; omega) ?_); intro v' w1 hown' hgrow _; obtain ⟨g', cap', rfl⟩ := ownsRow_succ hown'; obtain ⟨hv1, hk1, hk2, hk3⟩ := app_step b0 b1 htop hB hv hrow ⟨by rw [List.all_append, Hfine.out.1]; simp [Hbv.out], by simp; omega⟩ hown' hgrow; have hc1 := hv1.cell; have hf1 := hv1.frozen))
        exact ⟨hk1 _, hk2, hk3⟩
  case done =>
    intro D W hD hm hK
    obtain ⟨⟨v, hv, hrow⟩, b0, b1, hB, htop, hfine⟩ := hm
    obtain ⟨A, c, rfl⟩ : ∃ A c, v = .slice A (cutB s).length c := by
      rcases hrow.2 with ⟨rfl, h0⟩ | ⟨g, cap, cur, rfl, _⟩
      · exact ⟨none, 0, by rw [h0]⟩
      · exact ⟨_, _, rfl⟩
    have hc := hv.cell
    have hf := hv.frozen
    have c0 := b0.cell
    have f0 := b0.frozen
    have c1 := b1.cell
    have f1 := b1.frozen
    gi_wp2
    have hD' : w.heap.size + 4 ≤ D := by simp at hD; omega
    have hK' : ((W.setCell ⟨w.heap.size, 0, none⟩ (.slice A (cutB s).length c)).setCell ⟨w.heap.size + 1, 0, none⟩ (.int .i64 0)).heap[D]? = some (.deferred (some [])) := by
      rw [Below.heap_setCell _ _ _ _ (by show D ≠ w.heap.size + 1; omega), Below.heap_setCell _ _ _ _ (by show D ≠ w.heap.size; omega)]; exact hK
    refine ⟨by simp, .inl ⟨_, _, rfl, run_takeDeferred hK', ?_⟩⟩
    have d0 : Boxed (((W.setCell ⟨w.heap.size, 0, none⟩ (.slice A (cutB s).length c)).setCell ⟨w.heap.size + 1, 0, none⟩ (.int .i64 0)).putObj D (.deferred none)) w.heap.size 30 (.slice A (cutB s).length c) :=
      boxed_putObj (boxed_other (b0.set _) (by omega) _) _ _ (by omega)
    have d1 : Boxed (((W.setCell ⟨w.heap.size, 0, none⟩ (.slice A (cutB s).length c)).setCell ⟨w.heap.size + 1, 0, none⟩ (.int .i64 0)).putObj D (.deferred none)) (w.heap.size + 1) 33 (.int .i64 0) :=
      boxed_putObj ((boxed_other b1 (by omega) _).set _) _ _ (by omega)
    have q0 := d0.cell
    have q1 := d1.cell
    have hfin : (((W.setCell ⟨w.heap.size, 0, none⟩ (.slice A (cutB s).length c)).setCell ⟨w.heap.size + 1, 0, none⟩ (.int .i64 0)).putObj D (.deferred none)).ownsRow (w.heap.size + 4) 9 1 (.slice A (cutB s).length c) (cutB s).length ((cutB s).map Value.string) := by
      refine ownsRow_putObj ((hrow.kept (grownBy_setCell' _ _ _) (.inr (fun e => own_block_ne hrow (by omega) e.symm))).kept (grownBy_setCell' _ _ _) (.inr (fun e => own_block_ne hrow (by omega) e.symm))) (l := D) (o := .deferred (some [])) _ hK' rfl
    have hbel : Below w.heap.size w (((W.setCell ⟨w.heap.size, 0, none⟩ (.slice A (cutB s).length c)).setCell ⟨w.heap.size + 1, 0, none⟩ (.int .i64 0)).putObj D (.deferred none)) :=
      ((hB.setCell (p := ⟨w.heap.size, 0, none⟩) (Nat.le_refl _) _).setCell (p := ⟨w.heap.size + 1, 0, none⟩) (by show w.heap.size ≤ w.heap.size + 1; omega) _).grown (grownBy_putObj' _ _ _) (by simp; omega) (fun k e => by cases e; omega)
    have Hp : Hid (partsB s = (cutB s, 0)) := Lib.hid (by simp [partsB, fine_isPath s hfine])
    refine ⟨.tuple #[.slice A (cutB s).length c, .int .i64 0], by simp [results, Try.results61, go_sem, q0, q1], _, by rw [Hp.out], ?_, hbel⟩
    rw [Hp.out]
    exact R_of_owns (own_weaken hfin (by omega))
  case stop =>
    intro D c pre W hD hp hg hK
    obtain ⟨rfl, b0, b1, hB, hbad⟩ := hg
    have c0 := b0.cell
    have c1 := b1.cell
    gi_wp2
    refine ⟨by simp, .inl ⟨_, _, rfl, run_takeDeferred hK, ?_⟩⟩
    have hD' : w.heap.size + 4 ≤ D := by simp at hD; omega
    have d0 : Boxed (W.putObj D (.deferred none)) w.heap.size 30 (.slice none 0 0) := boxed_putObj b0 _ _ (by omega)
    have d1 : Boxed (W.putObj D (.deferred none)) (w.heap.size + 1) 33 (.int .i64 10) := boxed_putObj b1 _ _ (by omega)
    have q0 := d0.cell
    have q1 := d1.cell
    have hbel : Below w.heap.size w (W.putObj D (.deferred none)) := hB.grown (grownBy_putObj' _ _ _) hB.size (fun k e => by cases e; omega)
    have Hp : Hid (partsB s = ([], 10)) := Lib.hid (by simp [partsB, bad_isPath s pre hp hbad])
    refine ⟨.tuple #[.slice none 0 0, .int .i64 10], by simp [results, Try.results61, go_sem, q0, q1], _, by rw [Hp.out], ?_, hbel⟩
    rw [Hp.out]
    exact Kd.R_nil _ _ _ _ _
end Go.Proofs.Ytfmeababiedamaa.D

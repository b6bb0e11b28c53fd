/- found, place.Check, place.Local, walked. -/
import Derived.Test.YtfmeababiedamaaV38
namespace Go.Proofs.Ytfmeababiedamaa.V13
open Go.RowKit Go.Shelf Go.Proofs.YtfmeababiedamaaW.PrintWords Go.Proofs.YtfmeababiedamaaW.PrintLast Go.Proofs.YtfmeababiedamaaW.PrintMore
open Go.Proofs.Ytfmeababiedamaa Go.Proofs.Ytfmeababiedamaa.M Go.Proofs.Ytfmeababiedamaa.Sp Go.Proofs.Ytfmeababiedamaa.E Go.Proofs.Ytfmeababiedamaa.G Go.Proofs.Ytfmeababiedamaa.A Go.Proofs.Ytfmeababiedamaa.T Go.Proofs.Ytfmeababiedamaa.K Go.Proofs.Ytfmeababiedamaa.X Go.Proofs.Ytfmeababiedamaa.V38
set_option linter.unusedVariables false
set_option linter.unusedSimpArgs false

theorem blk5 {w : World} {g : Nat} {t : TypeId} {v0 v1 v2 v3 v4 : Value} (h : w.heap[g]? = some (.cells #[v0, v1, v2, v3, v4] t (0, 0))) (u0 u1 u2 u3 u4 : Value) :
    (((((w.setCell ⟨g, 0, none⟩ u0).setCell ⟨g, 1, none⟩ u1).setCell ⟨g, 2, none⟩ u2).setCell ⟨g, 3, none⟩ u3).setCell ⟨g, 4, none⟩ u4).heap[g]? = some (.cells #[u0, u1, u2, u3, u4] t (0, 0)) :=
  blk_put (cs := #[u0, u1, u2, u3, v4]) (blk_put (cs := #[u0, u1, u2, v3, v4]) (blk_put (cs := #[u0, u1, v2, v3, v4]) (blk_put (cs := #[u0, v1, v2, v3, v4]) (blk_put (cs := #[v0, v1, v2, v3, v4]) h 0 _ rfl) 1 _ rfl) 2 _ rfl) 3 _ rfl) 4 _ rfl
def found5 (p : S32 × Int) : Value := .agg #[.string p.1.f0, .int .i64 p.1.f1, .int .i64 p.1.f2, .int .i64 p.1.f3, .int .i64 p.2]
set_option maxHeartbeats 4000000 in
set_option maxRecDepth 100000 in
theorem found13 (a : Addr) (c : Nat) (l : List S32) (s : ByteArray) (w : World) (hl : Small l) (h0 : 0 < l.length) (hs : s.size ≤ 1000) (hr : Kd.C k32 w (some a) l.length l) (hc : l.length ≤ c) :
    Calls Try.prog 13 #[.agg #[.slice (some a) l.length c], .string s] w fun e w' => e = .returned (found5 (findL l s)) ∧ Below w.heap.size w w' := by
  have hu27 := Try.underlying27
  have hu35 := Try.underlying35
  have hu32 := Try.underlying32
  have HB := Aside0.mk (below_alloc (below_alloc (Below.refl w.heap.size w) (.cells #[.slice (some a) l.length c] 27)) (.cells #[.string ⟨#[]⟩, .int .i64 0, .int .i64 0, .int .i64 0, .int .i64 0] 35))
  have B1 := Aside0.mk (blk_new (w.alloc (.cells #[.slice (some a) l.length c] 27)) (.cells #[.string ⟨#[]⟩, .int .i64 0, .int .i64 0, .int .i64 0, .int .i64 0] 35))
  rw [World.size_alloc] at B1
  have P38 := find38 a c l s _ hl h0 hs (Kd.C_below hr HB.out) hc
  generalize findL l s = p at P38 ⊢
  go_enter Try.func13, Try.ntmps13
  go_wp2_with (go_at_call 38; refine P38.mono ?_; rintro e w4 ⟨rfl, hb4⟩; have B1e := Aside0.mk (blk_alloc (blk_below B1.out hb4) (.cells #[.string p.1.f0, .int .i64 p.1.f1, .int .i64 p.1.f2, .int .i64 p.1.f3] 32)); have HBe := Aside0.mk (below_alloc (below_step HB.out hb4) (.cells #[.string p.1.f0, .int .i64 p.1.f1, .int .i64 p.1.f2, .int .i64 p.1.f3] 32)); have z0 := (blk_cell B1e.out 0).trans rfl; have y0 := blk_frozen B1e.out 0; have z1 := (blk_cell B1e.out 1).trans rfl; have y1 := blk_frozen B1e.out 1; have z2 := (blk_cell B1e.out 2).trans rfl; have y2 := blk_frozen B1e.out 2; have z3 := (blk_cell B1e.out 3).trans rfl; have y3 := blk_frozen B1e.out 3; have z4 := (blk_cell B1e.out 4).trans rfl; have y4 := blk_frozen B1e.out 4)
  refine bodyPost_ret (results_cell_row rfl _ _ (w.heap.size + 1) 35 #[.string p.1.f0, .int .i64 p.1.f1, .int .i64 p.1.f2, .int .i64 p.1.f3, .int .i64 p.2] (0, 0) _ rfl (blk5 B1e.out _ _ _ _ _) Try.underlying35 rfl (by kernel_rfl)) rfl ?_
  exact ⟨rfl, below_set (below_set (below_set (below_set (below_set HBe.out (by omega)) (by omega)) (by omega)) (by omega)) (by omega)⟩

def checkL (l : List S32) (s : ByteArray) (ep : Int) : Int := if isPath (ub s) then (if (findL l s).1.f3 = ep then 0 else 241) else 10
set_option maxHeartbeats 4000000 in
set_option maxRecDepth 100000 in
theorem check21 (a : Addr) (c : Nat) (l : List S32) (s : ByteArray) (ep : Int) (w : World) (hl : Small l) (h0 : 0 < l.length) (hs : s.size ≤ 1000) (hr : Kd.C k32 w (some a) l.length l) (hc : l.length ≤ c) :
    Calls Try.prog 21 #[.agg #[.slice (some a) l.length c], .string s, .int .i64 ep] w fun e w' => e = .returned (.int .i64 (checkL l s ep)) ∧ Below w.heap.size w w' := by
  have hu27 := Try.underlying27
  have hu32 := Try.underlying32
  have HB := Aside0.mk (below_alloc (Below.refl w.heap.size w) (.cells #[.slice (some a) l.length c] 27))
  have P38 := find38 a c l s _ hl h0 hs (Kd.C_below hr HB.out) hc
  have e1 : findL l s = if isPath (ub s) then (rd_T32 l (idxL l s : Int), 0) else (z32, 10) := rfl
  by_cases hp : isPath (ub s) = true
  · have e2 : (findL l s).2 = 0 := by rw [e1, if_pos hp]
    have Hp := Lib.hid hp
    have hb1 : ((0 : Int) == 0) = true := by decide
    clear e1 hp
    by_cases he : (findL l s).1.f3 = ep
    · have He := Lib.hid (show checkL l s ep = 0 by unfold checkL; rw [if_pos Hp.out, if_pos he])
      rw [e2] at P38
      generalize (findL l s).1 = p at P38 he
      subst he
      go_enter Try.func21, Try.ntmps21
      go_wp2_with (go_at_call 38; refine P38.mono ?_; rintro e w4 ⟨rfl, hb4⟩; have HBe := Aside0.mk (below_alloc (below_step HB.out hb4) (.cells #[.string p.f0, .int .i64 p.f1, .int .i64 p.f2, .int .i64 p.f3] 32)))
      go_ret
      exact ⟨by rw [He.out]; rfl, HBe.out⟩
    · have He := Lib.hid (show checkL l s ep = 241 by unfold checkL; rw [if_pos Hp.out, if_neg he])
      rw [e2] at P38
      generalize (findL l s).1 = p at P38 he
      have hb : (p.f3 == ep) = false := by simpa using he
      go_enter Try.func21, Try.ntmps21
      go_wp2_with (go_at_call 38; refine P38.mono ?_; rintro e w4 ⟨rfl, hb4⟩; have HBe := Aside0.mk (below_alloc (below_step HB.out hb4) (.cells #[.string p.f0, .int .i64 p.f1, .int .i64 p.f2, .int .i64 p.f3] 32)))
      go_ret
      exact ⟨by rw [He.out]; rfl, HBe.out⟩
  · have e2 : (findL l s).2 = 10 := by rw [e1, if_neg hp]
    have He := Lib.hid (show checkL l s ep = 10 by unfold checkL; rw [if_neg hp])
    rw [e2] at P38
    clear e1 hp
    generalize (findL l s).1 = p at P38
    go_enter Try.func21, Try.ntmps21
    go_wp2_with (go_at_call 38; refine P38.mono ?_; rintro e w4 ⟨rfl, hb4⟩; have HBe := Aside0.mk (below_alloc (below_step HB.out hb4) (.cells #[.string p.f0, .int .i64 p.f1, .int .i64 p.f2, .int .i64 p.f3] 32)))
    go_ret
    exact ⟨by rw [He.out]; rfl, HBe.out⟩

def localL (p : S32) (s : ByteArray) : ByteArray × Int :=
  if isPath (ub s) then (if below (ub s) (ub p.f0) then (if p.f0.toList = [] ∨ s.toList = p.f0.toList then (s.extract p.f0.size s.size, 0) else (s.extract (p.f0.size + 1) s.size, 0)) else (⟨#[]⟩, 240)) else (⟨#[]⟩, 10)
set_option maxHeartbeats 4000000 in
set_option maxRecDepth 100000 in
theorem local22 (p : S32) (s : ByteArray) (w : World) (hp : p.f0.size ≤ 1000) (hs : s.size ≤ 1000) :
    Calls Try.prog 22 #[pv p, .string s] w fun e w' => e = .returned (.tuple #[.string (localL p s).1, .int .i64 (localL p s).2]) ∧ Below w.heap.size w w' := by
  have hu32 := Try.underlying32
  have HB := Aside0.mk (below_alloc (Below.refl w.heap.size w) (.cells #[.string p.f0, .int .i64 p.f1, .int .i64 p.f2, .int .i64 p.f3] 32))
  have B1 := Aside0.mk (blk_new w (.cells #[.string p.f0, .int .i64 p.f1, .int .i64 p.f2, .int .i64 p.f3] 32))
  have P43 := path43 s hs
  have P44 := below44 s p.f0 hp
  have hbs := below_size (ub s) (ub p.f0)
  rw [ub_size, ub_size] at hbs
  obtain ⟨b1, h1⟩ : ∃ b, isPath (ub s) = b := ⟨_, rfl⟩
  obtain ⟨b2, h2⟩ : ∃ b, below (ub s) (ub p.f0) = b := ⟨_, rfl⟩
  rw [h1] at P43
  rw [h2] at P44 hbs
  have H1 := Lib.hid h1
  have H2 := Lib.hid h2
  clear h1 h2
  have A43 : ∀ {w5 : World}, Below (w.alloc (.cells #[.string p.f0, .int .i64 p.f1, .int .i64 p.f2, .int .i64 p.f3] 32)).heap.size (w.alloc (.cells #[.string p.f0, .int .i64 p.f1, .int .i64 p.f2, .int .i64 p.f3] 32)) w5 → Below w.heap.size w w5 ∧ w5.cell? ⟨w.heap.size, 0, none⟩ = some (.string p.f0) := fun hb => ⟨below_step HB.out hb, (blk_cell (blk_below B1.out hb) 0).trans rfl⟩
  cases b1
  · go_enter Try.func22, Try.ntmps22
    go_wp2_with (go_at_call 43; refine (P43 _).mono ?_; rintro e w5 ⟨rfl, hb5⟩; obtain ⟨hB, c0⟩ := A43 hb5; have HBd := Aside0.mk hB)
    go_ret2
    have e : localL p s = (⟨#[]⟩, 10) := by unfold localL; rw [H1.out]; rfl
    rw [e]
    exact ⟨rfl, HBd.out⟩
  · cases b2
    · go_enter Try.func22, Try.ntmps22
      go_wp2_with (first | (go_at_call 43; refine (P43 _).mono ?_; rintro e w5 ⟨rfl, hb5⟩; obtain ⟨hB, c0⟩ := A43 hb5; have HBd := Aside0.mk hB) | (go_at_call 44; refine (P44 _).mono ?_; rintro e w6 ⟨rfl, ⟨⟨nd, rfl⟩⟩⟩))
      go_ret2
      have e : localL p s = (⟨#[]⟩, 240) := by unfold localL; rw [H1.out, H2.out]; rfl
      rw [e]
      exact ⟨rfl, pw_below_drewN HBd.out nd⟩
    · by_cases h3 : p.f0.toList = []
      · have h3' : (p.f0.toList == ([] : List UInt8)) = true := by simpa using h3
        have hz : p.f0.size = 0 := by rw [← ub_size, ← tl, h3]; rfl
        have hzs : p.f0.size ≤ s.size := by omega
        have H3 := Lib.hid h3
        have HZ := Lib.hid hz
        clear hbs h3 hz
        go_enter Try.func22, Try.ntmps22
        go_wp2_with (first | (go_at_call 43; refine (P43 _).mono ?_; rintro e w5 ⟨rfl, hb5⟩; obtain ⟨hB, c0⟩ := A43 hb5; have HBd := Aside0.mk hB) | (go_at_call 44; refine (P44 _).mono ?_; rintro e w6 ⟨rfl, ⟨⟨nd, rfl⟩⟩⟩))
        go_ret2
        have e : localL p s = (s.extract p.f0.size s.size, 0) := by unfold localL; rw [H1.out, H2.out, if_pos rfl, if_pos rfl, if_pos (.inl H3.out)]
        rw [e]
        exact ⟨rfl, pw_below_drewN HBd.out nd⟩
      · have h3' : (p.f0.toList == ([] : List UInt8)) = false := by simpa using h3
        by_cases h4 : s.toList = p.f0.toList
        · have h4' : (s.toList == p.f0.toList) = true := by simpa using h4
          have hzs : p.f0.size ≤ s.size := by rw [← ub_size, ← ub_size s, ← tl, ← tl, h4]; exact Nat.le_refl _
          have H3 := Lib.hid h3
          have H4 := Lib.hid h4
          clear hbs h3 h4
          go_enter Try.func22, Try.ntmps22
          go_wp2_with (first | (go_at_call 43; refine (P43 _).mono ?_; rintro e w5 ⟨rfl, hb5⟩; obtain ⟨hB, c0⟩ := A43 hb5; have HBd := Aside0.mk hB) | (go_at_call 44; refine (P44 _).mono ?_; rintro e w6 ⟨rfl, ⟨⟨nd, rfl⟩⟩⟩))
          go_ret2
          have e : localL p s = (s.extract p.f0.size s.size, 0) := by unfold localL; rw [H1.out, H2.out, if_pos rfl, if_pos rfl, if_pos (.inr H4.out)]
          rw [e]
          exact ⟨rfl, pw_below_drewN HBd.out nd⟩
        · have h4' : (s.toList == p.f0.toList) = false := by simpa using h4
          have hzs : p.f0.size + 1 ≤ s.size := (hbs rfl (by rw [← tl, ← tl]; exact h4) (by rw [← tl]; exact h3)).1
          have g1 : IntKind.i64.wrap ((p.f0.size : Int) + 1) = p.f0.size + 1 := IntWalk.i64_in _ (by omega)
          have g2 : 0 ≤ (p.f0.size : Int) + 1 := by omega
          have g3 : ((p.f0.size : Int) + 1).toNat = p.f0.size + 1 := by omega
          have H3 := Lib.hid h3
          have H4 := Lib.hid h4
          clear hbs h3 h4
          go_enter Try.func22, Try.ntmps22
          go_wp2_with (first | (go_at_call 43; refine (P43 _).mono ?_; rintro e w5 ⟨rfl, hb5⟩; obtain ⟨hB, c0⟩ := A43 hb5; have HBd := Aside0.mk hB) | (go_at_call 44; refine (P44 _).mono ?_; rintro e w6 ⟨rfl, ⟨⟨nd, rfl⟩⟩⟩))
          go_ret2
          have e : localL p s = (s.extract (p.f0.size + 1) s.size, 0) := by unfold localL; rw [H1.out, H2.out, if_pos rfl, if_pos rfl, if_neg (fun h => h.elim H3.out H4.out)]
          rw [e]
          exact ⟨rfl, pw_below_drewN HBd.out nd⟩
end Go.Proofs.Ytfmeababiedamaa.V13

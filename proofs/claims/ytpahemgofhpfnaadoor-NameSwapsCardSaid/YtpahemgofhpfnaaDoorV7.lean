/- NameSwaps, walked. -/
import Derived.Test.YtpahemgofhpfnaaDoorH
import Derived.Test.YtpahemgofhpfnaaDoorL
namespace Go.Proofs.YtpahemgofhpfnaaDoor.V7
open Go.RowKit Go.Shelf Go.Proofs.YtpahemgofhpfnaaDoorW.PrintWords Go.Proofs.YtpahemgofhpfnaaDoorW.PrintLast Go.Proofs.YtpahemgofhpfnaaDoorW.PrintMore
open Go.Proofs.YtpahemgofhpfnaaDoor Go.Proofs.YtpahemgofhpfnaaDoor.D Go.Proofs.YtpahemgofhpfnaaDoor.E Go.Proofs.YtpahemgofhpfnaaDoor.F Go.Proofs.YtpahemgofhpfnaaDoor.Sp Go.Proofs.YtpahemgofhpfnaaDoor.K Go.Proofs.YtpahemgofhpfnaaDoor.H Go.Proofs.YtpahemgofhpfnaaDoor.L
set_option linter.unusedVariables false
set_option linter.unusedSimpArgs false

theorem bel {w a b : World} (h : Below w.heap.size w a) (k : Below a.heap.size a b) : Below w.heap.size w b := h.trans (k.mono h.size)
theorem longB_size (l : List Int) : (longB l).size ≤ 170 := by unfold longB; rw [bx_size]; exact long_size l

set_option maxHeartbeats 2000000 in
set_option maxRecDepth 100000 in
theorem swaps7 (A0 A1 A2 : Option Addr) (c0 c1 c2 : Nat) (l0 l1 l2 : List Int) (w : World)
    (r0 : Kd.C (Kd.int .u8) w A0 l0.length l0) (r1 : Kd.C (Kd.int .u8) w A1 l1.length l1) (r2 : Kd.C (Kd.int .u8) w A2 l2.length l2)
    (h0 : l0.length ≤ c0) (h1 : l1.length ≤ c1) (h2 : l2.length ≤ c2) (n0 : ∀ x ∈ l0, 0 ≤ x) (n1 : ∀ x ∈ l1, 0 ≤ x) (n2 : ∀ x ∈ l2, 0 ≤ x) :
    Calls Tryd.prog 7 #[.slice A0 l0.length c0, .slice A1 l1.length c1, .slice A2 l2.length c2] w fun e w' => e = .returned (.bool true) ∧ Below w.heap.size w w' := by
  have zq := longB_size l0
  have zf := longB_size l1
  have zt := longB_size l2
  have law := swaps_law (longB l0) (longB l1) (longB l2) (fun r => by unfold longB; rw [ub_bx]; exact long_last l0 r)
  have C0 := fun w => long12 A0 c0 l0 n0 w
  have C1 := fun w => long12 A1 c1 l1 n1 w
  have C2 := fun w => long12 A2 c2 l2 n2 w
  have S1 := fun w => swap26 (longB l0) (longB l1) (longB l2) (by omega) (by omega) (by omega) w
  have B1 := fun w => below24 (longB l0) (longB l1) (by omega) w
  have zx : (swapB (longB l0) (longB l1) (longB l2)).1.size ≤ 400 := by
    unfold swapB
    split
    · show (longB l2).size ≤ 400; omega
    · split
      · split <;> split <;> simp only [size_app, size_ext] <;> first | omega | (show _ + 1 + _ ≤ 400; omega)
      · show (longB l0).size ≤ 400; omega
  generalize longB l0 = q at *
  generalize longB l1 = f at *
  generalize longB l2 = t at *
  have S2 := fun w => swap26 (swapB q f t).1 t f (by omega) (by omega) (by omega) w
  have B2 := fun w => below24 (swapB q f t).1 t (by omega) w
  obtain ⟨law1, law2, law3⟩ := law
  generalize swapB q f t = x at *
  obtain ⟨xq, xi⟩ := x
  dsimp only at law1 law2 law3 S1 S2 B2
  rw [← law1] at B1
  clear law1
  have X2 := Lib.hid law2
  have X3 := Lib.hid law3
  clear law2 law3
  go_enter Tryd.func7, Tryd.ntmps7
  go_wp2_with fail
  refine (sanity11 _).mono ?_
  rintro e w1 ⟨rfl, hb1⟩
  go_wp2_with fail
  refine (C0 _ (Kd.C_below r0 hb1) h0).mono ?_
  rintro e w2 ⟨rfl, hb2⟩
  have b2 := bel hb1 hb2
  go_wp2_with fail
  refine (C1 _ (Kd.C_below r1 b2) h1).mono ?_
  rintro e w3 ⟨rfl, hb3⟩
  have b3 := bel b2 hb3
  go_wp2_with fail
  refine (C2 _ (Kd.C_below r2 b3) h2).mono ?_
  rintro e w4 ⟨rfl, hb4⟩
  have b4 := bel b3 hb4
  clear hb1 hb2 hb3 hb4 b2 b3 C0 C1 C2 r0 r1 r2
  go_wp2_with fail
  refine (S1 _).mono ?_
  rintro e w5 ⟨rfl, hb5⟩
  have b5 := bel b4 hb5
  clear hb5 b4 S1
  go_wp2_with fail
  cases xi
  · have e2 := X2.out rfl
    subst e2
    go_quiet ((go_at_call 24; exact Calls.quiet_of ((B1 _).mono fun _ _ ⟨he, hd⟩ => ⟨he, hd.out⟩)))
    go_wp2
    go_ret
    exact ⟨rfl, by repeat (first | exact b5 | apply below_drewN | exact (b5.alloc b5.size _))⟩
  · obtain ⟨e3, e4⟩ := X3.out rfl
    rw [e4] at S2
    rw [e3] at B2
    clear e3 e4 X2 X3
    go_quiet ((go_at_call 24; exact Calls.quiet_of ((B1 _).mono fun _ _ ⟨he, hd⟩ => ⟨he, hd.out⟩)))
    go_wp2_with fail
    refine (S2 _).mono ?_
    rintro e w6 ⟨rfl, hb6⟩
    have g0 := hb6.cell (p := ⟨w5.heap.size, 0, none⟩) (by simp)
    have z6 : w5.heap.size < w6.heap.size := by have := hb6.size; simp at this; omega
    have b6 : Below w.heap.size w w6 := bel (below_drewN (b5.alloc b5.size _) _) hb6
    simp at g0
    clear hb6 b5
    go_wp2_with fail
    refine (B2 _).mono ?_
    rintro e w7 ⟨rfl, ⟨⟨nd, rfl⟩⟩⟩
    go_wp2
    go_ret
    exact ⟨rfl, by repeat (first | exact b6 | apply below_drewN | exact (b6.alloc b6.size _))⟩
theorem walk (A0 : Option Addr) (c0 : Nat) (l0 : List Int) (A1 : Option Addr) (c1 : Nat) (l1 : List Int) (A2 : Option Addr) (c2 : Nat) (l2 : List Int) (w : World)
    (r0 : Kd.C (Kd.int .u8) w A0 l0.length l0) (h0 : l0.length ≤ c0) (n0 : ∀ x ∈ l0, 0 ≤ x ∧ x ≤ 255) (_ : l0.length ≤ 140737488351232)
    (r1 : Kd.C (Kd.int .u8) w A1 l1.length l1) (h1 : l1.length ≤ c1) (n1 : ∀ x ∈ l1, 0 ≤ x ∧ x ≤ 255) (_ : l1.length ≤ 140737488351232)
    (r2 : Kd.C (Kd.int .u8) w A2 l2.length l2) (h2 : l2.length ≤ c2) (n2 : ∀ x ∈ l2, 0 ≤ x ∧ x ≤ 255) (_ : l2.length ≤ 140737488351232) :
    Calls Tryd.prog 7 #[.slice A0 l0.length c0, .slice A1 l1.length c1, .slice A2 l2.length c2] w fun e w' => e = .returned (.bool true) ∧ Below w.heap.size w w' :=
  swaps7 A0 A1 A2 c0 c1 c2 l0 l1 l2 w r0 r1 r2 h0 h1 h2 (fun x h => (n0 x h).1) (fun x h => (n1 x h).1) (fun x h => (n2 x h).1)
end Go.Proofs.YtpahemgofhpfnaaDoor.V7

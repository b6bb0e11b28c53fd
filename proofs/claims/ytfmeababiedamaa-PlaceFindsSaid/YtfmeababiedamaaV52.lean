/- cmp.Compare, slices.BinarySearchFunc, walked. -/
import Derived.Test.YtfmeababiedamaaX
import Derived.Laws.Cover1
namespace Go.Proofs.Ytfmeababiedamaa.V52
open Go.RowKit Go.Shelf Go.Proofs.YtfmeababiedamaaW.PrintWords Go.Proofs.YtfmeababiedamaaW.PrintLast Go.Proofs.YtfmeababiedamaaW.PrintMore
open Go.Proofs.Ytfmeababiedamaa Go.Proofs.Ytfmeababiedamaa.M Go.Proofs.Ytfmeababiedamaa.Sp Go.Proofs.Ytfmeababiedamaa.E Go.Proofs.Ytfmeababiedamaa.G Go.Proofs.Ytfmeababiedamaa.A Go.Proofs.Ytfmeababiedamaa.T Go.Proofs.Ytfmeababiedamaa.K Go.Proofs.Ytfmeababiedamaa.X
set_option linter.unusedVariables false
set_option linter.unusedSimpArgs false

def less (a b : ByteArray) : Bool := Op.bytesLess a.toList b.toList
def cmpS (a b : ByteArray) : Int := if less a b then -1 else if a.toList == b.toList then 0 else 1
theorem nan65 (x : ByteArray) (w : World) : Calls Try.prog 65 #[.string x] w fun e w' => e = .returned (.bool false) ∧ w' = w := by
  go_enter Try.func65, Try.ntmps65
  go_wp2
  go_ret
  exact ⟨by simp, rfl⟩
set_option maxHeartbeats 4000000 in
set_option maxRecDepth 100000 in
theorem cmp54 (x y : ByteArray) (w : World) : Calls Try.prog 54 #[.string x, .string y] w fun e w' => e = .returned (.int .i64 (cmpS x y)) ∧ Below w.heap.size w w' := by
  obtain ⟨b1, h1⟩ : ∃ b, Op.bytesLess x.toList y.toList = b := ⟨_, rfl⟩
  obtain ⟨b2, h2⟩ : ∃ b, (x.toList == y.toList) = b := ⟨_, rfl⟩
  obtain ⟨n, hn⟩ : ∃ n, cmpS x y = n := ⟨_, rfl⟩
  have Hn := Lib.hid (show n = if b1 then -1 else if b2 then 0 else 1 by rw [← hn]; unfold cmpS less; rw [h1, h2])
  rw [hn]
  clear hn
  cases b1
  · cases b2
    · go_enter Try.func54, Try.ntmps54
      go_wp2_with (go_at_call 65; refine (nan65 _ _).mono ?_; rintro e w' ⟨rfl, rfl⟩)
      go_ret
      exact ⟨by rw [Hn.out]; rfl, by repeat (first | exact Below.refl _ _ | apply below_drew1 | apply pw_below_drewN | apply below_alloc)⟩
    · go_enter Try.func54, Try.ntmps54
      go_wp2_with (go_at_call 65; refine (nan65 _ _).mono ?_; rintro e w' ⟨rfl, rfl⟩)
      go_ret
      exact ⟨by rw [Hn.out]; rfl, by repeat (first | exact Below.refl _ _ | apply below_drew1 | apply pw_below_drewN | apply below_alloc)⟩
  · go_enter Try.func54, Try.ntmps54
    go_wp2_with (go_at_call 65; refine (nan65 _ _).mono ?_; rintro e w' ⟨rfl, rfl⟩)
    go_ret
    exact ⟨by rw [Hn.out]; rfl, by repeat (first | exact Below.refl _ _ | apply below_drew1 | apply pw_below_drewN | apply below_alloc)⟩
set_option maxHeartbeats 4000000 in
set_option maxRecDepth 100000 in
theorem part53 (x : S32) (s : ByteArray) (w : World) : Calls Try.prog 53 #[pv x, .string s] w fun e w' => e = .returned (.int .i64 (cmpS x.f0 s)) ∧ Below w.heap.size w w' := by
  have hb := below_alloc (Below.refl w.heap.size w) (.cells #[.string x.f0, .int .i64 x.f1, .int .i64 x.f2, .int .i64 x.f3] 32)
  go_enter Try.func53, Try.ntmps53
  go_wp2_with (go_at_call 54; refine (cmp54 _ _ _).mono ?_; rintro e w' ⟨rfl, hb2⟩)
  go_ret
  exact ⟨rfl, below_step hb hb2⟩
theorem cmpS_neg (a b : ByteArray) : (cmpS a b < 0) ↔ less a b = true := by
  unfold cmpS
  cases less a b <;> cases (a.toList == b.toList) <;> simp
set_option maxHeartbeats 4000000 in
set_option maxRecDepth 100000 in
theorem search52 (a : Addr) (c : Nat) (l : List S32) (s : ByteArray) (m : Nat) (w : World) (hr : Kd.C k32 w (some a) l.length l) (hl : l.length ≤ 1000) (hm : m ≤ l.length)
    (h1 : ∀ j, j < m → less (rd_T32 l (j : Int)).f0 s = true) (h2 : ∀ j, m ≤ j → j < l.length → less (rd_T32 l (j : Int)).f0 s = false) :
    Calls Try.prog 52 #[.slice (some a) l.length c, .string s, .func (.func 53) #[] #[]] w fun e w' => ∃ b, e = .returned (.tuple #[.int .i64 m, .bool b]) ∧ Below w.heap.size w w' := by
  have HR := Aside0.mk hr
  have hu25 := Try.underlying25
  have hu32 := Try.underlying32
  have H1 := Lib.hid h1
  have H2 := Lib.hid h2
  clear hr h1 h2
  go_enter Try.func52, Try.ntmps52
  go_wp2
  go_loopg [9, 10] l.length (fun gg s9 s10 wr => ∃ lo hi : Nat, s9 = .int .i64 lo ∧ s10 = .int .i64 hi ∧ lo ≤ m ∧ m ≤ hi ∧ hi ≤ l.length ∧ hi - lo ≤ gg ∧ Aside0 (Below w.heap.size w wr))
  case atStart => exact ⟨0, l.length, rfl, rfl, Nat.zero_le _, hm, Nat.le_refl _, by omega, ⟨Below.refl _ w⟩⟩
  case round =>
    obtain ⟨lo, hi, rfl, rfl, hlm, hmh, hhl, hg, BW⟩ := hrel
    by_cases hlt : lo < hi
    · obtain ⟨h, hh⟩ : ∃ h, (lo + hi) / 2 = h := ⟨_, rfl⟩
      have hz : decide ((lo : Int) < (hi : Int)) = true := decide_eq_true (by omega)
      have hh' : ((lo : Int) + (hi : Int)) / 2 = (h : Int) := by omega
      have g1 : wrap64 ((lo : Int) + (hi : Int)) = (lo : Int) + (hi : Int) := w64 (by omega) (by omega)
      have hz2 : (0 ≤ (h : Int)) = True := by simp
      have hhi : h < l.length := by omega
      have hz3 : decide ((h : Int) < (l.length : Int)) = true := decide_eq_true (by omega)
      obtain ⟨ad, ead, x0, x1, x2, x3⟩ := at_T32 (Kd.C_below HR.out BW.out) (h : Int) (by omega) (by omega)
      cases ead
      simp only [Int.toNat_natCast] at x0 x1 x2 x3
      have P53 := part53 (rd_T32 l (h : Int)) s
      by_cases hm2 : h < m
      · have hc := (cmpS_neg (rd_T32 l (h : Int)).f0 s).2 (H1.out h hm2)
        generalize rd_T32 l (h : Int) = y at x0 x1 x2 x3 P53 hc
        generalize cmpS y.f0 s = cc at P53 hc
        have hc' : decide (cc < 0) = true := decide_eq_true hc
        clear hc hh
        go_wp2_with (go_at_call 53; refine (P53 _).mono ?_; rintro e w4 ⟨rfl, hb4⟩; have BX := Aside0.mk (below_step BW.out hb4); clear hb4)
        go_roundg (hi - (h + 1))
        case measure => omega
        case rel => exact ⟨h + 1, hi, by go_num, rfl, by omega, hmh, hhl, by omega, BX⟩
      · have hc : ¬ cmpS (rd_T32 l (h : Int)).f0 s < 0 := fun e => by
          have := (cmpS_neg _ _).1 e
          rw [H2.out h (by omega) hhi] at this
          cases this
        generalize rd_T32 l (h : Int) = y at x0 x1 x2 x3 P53 hc
        generalize cmpS y.f0 s = cc at P53 hc
        have hc' : decide (cc < 0) = false := decide_eq_false hc
        clear hc hh
        go_wp2_with (go_at_call 53; refine (P53 _).mono ?_; rintro e w4 ⟨rfl, hb4⟩; have BX := Aside0.mk (below_step BW.out hb4); clear hb4)
        go_roundg (h - lo)
        case measure => omega
        case rel => exact ⟨lo, h, rfl, rfl, hlm, by omega, by omega, by omega, BX⟩
    · have hz : decide ((lo : Int) < (hi : Int)) = false := decide_eq_false (by omega)
      obtain rfl : lo = m := by omega
      by_cases he : lo < l.length
      · have hz2 : (0 ≤ (lo : Int)) = True := by simp
        have hz3 : decide ((lo : Int) < (l.length : Int)) = true := decide_eq_true (by omega)
        obtain ⟨ad, ead, x0, x1, x2, x3⟩ := at_T32 (Kd.C_below HR.out BW.out) (lo : Int) (by omega) (by omega)
        cases ead
        simp only [Int.toNat_natCast] at x0 x1 x2 x3
        have P53 := part53 (rd_T32 l (lo : Int)) s
        generalize rd_T32 l (lo : Int) = y at x0 x1 x2 x3 P53
        generalize cmpS y.f0 s = cc at P53
        go_wp2_with (go_at_call 53; refine (P53 _).mono ?_; rintro e w4 ⟨rfl, hb4⟩; have BX := Aside0.mk (below_step BW.out hb4); clear hb4)
        go_ret2
        exact ⟨_, rfl, BX.out⟩
      · have hz3 : decide ((lo : Int) < (l.length : Int)) = false := decide_eq_false (by omega)
        go_wp2
        go_ret2
        exact ⟨_, rfl, BW.out⟩
end Go.Proofs.Ytfmeababiedamaa.V52

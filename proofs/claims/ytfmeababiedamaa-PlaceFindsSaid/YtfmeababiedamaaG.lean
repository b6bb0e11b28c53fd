/- The function values of the place package, and the library's searches with them. -/
import Derived.Test.YtfmeababiedamaaM0
import Derived.RangeFuncBox
import Derived.Shelf.Abstract
import Derived.Lib.Hide
namespace Go.Proofs.Ytfmeababiedamaa.G
open Go.RowKit Go.Shelf Go.Proofs.YtfmeababiedamaaW.PrintWords Go.Proofs.YtfmeababiedamaaW.PrintLast Go.Proofs.YtfmeababiedamaaW.PrintMore
open Go.Proofs.Ytfmeababiedamaa Go.Proofs.Ytfmeababiedamaa.M
set_option linter.unusedVariables false
set_option linter.unusedSimpArgs false
attribute [local go_sem] Oper.semAt_some

/-- the value of a part -/
abbrev pv (x : S32) : Value := .agg #[.string x.f0, .int .i64 x.f1, .int .i64 x.f2, .int .i64 x.f3]

theorem at49 (s : ByteArray) (w : World) :
    Calls Try.prog 49 #[.string s] w fun e w' => e = .returned (.func (.func 64) #[] #[.pointer (some ⟨w.heap.size, 0, none⟩)]) ∧ w' = w.alloc (.cells #[.string s] 9) := by
  go_enter Try.func49, Try.ntmps49
  go_wp2
  go_ret
  exact ⟨rfl, rfl⟩
theorem of47 (s : Int) (w : World) :
    Calls Try.prog 47 #[.int .i64 s] w fun e w' => e = .returned (.func (.func 63) #[] #[.pointer (some ⟨w.heap.size, 0, none⟩)]) ∧ w' = w.alloc (.cells #[.int .i64 s] 3) := by
  go_enter Try.func47, Try.ntmps47
  go_wp2
  go_ret
  exact ⟨rfl, rfl⟩
theorem at64 (x : S32) (s : ByteArray) (B : Nat) (w : World) (hB : Boxed w B 9 (.string s)) :
    Calls Try.prog 64 #[pv x, .pointer (some ⟨B, 0, none⟩)] w fun e w' => e = .returned (.bool (x.f0.toList == s.toList)) ∧ Below w.heap.size w w' := by
  have hc := hB.cell
  have hf := hB.frozen
  have hlt := hB.lt
  have hne : B ≠ w.heap.size := by omega
  go_enter Try.func64, Try.ntmps64
  go_wp2
  refine bodyPost_ret (by simp [results, Try.results64, go_sem]; try rfl) rfl ?_
  exact ⟨rfl, below_alloc (Below.refl _ _) _⟩
theorem of63 (x : S32) (s : Int) (B : Nat) (w : World) (hB : Boxed w B 3 (.int .i64 s)) :
    Calls Try.prog 63 #[pv x, .pointer (some ⟨B, 0, none⟩)] w fun e w' => e = .returned (.bool (x.f1 == s)) ∧ Below w.heap.size w w' := by
  have hc := hB.cell
  have hf := hB.frozen
  have hlt := hB.lt
  have hne : B ≠ w.heap.size := by omega
  go_enter Try.func63, Try.ntmps63
  go_wp2
  refine bodyPost_ret (by simp [results, Try.results63, go_sem]; try rfl) rfl ?_
  exact ⟨rfl, below_alloc (Below.refl _ _) _⟩

/-- the index of the first element that has a property, or -1 -/
def idxP (p : S32 → Bool) : List S32 → Nat → Int
  | [], _ => -1
  | x :: r, i => if p x then i else idxP p r (i + 1)

set_option maxRecDepth 100000 in
set_option maxHeartbeats 2000000 in
theorem idx48 (p : S32 → Bool) (g : Nat) (lb : Array Value) (eg : ∀ args w, (callFunc g args).run Try.prog w = .ok (.enter g args) w) (A : Option Addr) (c : Nat) (l : List S32) (w : World) (hr : Kd.C k32 w A l.length l)
    (hp : ∀ (W : World) (x : S32), Below w.heap.size w W → Calls Try.prog g (#[pv x] ++ lb) W fun e w' => e = .returned (.bool (p x)) ∧ Below w.heap.size w w') :
    Calls Try.prog 48 #[.slice A l.length c, .func (.func g) #[] lb] w fun e w' => e = .returned (.int .i64 (idxP p l 0)) ∧ Below w.heap.size w w' := by
  have HR := Aside0.mk hr
  have hbig := Kd.C_max hr
  have hu25 := Try.underlying25
  have hu32 := Try.underlying32
  clear hr
  go_enter Try.func48, Try.ntmps48
  go_wp2
  go_loopg [5, 8] l.length (fun gg _ s8 wr => ∃ kk : Nat, kk ≤ l.length ∧ l.length - kk ≤ gg ∧ s8 = .int .i64 kk ∧ Aside (Below w.heap.size w wr) ∧ Aside (idxP p l 0 = idxP p (l.drop kk) kk))
  case atStart => exact ⟨0, Nat.zero_le _, by omega, rfl, Below.refl _ w, rfl⟩
  case round =>
    obtain ⟨kk, hkk, hg, rfl, BW, A0⟩ := hrel
    by_cases hlt : kk < l.length
    · have hltz : decide ((kk : Int) < (l.length : Int)) = true := decide_eq_true (by omega)
      have h0 : (0 ≤ (kk : Int)) = True := by simp
      obtain ⟨ad, rfl, x0, x1, x2, x3⟩ := at_T32 (Kd.C_below HR.out BW.out) kk (by omega) (by omega)
      simp only [Int.toNat_natCast] at x0 x1 x2 x3
      have hcall := hp wr (rd_T32 l kk) BW.out
      have hd : l.drop kk = rd_T32 l kk :: l.drop (kk + 1) := by
        rw [List.drop_eq_getElem_cons hlt]
        congr 1
        simp [rd_T32, List.getD_eq_getElem?_getD, List.getElem?_eq_getElem hlt]
      rw [hd] at A0
      generalize hy : rd_T32 l kk = y at x0 x1 x2 x3 hcall A0
      clear hd hy hp
      cases hq : p y with
      | true =>
        rw [hq] at hcall
        go_wp2_with (go_at_fn g; refine hcall.mono ?_; rintro e w' ⟨rfl, hb'⟩)
        go_ret
        refine ⟨?_, hb'⟩
        rw [A0.out, idxP, if_pos hq]
        rfl
      | false =>
        rw [hq] at hcall
        go_wp2_with (go_at_fn g; refine hcall.mono ?_; rintro e w' ⟨rfl, hb'⟩)
        go_roundg (l.length - (kk + 1))
        case measure => omega
        case rel =>
          refine ⟨kk + 1, by omega, by omega, by go_num, hb', (show Aside _ from ?_)⟩
          rw [A0.out, idxP, if_neg (by rw [hq]; decide)]
          exact (rfl : _ = _)
    · have hltz : decide ((kk : Int) < (l.length : Int)) = false := decide_eq_false (by omega)
      have : kk = l.length := by omega
      subst this
      go_wp2
      go_ret
      refine ⟨?_, BW.out⟩
      rw [A0.out, List.drop_length]; rfl
end Go.Proofs.Ytfmeababiedamaa.G

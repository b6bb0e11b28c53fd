/- strings.Cut at the sign /, walked; what name.each yields. -/
import Derived.Test.YtfmeababiedamaaShelf
import Derived.Test.YtfmeababiedamaaM
import Derived.Test.YtfmeababiedamaaSb
import Derived.RangeFuncBox
import Derived.RangeFuncNested
import Derived.RangeFuncBound
import Derived.RangeFuncCalls
import Derived.RangeFuncLeaves
import Derived.Shelf.Abstract
import Derived.Shelf.RegionOpen
import Derived.WalkKit
import Derived.OwnWalkIn
import Derived.TacticsInMore
import Derived.LoopNIn
import Derived.LoopIn
import Derived.Maps.AppendAt
import Derived.Outline
import Derived.WalkSpells
import Derived.Lib.Hide
namespace Go.Proofs.Ytfmeababiedamaa.C
open Go.RowKit Go.Shelf Go.Proofs.YtfmeababiedamaaW.PrintWords Go.Proofs.YtfmeababiedamaaW.PrintLast Go.Proofs.YtfmeababiedamaaW.PrintMore
open Go.Proofs.Ytfmeababiedamaa
set_option linter.unusedVariables false
set_option linter.unusedSimpArgs false

set_option maxHeartbeats 400000 in
theorem cut53_no (s : ByteArray) (w : World) (h : Lib.indexByte s.data.toList 47 < 0) :
    Calls Try.prog 79 #[.string s, .string ⟨#[47]⟩] w fun e w' => e = .returned (.tuple #[.string s, .string ⟨#[]⟩, .bool false]) ∧ Drawn0 w w' := by
  obtain ⟨i, hi⟩ : ∃ i, Lib.indexByte s.data.toList 47 = i := ⟨_, rfl⟩
  have H := Lib.hid hi
  rw [hi] at h
  have h' : decide (0 ≤ i) = false := decide_eq_false (by omega)
  clear hi
  go_enter Try.func79, Try.ntmps79
  go_wp2_with (go_at_call 81; refine (Try.stringslite_Index_one s 47 _).mono ?_; rw [H.out]; rintro e w' ⟨rfl, rfl⟩)
  go_ret3
  exact ⟨rfl, Drawn0.refl _⟩

set_option maxHeartbeats 400000 in
theorem cut53_yes (s : ByteArray) (w : World) (i : Nat) (h : Lib.indexByte s.data.toList 47 = i) (hi : i < s.size) (hs : s.size ≤ 140737488351232) :
    Calls Try.prog 79 #[.string s, .string ⟨#[47]⟩] w fun e w' => e = .returned (.tuple #[.string (s.extract 0 i), .string (s.extract (i + 1) s.size), .bool true]) ∧ Drawn0 w w' := by
  have H := Lib.hid h
  clear h
  have h' : decide (0 ≤ (i : Int)) = true := decide_eq_true (by omega)
  have h1 : IntKind.i64.wrap ((i : Int) + 1) = i + 1 := IntWalk.i64_in _ (by omega)
  have h2 : 0 ≤ (i : Int) + 1 := by omega
  have h3 : ((i : Int) + 1).toNat = i + 1 := by omega
  go_enter Try.func79, Try.ntmps79
  go_wp2_with (go_at_call 81; refine (Try.stringslite_Index_one s 47 _).mono ?_; rw [H.out]; rintro e w' ⟨rfl, rfl⟩)
  go_quiet (fail)
  go_wp2
  go_ret3
  exact ⟨rfl, by repeat (first | exact Drawn0.refl _ | apply Drawn0.step)⟩

/-- strings.Cut at the sign / -/
theorem cut49_no (s : ByteArray) (w : World) (h : Lib.indexByte s.data.toList 47 < 0) :
    Calls Try.prog 75 #[.string s, .string ⟨#[47]⟩] w fun e w' => e = .returned (.tuple #[.string s, .string ⟨#[]⟩, .bool false]) ∧ Drawn0 w w' := by
  have C := cut53_no s
  have H := Lib.hid h
  clear h
  go_enter Try.func75, Try.ntmps75
  go_wp2_with (go_at_call 79; refine (C _ H.out).mono ?_; rintro e w' ⟨rfl, ⟨⟨nd, rfl⟩⟩⟩)
  go_ret3
  exact ⟨rfl, by repeat (first | exact Drawn0.refl _ | apply Drawn0.step)⟩
theorem cut49_yes (s : ByteArray) (w : World) (i : Nat) (h : Lib.indexByte s.data.toList 47 = i) (hi : i < s.size) (hs : s.size ≤ 140737488351232) :
    Calls Try.prog 75 #[.string s, .string ⟨#[47]⟩] w fun e w' => e = .returned (.tuple #[.string (s.extract 0 i), .string (s.extract (i + 1) s.size), .bool true]) ∧ Drawn0 w w' := by
  have C := fun w => cut53_yes s w i h hi hs
  clear h
  go_enter Try.func75, Try.ntmps75
  go_wp2_with (go_at_call 79; refine (C _).mono ?_; rintro e w' ⟨rfl, ⟨⟨nd, rfl⟩⟩⟩)
  go_ret3
  exact ⟨rfl, by repeat (first | exact Drawn0.refl _ | apply Drawn0.step)⟩

attribute [local go_sem] Oper.semAt_some

def boxLen (W : World) (B : Nat) : Nat := match W.cell? ⟨B, 0, none⟩ with
  | some (.string s) => s.size
  | _ => 0
theorem boxLen_eq {W : World} {B : Nat} {t : TypeId} {s : ByteArray} (h : Boxed W B t (.string s)) : boxLen W B = s.size := by
  unfold boxLen; rw [h.cell]

/-- what the body of a round keeps of the iterator's own variable -/
def KeepsBox (B : Nat) (W W' : World) : Prop := W'.heap[B]? = W.heap[B]?

/-- where the iterator stands -/
def Here (J Jx : List ByteArray → World → Prop) (s0 : ByteArray) (pre : List ByteArray) (s : ByteArray) (W : World) : Prop :=
  (Sp.cutB s0 = pre ++ Sp.cutB s ∧ J pre W) ∨ (s.toList = [] ∧ pre <+: Sp.cutB s0 ∧ Jx pre W)

set_option maxRecDepth 100000 in
set_option maxHeartbeats 2000000 in
/-- name.each's closure -/
theorem each1_in (n : Nat) (hn : 1 ≤ n) (l B : Nat) (s0 : ByteArray) (hs : s0.size ≤ 140737488351232) (J Jx : List ByteArray → World → Prop)
    (hJb : ∀ pre W v, J pre W → J pre (W.setCell ⟨B, 0, none⟩ v)) (hJd : ∀ pre W m, J pre W → J pre (W.drewN m))
    (hXb : ∀ pre W v, Jx pre W → Jx pre (W.setCell ⟨B, 0, none⟩ v))
    (hY : ∀ pre x W, J pre W → YieldAt Fence.wide (n - 1) Try.prog l #[.string x] W fun e W' =>
      KeepsBox B W W' ∧ ((e = .returned (.bool true) ∧ J (pre ++ [x]) W') ∨ (e = .returned (.bool false) ∧ Jx (pre ++ [x]) W')))
    (W : World) (hB : Boxed W B 9 (.string s0)) (h0 : J [] W) :
    CallsIn Fence.wide n Try.prog 74 #[.func (.yield l) #[] #[], .pointer (some ⟨B, 0, none⟩)] W fun e W' => (∃ v, e = .returned v) ∧
      (J (Sp.cutB s0) W' ∨ (∃ pre, pre <+: Sp.cutB s0 ∧ Jx pre W')) := by
  have hno := cut49_no
  have hyes := cut49_yes
  refine callsIn_of_wp Try.func74 rfl trivial ?_ rfl
  simp only [Try.ntmps74, List.size_toArray, List.length_cons, List.length_nil, Nat.reduceAdd, Nat.reduceSub, Array.replicate_succ, Array.replicate_zero, List.push_toArray, List.append_toArray, List.nil_append, List.cons_append]
  gi_wp2
  gi_loopw [3] (fun v wr => ∃ pre s, s.size ≤ 140737488351232 ∧ Boxed wr B 9 (.string s) ∧ Here J Jx s0 pre s wr) (fun _ wr => boxLen wr B)
  case atStart => exact ⟨[], s0, hs, hB, .inl ⟨rfl, h0⟩⟩
  case round =>
    obtain ⟨pre, s, hsz, hb, hh⟩ := hrel
    have hcell := hb.cell
    have hfro := hb.frozen
    by_cases hs0 : s.toList = []
    · gi_wp2
      go_end0
      have e : Sp.cutB s = [] := Sp.cutB_nil s (by show s.data.toList = _; rw [← hs0, ByteArray.toList_eq])
      rcases hh with ⟨hc, hJ⟩ | ⟨_, hc, hJ⟩
      · rw [e, List.append_nil] at hc
        exact ⟨⟨_, rfl⟩, .inl (by rw [hc]; exact hJ)⟩
      · exact ⟨⟨_, rfl⟩, .inr ⟨pre, hc, hJ⟩⟩
    · have hse : s.toList.isEmpty = false := by simpa using hs0
      have hu : Sp.ub s ≠ [] := fun e => hs0 (by rw [ByteArray.toList_eq]; exact e)
      rcases hh with ⟨hc, hJ⟩ | ⟨he, _⟩
      · by_cases hi : Lib.indexByte s.data.toList 47 < 0
        · have e : Sp.cutB s = [s] := Sp.cutB_no s hu hi
          have Hc := Lib.hid hc
          have He := Lib.hid e
          have Hn := Lib.hid (fun w => hno s w hi)
          clear hc e hno hyes hi
          gi_wp2_with (refine ⟨trivial, ?_⟩; gi_at_call 75; refine (callsIn_wide.2 (Hn.out _)).mono ?_; rintro e w' ⟨rfl, ⟨⟨nd, rfl⟩⟩⟩; obtain ⟨fn, tmps, assign, body, hy, hR⟩ := hY pre s (wr.drewN nd) (hJd _ _ _ hJ))
          refine hR.mono ?_
          rintro e W3 ⟨hk, (⟨rfl, hJ3⟩ | ⟨rfl, hJx3⟩)⟩
          · gi_wp2
            refine bodyPost_ret (results_none rfl _ _ _) rfl ?_
            exact ⟨⟨_, rfl⟩, .inl (by rw [Hc.out, He.out]; exact hJ3)⟩
          · gi_wp2
            refine bodyPost_ret (results_none rfl _ _ _) rfl ?_
            exact ⟨⟨_, rfl⟩, .inr ⟨pre ++ [s], by rw [Hc.out, He.out]; exact List.prefix_refl _, hJx3⟩⟩
        · obtain ⟨i, hi'⟩ : ∃ i : Nat, Lib.indexByte s.data.toList 47 = i := ⟨_, (Int.toNat_of_nonneg (by omega)).symm⟩
          obtain ⟨hlt, e⟩ := Sp.cutB_yes s i hi'
          have Hc := Lib.hid hc
          have Hn := Lib.hid (fun w => hyes s w i hi' hlt hsz)
          clear hc hno hyes hi hi'
          by_cases hr : (s.extract (i + 1) s.size).toList = []
          · have e2 : Sp.cutB s = s.extract 0 i :: [⟨#[]⟩] := by rw [e, if_pos (by show (s.extract (i + 1) s.size).data.toList = _; rw [← hr, ByteArray.toList_eq])]
            have He := Lib.hid e2
            clear e e2
            gi_wp2_with (refine ⟨trivial, ?_⟩; gi_at_call 75; refine (callsIn_wide.2 (Hn.out _)).mono ?_; rintro e w' ⟨rfl, ⟨⟨nd, rfl⟩⟩⟩; obtain ⟨fn, tmps, assign, body, hy, hR⟩ := hY pre (s.extract 0 i) (wr.drewN nd) (hJd _ _ _ hJ))
            refine hR.mono ?_
            rintro e W3 ⟨hk, (⟨rfl, hJ3⟩ | ⟨rfl, hJx3⟩)⟩
            · obtain ⟨fn2, tmps2, assign2, body2, hy2, hR2⟩ := hY _ ⟨#[]⟩ W3 hJ3
              gi_wp2
              refine hR2.mono ?_
              have hb3 : Boxed W3 B 9 (.string s) := (show W3.heap[B]? = _ from hk).trans hb
              rintro e W4 ⟨hk4, (⟨rfl, hJ4⟩ | ⟨rfl, hJx4⟩)⟩
              · have hb4 : Boxed W4 B 9 (.string s) := (show W4.heap[B]? = _ from hk4).trans hb3
                have hcell4 := hb4.cell
                have hfro4 := hb4.frozen
                gi_wp2
                go_roundw
                case rel => exact ⟨_, _, by rw [ByteArray.size_extract]; omega, hb4.set _, .inl ⟨by rw [Hc.out, He.out, Sp.cutB_nil (s.extract (i + 1) s.size) (by show (s.extract (i + 1) s.size).data.toList = _; rw [← hr, ByteArray.toList_eq])]; simp, hJb _ _ _ hJ4⟩⟩
                case measure => rw [boxLen_eq (hb4.set _), boxLen_eq hb, ByteArray.size_extract]; omega
              · have hb4 : Boxed W4 B 9 (.string s) := (show W4.heap[B]? = _ from hk4).trans hb3
                have hcell4 := hb4.cell
                have hfro4 := hb4.frozen
                gi_wp2
                go_roundw
                case rel => exact ⟨_, _, by rw [ByteArray.size_extract]; omega, hb4.set _, .inr ⟨hr, by rw [Hc.out, He.out]; simp, hXb _ _ _ hJx4⟩⟩
                case measure => rw [boxLen_eq (hb4.set _), boxLen_eq hb, ByteArray.size_extract]; omega
            · gi_wp2
              refine bodyPost_ret (results_none rfl _ _ _) rfl ?_
              exact ⟨⟨_, rfl⟩, .inr ⟨pre ++ [s.extract 0 i], by rw [Hc.out, He.out]; simp, hJx3⟩⟩
          · have hre : (s.extract (i + 1) s.size).toList.isEmpty = false := by simpa using hr
            have e2 : Sp.cutB s = s.extract 0 i :: Sp.cutB (s.extract (i + 1) s.size) := by rw [e, if_neg (fun h => hr (by rw [ByteArray.toList_eq]; exact h))]
            have He := Lib.hid e2
            clear e e2
            gi_wp2_with (refine ⟨trivial, ?_⟩; gi_at_call 75; refine (callsIn_wide.2 (Hn.out _)).mono ?_; rintro e w' ⟨rfl, ⟨⟨nd, rfl⟩⟩⟩; obtain ⟨fn, tmps, assign, body, hy, hR⟩ := hY pre (s.extract 0 i) (wr.drewN nd) (hJd _ _ _ hJ))
            refine hR.mono ?_
            rintro e W3 ⟨hk, (⟨rfl, hJ3⟩ | ⟨rfl, hJx3⟩)⟩
            · have hb3 : Boxed W3 B 9 (.string s) := (show W3.heap[B]? = _ from hk).trans hb
              have hcell3 := hb3.cell
              have hfro3 := hb3.frozen
              gi_wp2
              go_roundw
              case rel => exact ⟨_, _, by rw [ByteArray.size_extract]; omega, hb3.set _, .inl ⟨by rw [Hc.out, He.out]; simp, hJb _ _ _ hJ3⟩⟩
              case measure => rw [boxLen_eq (hb3.set _), boxLen_eq hb, ByteArray.size_extract]; omega
            · gi_wp2
              refine bodyPost_ret (results_none rfl _ _ _) rfl ?_
              exact ⟨⟨_, rfl⟩, .inr ⟨pre ++ [s.extract 0 i], by rw [Hc.out, He.out]; simp, hJx3⟩⟩
      · exact absurd he hs0
end Go.Proofs.Ytfmeababiedamaa.C

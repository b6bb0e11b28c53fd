/- The row of changes that a law is handed, opened. -/
import Derived.Test.YtfmeababiedamaaV11
import Derived.Deep.Strs
import Derived.Deep.Slices
import Derived.OpenShut
namespace Go.Proofs.Ytfmeababiedamaa.O
open Go.RowKit Go.Shelf Go.Proofs.YtfmeababiedamaaW.PrintWords Go.Proofs.YtfmeababiedamaaW.PrintLast Go.Proofs.YtfmeababiedamaaW.PrintMore
open Go.Proofs.Ytfmeababiedamaa Go.Proofs.Ytfmeababiedamaa.M Go.Proofs.Ytfmeababiedamaa.Sp Go.Proofs.Ytfmeababiedamaa.E Go.Proofs.Ytfmeababiedamaa.G Go.Proofs.Ytfmeababiedamaa.A Go.Proofs.Ytfmeababiedamaa.T Go.Proofs.Ytfmeababiedamaa.K Go.Proofs.Ytfmeababiedamaa.X Go.Proofs.Ytfmeababiedamaa.V36 Go.Proofs.Ytfmeababiedamaa.V11 Go.ChangeShapes Go.WideShapes
set_option linter.unusedVariables false
set_option linter.unusedSimpArgs false

instance : Inhabited R42 := ⟨zR⟩
theorem add_add3 (a : Addr) (i j : Nat) : (a.add i).add j = a.add (i + j) := by
  unfold Addr.add
  by_cases hi : i = 0 <;> by_cases hj : j = 0 <;> simp [hi, hj, Nat.add_assoc]
theorem i8_in {n : Int} (h : (Lit.int .u8 n).wf = true) : 0 ≤ n ∧ n < 256 := by
  have : 0 ≤ n ∧ n ≤ 255 := by simpa [Lit.wf, IntKind.min, IntKind.max, IntKind.signed, IntKind.bits] using h
  omega
theorem i16_in {n : Int} (h : (Lit.int .u16 n).wf = true) : 0 ≤ n ∧ n < 65536 := by
  have : 0 ≤ n ∧ n ≤ 65535 := by simpa [Lit.wf, IntKind.min, IntKind.max, IntKind.signed, IntKind.bits] using h
  omega
theorem kR_mk (w : World) (x : R42) : kR.K w x [.int .u8 x.k, .int .u16 x.p, .int .u8 x.n] := ⟨[.int .u8 x.k], [.int .u16 x.p, .int .u8 x.n], rfl, rfl, ⟨[.int .u16 x.p], [.int .u8 x.n], rfl, rfl, rfl⟩⟩
set_option maxRecDepth 100000 in
/-- three cells are a change -/
theorem raw_cells {H : Type} {enc : TypeId × Value → H} {w : World} {base n : Nat} {sp : Nat → Bool} {held : Bool} {cs : List Value} {y : DataW H × List MemPlace} (h : DataW.trod enc Try.prog w base sp held n 42 cs = some y) :
    ∃ x : R42, x.ok ∧ cs = [.int .u8 x.k, .int .u16 x.p, .int .u8 x.n] := by
  obtain ⟨y0, y1, y2, m, _, hl, h0, h1, h2⟩ := Go.Deep.trod_struct3 Try.underlying42 h
  have hl3 : cs.length = 3 := hl.trans (by kernel_rfl)
  match cs, hl3 with
  | [c0, c1, c2], _ =>
    obtain ⟨k, e0, _, w0⟩ := DataW.trod_int Try.underlying5 (show DataW.trod enc Try.prog w base sp held m 5 [c0] = some y0 from by simpa [show Try.prog.cellsOf 5 = 1 by kernel_rfl] using h0)
    obtain ⟨p, e1, _, w1⟩ := DataW.trod_int Try.underlying23 (show DataW.trod enc Try.prog w base sp held m 23 [c1] = some y1 from by simpa [show Try.prog.cellsOf 23 = 1 by kernel_rfl] using h1)
    obtain ⟨q, e2, _, w2⟩ := DataW.trod_int Try.underlying5 (show DataW.trod enc Try.prog w base sp held m 5 [c2] = some y2 from by simpa [show Try.prog.cellsOf 5 = 1 by kernel_rfl] using h2)
    cases e0; cases e1; cases e2
    exact ⟨⟨k, p, q⟩, ⟨i8_in w0, i16_in w1, i8_in w2⟩, rfl⟩
set_option maxRecDepth 100000 in
/-- the row of changes -/
theorem raw_row {H : Type} {enc : TypeId × Value → H} {w : World} {base b0 : Nat} {sp : Nat → Bool} {held : Bool} {r : Reach} {v : Value} {d : DataW H} {p : List MemPlace} (hv : Value.okWide Try.prog w r b0 22 v) (h : DataW.Trod enc Try.prog w base sp held 22 v d p) :
    ∃ A c, ∃ l : List R42, v = .slice A l.length c ∧ Kd.C kR w A l.length l ∧ l.length ≤ c ∧ ∀ x ∈ l, x.ok := by
  obtain ⟨A, len, cap, rfl⟩ := okWide_slice Try.underlying22 hv
  obtain ⟨fuel, hf⟩ := h
  rcases Go.Deep.open_slice Try.underlying22 hf with ⟨hcs, _⟩ | ⟨a, len', cap', m, n, D, Pl, hcs, _, hle, hm, hmm, _, hx⟩
  · simp [Value.cells] at hcs
    obtain ⟨rfl, rfl, rfl⟩ := hcs
    exact ⟨none, 0, [], rfl, ⟨rfl, Nat.zero_le _, fun h => absurd h (Nat.lt_irrefl 0)⟩, Nat.le_refl _, fun x hx => by cases hx⟩
  · simp [Value.cells] at hcs
    obtain ⟨rfl, rfl, rfl⟩ := hcs
    have hlm : len ≤ m := by rw [hmm]; split <;> omega
    have h3 : Try.prog.cellsOf 42 = 3 := by kernel_rfl
    rw [h3] at hx
    obtain ⟨X, hX⟩ := Go.Deep.choose_lt (n := len) (α := R42) (p := fun i x => x.ok ∧ w.cells? base (a.add (i * 3)) 3 = some [.int .u8 x.k, .int .u16 x.p, .int .u8 x.n]) (fun i hi => by
      obtain ⟨cs', h1, h2⟩ := hx i (by omega)
      obtain ⟨x, hok, rfl⟩ := raw_cells h2
      exact ⟨x, hok, h1⟩)
    refine ⟨some a, cap, (List.range len).map X, by rw [List.length_map, List.length_range], ⟨rfl, by rw [List.length_map, List.length_range]; unfold maxLen at hm; omega, fun _ => ⟨a, rfl, fun j p hj => ?_⟩⟩, by rw [List.length_map, List.length_range]; exact hle, fun x hxm => ?_⟩
    · have hjl : j < len := by
        have := (List.getElem?_eq_some_iff.1 hj).1
        rwa [List.length_map, List.length_range] at this
      have hp : p = X j := by
        rw [List.getElem?_map, List.getElem?_range hjl] at hj
        exact (Option.some.inj hj).symm
      subst hp
      refine ⟨_, rfl, kR_mk w (X j), fun i u hu => ?_⟩
      obtain ⟨_, _, hc⟩ := World.cells?_some (hX j hjl).2
      have hi : i < 3 := (List.getElem?_eq_some_iff.1 hu).1
      have := hc i hi
      rw [hu, add_add3] at this
      exact this
    · obtain ⟨i, hi, rfl⟩ := List.mem_map.1 hxm
      exact (hX i (List.mem_range.1 hi)).1
end Go.Proofs.Ytfmeababiedamaa.O

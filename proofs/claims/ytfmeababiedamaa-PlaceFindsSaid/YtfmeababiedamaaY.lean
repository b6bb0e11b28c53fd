/- The fixed examples, in plain Lean. -/
import Derived.Test.YtfmeababiedamaaV25
import Derived.Test.YtfmeababiedamaaV26
import Derived.Test.YtfmeababiedamaaV24
import Derived.Test.YtfmeababiedamaaV23
import Derived.Test.YtfmeababiedamaaV13
namespace Go.Proofs.Ytfmeababiedamaa.Y
open Go.RowKit Go.Shelf Go.Proofs.YtfmeababiedamaaW.PrintWords Go.Proofs.YtfmeababiedamaaW.PrintLast Go.Proofs.YtfmeababiedamaaW.PrintMore
open Go.Proofs.Ytfmeababiedamaa Go.Proofs.Ytfmeababiedamaa.M Go.Proofs.Ytfmeababiedamaa.Sp Go.Proofs.Ytfmeababiedamaa.E Go.Proofs.Ytfmeababiedamaa.G Go.Proofs.Ytfmeababiedamaa.A Go.Proofs.Ytfmeababiedamaa.T Go.Proofs.Ytfmeababiedamaa.K Go.Proofs.Ytfmeababiedamaa.X
open Go.Proofs.Ytfmeababiedamaa.V25 Go.Proofs.Ytfmeababiedamaa.V26 Go.Proofs.Ytfmeababiedamaa.V23 Go.Proofs.Ytfmeababiedamaa.V13 Go.Proofs.Ytfmeababiedamaa.V38 Go.Proofs.Ytfmeababiedamaa.V52 Go.Proofs.Ytfmeababiedamaa.V29
set_option linter.unusedVariables false
set_option linter.unusedSimpArgs false

abbrev sA : ByteArray := ⟨#[97]⟩
abbrev sB : ByteArray := ⟨#[98]⟩
abbrev sAsB : ByteArray := ⟨#[97, 47, 98]⟩
abbrev sAB : ByteArray := ⟨#[97, 98]⟩
abbrev sS : ByteArray := ⟨#[47]⟩
abbrev p0 (n : Int) : S32 := ⟨⟨#[]⟩, 0, 3, n⟩
abbrev p1 : S32 := ⟨sA, 1, 3, 2⟩
abbrev L0 : List S32 := [p0 1]
abbrev L1 : List S32 := [p0 2, p1]
abbrev L2 : List S32 := [p0 3]
theorem split_a : splitP L0 sA 1 1 = (L1, 0) := by
  unfold splitP insOn exL hmL idxL upd
  simp only [tl]
  decide +kernel
theorem split_b : splitP L1 sB 1 2 = (L1, 240) := by
  unfold splitP insOn exL hmL idxL upd
  simp only [tl]
  decide +kernel
theorem join_a : joinM L1 sA = (L2, 0) := by
  unfold joinM joinOn exL idxL upd
  simp only [tl]
  decide +kernel
theorem move_b : moveL L1 sB 1 = (L1, 240) := by
  unfold moveL exL upd
  simp only [tl]
  decide +kernel
theorem local_1 : localL p1 sAsB = (sB, 0) := by
  unfold localL
  simp only [tl]
  decide +kernel
theorem local_2 : localL p1 sAB = (⟨#[]⟩, 240) := by
  unfold localL
  simp only [tl]
  decide +kernel
theorem find_1 : findL L1 sAsB = (p1, 0) := by unfold findL idxL; decide +kernel
theorem find_2 : findL L1 sAB = (p0 2, 0) := by unfold findL idxL; decide +kernel
theorem find_3 : findL L1 sS = (z32, 10) := by unfold findL idxL; decide +kernel
theorem check_1 : checkL L1 sA 2 = 0 := by unfold checkL findL idxL; decide +kernel
theorem check_2 : checkL L1 sA 1 = 241 := by unfold checkL findL idxL; decide +kernel
theorem lessA : less ⟨#[]⟩ sA = true := by unfold less; simp only [tl]; decide +kernel
theorem lessB0 : less ⟨#[]⟩ sB = true := by unfold less; simp only [tl]; decide +kernel
theorem lessB1 : less sA sB = true := by unfold less; simp only [tl]; decide +kernel
theorem valid0 : ValidL L0 := by
  refine ⟨by decide, by decide, by show (⟨#[]⟩ : ByteArray).toList = []; rw [tl]; rfl, ?_, ?_, ?_⟩
  · intro j hj
    obtain rfl : j = 0 := by simp at hj; omega
    exact ⟨by decide +kernel, by decide +kernel, by decide +kernel, by decide +kernel, by decide +kernel⟩
  · intro j hj; simp at hj
  · intro j hj
    obtain rfl : j = 0 := by simp at hj; omega
    exact by decide +kernel
end Go.Proofs.Ytfmeababiedamaa.Y

/- PlaceFinds, of the row that the law is handed. -/
import Derived.Test.YtfmeababiedamaaV3
import Derived.Test.YtfmeababiedamaaO
namespace Go.Proofs.Ytfmeababiedamaa.V3r
open Go.RowKit Go.Shelf Go.Proofs.YtfmeababiedamaaW.PrintWords Go.Proofs.YtfmeababiedamaaW.PrintLast Go.Proofs.YtfmeababiedamaaW.PrintMore
open Go.Proofs.Ytfmeababiedamaa Go.Proofs.Ytfmeababiedamaa.M Go.Proofs.Ytfmeababiedamaa.Sp Go.Proofs.Ytfmeababiedamaa.E Go.Proofs.Ytfmeababiedamaa.G Go.Proofs.Ytfmeababiedamaa.A Go.Proofs.Ytfmeababiedamaa.T Go.Proofs.Ytfmeababiedamaa.K Go.Proofs.Ytfmeababiedamaa.X Go.Proofs.Ytfmeababiedamaa.V13 Go.Proofs.Ytfmeababiedamaa.V38 Go.Proofs.Ytfmeababiedamaa.B Go.Proofs.Ytfmeababiedamaa.V11 Go.Proofs.Ytfmeababiedamaa.V36 Go.Proofs.Ytfmeababiedamaa.V10 Go.Proofs.Ytfmeababiedamaa.Z Go.Proofs.Ytfmeababiedamaa.V7 Go.Proofs.Ytfmeababiedamaa.P Go.Proofs.Ytfmeababiedamaa.O Go.Proofs.Ytfmeababiedamaa.V3 Go.ChangeShapes Go.WideShapes
set_option linter.unusedVariables false
set_option linter.unusedSimpArgs false

set_option maxRecDepth 100000 in
theorem finds3r {H : Type} {enc : TypeId × Value → H} {base b0 : Nat} {sp : Nat → Bool} {held : Bool} {r : Reach} {d : DataW H} {p : List MemPlace} (v : Value) (text : ByteArray) (n : Int) (w : World)
    (hv : Value.okWide Try.prog w r b0 22 v) (h : DataW.Trod enc Try.prog w base sp held 22 v d p) (ht : text.size ≤ 140737488351232) (hn : (Lit.int .u16 n).wf = true) :
    Calls Try.prog 3 #[v, .string text, .int .u16 n] w fun e w' => e = .returned (.bool true) ∧ Below w.heap.size w w' := by
  obtain ⟨A, c, l, rfl, hC, hc, hx⟩ := raw_row hv h
  have hb := i16_in hn
  have := finds3 A c l text n.toNat w hx hC hc ht (by omega)
  rwa [show ((n.toNat : Nat) : Int) = n by omega] at this
end Go.Proofs.Ytfmeababiedamaa.V3r

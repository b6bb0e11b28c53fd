/- What the functions of package name come to, in plain Lean: no Go and no memory. -/
import Derived.Laws.Strings
namespace Go.Proofs.Ytfmeababiedamaa.Sp
set_option linter.unusedVariables false
set_option linter.unusedSimpArgs false

abbrev Bs := List UInt8

/-- a byte that names may have -/
def okB (c : UInt8) : Bool := (decide (97 ≤ c) && decide (c ≤ 122)) || (decide (65 ≤ c) && decide (c ≤ 90)) || (decide (48 ≤ c) && decide (c ≤ 57)) || c == 46 || c == 95 || c == 45 || c == 126
def letB (c : UInt8) : Bool := (decide (97 ≤ c) && decide (c ≤ 122)) || (decide (65 ≤ c) && decide (c ≤ 90))
/-- a name -/
def valid (l : Bs) : Bool := decide (1 ≤ l.length) && decide (l.length ≤ 16) && !(l == [46]) && !(l == [46, 46]) && l.all okB
/-- the parts between the signs /, the part at hand first -/
def cutGo : Bs → Bs → List Bs
  | last, [] => [last]
  | last, c :: r => if c = 47 then last :: cutGo [] r else cutGo (last ++ [c]) r
def cut (l : Bs) : List Bs := if l = [] then [] else cutGo [] l
def isPath (l : Bs) : Bool := (cut l).all valid && decide ((cut l).length ≤ 8)

def bx (l : Bs) : ByteArray := ⟨l.toArray⟩
def ub (s : ByteArray) : Bs := s.data.toList

theorem ub_bx (l : Bs) : ub (bx l) = l := by simp [ub, bx]
theorem bx_ub (s : ByteArray) : bx (ub s) = s := by cases s; simp [ub, bx]
theorem ub_size (s : ByteArray) : (ub s).length = s.size := Array.length_toList

/-- Parts, PartsOf: the names, and the error -/
def parts (l : Bs) : List Bs × Int := if isPath l then (cut l, 0) else ([], 10)
def joinL (dir n : Bs) : Bs × Int :=
  if isPath dir then (if valid n then (if (cut dir).length ≥ 8 then ([], 2) else if dir = [] then (n, 0) else (dir ++ [47] ++ n, 0)) else ([], 11)) else ([], 10)
/-- what stands ahead of the last sign /, and behind it; no sign: all of it is behind -/
def lastCut (l : Bs) : Bs × Bs := (((l.reverse.dropWhile (fun c => !(c == 47))).drop 1).reverse, (l.reverse.takeWhile (fun c => !(c == 47))).reverse)
def splitL (p : Bs) : Bs × Bs × Int :=
  if isPath p then (if p = [] then ([], [], 1) else ((lastCut p).1, (lastCut p).2, 0)) else ([], [], 10)
def below (p q : Bs) : Bool := decide (p = q) || decide (q = []) || (q ++ [47]).isPrefixOf p
def swapL (q f t : Bs) : Bs × Bool :=
  if q = f then (t, true) else if below q f then (let rest := if f = [] then q else q.drop (f.length + 1); if t = [] then (rest, true) else (t ++ [47] ++ rest, true)) else (q, false)
def digits (k : Nat) : Bs := if k > 9 then [UInt8.ofNat (48 + k / 10), UInt8.ofNat (48 + k % 10)] else [UInt8.ofNat (48 + k % 10)]
def copyL (n tag : Bs) (k : Int) : Bs :=
  if valid n && decide (1 ≤ tag.length) && decide (tag.length ≤ 4) && decide (0 ≤ k) && decide (k ≤ 99) && tag.all letB then
    (let e := [126] ++ tag ++ [126] ++ digits k.toNat; n.take (16 - e.length) ++ e) else []
def parseL (s : Bs) : Bs × Int := match s with
  | [] => ([], 3)
  | c :: r => if c = 47 then (if isPath r then (r, 0) else ([], 3)) else ([], 3)
/-- the names of Long -/
def word (i : Nat) : Bs := [[97], [98], [120, 46, 121], [97, 98, 99, 100, 101, 102, 103, 104, 105, 106, 107, 108, 109, 110, 111, 112], [65, 45, 49, 95, 126], [46, 46, 46], [99, 126, 116, 114, 105, 112, 126, 48], [57]].getD (i % 8) []
def glue : List Bs → Bs
  | [] => []
  | [x] => x
  | x :: y :: r => x ++ [47] ++ glue (y :: r)
def long (l : List Int) : Bs := glue ((l.take 10).map fun c => word c.toNat)

end Go.Proofs.Ytfmeababiedamaa.Sp

/- burgageref01.Path: what it comes to. -/
import Derived.Test.YtfmeababiedamaaA
import Derived.Test.YtfmeababiedamaaT
namespace Go.Proofs.Ytfmeababiedamaa.B
open Go.RowKit Go.Proofs.YtfmeababiedamaaW.PrintWords Go.Proofs.YtfmeababiedamaaW.PrintLast Go.Proofs.YtfmeababiedamaaW.PrintMore
open Go.Proofs.Ytfmeababiedamaa.M Go.Proofs.Ytfmeababiedamaa.Sp Go.Proofs.Ytfmeababiedamaa.E
set_option linter.unusedVariables false
set_option linter.unusedSimpArgs false

def nm (k : Nat) : ByteArray := if k % 3 = 0 then ⟨#[97]⟩ else if k % 3 = 1 then ⟨#[98]⟩ else ⟨#[99]⟩
def sl : ByteArray := ⟨#[47]⟩
/-- the path of a number -/
def pathN (n : Nat) : ByteArray :=
  if n % 4 = 0 then ⟨#[]⟩ else if n % 4 = 1 then nm (n / 4 % 4) else if n % 4 = 2 then nm (n / 4 % 4) ++ sl ++ nm (n / 16 % 4) else nm (n / 4 % 4) ++ sl ++ nm (n / 16 % 4) ++ sl ++ nm (n / 64 % 4)
theorem nm_size (k : Nat) : (nm k).size = 1 := by unfold nm; split <;> (try split) <;> rfl
theorem name_at (k : Nat) (h : k < 4) : burgageref01_Name.f (k : Int) = some (nm k) := by
  have : k = 0 ∨ k = 1 ∨ k = 2 ∨ k = 3 := by omega
  rcases this with rfl | rfl | rfl | rfl <;> rfl
theorem wraps_u16 (n : Int) (h₀ : 0 ≤ n) (h₁ : n < 2 ^ 16) : IntKind.u16.wrap n = n := by
  have : IntKind.u16.wrap n = n % 65536 := by simp [IntKind.wrap, IntKind.bits, IntKind.signed]
  rw [this]; omega
theorem digit (n : Nat) (hn : n < 65536) (j : Nat) (hj : j ≤ 16) : Go.bits .and .u16 (shr .u16 (n : Int) (j : Int)) 3 % 256 = ((n / 2 ^ j % 4 : Nat) : Int) := by
  have h0 : shr .u16 (n : Int) (j : Int) = ((n / 2 ^ j : Nat) : Int) := by
    unfold shr
    rw [Int.toNat_natCast, Nat.min_eq_left (show j ≤ IntKind.u16.bits from hj)]
    norm_cast
  have h1 : n / 2 ^ j < 65536 := Nat.lt_of_le_of_lt (Nat.div_le_self _ _) hn
  rw [h0]
  generalize n / 2 ^ j = m at h1 ⊢
  have h2 := bits_mask .u16 16 (by decide) wraps_u16 2 (by decide) (m : Int) (by omega) (by omega)
  have h3 : Go.bits .and .u16 (m : Int) 3 = (m : Int) % 4 := h2
  rw [h3]
  omega
theorem tm4 (n : Nat) : Int.tmod (n : Int) 4 = ((n % 4 : Nat) : Int) := rfl
theorem step0 (n : Nat) (hn : n < 65536) (h : 0 < n % 4) (k : Nat) (acc : ByteArray) (ha : acc.size ≤ 100) : burgageref01_Path.l0 (k + 1) (n : Int) acc 0 = burgageref01_Path.l0 k (n : Int) (acc ++ nm (n / 4 % 4)) 1 := by
  have e0 := name_at (n / 4 % 4) (by omega)
  have hs := nm_size (n / 4 % 4)
  have w0 : wrap64 (2 + wrap64 (2 * 0)) = ((2 : Nat) : Int) := by rw [w64 (x := 2 * 0) (by omega) (by omega), w64 (by omega) (by omega)]; rfl
  have v0 : wrap64 (0 + 1) = 1 := w64 (by omega) (by omega)
  have v9 : wrap64 ((n % 4 : Nat) : Int) = ((n % 4 : Nat) : Int) := w64 (by omega) (by omega)
  have d0 := digit n hn 2 (by decide)
  simp only [burgageref01_Path.l0, tm4, w0, v0, v9, d0]
  rw [if_pos (by omega), if_neg (by omega), if_pos (by omega), show n / 2 ^ 2 % 4 = n / 4 % 4 from rfl, e0]
  simp only [Option.bind_some]
  rw [if_pos (by rw [hs]; omega)]
theorem step1 (n : Nat) (hn : n < 65536) (h : 1 < n % 4) (k : Nat) (acc : ByteArray) (ha : acc.size ≤ 100) : burgageref01_Path.l0 (k + 1) (n : Int) acc 1 = burgageref01_Path.l0 k (n : Int) (acc ++ sl ++ nm (n / 16 % 4)) 2 := by
  have e0 := name_at (n / 16 % 4) (by omega)
  have hs := nm_size (n / 16 % 4)
  have w0 : wrap64 (2 + wrap64 (2 * 1)) = ((4 : Nat) : Int) := by rw [w64 (x := 2 * 1) (by omega) (by omega), w64 (by omega) (by omega)]; rfl
  have v0 : wrap64 (1 + 1) = 2 := w64 (by omega) (by omega)
  have v9 : wrap64 ((n % 4 : Nat) : Int) = ((n % 4 : Nat) : Int) := w64 (by omega) (by omega)
  have d0 := digit n hn 4 (by decide)
  simp only [burgageref01_Path.l0, tm4, w0, v0, v9, d0]
  rw [if_pos (by omega), if_pos (by omega), if_pos (by omega), if_pos (by omega), show n / 2 ^ 4 % 4 = n / 16 % 4 from rfl, e0]
  simp only [Option.bind_some]
  rw [if_pos (by rw [hs, size_app]; show acc.size + 1 + 1 ≤ _; omega)]
  rfl
theorem step2 (n : Nat) (hn : n < 65536) (h : 2 < n % 4) (k : Nat) (acc : ByteArray) (ha : acc.size ≤ 100) : burgageref01_Path.l0 (k + 1) (n : Int) acc 2 = burgageref01_Path.l0 k (n : Int) (acc ++ sl ++ nm (n / 64 % 4)) 3 := by
  have e0 := name_at (n / 64 % 4) (by omega)
  have hs := nm_size (n / 64 % 4)
  have w0 : wrap64 (2 + wrap64 (2 * 2)) = ((6 : Nat) : Int) := by rw [w64 (x := 2 * 2) (by omega) (by omega), w64 (by omega) (by omega)]; rfl
  have v0 : wrap64 (2 + 1) = 3 := w64 (by omega) (by omega)
  have v9 : wrap64 ((n % 4 : Nat) : Int) = ((n % 4 : Nat) : Int) := w64 (by omega) (by omega)
  have d0 := digit n hn 6 (by decide)
  simp only [burgageref01_Path.l0, tm4, w0, v0, v9, d0]
  rw [if_pos (by omega), if_pos (by omega), if_pos (by omega), if_pos (by omega), show n / 2 ^ 6 % 4 = n / 64 % 4 from rfl, e0]
  simp only [Option.bind_some]
  rw [if_pos (by rw [hs, size_app]; show acc.size + 1 + 1 ≤ _; omega)]
  rfl
theorem stepE (n : Nat) (i : Nat) (h : n % 4 = i) (k : Nat) (acc : ByteArray) : burgageref01_Path.l0 (k + 1) (n : Int) acc (i : Int) = some acc := by
  have v9 : wrap64 ((n % 4 : Nat) : Int) = ((n % 4 : Nat) : Int) := w64 (by omega) (by omega)
  simp only [burgageref01_Path.l0, tm4, v9]
  rw [if_neg (by omega)]
theorem emp_app (a : ByteArray) : (⟨#[]⟩ : ByteArray) ++ a = a := by apply ub_inj; rw [ub_app]; rfl
theorem sl_size : sl.size = 1 := rfl
theorem path_at (n : Nat) (hn : n < 65536) : burgageref01_Path.f 5 (n : Int) = some (pathN n) := by
  have hm : n % 4 = 0 ∨ n % 4 = 1 ∨ n % 4 = 2 ∨ n % 4 = 3 := by omega
  have hz : (⟨#[]⟩ : ByteArray).size = 0 := rfl
  unfold burgageref01_Path.f pathN
  rcases hm with h | h | h | h
  · rw [if_pos h]; exact stepE n 0 h 4 _
  · rw [if_neg (by omega), if_pos h, step0 n hn (by omega) 4 _ (by rw [hz]; omega), emp_app]; exact stepE n 1 h 3 _
  · rw [if_neg (by omega), if_neg (by omega), if_pos h, step0 n hn (by omega) 4 _ (by rw [hz]; omega), emp_app, step1 n hn (by omega) 3 _ (by rw [nm_size]; omega)]; exact stepE n 2 h 2 _
  · rw [if_neg (by omega), if_neg (by omega), if_neg (by omega), step0 n hn (by omega) 4 _ (by rw [hz]; omega), emp_app, step1 n hn (by omega) 3 _ (by rw [nm_size]; omega), step2 n hn (by omega) 2 _ (by rw [size_app, size_app, nm_size, nm_size, sl_size]; omega)]; exact stepE n 3 h 1 _
theorem pathN_size (n : Nat) : (pathN n).size ≤ 5 := by
  unfold pathN
  split
  · exact Nat.zero_le _
  · split
    · rw [nm_size]; omega
    · split <;> simp only [size_app, nm_size, sl_size] <;> omega
theorem path12 (n : Nat) (hn : n < 65536) (w : World) : Calls Try.prog 12 #[.int .u16 n] w fun e w' => e = .returned (.string (pathN n)) ∧ Below w.heap.size w w' :=
  M.burgageref01_Path.calls 5 n _ w (path_at n hn)
theorem add_blk (a : Addr) (n : Nat) : (a.add n).block = a.block := by unfold Addr.add; split <;> rfl
/-- a row of parts is as it was where a block that holds no text is written -/
theorem C_away {W W' : World} {g : Nat} {A : Option Addr} {l : List S32} {cs : Array Value} {t : TypeId} (h : Kd.C k32 W A l.length l) (hb : W.heap[g]? = some (.cells cs t (0, 0))) (hns : ∀ (i : Nat) (s : ByteArray), cs[i]? ≠ some (Value.string s))
    (ho : ∀ k, k ≠ g → W'.heap[k]? = W.heap[k]?) : Kd.C k32 W' A l.length l := by
  refine ⟨h.1, h.2.1, fun hp => ?_⟩
  obtain ⟨ad, e, hc⟩ := h.2.2 hp
  have hne : ad.block ≠ g := by
    intro he
    obtain ⟨c, hl, hK, hcell⟩ := hc 0 _ (List.getElem?_eq_getElem hp)
    obtain rfl := k32_open hK
    have h0 := hcell 0 _ rfl
    unfold World.cell? at h0
    rw [add_blk, he, hb] at h0
    simp only at h0
    split at h0
    · cases h0
    · exact hns _ _ h0
  refine ⟨ad, e, fun j p hj => ?_⟩
  obtain ⟨c, hl, hK, hcell⟩ := hc j p hj
  obtain rfl := k32_open hK
  exact ⟨_, hl, k32_mk W' p, fun i u hu => (World.cell?_of_block (w := W) (ho _ (by rw [add_blk]; exact hne))).trans (hcell i u hu)⟩
theorem no_str2 (A : Option Addr) (n c : Nat) (e : Int) : ∀ (i : Nat) (s : ByteArray), (#[Value.slice A n c, Value.int .i64 e] : Array Value)[i]? ≠ some (Value.string s) := by
  intro i s h
  rcases i with _ | _ | i
  · cases h
  · cases h
  · simp at h
theorem no_str1 (A : Option Addr) (n c : Nat) : ∀ (i : Nat) (s : ByteArray), (#[Value.slice A n c] : Array Value)[i]? ≠ some (Value.string s) := by
  intro i s h
  rcases i with _ | i
  · cases h
  · simp at h
end Go.Proofs.Ytfmeababiedamaa.B

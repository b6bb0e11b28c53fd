/- name.Copy, walked. -/
import Derived.Test.YtpahemgofhpfnaaDoorD
import Derived.Lib.OthersKept
import Derived.Laws.RangeAny
namespace Go.Proofs.YtpahemgofhpfnaaDoor.F
open Go.RowKit Go.Shelf Go.Proofs.YtpahemgofhpfnaaDoorW.PrintWords Go.Proofs.YtpahemgofhpfnaaDoorW.PrintLast Go.Proofs.YtpahemgofhpfnaaDoorW.PrintMore
open Go.Proofs.YtpahemgofhpfnaaDoor Go.Proofs.YtpahemgofhpfnaaDoor.D Go.Proofs.YtpahemgofhpfnaaDoor.E Go.Proofs.YtpahemgofhpfnaaDoor.Sp
set_option linter.unusedVariables false
set_option linter.unusedSimpArgs false

theorem small_eq : ∀ m : Fin 100, M.strconv_small.f ((m.val : Nat) : Int) = some (bx (digits m.val)) := by decide +kernel
theorem small55 (k : Nat) (hk : k ≤ 99) (w : World) : Calls Tryd.prog 55 #[.int .i64 k] w fun e w' => e = .returned (.string (bx (digits k))) ∧ Drawn0 w w' :=
  M.strconv_small.calls _ _ w (small_eq ⟨k, by omega⟩)
set_option maxHeartbeats 400000 in
theorem formatInt52 (k : Nat) (hk : k ≤ 99) (w : World) : Calls Tryd.prog 52 #[.int .i64 k, .int .i64 10] w fun e w' => e = .returned (.string (bx (digits k))) ∧ Drawn0 w w' := by
  have h1 : decide (0 ≤ (k : Int)) = true := decide_eq_true (by omega)
  have h2 : decide ((k : Int) < 100) = true := decide_eq_true (by omega)
  have C := small55 k hk
  clear hk
  go_enter Tryd.func52, Tryd.ntmps52
  go_wp2_with (go_at_call 55; refine (C _).mono ?_; rintro e w' ⟨rfl, ⟨⟨nd, rfl⟩⟩⟩)
  go_ret
  exact ⟨rfl, by repeat (first | exact Drawn0.refl _ | apply Drawn0.step)⟩
theorem itoa47 (k : Nat) (hk : k ≤ 99) (w : World) : Calls Tryd.prog 47 #[.int .i64 k] w fun e w' => e = .returned (.string (bx (digits k))) ∧ Drawn0 w w' := by
  have C := formatInt52 k hk
  clear hk
  go_enter Tryd.func47, Tryd.ntmps47
  go_wp2_with (go_at_call 52; refine (C _).mono ?_; rintro e w' ⟨rfl, ⟨⟨nd, rfl⟩⟩⟩)
  go_ret
  exact ⟨rfl, by repeat (first | exact Drawn0.refl _ | apply Drawn0.step)⟩
theorem itoa43 (k : Nat) (hk : k ≤ 99) (w : World) : Calls Tryd.prog 43 #[.int .i64 k] w fun e w' => e = .returned (.string (bx (digits k))) ∧ Drawn0 w w' := by
  have C := itoa47 k hk
  clear hk
  go_enter Tryd.func43, Tryd.ntmps43
  go_wp2_with (go_at_call 47; refine (C _).mono ?_; rintro e w' ⟨rfl, ⟨⟨nd, rfl⟩⟩⟩)
  go_ret
  exact ⟨rfl, by repeat (first | exact Drawn0.refl _ | apply Drawn0.step)⟩

theorem isLetter_eq (c : UInt8) : M.name_isLetter.f (c.toNat : Int) = some (letB c) := by
  have h : ∀ n : Fin 256, M.name_isLetter.f ((UInt8.ofNat n.val).toNat : Int) = some (letB (UInt8.ofNat n.val)) := by decide +kernel
  have := h ⟨c.toNat, c.toNat_lt⟩
  simpa using this
theorem isLetter_high (n : Nat) (h : 128 ≤ n) : M.name_isLetter.f (n : Int) = some false := by
  unfold M.name_isLetter.f
  rw [if_pos (by omega), if_neg (by omega), if_pos (by omega)]
  congr 1
  exact decide_eq_false (by omega)
theorem let_high (c : UInt8) (h : 128 ≤ c.toNat) : letB c = false := by
  have h0 : ∀ n : Fin 256, 128 ≤ (UInt8.ofNat n.val).toNat → letB (UInt8.ofNat n.val) = false := by decide +kernel
  have := h0 ⟨c.toNat, c.toNat_lt⟩
  simpa using this (by simpa using h)
/-- a rune of a text, and the byte with which it begins: letters are of one byte -/
theorem rune_at (s : ByteArray) (pos : Nat) (h : pos < s.size) : M.name_isLetter.f ((Utf8.decode s pos).1 : Int) = some (letB (s[pos]'h)) ∧ (letB (s[pos]'h) = true → (Utf8.decode s pos).2 = 1) := by
  by_cases ha : (s[pos]'h).toNat < 128
  · rw [decode_ascii s pos h ha]
    exact ⟨isLetter_eq _, fun _ => rfl⟩
  · have hh := decode_high s pos h (by omega)
    have hl := let_high _ (by omega : 128 ≤ (s[pos]'h).toNat)
    exact ⟨by rw [hl]; exact isLetter_high _ hh.1, fun h => by rw [hl] at h; cases h⟩

def copyB (n tag : ByteArray) (k : Int) : ByteArray := bx (copyL (ub n) (ub tag) k)
theorem all_take_succ (l : Bs) (p : UInt8 → Bool) (i : Nat) (h : i < l.length) : (l.take (i + 1)).all p = ((l.take i).all p && p l[i]) := by
  rw [List.take_succ_eq_append_getElem h, List.all_append]; simp

theorem ub_size0 (s : ByteArray) : (ub s).length = 0 ↔ ub s = [] := by rw [List.length_eq_zero_iff]
theorem copyB_eq (n tag : ByteArray) (k : Nat) (h1 : valid (ub n) = true) (h2 : ¬ ub tag = []) (h3 : tag.size ≤ 4) (h4 : k ≤ 99) (h5 : (ub tag).all letB = true) (m : Nat)
    (hm : (m : Int) = min (n.size : Int) (16 - (1 + (tag.size : Int) + 1 + ((bx (digits k)).size : Int)))) :
    n.extract 0 m ++ ((⟨#[126]⟩ : ByteArray) ++ tag ++ ⟨#[126]⟩ ++ bx (digits k)) = copyB n tag k := by
  apply ub_inj
  have hl : 1 ≤ (ub tag).length := Nat.pos_of_ne_zero (fun h => h2 ((ub_size0 tag).1 h))
  have hl2 : (ub tag).length ≤ 4 := by rw [ub_size]; exact h3
  unfold copyB copyL
  rw [h1, h5, decide_eq_true hl, decide_eq_true hl2, decide_eq_true (show 0 ≤ (k : Int) by omega), decide_eq_true (show (k : Int) ≤ 99 by omega)]
  simp only [Bool.and_true, if_true, Int.toNat_natCast]
  rw [ub_app, ub_app, ub_app, ub_app, ub_extract, ub_bx, ub_bx, show ub (⟨#[126]⟩ : ByteArray) = [126] from rfl, List.drop_zero]
  congr 1
  rw [bx_size] at hm
  simp only [List.length_append, List.length_cons, List.length_nil]
  have e := ub_size n
  have e2 := ub_size tag
  by_cases hlt : m = n.size
  · have q1 : (ub n).length ≤ m := by omega
    have q2 : (ub n).length ≤ 16 - (0 + 1 + (ub tag).length + (0 + 1) + (digits k).length) := by omega
    rw [List.take_of_length_le q1, List.take_of_length_le q2]
  · congr 1; omega
theorem copyB_eq' (n tag : ByteArray) (k : Nat) (h1 : valid (ub n) = true) (h2 : ¬ ub tag = []) (h3 : tag.size ≤ 4) (h4 : k ≤ 99) (h5 : (ub tag).all letB = true) (D : ByteArray) (hD : bx (digits k) = D) (m : Nat)
    (hm : (m : Int) = min (n.size : Int) (16 - (1 + (tag.size : Int) + 1 + (D.size : Int)))) :
    n.extract 0 m ++ ((⟨#[126]⟩ : ByteArray) ++ tag ++ ⟨#[126]⟩ ++ D) = copyB n tag k := by
  subst hD
  exact copyB_eq n tag k h1 h2 h3 h4 h5 m hm
theorem digits_size (k : Nat) : 1 ≤ (bx (digits k)).size ∧ (bx (digits k)).size ≤ 2 := by
  rw [bx_size]; unfold digits; split <;> simp
theorem copyB_bad (n tag : ByteArray) (k : Int) (h : (valid (ub n) && decide (1 ≤ (ub tag).length) && decide ((ub tag).length ≤ 4) && decide (0 ≤ k) && decide (k ≤ 99) && (ub tag).all letB) = false) : copyB n tag k = ⟨#[]⟩ := by
  unfold copyB copyL
  rw [h]; rfl
theorem all_not (l : Bs) (p : UInt8 → Bool) (i : Nat) (h : i < l.length) (hp : p l[i] = false) : l.all p = false := by
  rw [List.all_eq_false]
  exact ⟨l[i], List.getElem_mem h, by simp [hp]⟩
theorem below_drewN {B : Nat} {a w : World} (h : Below B a w) (m : Nat) : Below B a (w.drewN m) := ⟨h.os, h.tape, h.output, by rw [World.heap_drewN]; exact h.size, fun k hk => by rw [World.heap_drewN]; exact h.block k hk⟩
/-- the conditions ahead of the loop -/
def Good (n tag : ByteArray) (k : Int) : Prop := valid (ub n) = true ∧ ¬ ub tag = [] ∧ tag.size ≤ 4 ∧ 0 ≤ k ∧ k ≤ 99

set_option maxHeartbeats 1000000 in
set_option maxRecDepth 100000 in
theorem copy28_good (n tag : ByteArray) (k : Nat) (h : Good n tag k) (w : World) :
    Calls Tryd.prog 28 #[.string n, .string tag, .int .i64 k] w fun e w' => e = .returned (.string (copyB n tag k)) ∧ Below w.heap.size w w' := by
  obtain ⟨h1, h2, h3, h4, h5⟩ := h
  have hV := valid13 n
  rw [h1] at hV
  have H1 := Lib.hid h1
  have e2 : tag.toList.isEmpty = false := by rw [tl]; simpa using h2
  have e3 : decide (4 < (tag.size : Int)) = false := decide_eq_false (by omega)
  have e3' : decide (4 < tag.size) = false := decide_eq_false (by omega)
  have e4 : decide ((k : Int) < 0) = false := decide_eq_false (by omega)
  have e5 : decide (99 < (k : Int)) = false := decide_eq_false (by omega)
  have hkn : k ≤ 99 := by omega
  obtain ⟨hd1, hd2⟩ := digits_size k
  have H2 := Lib.hid h2
  clear h1 h2
  go_enter Tryd.func28, Tryd.ntmps28
  go_wp2_with (go_at_call 13; refine (hV _).mono ?_; rintro e w' ⟨rfl, ⟨⟨nd, rfl⟩⟩⟩)
  go_loopw [] (fun wr => ∃ pos, pos ≤ tag.size ∧ wr.heap[w.heap.size]? = some (.stringIter tag pos) ∧ Below w.heap.size w wr ∧ ((ub tag).take pos).all letB = true) (fun wr => tag.size - wr.iterPos w.heap.size)
  case atStart =>
    refine ⟨0, Nat.zero_le _, ?_, ?_, by simp⟩
    · have := World.iter_heap (w.drewN nd) tag 0
      simpa using this
    · exact (Drawn0.below ⟨⟨nd, rfl⟩⟩ : Below w.heap.size w (w.drewN nd)).alloc (by simp) _
  case round =>
    obtain ⟨pos, hp, hit, hbw, hall⟩ := hrel
    have Hall := Lib.hid hall
    clear hall
    have hsz : w.heap.size < wr.heap.size := (Array.getElem?_eq_some_iff.1 hit).1
    by_cases hlt : pos < tag.size
    · have hnx : ∀ ty, (Instr.next (.pointer (some ⟨w.heap.size, 0, none⟩)) true ty).run Tryd.prog wr = _ := fun ty => Lib.run_next_any_at wr w.heap.size tag pos ty hit hlt
      obtain ⟨r1, r2⟩ := rune_at tag pos hlt
      have hit2 := fun p => Lib.iterAt_heap wr w.heap.size tag pos p hit
      have hbw2 := fun p => Lib.below_iterAt hbw (k := w.heap.size) (Nat.le_refl _) tag p
      have HC := fun w => M.name_isLetter.calls _ _ w r1
      obtain ⟨c, hc⟩ : ∃ c, (tag[pos]'hlt) = c := ⟨_, rfl⟩
      rw [hc] at HC r2
      have Hc := Lib.hid hc
      obtain ⟨b, hb⟩ : ∃ b, letB c = b := ⟨_, rfl⟩
      rw [hb] at HC r2
      have Hb := Lib.hid hb
      clear hc hb r1
      generalize hu : Utf8.decode tag pos = u at *
      clear hu
      obtain ⟨u1, u2⟩ := u
      cases b
      · go_wp2_with (go_at_call 42; refine (HC _).mono ?_; rintro e w' ⟨rfl, ⟨⟨nd2, rfl⟩⟩⟩)
        go_ret
        have hbad : (ub tag).all letB = false := all_not _ _ pos (by rw [ub_size]; exact hlt) (by show letB (tag[pos]'hlt) = false; rw [Hc.out, Hb.out])
        have e := copyB_bad n tag k (by rw [hbad, Bool.and_false])
        exact ⟨by rw [e]; rfl, by repeat (first | exact hbw2 _ | apply below_drewN)⟩
      · have r3 := r2 rfl
        dsimp only at r3
        subst r3
        clear r2
        go_wp2_with (go_at_call 42; refine (HC _).mono ?_; rintro e w' ⟨rfl, ⟨⟨nd2, rfl⟩⟩⟩)
        go_roundw
        case rel =>
          refine ⟨pos + 1, by omega, ?_, ?_, ?_⟩
          · rw [World.heap_drewN]; exact hit2 _
          · exact below_drewN (hbw2 _) _
          · rw [all_take_succ _ _ pos (by rw [ub_size]; exact hlt), Hall.out]
            show letB (tag[pos]'hlt) = true
            rw [Hc.out, Hb.out]
        case measure =>
          simp only [World.iterPos, World.heap_drewN, hit2, hit]
          omega
    · have hnx : ∀ ty, (Instr.next (.pointer (some ⟨w.heap.size, 0, none⟩)) true ty).run Tryd.prog wr = _ := fun ty => Lib.run_next_end_at wr w.heap.size tag pos ty hit hlt
      go_wp2_with (go_at_call 43; refine (itoa43 k hkn _).mono ?_; rintro e w' ⟨rfl, ⟨⟨nd2, rfl⟩⟩⟩)
      go_ret
      have hall : (ub tag).all letB = true := by rw [← Hall.out, List.take_of_length_le (by rw [ub_size]; omega)]
      exact ⟨congrArg (fun s => Ending.returned (Value.string s)) (copyB_eq n tag k H1.out H2.out h3 hkn hall _ (by omega)), below_drewN hbw _⟩
theorem notGood_copyB (n tag : ByteArray) (k : Int) (h : ¬ Good n tag k) : copyB n tag k = ⟨#[]⟩ := by
  apply copyB_bad
  rw [Bool.eq_false_iff]
  intro hh
  simp only [Bool.and_eq_true, decide_eq_true_eq] at hh
  obtain ⟨⟨⟨⟨⟨a1, a2⟩, a3⟩, a4⟩, a5⟩, a6⟩ := hh
  exact h ⟨a1, fun e => by rw [e] at a2; simp at a2, by rw [← ub_size]; exact a3, a4, a5⟩

set_option maxHeartbeats 1000000 in
set_option maxRecDepth 100000 in
theorem copy28_bad (n tag : ByteArray) (k : Int) (h : ¬ Good n tag k) (w : World) :
    Calls Tryd.prog 28 #[.string n, .string tag, .int .i64 k] w fun e w' => e = .returned (.string ⟨#[]⟩) ∧ Below w.heap.size w w' := by
  have hV := valid13 n
  by_cases h1 : valid (ub n) = true
  · rw [h1] at hV
    by_cases h2 : ub tag = []
    · have e2 : tag.toList.isEmpty = true := by rw [tl]; simpa using h2
      clear h h1 h2
      go_enter Tryd.func28, Tryd.ntmps28
      go_wp2_with (go_at_call 13; refine (hV _).mono ?_; rintro e w' ⟨rfl, ⟨⟨nd, rfl⟩⟩⟩)
      go_ret
      exact ⟨rfl, below_drewN (Below.refl _ _) _⟩
    · have e2 : tag.toList.isEmpty = false := by rw [tl]; simpa using h2
      by_cases h3 : tag.size ≤ 4
      · have e3 : decide (4 < (tag.size : Int)) = false := decide_eq_false (by omega)
        have e3' : decide (4 < tag.size) = false := decide_eq_false (by omega)
        by_cases h4 : 0 ≤ k
        · have h5 : ¬ k ≤ 99 := fun h5 => h ⟨h1, h2, h3, h4, h5⟩
          have e4 : decide (k < 0) = false := decide_eq_false (by omega)
          have e5 : decide (99 < k) = true := decide_eq_true (by omega)
          clear h h1 h2
          go_enter Tryd.func28, Tryd.ntmps28
          go_wp2_with (go_at_call 13; refine (hV _).mono ?_; rintro e w' ⟨rfl, ⟨⟨nd, rfl⟩⟩⟩)
          go_ret
          exact ⟨rfl, below_drewN (Below.refl _ _) _⟩
        · have e4 : decide (k < 0) = true := decide_eq_true (by omega)
          clear h h1 h2
          go_enter Tryd.func28, Tryd.ntmps28
          go_wp2_with (go_at_call 13; refine (hV _).mono ?_; rintro e w' ⟨rfl, ⟨⟨nd, rfl⟩⟩⟩)
          go_ret
          exact ⟨rfl, below_drewN (Below.refl _ _) _⟩
      · have e3 : decide (4 < (tag.size : Int)) = true := decide_eq_true (by omega)
        have e3' : decide (4 < tag.size) = true := decide_eq_true (by omega)
        clear h h1 h2
        go_enter Tryd.func28, Tryd.ntmps28
        go_wp2_with (go_at_call 13; refine (hV _).mono ?_; rintro e w' ⟨rfl, ⟨⟨nd, rfl⟩⟩⟩)
        go_ret
        exact ⟨rfl, below_drewN (Below.refl _ _) _⟩
  · rw [Bool.not_eq_true] at h1
    rw [h1] at hV
    clear h h1
    go_enter Tryd.func28, Tryd.ntmps28
    go_wp2_with (go_at_call 13; refine (hV _).mono ?_; rintro e w' ⟨rfl, ⟨⟨nd, rfl⟩⟩⟩)
    go_ret
    exact ⟨rfl, below_drewN (Below.refl _ _) _⟩
/-- name.Copy -/
theorem copy28 (n tag : ByteArray) (k : Int) (w : World) :
    Calls Tryd.prog 28 #[.string n, .string tag, .int .i64 k] w fun e w' => e = .returned (.string (copyB n tag k)) ∧ Below w.heap.size w w' := by
  by_cases h : Good n tag k
  · obtain ⟨m, rfl⟩ := Int.eq_ofNat_of_zero_le h.2.2.2.1
    exact copy28_good n tag m h w
  · rw [notGood_copyB n tag k h]
    exact copy28_bad n tag k h w

/-! the reference's -/
theorem letter34 (c : UInt8) (w : World) : Calls Tryd.prog 34 #[.int .u8 c.toNat] w fun e w' => e = .returned (.bool (letB c)) ∧ Drawn0 w w' :=
  M.burgageref01_letter.calls _ _ w (letter_eq c)
theorem rvalid_any (s : ByteArray) (k : Nat) (hk : 1002 ≤ k) : M.burgageref01_Valid.f k s = some (valid (ub s)) := by
  by_cases hs : s.size ≤ 1000
  · exact rvalid_at s hs k hk
  · obtain ⟨k, rfl⟩ : ∃ m, k = m + 1 := ⟨k - 1, by omega⟩
    simp only [M.burgageref01_Valid.f]
    rw [if_neg (by omega), if_pos (by omega)]
    have hv : valid (ub s) = false := by
      unfold valid
      rw [decide_eq_false (show ¬ (ub s).length ≤ 16 by rw [ub_size]; omega)]
      simp
    rw [hv]
    rfl
theorem valid14 (s : ByteArray) (w : World) : Calls Tryd.prog 14 #[.string s] w fun e w' => e = .returned (.bool (valid (ub s))) ∧ Drawn0 w w' :=
  M.burgageref01_Valid.calls 1002 s _ w (rvalid_any s 1002 (Nat.le_refl _))

set_option maxHeartbeats 1000000 in
set_option maxRecDepth 100000 in
theorem copy29_bad (n tag : ByteArray) (k : Int) (h : ¬ Good n tag k) (w : World) :
    Calls Tryd.prog 29 #[.string n, .string tag, .int .i64 k] w fun e w' => e = .returned (.string ⟨#[]⟩) ∧ Below w.heap.size w w' := by
  have hV := valid14 n
  have hz := ub_size tag
  by_cases h1 : valid (ub n) = true
  · rw [h1] at hV
    by_cases h2 : ub tag = []
    · rw [h2] at hz
      have e2 : decide ((tag.size : Int) < 1) = true := decide_eq_true (by simp at hz; omega)
      have e2' : decide (tag.size < 1) = true := decide_eq_true (by simp at hz; omega)
      clear h h1 h2 hz
      go_enter Tryd.func29, Tryd.ntmps29
      go_wp2_with (go_at_call 14; refine (hV _).mono ?_; rintro e w' ⟨rfl, ⟨⟨nd, rfl⟩⟩⟩)
      go_ret
      exact ⟨rfl, below_drewN (Below.refl _ _) _⟩
    · have h2' : 1 ≤ tag.size := by rw [← hz]; exact Nat.pos_of_ne_zero (fun h => h2 ((ub_size0 tag).1 h))
      have e2 : decide ((tag.size : Int) < 1) = false := decide_eq_false (by omega)
      have e2' : decide (tag.size < 1) = false := decide_eq_false (by omega)
      by_cases h3 : tag.size ≤ 4
      · have e3 : decide (4 < (tag.size : Int)) = false := decide_eq_false (by omega)
        have e3' : decide (4 < tag.size) = false := decide_eq_false (by omega)
        by_cases h4 : 0 ≤ k
        · have h5 : ¬ k ≤ 99 := fun h5 => h ⟨h1, h2, h3, h4, h5⟩
          have e4 : decide (k < 0) = false := decide_eq_false (by omega)
          have e5 : decide (99 < k) = true := decide_eq_true (by omega)
          clear h h1 h2 hz
          go_enter Tryd.func29, Tryd.ntmps29
          go_wp2_with (go_at_call 14; refine (hV _).mono ?_; rintro e w' ⟨rfl, ⟨⟨nd, rfl⟩⟩⟩)
          go_ret
          exact ⟨rfl, below_drewN (Below.refl _ _) _⟩
        · have e4 : decide (k < 0) = true := decide_eq_true (by omega)
          clear h h1 h2 hz
          go_enter Tryd.func29, Tryd.ntmps29
          go_wp2_with (go_at_call 14; refine (hV _).mono ?_; rintro e w' ⟨rfl, ⟨⟨nd, rfl⟩⟩⟩)
          go_ret
          exact ⟨rfl, below_drewN (Below.refl _ _) _⟩
      · have e3 : decide (4 < (tag.size : Int)) = true := decide_eq_true (by omega)
        have e3' : decide (4 < tag.size) = true := decide_eq_true (by omega)
        clear h h1 h2 hz
        go_enter Tryd.func29, Tryd.ntmps29
        go_wp2_with (go_at_call 14; refine (hV _).mono ?_; rintro e w' ⟨rfl, ⟨⟨nd, rfl⟩⟩⟩)
        go_ret
        exact ⟨rfl, below_drewN (Below.refl _ _) _⟩
  · rw [Bool.not_eq_true] at h1
    rw [h1] at hV
    clear h h1 hz
    go_enter Tryd.func29, Tryd.ntmps29
    go_wp2_with (go_at_call 14; refine (hV _).mono ?_; rintro e w' ⟨rfl, ⟨⟨nd, rfl⟩⟩⟩)
    go_ret
    exact ⟨rfl, below_drewN (Below.refl _ _) _⟩

def dig1 (m : Nat) : ByteArray := bx [UInt8.ofNat (48 + m)]
theorem conv_one (W : World) (g : Nat) (hg : g = W.heap.size) (m : Nat) (hm : m < 10) (x : Int) (hx : x = 48 + (m : Int)) : (convert 23 9 (.slice (some ⟨g, 0, none⟩) 1 1)).run Tryd.prog (W.alloc (.cells #[.int .u8 x] 5)) = .ok (.string (dig1 m)) (W.alloc (.cells #[.int .u8 x] 5)) := by
  subst hg
  have h : ReadsInt (W.alloc (.cells #[.int .u8 x] 5)) .u8 (some ⟨W.heap.size, 0, none⟩) 1 [x] := by
    refine ⟨rfl, by omega, fun _ => ⟨_, rfl, fun j hj => ?_⟩⟩
    obtain rfl : j = 0 := by omega
    simp [Addr.add]
  rw [string_of_reads Tryd.underlying23 Tryd.underlying5 Tryd.underlying9 h]
  congr 2
  unfold dig1 bx strOfNums
  rw [hx]
  simp only [List.map_cons, List.map_nil]
  rw [show (48 + (m : Int)).toNat = 48 + m by omega]
theorem digits_one (k : Nat) (h : ¬ 9 < k) : bx (digits k) = dig1 (k % 10) := by unfold digits dig1; rw [if_neg h]
theorem digits_two (k : Nat) (h : 9 < k) : bx (digits k) = dig1 (k / 10) ++ dig1 (k % 10) := by unfold digits dig1; rw [if_pos h, bx_app]; rfl
theorem dig1_size (m : Nat) : (dig1 m).size = 1 := bx_size _

set_option maxHeartbeats 1000000 in
set_option maxRecDepth 100000 in
theorem copy29_good (n tag : ByteArray) (k : Nat) (h : Good n tag k) (w : World) :
    Calls Tryd.prog 29 #[.string n, .string tag, .int .i64 k] w fun e w' => e = .returned (.string (copyB n tag k)) ∧ Below w.heap.size w w' := by
  obtain ⟨h1, h2, h3, h4, h5⟩ := h
  have hV := valid14 n
  rw [h1] at hV
  have H1 := Lib.hid h1
  have hz := ub_size tag
  have h2' : 1 ≤ tag.size := by rw [← hz]; exact Nat.pos_of_ne_zero (fun h => h2 ((ub_size0 tag).1 h))
  have e2 : decide ((tag.size : Int) < 1) = false := decide_eq_false (by omega)
  have e2' : decide (tag.size < 1) = false := decide_eq_false (by omega)
  have e3 : decide (4 < (tag.size : Int)) = false := decide_eq_false (by omega)
  have e3' : decide (4 < tag.size) = false := decide_eq_false (by omega)
  have e4 : decide ((k : Int) < 0) = false := decide_eq_false (by omega)
  have e5 : decide (99 < (k : Int)) = false := decide_eq_false (by omega)
  have hkn : k ≤ 99 := by omega
  obtain ⟨hd1, hd2⟩ := digits_size k
  have H2 := Lib.hid h2
  clear h1 h2 hz
  go_enter Tryd.func29, Tryd.ntmps29
  go_wp2_with (go_at_call 14; refine (hV _).mono ?_; rintro e w' ⟨rfl, ⟨⟨nd, rfl⟩⟩⟩)
  go_loopw [7] (fun i wr => ∃ pos : Nat, pos ≤ tag.size ∧ i = .int .i64 pos ∧ Below w.heap.size w wr ∧ ((ub tag).take pos).all letB = true) (fun i _ => tag.size - (intOf i).toNat)
  case atStart =>
    exact ⟨0, Nat.zero_le _, rfl, below_drewN (Below.refl _ _) _, by simp⟩
  case round =>
    obtain ⟨pos, hp, rfl, hbw, hall⟩ := hrel
    have Hall := Lib.hid hall
    clear hall
    by_cases hlt : pos < tag.size
    · obtain ⟨c, hc⟩ : ∃ c, (tag[pos]'hlt) = c := ⟨_, rfl⟩
      have HC := letter34 (tag[pos]'hlt)
      obtain ⟨b, hb⟩ : ∃ b, letB (tag[pos]'hlt) = b := ⟨_, rfl⟩
      rw [hb] at HC
      have Hb := Lib.hid hb
      clear hb hc
      cases b
      · go_wp2_with (go_at_call 34; refine (HC _).mono ?_; rintro e w' ⟨rfl, ⟨⟨nd2, rfl⟩⟩⟩)
        go_ret
        have hbad : (ub tag).all letB = false := all_not _ _ pos (by rw [ub_size]; exact hlt) Hb.out
        have e := copyB_bad n tag k (by rw [hbad, Bool.and_false])
        exact ⟨by rw [e]; rfl, by repeat (first | exact hbw | apply below_drewN)⟩
      · go_wp2_with (go_at_call 34; refine (HC _).mono ?_; rintro e w' ⟨rfl, ⟨⟨nd2, rfl⟩⟩⟩)
        go_roundw
        case rel =>
          refine ⟨pos + 1, by omega, by go_num, below_drewN hbw _, ?_⟩
          · rw [all_take_succ _ _ pos (by rw [ub_size]; exact hlt), Hall.out]
            exact Hb.out
        case measure => simp [intOf]; omega
    · have hall : (ub tag).all letB = true := by rw [← Hall.out, List.take_of_length_le (by rw [ub_size]; omega)]
      clear Hall
      have cv1 := conv_one wr wr.heap.size rfl (k % 10) (by omega) (48 + (k : Int) % 10) (by omega)
      have cv2 := fun o => conv_one (wr.alloc o) (wr.heap.size + 1) (by simp) (k / 10) (by omega) (48 + (k : Int) / 10) (by omega)
      have z1 := dig1_size (k % 10)
      have z2 := dig1_size (k / 10)
      have hall2 := Lib.hid hall
      obtain ⟨D1, hD1⟩ : ∃ D, dig1 (k % 10) = D := ⟨_, rfl⟩
      obtain ⟨D2, hD2⟩ : ∃ D, dig1 (k / 10) = D := ⟨_, rfl⟩
      rw [hD1] at cv1 z1
      rw [hD2] at z2
      simp only [hD2] at cv2
      have y1 : D1.size ≤ 1 := by omega
      have y2 : D2.size ≤ 1 := by omega
      have Z1 := Lib.hid z1
      have Z2 := Lib.hid z2
      have X1 := Lib.hid hD1
      have X2 := Lib.hid hD2
      clear z1 z2 hD1 hD2 hall
      by_cases hk9 : 9 < k
      · have e9 : decide (9 < (k : Int)) = true := decide_eq_true (by omega)
        go_wp2
        go_ret
        have hdg := digits_two k hk9
        rw [X1.out, X2.out] at hdg
        exact ⟨congrArg (fun s => Ending.returned (Value.string s)) (copyB_eq' n tag k H1.out H2.out h3 hkn hall2.out _ hdg _ (by rw [size_app]; omega)), (hbw.alloc hbw.size _).alloc (by have := hbw.size; simp; omega) _⟩
      · have e9 : decide (9 < (k : Int)) = false := decide_eq_false (by omega)
        go_wp2
        go_ret
        have hdg := digits_one k hk9
        rw [X1.out] at hdg
        exact ⟨congrArg (fun s => Ending.returned (Value.string s)) (copyB_eq' n tag k H1.out H2.out h3 hkn hall2.out _ hdg _ (by omega)), hbw.alloc hbw.size _⟩
/-- the reference's Copy -/
theorem copy29 (n tag : ByteArray) (k : Int) (w : World) :
    Calls Tryd.prog 29 #[.string n, .string tag, .int .i64 k] w fun e w' => e = .returned (.string (copyB n tag k)) ∧ Below w.heap.size w w' := by
  by_cases h : Good n tag k
  · obtain ⟨m, rfl⟩ := Int.eq_ofNat_of_zero_le h.2.2.2.1
    exact copy29_good n tag m h w
  · rw [notGood_copyB n tag k h]
    exact copy29_bad n tag k h w
end Go.Proofs.YtpahemgofhpfnaaDoor.F

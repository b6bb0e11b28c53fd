/- The fixed examples: sanity answers true. -/
import Derived.Test.YtpahemgofhpfnaaDoorK
namespace Go.Proofs.YtpahemgofhpfnaaDoor.H
open Go.RowKit Go.Shelf Go.Proofs.YtpahemgofhpfnaaDoorW.PrintWords Go.Proofs.YtpahemgofhpfnaaDoorW.PrintLast Go.Proofs.YtpahemgofhpfnaaDoorW.PrintMore
open Go.Proofs.YtpahemgofhpfnaaDoor Go.Proofs.YtpahemgofhpfnaaDoor.D Go.Proofs.YtpahemgofhpfnaaDoor.E Go.Proofs.YtpahemgofhpfnaaDoor.F Go.Proofs.YtpahemgofhpfnaaDoor.Sp Go.Proofs.YtpahemgofhpfnaaDoor.K
set_option linter.unusedVariables false
set_option linter.unusedSimpArgs false

/-- parts at a literal -/
theorem parts_lit (s : ByteArray) (hs : s.size ≤ 1000) (xs : List ByteArray) (e : Int) (h : partsB s = (xs, e)) (n : Nat) (hn : xs.length = n) (w : World) : Calls Tryd.prog 16 #[.string s] w fun e' w' =>
    ∃ A c, e' = .returned (.agg #[.slice A n c, .int .i64 e]) ∧ n ≤ c ∧ Kd.C Kd.string w' A n xs ∧ Below w.heap.size w w' := by
  have := parts16 s hs w
  rw [h] at this
  subst hn
  exact this
theorem same_lit (A B : Option Addr) (c d n : Nat) (a : List ByteArray) (x : Int) (w : World) (hn : a.length = n) (ha : Kd.C Kd.string w A n a) (hc : n ≤ c) (hb : Kd.C Kd.string w B n a) (hd : n ≤ d) (hl : n ≤ 1001) :
    Calls Tryd.prog 15 #[.agg #[.slice A n c, .int .i64 x], .agg #[.slice B n d, .int .i64 x]] w fun e w' => e = .returned (.bool true) ∧ Below w.heap.size w w' := by
  subst hn
  have := same15 A B c d a a x x w ha hc hb hd hl
  simpa using this
theorem join_lit (s n : ByteArray) (hs : s.size ≤ 1000) (hn : n.size ≤ 1000) (p : ByteArray) (e : Int) (h : joinB s n = (p, e)) (w : World) : Calls Tryd.prog 18 #[.string s, .string n] w fun e' w' => e' = .returned (.agg #[.string p, .int .i64 e]) ∧ Below w.heap.size w w' := by
  have := join18 s n hs hn w
  rw [h] at this
  exact this
theorem split_lit (s : ByteArray) (hs : s.size ≤ 1000) (p q : ByteArray) (e : Int) (h : splitB s = (p, q, e)) (w : World) : Calls Tryd.prog 20 #[.string s] w fun e' w' => e' = .returned (.agg #[.string p, .string q, .int .i64 e]) ∧ Below w.heap.size w w' := by
  have := split20 s hs w
  rw [h] at this
  exact this
theorem parse_lit (s : ByteArray) (hs : s.size ≤ 1000) (p : ByteArray) (e : Int) (h : parseB s = (p, e)) (w : World) : Calls Tryd.prog 22 #[.string s] w fun e' w' => e' = .returned (.agg #[.string p, .int .i64 e]) ∧ Below w.heap.size w w' := by
  have := parse22 s hs w
  rw [h] at this
  exact this
theorem below_lit (p q : ByteArray) (hq : q.size ≤ 1000) (b : Bool) (h : below (ub p) (ub q) = b) (w : World) : Calls Tryd.prog 24 #[.string p, .string q] w fun e w' => e = .returned (.bool b) ∧ Drawn0 w w' := by
  have := below24 p q hq w
  rw [h] at this
  exact this
theorem swap_lit (q f t : ByteArray) (hq : q.size ≤ 1000) (hf : f.size ≤ 1000) (ht : t.size ≤ 1000) (r : ByteArray) (b : Bool) (h : swapB q f t = (r, b)) (w : World) : Calls Tryd.prog 26 #[.string q, .string f, .string t] w fun e w' => e = .returned (.agg #[.string r, .bool b]) ∧ Below w.heap.size w w' := by
  have := swap26 q f t hq hf ht w
  rw [h] at this
  exact this
theorem copy_lit (n tag : ByteArray) (k : Int) (r : ByteArray) (h : copyB n tag k = r) (w : World) : Calls Tryd.prog 28 #[.string n, .string tag, .int .i64 k] w fun e w' => e = .returned (.string r) ∧ Below w.heap.size w w' := by
  have := copy28 n tag k w
  rw [h] at this
  exact this
theorem valid_lit (s : ByteArray) (b : Bool) (h : valid (ub s) = b) (w : World) : Calls Tryd.prog 13 #[.string s] w fun e w' => e = .returned (.bool b) ∧ Drawn0 w w' := by
  have := valid13 s w
  rw [h] at this
  exact this

theorem print_lit (s r : ByteArray) (hs : s.size ≤ 1000) (h : (⟨#[47]⟩ : ByteArray) ++ s = r) (w : World) : Calls Tryd.prog 30 #[.string s] w fun e w' => e = .returned (.string r) ∧ Drawn0 w w' := by
  have := print30 s hs w
  rw [h] at this
  exact this
theorem x18 : (⟨#[47]⟩ : ByteArray) ++ (⟨#[]⟩ : ByteArray) = ⟨#[47]⟩ := by decide +kernel
theorem x1 : partsB ⟨#[97, 47, 98]⟩ = ([⟨#[97]⟩, ⟨#[98]⟩], 0) := by decide +kernel
theorem x2 : partsB ⟨#[]⟩ = ([], 0) := by decide +kernel
theorem x3 : partsB ⟨#[97, 47, 47, 98]⟩ = ([], 10) := by decide +kernel
theorem x4 : joinB ⟨#[97]⟩ ⟨#[98]⟩ = (⟨#[97, 47, 98]⟩, 0) := by decide +kernel
theorem x5 : joinB ⟨#[]⟩ ⟨#[46, 46]⟩ = (⟨#[]⟩, 11) := by decide +kernel
theorem x6 : splitB ⟨#[97, 47, 98]⟩ = (⟨#[97]⟩, ⟨#[98]⟩, 0) := by decide +kernel
theorem x7 : splitB ⟨#[]⟩ = (⟨#[]⟩, ⟨#[]⟩, 1) := by decide +kernel
theorem x8 : below (ub ⟨#[97, 98]⟩) (ub ⟨#[97]⟩) = false := by decide +kernel
theorem x9 : below (ub ⟨#[97, 47, 98]⟩) (ub ⟨#[]⟩) = true := by decide +kernel
theorem x10 : swapB ⟨#[97, 47, 98, 47, 99]⟩ ⟨#[97, 47, 98]⟩ ⟨#[100]⟩ = (⟨#[100, 47, 99]⟩, true) := by decide +kernel
theorem x11 : copyB ⟨#[120]⟩ ⟨#[116, 114, 105, 112]⟩ 7 = ⟨#[120, 126, 116, 114, 105, 112, 126, 55]⟩ := by decide +kernel
theorem x12 : copyB ⟨#[97, 98, 99, 100, 101, 102, 103, 104, 105, 106, 107, 108, 109, 110, 111, 112]⟩ ⟨#[116, 114, 105, 112]⟩ 10 = ⟨#[97, 98, 99, 100, 101, 102, 103, 104, 126, 116, 114, 105, 112, 126, 49, 48]⟩ := by decide +kernel
theorem x13 : copyB ⟨#[120]⟩ ⟨#[116, 114, 105, 112]⟩ 100 = ⟨#[]⟩ := by decide +kernel
theorem x14 : parseB ⟨#[47, 97]⟩ = (⟨#[97]⟩, 0) := by decide +kernel
theorem x15 : parseB ⟨#[97]⟩ = (⟨#[]⟩, 3) := by decide +kernel
theorem x16 : valid (ub ⟨#[46, 46, 46]⟩) = true := by decide +kernel
theorem x17 : valid (ub ⟨#[46, 46]⟩) = false := by decide +kernel

theorem C_nil (w : World) (A : Option Addr) : Kd.C Kd.string w A 0 [] := ⟨rfl, by omega, fun h => by omega⟩
theorem C_two (w : World) (x y : ByteArray) : Kd.C Kd.string (w.alloc (.cells #[.string x, .string y] 9)) (some ⟨w.heap.size, 0, none⟩) 2 [x, y] := by
  refine ⟨rfl, by omega, fun _ => ⟨_, rfl, fun j p hp => ⟨[.string p], rfl, rfl, fun i u hu => ?_⟩⟩⟩
  have hi : i = 0 := by
    rcases i with _ | i
    · rfl
    · simp at hu
  subst hi
  simp at hu
  subst hu
  rcases j with _ | j
  · simp at hp; subst hp; simp [Addr.add, Kd.string, Kd.scalar]
  · rcases j with _ | j
    · simp at hp; subst hp; simp [Addr.add, Kd.string, Kd.scalar]
    · simp at hp

set_option maxHeartbeats 2000000 in
set_option maxRecDepth 100000 in
theorem sanity11 (w : World) : Calls Tryd.prog 11 #[] w fun e w' => e = .returned (.bool true) ∧ Below w.heap.size w w' := by
  go_enter Tryd.func11, Tryd.ntmps11
  go_wp2_with fail
  refine (parts_lit _ (by decide) _ _ x1 2 rfl _).mono ?_
  rintro e w1 ⟨A1, c1, rfl, hc1, hC1, hb1⟩
  go_wp2_with fail
  refine (same_lit _ _ _ _ 2 _ 0 _ rfl (Kd.C_below hC1 ((Below.refl _ _).alloc (Nat.le_refl _) _)) hc1 (C_two _ _ _) (Nat.le_refl _) (by omega)).mono ?_
  rintro e w2 ⟨rfl, hb2⟩
  go_wp2_with fail
  refine (parts_lit _ (by decide) _ _ x2 0 rfl _).mono ?_
  rintro e w3 ⟨A3, c3, rfl, hc3, hC3, hb3⟩
  go_wp2_with fail
  refine (same_lit _ _ _ _ 0 _ 0 _ rfl hC3 hc3 (C_nil _ _) (Nat.le_refl _) (by omega)).mono ?_
  rintro e w4 ⟨rfl, hb4⟩
  go_wp2_with fail
  refine (parts_lit _ (by decide) _ _ x3 0 rfl _).mono ?_
  rintro e w5 ⟨A5, c5, rfl, hc5, hC5, hb5⟩
  go_wp2_with fail
  refine (same_lit _ _ _ _ 0 _ 10 _ rfl hC5 hc5 (C_nil _ _) (Nat.le_refl _) (by omega)).mono ?_
  rintro e w6 ⟨rfl, hb6⟩
  have B6 : Below w.heap.size w w6 := by
    have a2 := hb1.trans ((((Below.refl _ w1).alloc (Nat.le_refl _) _).trans (hb2.mono (by simp))).mono hb1.size)
    have a3 := a2.trans (hb3.mono a2.size)
    have a4 := a3.trans (hb4.mono a3.size)
    have a5 := a4.trans (hb5.mono a4.size)
    exact a5.trans (hb6.mono a5.size)
  clear hb1 hb2 hb3 hb4 hb5 hb6 hC1 hC3 hC5 hc1 hc3 hc5
  go_wp2_with fail
  refine (join_lit _ _ (by decide) (by decide) _ _ x4 _).mono ?_
  rintro e w7 ⟨rfl, hb⟩
  have B7 := B6.trans ((hb).mono B6.size)
  clear hb B6
  go_wp2_with fail
  refine (join_lit _ _ (by decide) (by decide) _ _ x5 _).mono ?_
  rintro e w8 ⟨rfl, hb⟩
  have B8 := B7.trans ((hb).mono B7.size)
  clear hb B7
  go_wp2_with fail
  refine (split_lit _ (by decide) _ _ _ x6 _).mono ?_
  rintro e w9 ⟨rfl, hb⟩
  have B9 := B8.trans ((hb).mono B8.size)
  clear hb B8
  go_wp2_with fail
  refine (split_lit _ (by decide) _ _ _ x7 _).mono ?_
  rintro e w10 ⟨rfl, hb⟩
  have B10 := B9.trans ((hb).mono B9.size)
  clear hb B9
  go_wp2_with fail
  refine (below_lit _ _ (by decide) _ x8 _).mono ?_
  rintro e w11 ⟨rfl, hb⟩
  have B11 := B10.trans ((Drawn0.below hb).mono B10.size)
  clear hb B10
  go_wp2_with fail
  refine (below_lit _ _ (by decide) _ x9 _).mono ?_
  rintro e w12 ⟨rfl, hb⟩
  have B12 := B11.trans ((Drawn0.below hb).mono B11.size)
  clear hb B11
  go_wp2_with fail
  refine (swap_lit _ _ _ (by decide) (by decide) (by decide) _ _ x10 _).mono ?_
  rintro e w13 ⟨rfl, hb⟩
  have B13 := B12.trans ((hb).mono B12.size)
  clear hb B12
  go_wp2_with fail
  refine (copy_lit _ _ _ _ x11 _).mono ?_
  rintro e w14 ⟨rfl, hb⟩
  have B14 := B13.trans ((hb).mono B13.size)
  clear hb B13
  go_wp2_with fail
  refine (copy_lit _ _ _ _ x12 _).mono ?_
  rintro e w15 ⟨rfl, hb⟩
  have B15 := B14.trans ((hb).mono B14.size)
  clear hb B14
  go_wp2_with fail
  refine (copy_lit _ _ _ _ x13 _).mono ?_
  rintro e w16 ⟨rfl, hb⟩
  have B16 := B15.trans ((hb).mono B15.size)
  clear hb B15
  go_wp2_with fail
  refine (parse_lit _ (by decide) _ _ x14 _).mono ?_
  rintro e w17 ⟨rfl, hb⟩
  have B17 := B16.trans ((hb).mono B16.size)
  clear hb B16
  go_wp2_with fail
  refine (parse_lit _ (by decide) _ _ x15 _).mono ?_
  rintro e w18 ⟨rfl, hb⟩
  have B18 := B17.trans ((hb).mono B17.size)
  clear hb B17
  go_wp2_with fail
  refine (print_lit _ _ (by decide) x18 _).mono ?_
  rintro e w19 ⟨rfl, hb⟩
  have B19 := B18.trans ((Drawn0.below hb).mono B18.size)
  clear hb B18
  go_wp2_with fail
  refine (valid_lit _ _ x16 _).mono ?_
  rintro e w20 ⟨rfl, hb⟩
  have B20 := B19.trans ((Drawn0.below hb).mono B19.size)
  clear hb B19
  go_wp2_with fail
  refine (valid_lit _ _ x17 _).mono ?_
  rintro e w21 ⟨rfl, hb⟩
  have B21 := B20.trans ((Drawn0.below hb).mono B20.size)
  clear hb B20
  go_wp2
  go_ret
  exact ⟨rfl, B21⟩
end Go.Proofs.YtpahemgofhpfnaaDoor.H

/- PlacePaths, walked. -/
import Derived.Test.YtfmeababiedamaaV10
import Derived.Test.YtfmeababiedamaaZ
namespace Go.Proofs.Ytfmeababiedamaa.V7
open Go.RowKit Go.Shelf Go.Proofs.YtfmeababiedamaaW.PrintWords Go.Proofs.YtfmeababiedamaaW.PrintLast Go.Proofs.YtfmeababiedamaaW.PrintMore
open Go.Proofs.Ytfmeababiedamaa Go.Proofs.Ytfmeababiedamaa.M Go.Proofs.Ytfmeababiedamaa.Sp Go.Proofs.Ytfmeababiedamaa.E Go.Proofs.Ytfmeababiedamaa.G Go.Proofs.Ytfmeababiedamaa.A Go.Proofs.Ytfmeababiedamaa.T Go.Proofs.Ytfmeababiedamaa.K Go.Proofs.Ytfmeababiedamaa.X Go.Proofs.Ytfmeababiedamaa.V13 Go.Proofs.Ytfmeababiedamaa.V38 Go.Proofs.Ytfmeababiedamaa.B Go.Proofs.Ytfmeababiedamaa.V11 Go.Proofs.Ytfmeababiedamaa.V36 Go.Proofs.Ytfmeababiedamaa.V10 Go.Proofs.Ytfmeababiedamaa.Z
set_option linter.unusedVariables false
set_option linter.unusedSimpArgs false

theorem inv12 (l : List R42) (n : Nat) : Inv n (madeL (l.take n) (newL 0 0)) := (inv_made (l.take n)).mono (by rw [List.length_take]; omega)
theorem made_lit (A : Option Addr) (c : Nat) (l : List R42) (nn : Nat) (w : World) (hx : ∀ x ∈ l, x.ok) (hn : nn ≤ 900) (hr : Kd.C kR w A l.length l) (hc : l.length ≤ c) (m : List S32) (hm : madeL (l.take nn) (newL 0 0) = m) :
    Calls Try.prog 11 #[.slice A l.length c, .int .i64 nn] w fun e w' => ∃ a d, e = .returned (.agg #[.slice (some a) m.length d]) ∧ m.length ≤ d ∧ Kd.C k32 w' (some a) m.length m ∧ Below w.heap.size w w' := by
  have h := made11 A c l nn w hx hn hr hc
  have hp := (inv12 l nn).pos
  rw [hm] at h hp
  refine h.mono ?_
  rintro e w4 ⟨v, rfl, hM, hb⟩
  obtain ⟨a, d, rfl, hd, hC⟩ := map_some hM hp
  exact ⟨a, d, rfl, hd, hC, hb⟩
attribute [local go_sem high] eqA32
attribute [local go_sem] Go.Instr.field Go.asAgg
set_option maxHeartbeats 8000000 in
set_option maxRecDepth 100000 in
theorem paths7 (A : Option Addr) (c : Nat) (l : List R42) (n : Nat) (w : World) (hx : ∀ x ∈ l, x.ok) (hr : Kd.C kR w A l.length l) (hc : l.length ≤ c) (hn : n < 65536) :
    Calls Try.prog 7 #[.slice A l.length c, .int .u16 n] w fun e w' => e = .returned (.bool true) ∧ Below w.heap.size w w' := by
  have hu27 := Try.underlying27
  have hu25 := Try.underlying25
  have hu32 := Try.underlying32
  have hu35 := Try.underlying35
  have hi := inv12 l 12
  obtain ⟨m, hm⟩ : ∃ m, madeL (l.take 12) (newL 0 0) = m := ⟨_, rfl⟩
  rw [hm] at hi
  have hsm := hi.small (by decide)
  have hsz := pathN_size n
  have hip := isPath_pathN n
  have P12 := path12 n hn
  obtain ⟨s, hs⟩ : ∃ s, pathN n = s := ⟨_, rfl⟩
  rw [hs] at hsz hip P12
  have hib := idxL_below m s hi.pos hi.root
  have hf : findL m s = (rd_T32 m (idxL m s : Int), 0) := by unfold findL; rw [hip, if_pos rfl]
  obtain ⟨f, hff⟩ : ∃ f, rd_T32 m (idxL m s : Int) = f := ⟨_, rfl⟩
  rw [hff] at hib hf
  have P13 : ∀ a d W, Kd.C k32 W (some a) m.length m → m.length ≤ d → Calls Try.prog 13 #[.agg #[.slice (some a) m.length d], .string s] W fun e w' => e = .returned (.agg #[.string f.f0, .int .i64 f.f1, .int .i64 f.f2, .int .i64 f.f3, .int .i64 0]) ∧ Below W.heap.size W w' := by
    intro a d W hC hd
    have := found13 a d m s W hsm hi.pos (by omega) hC hd
    rwa [hf] at this
  have PM := fun W (hb : Below w.heap.size w W) => made_lit A c l 12 W hx (by decide) (kR_below hr hb) hc m hm
  have hml := hi.len
  have HIP := Lib.hid hip
  have HSZ := Lib.hid hsz
  have HIB := Lib.hid hib
  have HSM := Lib.hid hsm
  have h0 := hi.pos
  clear hi hx hr hm hs hff hf hip hsm hib hsz
  go_enter Try.func7, Try.ntmps7
  go_wp2_with fail
  refine (sanity10 _).mono ?_
  rintro e w1 ⟨rfl, hb1⟩
  go_wp2_with fail
  refine (PM _ hb1).mono ?_
  rintro e w2 ⟨a, d, rfl, hd, hC, hb2⟩
  have X3 := box_new (below_step hb1 hb2) hC hd
  obtain ⟨q6, hq6⟩ : ∃ q, w2.heap.size = q := ⟨_, rfl⟩
  rw [hq6] at X3
  clear hb1 hb2 hC PM
  go_wp2_with fail
  refine (P12 _).mono ?_
  rintro e w4 ⟨rfl, hb4⟩
  have X4 := X3.next hb4
  have k4 := X4.cell
  clear X3 hb4
  go_wp2_with fail
  refine (P13 _ _ _ X4.row X4.cap).mono ?_
  rintro e w5 ⟨rfl, hb5⟩
  have X5 := (X4.next hb5).next (box_step _ (.cells #[.string f.f0, .int .i64 f.f1, .int .i64 f.f2, .int .i64 f.f3, .int .i64 0] 35))
  have F5 := Aside0.mk (blk_new w5 (.cells #[.string f.f0, .int .i64 f.f1, .int .i64 f.f2, .int .i64 f.f3, .int .i64 0] 35))
  have k5 : (w5.alloc (.cells #[.string f.f0, .int .i64 f.f1, .int .i64 f.f2, .int .i64 f.f3, .int .i64 0] 35)).cell? ⟨w5.heap.size, 4, none⟩ = some (.int .i64 0) := (blk_cell F5.out 4).trans rfl
  clear X4 k4 hb5 P13
  go_wp2_with fail
  obtain ⟨q8, hq8⟩ : ∃ q, w5.heap.size = q := ⟨_, rfl⟩
  rw [hq8] at F5
  rw [hq8]
  clear hq8
  go_loopg [9] m.length (fun gg v9 wr => ∃ (kk : Nat), kk ≤ m.length ∧ m.length - kk ≤ gg ∧ v9 = .int .i64 kk ∧ Bx w wr q6 a d m.length m ∧ Aside0 (wr.heap[q8]? = some (.cells #[.string f.f0, .int .i64 f.f1, .int .i64 f.f2, .int .i64 f.f3, .int .i64 0] 35 (0, 0))))
  case atStart => exact ⟨0, Nat.zero_le _, by omega, rfl, X5, F5⟩
  case round =>
    clear X5 F5
    obtain ⟨kk, hkk, hg, rfl, X, F⟩ := hrel
    have k6 := X.cell
    by_cases hlt : kk < m.length
    · have m0 : (0 ≤ (kk : Int)) = True := by simp
      have m1 : decide ((kk : Int) < (m.length : Int)) = true := decide_eq_true (by omega)
      obtain ⟨ad, ead, x0, x1, x2, x3⟩ := at_T32 X.row (kk : Int) (by omega) (by omega)
      cases ead
      simp only [Int.toNat_natCast] at x0 x1 x2 x3
      have hxs : (rd_T32 m (kk : Int)).f0.size ≤ 1000 := by rw [rd_at m kk hlt]; exact HSM.out.2 _ (List.getElem_mem hlt)
      obtain ⟨x, hxx⟩ : ∃ x, rd_T32 m (kk : Int) = x := ⟨_, rfl⟩
      rw [hxx] at x0 x1 x2 x3 hxs
      have X' := X.next (box_step _ (.cells #[.string x.f0, .int .i64 x.f1, .int .i64 x.f2, .int .i64 x.f3] 32))
      have F' := Aside0.mk (blk_alloc F.out (.cells #[.string x.f0, .int .i64 x.f1, .int .i64 x.f2, .int .i64 x.f3] 32))
      have B := Aside0.mk (blk_new wr (.cells #[.string x.f0, .int .i64 x.f1, .int .i64 x.f2, .int .i64 x.f3] 32))
      have b0 := (blk_cell B.out 0).trans rfl
      have b1 := (blk_cell B.out 1).trans rfl
      have b2 := (blk_cell B.out 2).trans rfl
      have b3 := (blk_cell B.out 3).trans rfl
      have P22 := fun W => local22 x s W hxs (Nat.le_trans HSZ.out (by decide))
      have P15 := below15 s x.f0 hxs
      have PL := fun hb => local_yes x s HIP.out hb
      have PN := fun hb => local_no x s HIP.out hb
      obtain ⟨b, hb⟩ : ∃ b, below (ub s) (ub x.f0) = b := ⟨_, rfl⟩
      rw [hb] at P15 PL PN
      have HBB := Lib.hid hb
      clear hxx hb hkk
      obtain ⟨⟨r, er⟩, hr⟩ : ∃ r, localL x s = r := ⟨_, rfl⟩
      have hrs := local_size x s
      rw [hr] at PL PN P22 hrs
      have hrs : r.size ≤ 5 := Nat.le_trans hrs HSZ.out
      have n0 : (9223372036854775807 < x.f0.size) = False := eq_false (by omega)
      have n1 : (9223372036854775807 < x.f0.size + 1) = False := eq_false (by omega)
      have n2 : (9223372036854775807 < x.f0.size + r.size) = False := eq_false (by omega)
      have n3 : (9223372036854775807 < x.f0.size + 1 + r.size) = False := eq_false (by omega)
      clear hr hrs hxs
      go_wp2_with fail
      refine (P22 _).mono ?_
      rintro e w6 ⟨rfl, hb6⟩
      have X6 := X'.next hb6
      have F6 := Aside0.mk (blk_below F'.out hb6)
      have B6 := Aside0.mk (blk_below B.out hb6)
      have c0 := (blk_cell B6.out 0).trans rfl
      clear b0 b1 b2 b3 B F' X' X F k6 hb6
      obtain ⟨q10, hq10⟩ : ∃ q, wr.heap.size = q := ⟨_, rfl⟩
      rw [hq10] at B6 c0 ⊢
      clear hq10
      cases b
      · obtain ⟨rfl, rfl⟩ : r = ⟨#[]⟩ ∧ er = 240 := by have := PN rfl; cases this; exact ⟨rfl, rfl⟩
        have hne : (f.f0.toList == x.f0.toList) = false := by
          rw [beq_eq_false_iff_ne, tl, tl]
          intro h
          have := HBB.out
          rw [← h, HIB.out] at this
          cases this
        clear PL PN P22
        go_wp2_with (go_at_call 15; refine (P15 _).mono ?_; rintro e w7 ⟨rfl, ⟨⟨nd, rfl⟩⟩⟩; have g0 := (blk_cell (blk_drewN F6.out nd) 0).trans rfl; have p0 := (blk_cell (blk_drewN B6.out nd) 0).trans rfl; have g1 := (blk_cell (blk_drewN F6.out nd) 1).trans rfl; have p1 := (blk_cell (blk_drewN B6.out nd) 1).trans rfl; have g2 := (blk_cell (blk_drewN F6.out nd) 2).trans rfl; have p2 := (blk_cell (blk_drewN B6.out nd) 2).trans rfl; have g3 := (blk_cell (blk_drewN F6.out nd) 3).trans rfl; have p3 := (blk_cell (blk_drewN B6.out nd) 3).trans rfl)
        go_roundg (m.length - (kk + 1))
        case measure => omega
        case rel => exact ⟨kk + 1, by omega, by omega, by go_num, X6.next (pw_below_drewN (Below.refl _ _) nd), Aside0.mk (blk_drewN F6.out nd)⟩
      · obtain ⟨rfl, hw⟩ := PL rfl
        unfold whole at hw
        clear PL PN P22
        by_cases hr0 : r.toList = []
        · have h1 : (r.toList == ([] : List UInt8)) = true := by simpa using hr0
          rw [if_neg (fun hc => hc.1 hr0)] at hw
          have h2 : ((x.f0 ++ r).toList == s.toList) = true := by rw [hw]; exact beq_self_eq_true _
          clear hw hr0
          go_wp2_with (go_at_call 15; refine (P15 _).mono ?_; rintro e w7 ⟨rfl, ⟨⟨nd, rfl⟩⟩⟩)
          go_roundg (m.length - (kk + 1))
          case measure => omega
          case rel => exact ⟨kk + 1, by omega, by omega, by go_num, X6.next (pw_below_drewN (Below.refl _ _) nd), Aside0.mk (blk_drewN F6.out nd)⟩
        · have h1 : (r.toList == ([] : List UInt8)) = false := by simpa using hr0
          by_cases hx0 : x.f0.toList = []
          · have h3 : (x.f0.toList == ([] : List UInt8)) = true := by simpa using hx0
            rw [if_neg (fun hc => hc.2 hx0)] at hw
            have h2 : ((x.f0 ++ r).toList == s.toList) = true := by rw [hw]; exact beq_self_eq_true _
            clear hw hr0 hx0
            go_wp2_with (go_at_call 15; refine (P15 _).mono ?_; rintro e w7 ⟨rfl, ⟨⟨nd, rfl⟩⟩⟩)
            go_roundg (m.length - (kk + 1))
            case measure => omega
            case rel => exact ⟨kk + 1, by omega, by omega, by go_num, X6.next (pw_below_drewN (Below.refl _ _) nd), Aside0.mk (blk_drewN F6.out nd)⟩
          · have h3 : (x.f0.toList == ([] : List UInt8)) = false := by simpa using hx0
            rw [if_pos ⟨hr0, hx0⟩] at hw
            have h2 : ((x.f0 ++ (⟨#[47]⟩ : ByteArray) ++ r).toList == s.toList) = true := by rw [hw]; exact beq_self_eq_true _
            clear hw hr0 hx0
            go_wp2_with (go_at_call 15; refine (P15 _).mono ?_; rintro e w7 ⟨rfl, ⟨⟨nd, rfl⟩⟩⟩)
            go_roundg (m.length - (kk + 1))
            case measure => omega
            case rel => exact ⟨kk + 1, by omega, by omega, by go_num, X6.next (pw_below_drewN (Below.refl _ _) nd), Aside0.mk (blk_drewN F6.out nd)⟩
    · have m1 : decide ((kk : Int) < (m.length : Int)) = false := decide_eq_false (by omega)
      go_wp2_with fail
      go_ret
      exact ⟨rfl, X.below⟩
end Go.Proofs.Ytfmeababiedamaa.V7

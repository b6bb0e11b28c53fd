/- NameParts, walked. -/
import Derived.Test.YtpahemgofhpfnaaDoorP
namespace Go.Proofs.YtpahemgofhpfnaaDoor.V4
open Go.RowKit Go.Shelf Go.Proofs.YtpahemgofhpfnaaDoorW.PrintWords Go.Proofs.YtpahemgofhpfnaaDoorW.PrintLast Go.Proofs.YtpahemgofhpfnaaDoorW.PrintMore
open Go.Proofs.YtpahemgofhpfnaaDoor Go.Proofs.YtpahemgofhpfnaaDoor.D Go.Proofs.YtpahemgofhpfnaaDoor.E Go.Proofs.YtpahemgofhpfnaaDoor.F Go.Proofs.YtpahemgofhpfnaaDoor.Sp Go.Proofs.YtpahemgofhpfnaaDoor.K Go.Proofs.YtpahemgofhpfnaaDoor.H Go.Proofs.YtpahemgofhpfnaaDoor.L Go.Proofs.YtpahemgofhpfnaaDoor.P
set_option linter.unusedVariables false
set_option linter.unusedSimpArgs false
attribute [local go_sem] Go.Instr.field Go.asAgg

set_option maxHeartbeats 2000000 in
set_option maxRecDepth 100000 in
theorem parts4 (s : ByteArray) (A1 : Option Addr) (c1 : Nat) (l1 : List Int) (w : World) (r1 : Kd.C (Kd.int .u8) w A1 l1.length l1) (h1 : l1.length ≤ c1) (n1 : ∀ x ∈ l1, 0 ≤ x) :
    Calls Tryd.prog 4 #[.string s, .slice A1 l1.length c1] w fun e w' => e = .returned (.bool true) ∧ Below w.heap.size w w' := by
  have C1 := fun w => long12 A1 c1 l1 n1 w
  generalize hq : longB l1 = q at C1
  have hu48 := Tryd.underlying48
  have hu32 := Tryd.underlying32
  have hu35 := Tryd.underlying35
  go_enter Tryd.func4, Tryd.ntmps4
  go_wp2_with fail
  refine (sanity11 _).mono ?_
  rintro e w1 ⟨rfl, hb1⟩
  by_cases hz : (s.size : Int) > 200
  · have hz' : decide ((s.size : Int) > 200) = true := decide_eq_true hz
    go_wp2
    go_ret
    exact ⟨rfl, hb1⟩
  have hz' : decide ((s.size : Int) > 200) = false := decide_eq_false hz
  have hs : s.size ≤ 200 := by omega
  clear hz
  go_wp2_with fail
  refine (C1 _ (Kd.C_below r1 hb1) h1).mono ?_
  rintro e w2 ⟨rfl, hb2⟩
  have b2 := Below.trans hb1 (hb2.mono hb1.size)
  clear hb1 hb2 r1 h1 C1
  go_wp2_with fail
  have zb : w.heap.size ≤ w2.heap.size := b2.size
  go_loopg [7] 2 (fun kq v7 w' => ∃ i : Nat, v7 = .int .i64 (i : Int) ∧ Aside0 (i + kq = 2) ∧ Aside0 (w'.heap[w2.heap.size]? = some (.cells #[.string s, .string q] 48 (0, 0))) ∧ Aside0 (Below w.heap.size w w'))
  case atStart =>
    exact ⟨0, rfl, ⟨rfl⟩, ⟨blk_new _ _⟩, ⟨below_alloc b2 _⟩⟩
  case round =>
    obtain ⟨i, rfl, HK, HT, HB⟩ := hrel
    have hk := HK.out
    have hT := HT.out
    have hc0 : wr.cell? ⟨w2.heap.size, 0, none⟩ = some (.string s) := (blk_cell hT 0).trans rfl
    have hc1 : wr.cell? ⟨w2.heap.size, 1, none⟩ = some (.string q) := (blk_cell hT 1).trans rfl
    cases gk with
    | zero =>
      obtain rfl : i = 2 := by omega
      have hE : isPath (ub q) = decide (min 10 l1.length ≤ 8) := by rw [← hq]; unfold longB; rw [ub_bx, isPath_long]
      have hqz : q.size ≤ 200 := by rw [← hq]; have := P.longB_size l1; omega
      go_wp2_with fail
      by_cases h8 : (l1.length : Int) ≤ 8
      · have e1 : partsB q = (cutB q, 0) := by unfold partsB; rw [hE, if_pos (by simp; omega)]
        have pq := parts16 q (by omega) wr
        rw [e1] at pq
        refine pq.mono ?_
        rintro e w3 ⟨A, c, rfl, hc, hC, hb3⟩
        have h8' : decide ((l1.length : Int) ≤ 8) = true := decide_eq_true h8
        go_wp2
        go_ret
        exact ⟨rfl, below_step HB.out hb3⟩
      · have e1 : partsB q = ([], 10) := by unfold partsB; rw [hE, if_neg (by simp; omega)]
        have pq := parts16 q (by omega) wr
        rw [e1] at pq
        refine pq.mono ?_
        rintro e w3 ⟨A, c, rfl, hc, hC, hb3⟩
        have h8' : decide ((l1.length : Int) ≤ 8) = false := decide_eq_false h8
        have g1 : w3.cell? ⟨w2.heap.size, 1, none⟩ = some (.string q) := pw_cell_below hb3 hc1
        have hq0 : decide ((q.size : Int) = 0) = false := decide_eq_false (by
          intro h
          have h2 : (long l1).length = 0 := by
            have := congrArg ByteArray.size hq
            unfold longB at this
            rw [bx_size] at this
            omega
          have h3 : long l1 = [] := List.length_eq_zero_iff.1 h2
          have h4 := (glue_nil _ (long_words l1)).1 h3
          have := congrArg List.length h4
          simp only [List.length_map, List.length_take, List.length_nil] at this
          omega)
        have hq1 : ¬ ((q.size : Int) = 0) := of_decide_eq_false hq0
        have hq2 : ((q.size : Int) == 0) = false := by simpa using hq1
        clear hq0 hq1
        go_wp2
        go_ret
        exact ⟨rfl, below_step HB.out hb3⟩
    | succ k =>
      have hlt : decide ((i : Int) < 2) = true := decide_eq_true (by omega)
      have p0 : (0 ≤ (i : Int)) = True := eq_true (by omega)
      have p1 : ((i : Int) < 2) = True := eq_true (by omega)
      have hqz : q.size ≤ 200 := by rw [← hq]; have := P.longB_size l1; omega
      obtain ⟨x, hx, hxz⟩ : ∃ x, wr.cell? ⟨w2.heap.size, i, none⟩ = some (.string x) ∧ x.size ≤ 200 := by
        rcases (by omega : i = 0 ∨ i = 1) with rfl | rfl
        · exact ⟨s, hc0, hs⟩
        · exact ⟨q, hc1, hqz⟩
      have HI := Lib.hid (show i + (k + 1) = 2 from hk)
      clear hk hc0 hc1 HK
      go_wp2_with fail
      by_cases hp : isPath (ub x) = true
      · have e1 : partsB x = (cutB x, 0) := by unfold partsB; rw [if_pos hp]
        have pq := parts16 x (by omega) wr
        rw [e1] at pq
        refine pq.mono ?_
        rintro e w3 ⟨A, c, rfl, hc, hC, hb3⟩
        obtain ⟨hv, h8⟩ := (isPath_iff _).1 hp
        have hxs : cutB x = (cut (ub x)).map bx := rfl
        have hgl := glue_cut (ub x)
        generalize cut (ub x) = xs at hv h8 hxs hgl
        simp only at hc hC ⊢
        rw [hxs] at hc hC ⊢
        simp only [List.length_map] at hc hC ⊢
        have g1 : w3.cell? ⟨w2.heap.size, i, none⟩ = some (.string x) := pw_cell_below hb3 hx
        have T3 := blk_below hT hb3
        have B3 := Lib.hid (below_step HB.out hb3)
        clear e1 pq hT HT HB hlt p0 p1 hx hb3
        go_wp2_with fail
        go_loopg [9, 10] xs.length (fun kq v9 v10 w' => ∃ j : Nat, v9 = .string (bx (glue (xs.take j))) ∧ v10 = .int .i64 (j : Int) ∧ Aside0 (j + kq = xs.length) ∧ Aside0 (w'.heap[w3.heap.size]? = some (.cells #[.slice A xs.length c, .int .i64 0] 32 (0, 0))) ∧ Aside0 (Below w3.heap.size w3 w'))
        case atStart => exact ⟨0, rfl, rfl, ⟨by omega⟩, ⟨blk_new _ _⟩, ⟨below_alloc (Below.refl _ _) _⟩⟩
        case round =>
          obtain ⟨j, rfl, rfl, HK, HX, HB⟩ := hrel
          have hX := HX.out
          have hx0 : wr.cell? ⟨w3.heap.size, 0, none⟩ = some (.slice A xs.length c) := (blk_cell hX 0).trans rfl
          have hx1 : wr.cell? ⟨w3.heap.size, 1, none⟩ = some (.int .i64 0) := (blk_cell hX 1).trans rfl
          have HJ := Lib.hid HK.out
          have g2 := pw_cell_below HB.out g1
          cases gk with
          | zero =>
            have ej : j = xs.length := by have := HJ.out; omega
            subst ej
            rw [List.take_length, hgl, bx_ub]
            have h8' : decide ((xs.length : Int) > 8) = false := decide_eq_false (by omega)
            have p0 : (0 ≤ (i : Int)) = True := eq_true (by omega)
            have p1 : ((i : Int) < 2) = True := eq_true (by have := HI.out; omega)
            go_wp2
            go_roundg k
            case measure => omega
            case rel => exact ⟨i + 1, by have := HI.out; rw [w64 (by omega) (by omega)]; simp, ⟨by have := HI.out; omega⟩, ⟨blk_below T3 HB.out⟩, ⟨below_step B3.out HB.out⟩⟩
          | succ kk =>
            have hj : j < xs.length := by have := HJ.out; omega
            obtain ⟨ad, rfl, hcell⟩ := Kd.at_string hC (j : Int) (by omega) (by omega)
            have hcell2 := pw_cell_below HB.out hcell
            have er : rdOf ByteArray.empty (xs.map bx) (j : Int) = bx xs[j] := by simp [rdOf, hj]
            rw [er, Int.toNat_natCast] at hcell2
            have z1 : (bx (glue (xs.take j))).size ≤ 1000 := by
              rw [bx_size]
              have := glue_size (xs.take j) 16 (fun y hy => (valid_pos y (hv y (List.mem_of_mem_take hy))).2.1)
              rw [List.length_take] at this
              omega
            have z2 : (bx xs[j]).size ≤ 1000 := by
              rw [bx_size]
              have := (valid_pos xs[j] (hv _ (List.getElem_mem hj))).2.1
              omega
            have js := join_snoc (xs.take j) xs[j] (fun y hy => hv y (List.mem_of_mem_take hy)) (hv _ (List.getElem_mem hj)) (by rw [List.length_take]; omega)
            have J1 := fun w => join18 (bx (glue (xs.take j))) (bx xs[j]) z1 z2 w
            rw [js] at J1
            have V1 := fun w => valid13 (bx xs[j]) w
            rw [ub_bx, hv _ (List.getElem_mem hj)] at V1
            have et : xs.take (j + 1) = xs.take j ++ [xs[j]] := List.take_succ_eq_append_getElem hj
            rw [← et] at J1
            have p0 : (0 ≤ (j : Int)) = True := eq_true (by omega)
            have p1 : ((j : Int) < (xs.length : Int)) = True := eq_true (by omega)
            have p2 : decide ((j : Int) < (xs.length : Int)) = true := decide_eq_true (by omega)
            clear js z1 z2 er et hcell
            go_wp2_with fail
            refine (J1 _).mono ?_
            rintro e w4 ⟨rfl, hb4⟩
            have hx4 := pw_cell_below hb4 hx0
            have hcell4 := pw_cell_below hb4 hcell2
            have ba := below_alloc (Below.refl w4.heap.size w4) (.cells #[.string (bx (glue (xs.take (j + 1)))), .int .i64 0] 35)
            have hx5 := pw_cell_below ba hx4
            have hcell5 := pw_cell_below ba hcell4
            clear ba
            have X4 := blk_below hX hb4
            have B4 := Lib.hid (below_step HB.out hb4)
            clear hx0 hx1 hcell2 hX HX HB J1 hb4 hC
            go_wp2_with fail
            refine (V1 _).mono ?_
            rintro e w5 ⟨rfl, ⟨⟨nd, rfl⟩⟩⟩
            go_wp2
            go_roundg kk
            case measure => omega
            case rel => exact ⟨j + 1, rfl, rfl, ⟨by have := HJ.out; omega⟩, ⟨blk_drewN (blk_alloc X4 _) _⟩, ⟨pw_below_drewN (below_alloc B4.out _) _⟩⟩
      · have e1 : partsB x = ([], 10) := by unfold partsB; rw [if_neg hp]
        have pq := parts16 x (by omega) wr
        rw [e1] at pq
        refine pq.mono ?_
        rintro e w3 ⟨A, c, rfl, hc, hC, hb3⟩
        go_wp2
        go_roundg k
        case measure => omega
        case rel => exact ⟨i + 1, by have := HI.out; rw [w64 (by omega) (by omega)]; simp, ⟨by have := HI.out; omega⟩, ⟨blk_alloc (blk_below hT hb3) _⟩, ⟨below_alloc (below_step HB.out hb3) _⟩⟩
theorem walk4 (a0 : ByteArray) (A1 : Option Addr) (c1 : Nat) (l1 : List Int) (w : World) (z0 : a0.size ≤ 140737488351232)
    (r1 : Kd.C (Kd.int .u8) w A1 l1.length l1) (h1 : l1.length ≤ c1) (n1 : ∀ x ∈ l1, 0 ≤ x ∧ x ≤ 255) (z1 : l1.length ≤ 140737488351232) :
    Calls Tryd.prog 4 #[.string a0, .slice A1 l1.length c1] w fun e w' => e = .returned (.bool true) ∧ Below w.heap.size w w' :=
  parts4 a0 A1 c1 l1 w r1 h1 (fun x h => (n1 x h).1)
end Go.Proofs.YtpahemgofhpfnaaDoor.V4

/- A part of the proof that the law returns true at every input; what the walked functions compute. -/
import Derived.Shelf.SlSortCmp.Whole1
import Derived.Test.YtonipihlpbaknaaZEx0
import Derived.Test.YtonipihlpbaknaaZEx1
import Derived.Test.YtonipihlpbaknaaZEx2
import Derived.Test.YtonipihlpbaknaaZEx3
namespace Go.Proofs.Ytonipihlpbaknaa.Print
open Go.RowKit Go.Proofs.YtonipihlpbaknaaW.PrintWords Go.Proofs.YtonipihlpbaknaaW.PrintLast Go.Proofs.YtonipihlpbaknaaW.PrintMore
attribute [local go_sem] max2_int min2_int max_two min_two max_three min_three max_four min_four   -- for this text's walks alone
set_option linter.unusedVariables false
set_option linter.unusedSimpArgs false
def subgraph_Boundary.l0 : Nat → List Int → List (S78) → Int → Int → List Int → List Int → Option (List Int × Int)
  | 0, _, _, _, _, _, _ => none
  | k + 1, x7, x17, x18, x19, x103000, x103001 => if x19 < x18 then (if 0 ≤ x19 then (if x19 < (x17.length : Int) then ((subgraph_has.f k x103001 x19).bind fun t106 => (if t106 = true then (subgraph_Boundary.l0 k x7 x17 x18 (wrap64 (x19 + 1)) x103000 x103001) else ((some (([(rd_T78 x17 x19).f1, (rd_T78 x17 x19).f2] : List Int) : List Int)).bind fun y107 => (if x7.length + y107.length < 17592186044416 then (subgraph_Boundary.l0 k (x7 ++ y107) x17 x18 (wrap64 (x19 + 1)) x103000 x103001) else (none))))) else (none)) else (none)) else ((subgraph_sorted.f x7).bind fun t113 => ((subgraph_common.f t113 x103000).bind fun t116 => (some (t116, 0))))
def subgraph_Boundary.f (k : Nat) (l0_0 : List Int) (l0_1 : List (S78)) (l1_0 : List Int) (l1_1 : List Int) : Option (List Int × Int) := (subgraph_Valid.f k l0_0 l0_1 l1_0 l1_1).bind fun t103 => (if t103 = 0 then (subgraph_Boundary.l0 k ([] : List Int) l0_1 (l0_1.length : Int) 0 l1_0 l1_1) else (some (([] : List Int), t103)))
set_option maxHeartbeats 8000000 in
set_option maxRecDepth 100000 in
theorem subgraph_Boundary.calls (k : Nat) (A0_0 : Option Addr) (c0_0 : Nat) (l0_0 : List Int) (A0_1 : Option Addr) (c0_1 : Nat) (l0_1 : List (S78)) (A1_0 : Option Addr) (c1_0 : Nat) (l1_0 : List Int) (A1_1 : Option Addr) (c1_1 : Nat) (l1_1 : List Int) (r1 : List Int) (r2 : Int) (w : World) (hr0_0 : Kd.C (Kd.int .i64) w A0_0 l0_0.length l0_0) (hc0_0 : l0_0.length ≤ c0_0) (hr0_1 : Kd.C k78 w A0_1 l0_1.length l0_1) (hc0_1 : l0_1.length ≤ c0_1) (hr1_0 : Kd.C (Kd.int .i64) w A1_0 l1_0.length l1_0) (hc1_0 : l1_0.length ≤ c1_0) (hr1_1 : Kd.C (Kd.int .i64) w A1_1 l1_1.length l1_1) (hc1_1 : l1_1.length ≤ c1_1) (h : subgraph_Boundary.f k l0_0 l0_1 l1_0 l1_1 = some (r1, r2)) :
  Calls Try.prog 21 #[.agg #[.slice A0_0 l0_0.length c0_0, .slice A0_1 l0_1.length c0_1], .agg #[.slice A1_0 l1_0.length c1_0, .slice A1_1 l1_1.length c1_1]] w fun e w' => ∃ v0_ : Value, e = .returned (.tuple #[v0_, .int .i64 r2]) ∧ Kd.R (Kd.int .i64) 3 w' w.heap.size (fun _ => True) v0_ r1 ∧ Below w.heap.size w w' := by
 have hu25 := Try.underlying25; have hu27 := Try.underlying27; have hu78 := Try.underlying78; have HR0_0 := Aside0.mk hr0_0; have HC0_0 := Aside0.mk hc0_0; clear hr0_0 hc0_0; have HR0_1 := Aside0.mk hr0_1; have HC0_1 := Aside0.mk hc0_1; clear hr0_1 hc0_1; have HR1_0 := Aside0.mk hr1_0; have HC1_0 := Aside0.mk hc1_0; clear hr1_0 hc1_0; have HR1_1 := Aside0.mk hr1_1; have HC1_1 := Aside0.mk hc1_1; clear hr1_1 hc1_1; have HB := Aside0.mk (Below.refl w.heap.size w); have H : ((subgraph_Valid.f k l0_0 l0_1 l1_0 l1_1).bind fun t103 => (if t103 = 0 then (subgraph_Boundary.l0 k ([] : List Int) l0_1 (l0_1.length : Int) 0 l1_0 l1_1) else (some (([] : List Int), t103)))) = some (r1, r2) := h; clear h; replace H := Option.bind_eq_some_iff.mp H; obtain ⟨t103, A30, H⟩ := H; replace H : (if t103 = 0 then (subgraph_Boundary.l0 k ([] : List Int) l0_1 (l0_1.length : Int) 0 l1_0 l1_1) else (some (([] : List Int), t103))) = some (r1, r2) := H; have A3 := Aside0.mk A30; clear A30
 by_cases c4 : t103 = 0
 ·rw [if_pos c4] at H
  have c4b0 : (t103 == 0) = true := beq_iff_eq.mpr c4; have c4b1 : (t103 != 0) = false := bne_eq_false_iff_eq.mpr c4; clear c4; have H' := Aside0.mk H; clear H
  go_enter Try.func21, Try.ntmps21
  go_wp2_with (first | ((with_reducible refine gate_dst (N := 2) rfl ?_); refine box_event ?hg (N := 2) ?hd (cs := #[.slice A0_0 l0_0.length c0_0, .slice A0_1 l0_1.length c0_1]) (t := 25) ?hr ?_; (case hd => rfl); (case hg => rfl); (case hr => first | (go_simp; done) | (go_simp; rfl)); intro gb101 hg w5 hbox hb; have n0_ := Aside0.mk (below_step (by repeat (first | (with_reducible first | exact HB.out | apply lA_ | apply lN_ | apply lD_) | exact HB.out)) hb); have n1_ := Aside0.mk (hbox); have n2_ := Aside0.mk ((by rw [hg]; exact (below_size (by repeat (first | (with_reducible first | exact HB.out | apply lA_ | apply lN_ | apply lD_) | exact HB.out))) : w.heap.size ≤ gb101)); have n3_ := Aside0.mk ((by rw [hg]; exact (below_size (by repeat (first | (with_reducible first | exact HB.out | apply lA_ | apply lN_ | apply lD_) | exact HB.out))) : w.heap.size ≤ gb101)); clear HB; have HB := n0_; have BK101 := n1_; have GW101 := n2_; have GE101 := n3_; clear n0_ n1_ n2_ n3_; clear hb hbox hg) | ((with_reducible refine gate_dst (N := 3) rfl ?_); refine box_event ?hg (N := 3) ?hd (cs := #[.slice A1_0 l1_0.length c1_0, .slice A1_1 l1_1.length c1_1]) (t := 27) ?hr ?_; (case hd => rfl); (case hg => rfl); (case hr => first | (go_simp; done) | (go_simp; rfl)); intro gb102 hg w6 hbox hb; have n0_ := Aside0.mk (blk_below (g := gb101) (o := .cells #[.slice A0_0 l0_0.length c0_0, .slice A0_1 l0_1.length c0_1] 25 (0, 0)) (by (with_reducible repeat first | refine bN_ ?_ _ | refine bD_ ?_ | refine bA_ ?_ _); exact BK101.out) hb); have n1_ := Aside0.mk (below_step (by repeat (first | (with_reducible first | exact HB.out | apply lA_ | apply lN_ | apply lD_ | refine below_set ?_ GE101.out) | exact HB.out)) hb); have n2_ := Aside0.mk (hbox); have n3_ := Aside0.mk ((by rw [hg]; exact (below_size (by repeat (first | (with_reducible first | exact HB.out | apply lA_ | apply lN_ | apply lD_ | refine below_set ?_ GE101.out) | exact HB.out))) : w.heap.size ≤ gb102)); have n4_ := Aside0.mk ((by rw [hg]; exact (below_size (by repeat (first | (with_reducible first | exact HB.out | apply lA_ | apply lN_ | apply lD_ | refine below_set ?_ GE101.out) | exact HB.out))) : w.heap.size ≤ gb102)); have n5_ := Aside0.mk ((by rw [hg]; exact Nat.ne_of_lt (blk_lt (g := gb101) (o := .cells #[.slice A0_0 l0_0.length c0_0, .slice A0_1 l0_1.length c0_1] 25 (0, 0)) (by (with_reducible repeat first | refine bN_ ?_ _ | refine bD_ ?_ | refine bA_ ?_ _); exact BK101.out)) : gb101 ≠ gb102)); have n6_ := Aside0.mk ((by rw [hg]; exact Nat.ne_of_gt (blk_lt (g := gb101) (o := .cells #[.slice A0_0 l0_0.length c0_0, .slice A0_1 l0_1.length c0_1] 25 (0, 0)) (by (with_reducible repeat first | refine bN_ ?_ _ | refine bD_ ?_ | refine bA_ ?_ _); exact BK101.out)) : gb102 ≠ gb101)); clear BK101; clear HB; have BK101 := n0_; have HB := n1_; have BK102 := n2_; have GW102 := n3_; have GE102 := n4_; have NB101_102 := n5_; have NB102_101 := n6_; clear n0_ n1_ n2_ n3_ n4_ n5_ n6_; clear hb hbox hg; have hnb7 := NB101_102.out; have hnc7 := NB102_101.out; have hcz8_0 : w6.cell? ⟨gb101, 0, none⟩ = some (.slice A0_0 l0_0.length c0_0) := (blk_cell BK101.out 0).trans rfl; have hcz8_1 : w6.cell? ⟨gb101, 1, none⟩ = some (.slice A0_1 l0_1.length c0_1) := (blk_cell BK101.out 1).trans rfl; have hfz8_0 := blk_frozen BK101.out 0; have hfz8_1 := blk_frozen BK101.out 1; have hcz9_0 : w6.cell? ⟨gb102, 0, none⟩ = some (.slice A1_0 l1_0.length c1_0) := (blk_cell BK102.out 0).trans rfl; have hcz9_1 : w6.cell? ⟨gb102, 1, none⟩ = some (.slice A1_1 l1_1.length c1_1) := (blk_cell BK102.out 1).trans rfl; have hfz9_0 := blk_frozen BK102.out 0; have hfz9_1 := blk_frozen BK102.out 1) | ((with_reducible refine gate_callee (f := 27) rfl ?_); refine goesL_ (some 12) rfl rfl Try.func27 (by kernel_rfl) rfl #[.agg #[.slice A0_0 l0_0.length c0_0, .slice A0_1 l0_1.length c0_1], .agg #[.slice A1_0 l1_0.length c1_0, .slice A1_1 l1_1.length c1_1]] rfl (by (try simp only [List.map_toArray, List.map_cons, List.map_nil]); first | done | rfl | (simp only [List.length_drop, List.length_take]; rfl)) ?_; (with_reducible refine (subgraph_Valid.calls k _ _ l0_0 _ _ l0_1 _ _ l1_0 _ _ l1_1 t103 _ ?side1 ?side2 ?side3 ?side4 ?side5 ?side6 ?side7 ?side8 A3.out).mono ?_); (case side1 => repeat (first | exact (Kd.C_below HR0_0.out HB.out) | (with_reducible refine Kd.C_alloc ?_ _) | (with_reducible refine Kd.C_drewN ?_ _) | (with_reducible refine Kd.C_drew ?_))); (case side2 => exact HC0_0.out); (case side3 => repeat (first | exact (Kd.C_below HR0_1.out HB.out) | (with_reducible refine Kd.C_alloc ?_ _) | (with_reducible refine Kd.C_drewN ?_ _) | (with_reducible refine Kd.C_drew ?_))); (case side4 => exact HC0_1.out); (case side5 => repeat (first | exact (Kd.C_below HR1_0.out HB.out) | (with_reducible refine Kd.C_alloc ?_ _) | (with_reducible refine Kd.C_drewN ?_ _) | (with_reducible refine Kd.C_drew ?_))); (case side6 => exact HC1_0.out); (case side7 => repeat (first | exact (Kd.C_below HR1_1.out HB.out) | (with_reducible refine Kd.C_alloc ?_ _) | (with_reducible refine Kd.C_drewN ?_ _) | (with_reducible refine Kd.C_drew ?_))); (case side8 => exact HC1_1.out); rintro e w10 ⟨rfl, hb⟩; refine ⟨_, rfl, ?_⟩; have n0_ := Aside0.mk (blk_below (g := gb101) (o := .cells #[.slice A0_0 l0_0.length c0_0, .slice A0_1 l0_1.length c0_1] 25 (0, 0)) (by (with_reducible repeat first | refine bN_ ?_ _ | refine bD_ ?_ | refine bA_ ?_ _); exact BK101.out) hb); have n1_ := Aside0.mk (blk_below (g := gb102) (o := .cells #[.slice A1_0 l1_0.length c1_0, .slice A1_1 l1_1.length c1_1] 27 (0, 0)) (by (with_reducible repeat first | refine bN_ ?_ _ | refine bD_ ?_ | refine bA_ ?_ _); exact BK102.out) hb); have n2_ := Aside0.mk (below_step (by repeat (first | (with_reducible first | exact HB.out | apply lA_ | apply lN_ | apply lD_ | refine below_set ?_ GE101.out | refine below_set ?_ GE102.out) | exact HB.out)) hb); clear BK101; clear BK102; clear HB; have BK101 := n0_; have BK102 := n1_; have HB := n2_; clear n0_ n1_ n2_; (try clear hb); (try clear hb2); (try clear hk); (try clear hi); have hcz11_0 : w10.cell? ⟨gb101, 0, none⟩ = some (.slice A0_0 l0_0.length c0_0) := (blk_cell BK101.out 0).trans rfl; have hcz11_1 : w10.cell? ⟨gb101, 1, none⟩ = some (.slice A0_1 l0_1.length c0_1) := (blk_cell BK101.out 1).trans rfl; have hfz11_0 := blk_frozen BK101.out 0; have hfz11_1 := blk_frozen BK101.out 1))
  go_loopg [7, 19] k (fun kq v7 v19 w' => ∃ (x7_1 : List Int) (x19_1 : Int), v19 = .int .i64 x19_1 ∧ Aside0 (subgraph_Boundary.l0 kq x7_1 l0_1 (l0_1.length : Int) x19_1 l1_0 l1_1 = some (r1, r2)) ∧ Aside0 (kq ≤ k) ∧ Aside0 (Kd.R (Kd.int .i64) 3 w' w.heap.size (fun _ => True) v7 x7_1) ∧ Aside0 (w'.heap[gb101]? = some (.cells #[(.slice A0_0 l0_0.length c0_0), (.slice A0_1 l0_1.length c0_1)] 25 (0, 0))) ∧ Aside0 (w'.heap[gb102]? = some (.cells #[(.slice A1_0 l1_0.length c1_0), (.slice A1_1 l1_1.length c1_1)] 27 (0, 0))) ∧ Aside0 (Below w.heap.size w w'))
  case atStart => exact ⟨(([] : List Int)), (0), (by first | rfl | (simp; done) | (simp [*]; done)), H', ⟨Nat.le_refl _⟩, ⟨by first | exact Kd.R_nil _ _ _ _ _ | exact Kd.N_nil _ _ _ _ _ | exact Kd.V_nil _ _ _ _ _ | exact Kd.Q_nil _ _ _ _ _ | exact Kd.S_nil _ _ _ _ _⟩, ⟨by (with_reducible repeat first | refine bN_ ?_ _ | refine bD_ ?_ | refine bA_ ?_ _); exact BK101.out⟩, ⟨by (with_reducible repeat first | refine bN_ ?_ _ | refine bD_ ?_ | refine bA_ ?_ _); exact BK102.out⟩, ⟨by repeat (first | (with_reducible first | exact HB.out | apply lA_ | apply lN_ | apply lD_ | refine below_set ?_ GE101.out | refine below_set ?_ GE102.out) | exact HB.out)⟩⟩
  case round =>
   clear H'; (try clear c1); (try clear c2); (try clear p2); (try clear c4); (try clear c4b0); (try clear c4b1); (try clear c7); (try clear hcz11_0); (try clear hcz11_1); (try clear hcz8_0); (try clear hcz8_1); (try clear hcz9_0); (try clear hcz9_1); (try clear hfz11_0); (try clear hfz11_1); (try clear hfz8_0); (try clear hfz8_1); (try clear hfz9_0); (try clear hfz9_1); obtain ⟨x7_1, x19_1, rfl, HA, HK1, HO_7, BK101, BK102, HB⟩ := hrel
   cases gk with
   | zero => exact absurd HA.out (by simp [subgraph_Boundary.l0])
   | succ k1 =>
    have H := HA.out; clear HA; simp only [subgraph_Boundary.l0] at H
    by_cases c12 : x19_1 < (l0_1.length : Int)
    ·rw [if_pos c12] at H
     have c12b0 : decide (x19_1 < (l0_1.length : Int)) = true := decide_eq_true c12; clear c12
     by_cases c13 : 0 ≤ x19_1
     ·rw [if_pos c13] at H
      have c13b0 : decide (0 ≤ x19_1) = true := decide_eq_true c13; clear c13
      by_cases c14 : x19_1 < (l0_1.length : Int)
      ·rw [if_pos c14] at H
       have c14b0 : decide (x19_1 < (l0_1.length : Int)) = true := decide_eq_true c14; clear c14; replace H := Option.bind_eq_some_iff.mp H; obtain ⟨t106, A150, H⟩ := H; replace H : (if t106 = true then (subgraph_Boundary.l0 k1 x7_1 l0_1 (l0_1.length : Int) (wrap64 (x19_1 + 1)) l1_0 l1_1) else ((some (([(rd_T78 l0_1 x19_1).f1, (rd_T78 l0_1 x19_1).f2] : List Int) : List Int)).bind fun y107 => (if x7_1.length + y107.length < 17592186044416 then (subgraph_Boundary.l0 k1 (x7_1 ++ y107) l0_1 (l0_1.length : Int) (wrap64 (x19_1 + 1)) l1_0 l1_1) else (none)))) = some (r1, r2) := H; have A15 := Aside0.mk A150; clear A150
       by_cases c16 : t106 = true
       ·subst c16
        have H1 : (subgraph_Boundary.l0 k1 x7_1 l0_1 (l0_1.length : Int) (wrap64 (x19_1 + 1)) l1_0 l1_1) = some (r1, r2) := by rw [if_pos rfl] at H; exact H
        clear H; have H := H1; clear H1; have H' := Aside0.mk H; clear H; have p104 : 0 ≤ (x19_1 : Int) := of_decide_eq_true (by first | (with_reducible assumption) | assumption); have q104 : x19_1 < (l0_1.length : Int) := of_decide_eq_true (by first | (with_reducible assumption) | assumption); obtain ⟨ad104, e104, hx104_0, hx104_1, hx104_2⟩ := at_T78 HR0_1.out x19_1 p104 q104; cases e104; replace hx104_0 := (HB.out.cell (World.block_lt_of_cell? w _ hx104_0)).trans hx104_0; replace hx104_1 := (HB.out.cell (World.block_lt_of_cell? w _ hx104_1)).trans hx104_1; replace hx104_2 := (HB.out.cell (World.block_lt_of_cell? w _ hx104_2)).trans hx104_2; replace p104 := eq_true p104; replace q104 := eq_true q104
        go_wp2_with (first | ((with_reducible refine gate_dst (N := 9) rfl ?_); refine box_event ?hg (N := 9) ?hd (cs := #[.int .i64 0, .int .i64 0, .int .i64 0]) (t := 78) ?hr ?_; (case hd => rfl); (case hg => rfl); (case hr => first | (go_simp; done) | (go_simp; rfl)); intro gb105 hg w17 hbox hb; have n0_ := Aside0.mk (Kd.R_below (by (with_reducible repeat (first | apply rA_ | apply rN_ | apply rD_)); exact HO_7.out) hb); have n1_ := Aside0.mk (blk_below (g := gb101) (o := .cells #[.slice A0_0 l0_0.length c0_0, .slice (some ad104) l0_1.length c0_1] 25 (0, 0)) (by (with_reducible repeat first | refine bN_ ?_ _ | refine bD_ ?_ | refine bA_ ?_ _); exact BK101.out) hb); have n2_ := Aside0.mk (blk_below (g := gb102) (o := .cells #[.slice A1_0 l1_0.length c1_0, .slice A1_1 l1_1.length c1_1] 27 (0, 0)) (by (with_reducible repeat first | refine bN_ ?_ _ | refine bD_ ?_ | refine bA_ ?_ _); exact BK102.out) hb); have n3_ := Aside0.mk (below_step (by repeat (first | (with_reducible first | exact HB.out | apply lA_ | apply lN_ | apply lD_ | refine below_set ?_ GE101.out | refine below_set ?_ GE102.out) | exact HB.out)) hb); have n4_ := Aside0.mk (hbox); have n5_ := Aside0.mk ((by rw [hg]; exact (below_size (by repeat (first | (with_reducible first | exact HB.out | apply lA_ | apply lN_ | apply lD_ | refine below_set ?_ GE101.out | refine below_set ?_ GE102.out) | exact HB.out))) : w.heap.size ≤ gb105)); have n6_ := Aside0.mk ((by rw [hg]; exact (below_size (by repeat (first | (with_reducible first | exact HB.out | apply lA_ | apply lN_ | apply lD_ | refine below_set ?_ GE101.out | refine below_set ?_ GE102.out) | exact HB.out))) : w.heap.size ≤ gb105)); have n7_ := Aside0.mk ((by rw [hg]; exact Nat.ne_of_lt (blk_lt (g := gb101) (o := .cells #[.slice A0_0 l0_0.length c0_0, .slice (some ad104) l0_1.length c0_1] 25 (0, 0)) (by (with_reducible repeat first | refine bN_ ?_ _ | refine bD_ ?_ | refine bA_ ?_ _); exact BK101.out)) : gb101 ≠ gb105)); have n8_ := Aside0.mk ((by rw [hg]; exact Nat.ne_of_gt (blk_lt (g := gb101) (o := .cells #[.slice A0_0 l0_0.length c0_0, .slice (some ad104) l0_1.length c0_1] 25 (0, 0)) (by (with_reducible repeat first | refine bN_ ?_ _ | refine bD_ ?_ | refine bA_ ?_ _); exact BK101.out)) : gb105 ≠ gb101)); have n9_ := Aside0.mk ((by rw [hg]; exact Nat.ne_of_lt (blk_lt (g := gb102) (o := .cells #[.slice A1_0 l1_0.length c1_0, .slice A1_1 l1_1.length c1_1] 27 (0, 0)) (by (with_reducible repeat first | refine bN_ ?_ _ | refine bD_ ?_ | refine bA_ ?_ _); exact BK102.out)) : gb102 ≠ gb105)); have n10_ := Aside0.mk ((by rw [hg]; exact Nat.ne_of_gt (blk_lt (g := gb102) (o := .cells #[.slice A1_0 l1_0.length c1_0, .slice A1_1 l1_1.length c1_1] 27 (0, 0)) (by (with_reducible repeat first | refine bN_ ?_ _ | refine bD_ ?_ | refine bA_ ?_ _); exact BK102.out)) : gb105 ≠ gb102)); clear HO_7; clear BK101; clear BK102; clear HB; have HO_7 := n0_; have BK101 := n1_; have BK102 := n2_; have HB := n3_; have BK105 := n4_; have GW105 := n5_; have GE105 := n6_; have NB101_105 := n7_; have NB105_101 := n8_; have NB102_105 := n9_; have NB105_102 := n10_; clear n0_ n1_ n2_ n3_ n4_ n5_ n6_ n7_ n8_ n9_ n10_; clear hb hbox hg; have hnb18 := NB105_101.out; have hnc18 := NB101_105.out; have hnb19 := NB105_102.out; have hnc19 := NB102_105.out; have hcz20_0 : w17.cell? ⟨gb105, 0, none⟩ = some (.int .i64 0) := (blk_cell BK105.out 0).trans rfl; have hcz20_1 : w17.cell? ⟨gb105, 1, none⟩ = some (.int .i64 0) := (blk_cell BK105.out 1).trans rfl; have hcz20_2 : w17.cell? ⟨gb105, 2, none⟩ = some (.int .i64 0) := (blk_cell BK105.out 2).trans rfl; have hfz20_0 := blk_frozen BK105.out 0; have hfz20_1 := blk_frozen BK105.out 1; have hfz20_2 := blk_frozen BK105.out 2; have hnb21 := NB102_101.out; have hnc21 := NB101_102.out; have hcz22_0 : w17.cell? ⟨gb102, 0, none⟩ = some (.slice A1_0 l1_0.length c1_0) := (blk_cell BK102.out 0).trans rfl; have hcz22_1 : w17.cell? ⟨gb102, 1, none⟩ = some (.slice A1_1 l1_1.length c1_1) := (blk_cell BK102.out 1).trans rfl; have hfz22_0 := blk_frozen BK102.out 0; have hfz22_1 := blk_frozen BK102.out 1) | ((with_reducible refine gate_callee (f := 63) rfl ?_); refine goesL_ (some 27) rfl rfl Try.func63 (by kernel_rfl) rfl #[.slice A1_1 l1_1.length c1_1, .int .i64 x19_1] rfl (by (try simp only [List.map_toArray, List.map_cons, List.map_nil]); first | done | rfl | (simp only [List.length_drop, List.length_take]; rfl)) ?_; (with_reducible refine (subgraph_has.calls k1 _ _ l1_1 x19_1 true _ ?side1 ?side2 A15.out).mono ?_); (case side1 => exact Kd.C_below HR1_1.out (by repeat (first | (with_reducible first | exact HB.out | apply lA_ | apply lN_ | apply lD_ | refine below_set ?_ GE101.out | refine below_set ?_ GE102.out | refine below_set ?_ GE105.out) | exact HB.out))); (case side2 => exact HC1_1.out); rintro e w' ⟨rfl, ⟨nd, rfl⟩⟩; refine ⟨_, rfl, ?_⟩))
        go_roundg k1
        case measure => have := HK1.out; omega
        case rel => exact ⟨(x7_1), (wrap64 (x19_1 + 1)), (by first | rfl | (simp; done) | (simp [*]; done)), H', ⟨by have := HK1.out; omega⟩, ⟨by (with_reducible repeat (first | apply rA_ | apply rN_ | apply rD_)); exact Kd.R_mono (Kd.R_far (p := ⟨gb105, 2, none⟩) (Kd.R_far (p := ⟨gb105, 1, none⟩) (Kd.R_far (p := ⟨gb105, 0, none⟩) (Kd.R_types HO_7.out BK105.out (by decide)) (fun _ hk => hk.2) (.int .i64 ((rd_T78 l0_1 x19_1).f0))) (fun _ hk => hk.2) (.int .i64 ((rd_T78 l0_1 x19_1).f1))) (fun _ hk => hk.2) (.int .i64 ((rd_T78 l0_1 x19_1).f2))) (fun _ hk => trivial)⟩, ⟨by (with_reducible repeat first | refine bN_ ?_ _ | refine bD_ ?_ | refine bA_ ?_ _); refine blk_far ?_ NB101_105.out _; (with_reducible repeat first | refine bN_ ?_ _ | refine bD_ ?_ | refine bA_ ?_ _); refine blk_far ?_ NB101_105.out _; (with_reducible repeat first | refine bN_ ?_ _ | refine bD_ ?_ | refine bA_ ?_ _); refine blk_far ?_ NB101_105.out _; (with_reducible repeat first | refine bN_ ?_ _ | refine bD_ ?_ | refine bA_ ?_ _); exact BK101.out⟩, ⟨by (with_reducible repeat first | refine bN_ ?_ _ | refine bD_ ?_ | refine bA_ ?_ _); refine blk_far ?_ NB102_105.out _; (with_reducible repeat first | refine bN_ ?_ _ | refine bD_ ?_ | refine bA_ ?_ _); refine blk_far ?_ NB102_105.out _; (with_reducible repeat first | refine bN_ ?_ _ | refine bD_ ?_ | refine bA_ ?_ _); refine blk_far ?_ NB102_105.out _; (with_reducible repeat first | refine bN_ ?_ _ | refine bD_ ?_ | refine bA_ ?_ _); exact BK102.out⟩, ⟨by repeat (first | (with_reducible first | exact HB.out | apply lA_ | apply lN_ | apply lD_ | refine below_set ?_ GE101.out | refine below_set ?_ GE102.out | refine below_set ?_ GE105.out) | exact HB.out)⟩⟩
       ·replace c16 := Bool.eq_false_iff.mpr c16
        subst c16
        have H1 : ((some (([(rd_T78 l0_1 x19_1).f1, (rd_T78 l0_1 x19_1).f2] : List Int) : List Int)).bind fun y107 => (if x7_1.length + y107.length < 17592186044416 then (subgraph_Boundary.l0 k1 (x7_1 ++ y107) l0_1 (l0_1.length : Int) (wrap64 (x19_1 + 1)) l1_0 l1_1) else (none))) = some (r1, r2) := by rw [if_neg (show ¬ (false = true) by decide)] at H; exact H
        clear H; have H := H1; clear H1
        obtain ⟨y107, hy107⟩ : ∃ y_ : List Int, y_ = (([(rd_T78 l0_1 x19_1).f1, (rd_T78 l0_1 x19_1).f2] : List Int)) := ⟨_, rfl⟩
        replace H : (if x7_1.length + y107.length < 17592186044416 then (subgraph_Boundary.l0 k1 (x7_1 ++ y107) l0_1 (l0_1.length : Int) (wrap64 (x19_1 + 1)) l1_0 l1_1) else (none)) = some (r1, r2) := by first | (rw [hy107]; with_reducible exact H) | (have H2_ := (Option.bind_some _ _).symm.trans H; rw [hy107]; with_reducible exact H2_) | (have H2_ := (Option.bind_some _ _).symm.trans H; with_reducible exact H2_) | with_reducible exact H | (rw [hy107]; exact H) | exact H
        have Ny107 := Aside0.mk hy107; clear hy107
        by_cases c23 : x7_1.length + y107.length < 17592186044416
        ·rw [if_pos c23] at H
         have LMc23 := Aside0.mk c23; clear c23
         obtain ⟨y110, hy110⟩ : ∃ y_ : List Int, y_ = (x7_1 ++ y107) := ⟨_, rfl⟩
         replace H : (subgraph_Boundary.l0 k1 y110 l0_1 (l0_1.length : Int) (wrap64 (x19_1 + 1)) l1_0 l1_1) = some (r1, r2) := by first | (rw [hy110]; with_reducible exact H) | (have H2_ := (Option.bind_some _ _).symm.trans H; rw [hy110]; with_reducible exact H2_) | (have H2_ := (Option.bind_some _ _).symm.trans H; with_reducible exact H2_) | with_reducible exact H | (rw [hy110]; exact H) | exact H
         have Ny110 := Aside0.mk hy110; clear hy110; have H' := Aside0.mk H; clear H; have p104 : 0 ≤ (x19_1 : Int) := of_decide_eq_true (by first | (with_reducible assumption) | assumption); have q104 : x19_1 < (l0_1.length : Int) := of_decide_eq_true (by first | (with_reducible assumption) | assumption); obtain ⟨ad104, e104, hx104_0, hx104_1, hx104_2⟩ := at_T78 HR0_1.out x19_1 p104 q104; cases e104; replace hx104_0 := (HB.out.cell (World.block_lt_of_cell? w _ hx104_0)).trans hx104_0; replace hx104_1 := (HB.out.cell (World.block_lt_of_cell? w _ hx104_1)).trans hx104_1; replace hx104_2 := (HB.out.cell (World.block_lt_of_cell? w _ hx104_2)).trans hx104_2; replace p104 := eq_true p104; replace q104 := eq_true q104
         go_wp2_with (first | ((with_reducible refine gate_dst (N := 9) rfl ?_); refine box_event ?hg (N := 9) ?hd (cs := #[.int .i64 0, .int .i64 0, .int .i64 0]) (t := 78) ?hr ?_; (case hd => rfl); (case hg => rfl); (case hr => first | (go_simp; done) | (go_simp; rfl)); intro gb105 hg w24 hbox hb; have n0_ := Aside0.mk (Kd.R_below (by (with_reducible repeat (first | apply rA_ | apply rN_ | apply rD_)); exact HO_7.out) hb); have n1_ := Aside0.mk (blk_below (g := gb101) (o := .cells #[.slice A0_0 l0_0.length c0_0, .slice (some ad104) l0_1.length c0_1] 25 (0, 0)) (by (with_reducible repeat first | refine bN_ ?_ _ | refine bD_ ?_ | refine bA_ ?_ _); exact BK101.out) hb); have n2_ := Aside0.mk (blk_below (g := gb102) (o := .cells #[.slice A1_0 l1_0.length c1_0, .slice A1_1 l1_1.length c1_1] 27 (0, 0)) (by (with_reducible repeat first | refine bN_ ?_ _ | refine bD_ ?_ | refine bA_ ?_ _); exact BK102.out) hb); have n3_ := Aside0.mk (below_step (by repeat (first | (with_reducible first | exact HB.out | apply lA_ | apply lN_ | apply lD_ | refine below_set ?_ GE101.out | refine below_set ?_ GE102.out) | exact HB.out)) hb); have n4_ := Aside0.mk (hbox); have n5_ := Aside0.mk ((by rw [hg]; exact (below_size (by repeat (first | (with_reducible first | exact HB.out | apply lA_ | apply lN_ | apply lD_ | refine below_set ?_ GE101.out | refine below_set ?_ GE102.out) | exact HB.out))) : w.heap.size ≤ gb105)); have n6_ := Aside0.mk ((by rw [hg]; exact (below_size (by repeat (first | (with_reducible first | exact HB.out | apply lA_ | apply lN_ | apply lD_ | refine below_set ?_ GE101.out | refine below_set ?_ GE102.out) | exact HB.out))) : w.heap.size ≤ gb105)); have n7_ := Aside0.mk ((by rw [hg]; exact Nat.ne_of_lt (blk_lt (g := gb101) (o := .cells #[.slice A0_0 l0_0.length c0_0, .slice (some ad104) l0_1.length c0_1] 25 (0, 0)) (by (with_reducible repeat first | refine bN_ ?_ _ | refine bD_ ?_ | refine bA_ ?_ _); exact BK101.out)) : gb101 ≠ gb105)); have n8_ := Aside0.mk ((by rw [hg]; exact Nat.ne_of_gt (blk_lt (g := gb101) (o := .cells #[.slice A0_0 l0_0.length c0_0, .slice (some ad104) l0_1.length c0_1] 25 (0, 0)) (by (with_reducible repeat first | refine bN_ ?_ _ | refine bD_ ?_ | refine bA_ ?_ _); exact BK101.out)) : gb105 ≠ gb101)); have n9_ := Aside0.mk ((by rw [hg]; exact Nat.ne_of_lt (blk_lt (g := gb102) (o := .cells #[.slice A1_0 l1_0.length c1_0, .slice A1_1 l1_1.length c1_1] 27 (0, 0)) (by (with_reducible repeat first | refine bN_ ?_ _ | refine bD_ ?_ | refine bA_ ?_ _); exact BK102.out)) : gb102 ≠ gb105)); have n10_ := Aside0.mk ((by rw [hg]; exact Nat.ne_of_gt (blk_lt (g := gb102) (o := .cells #[.slice A1_0 l1_0.length c1_0, .slice A1_1 l1_1.length c1_1] 27 (0, 0)) (by (with_reducible repeat first | refine bN_ ?_ _ | refine bD_ ?_ | refine bA_ ?_ _); exact BK102.out)) : gb105 ≠ gb102)); clear HO_7; clear BK101; clear BK102; clear HB; have HO_7 := n0_; have BK101 := n1_; have BK102 := n2_; have HB := n3_; have BK105 := n4_; have GW105 := n5_; have GE105 := n6_; have NB101_105 := n7_; have NB105_101 := n8_; have NB102_105 := n9_; have NB105_102 := n10_; clear n0_ n1_ n2_ n3_ n4_ n5_ n6_ n7_ n8_ n9_ n10_; clear hb hbox hg; have hnb25 := NB105_101.out; have hnc25 := NB101_105.out; have hnb26 := NB105_102.out; have hnc26 := NB102_105.out; have hcz27_0 : w24.cell? ⟨gb105, 0, none⟩ = some (.int .i64 0) := (blk_cell BK105.out 0).trans rfl; have hcz27_1 : w24.cell? ⟨gb105, 1, none⟩ = some (.int .i64 0) := (blk_cell BK105.out 1).trans rfl; have hcz27_2 : w24.cell? ⟨gb105, 2, none⟩ = some (.int .i64 0) := (blk_cell BK105.out 2).trans rfl; have hfz27_0 := blk_frozen BK105.out 0; have hfz27_1 := blk_frozen BK105.out 1; have hfz27_2 := blk_frozen BK105.out 2; have hnb28 := NB102_101.out; have hnc28 := NB101_102.out; have hcz29_0 : w24.cell? ⟨gb102, 0, none⟩ = some (.slice A1_0 l1_0.length c1_0) := (blk_cell BK102.out 0).trans rfl; have hcz29_1 : w24.cell? ⟨gb102, 1, none⟩ = some (.slice A1_1 l1_1.length c1_1) := (blk_cell BK102.out 1).trans rfl; have hfz29_0 := blk_frozen BK102.out 0; have hfz29_1 := blk_frozen BK102.out 1) | ((with_reducible refine gate_callee (f := 63) rfl ?_); refine goesL_ (some 27) rfl rfl Try.func63 (by kernel_rfl) rfl #[.slice A1_1 l1_1.length c1_1, .int .i64 x19_1] rfl (by (try simp only [List.map_toArray, List.map_cons, List.map_nil]); first | done | rfl | (simp only [List.length_drop, List.length_take]; rfl)) ?_; (with_reducible refine (subgraph_has.calls k1 _ _ l1_1 x19_1 false _ ?side1 ?side2 A15.out).mono ?_); (case side1 => exact Kd.C_below HR1_1.out (by repeat (first | (with_reducible first | exact HB.out | apply lA_ | apply lN_ | apply lD_ | refine below_set ?_ GE101.out | refine below_set ?_ GE102.out | refine below_set ?_ GE105.out) | exact HB.out))); (case side2 => exact HC1_1.out); rintro e w' ⟨rfl, ⟨nd, rfl⟩⟩; refine ⟨_, rfl, ?_⟩) | ((with_reducible refine gate_dst (N := 34) rfl ?_); refine Kd.R_lit (Kd.int .i64) _ 3 ?hg (N := 34) ?hd (xs := ([(rd_T78 l0_1 x19_1).f1, (rd_T78 l0_1 x19_1).f2] : List Int)) (inner := [.int .i64 ((rd_T78 l0_1 x19_1).f1), .int .i64 ((rd_T78 l0_1 x19_1).f2)]) (ok := fun _ => True) (okp := fun _ => True) ?hr ?hp (fun _ hk => hk) trivial (Below.refl _ _) (Nat.le_refl _) (by simp) ?_; (case hd => rfl); (case hg => rfl); (case hr => first | (go_simp; done) | (go_simp; rfl)); (case hp => exact (Reps.one (show Kd.M (Kd.int .i64) _ _ _ ((rd_T78 l0_1 x19_1).f1) [.int .i64 ((rd_T78 l0_1 x19_1).f1)] from rfl) (Reps.one (show Kd.M (Kd.int .i64) _ _ _ ((rd_T78 l0_1 x19_1).f2) [.int .i64 ((rd_T78 l0_1 x19_1).f2)] from rfl) (Reps.none _ _)))); intro v108 w30 ho31 hb hg_ hnew_; clear hg_ hnew_; (first | rw [← Ny107.out] at ho31 | (simp only [Int.reduceToNat] at ho31; rw [← Ny107.out] at ho31)); have n0_ := Aside0.mk (Kd.R_elder' (by (with_reducible repeat (first | apply rA_ | apply rN_ | apply rD_)); exact (Kd.R_mono (Kd.R_far (p := ⟨gb105, 2, none⟩) (Kd.R_far (p := ⟨gb105, 1, none⟩) (Kd.R_far (p := ⟨gb105, 0, none⟩) (Kd.R_types HO_7.out BK105.out (by decide)) (fun _ hk => hk.2) (.int .i64 ((rd_T78 l0_1 x19_1).f0))) (fun _ hk => hk.2) (.int .i64 ((rd_T78 l0_1 x19_1).f1))) (fun _ hk => hk.2) (.int .i64 ((rd_T78 l0_1 x19_1).f2))) (fun _ h_ => h_.1))) (Kd.R_base ho31) hb); have n1_ := Aside0.mk (Kd.R_lower (Kd.R_new' ho31 (Kd.R_lt (by (with_reducible repeat (first | apply rA_ | apply rN_ | apply rD_)); exact (Kd.R_mono (Kd.R_far (p := ⟨gb105, 2, none⟩) (Kd.R_far (p := ⟨gb105, 1, none⟩) (Kd.R_far (p := ⟨gb105, 0, none⟩) (Kd.R_types HO_7.out BK105.out (by decide)) (fun _ hk => hk.2) (.int .i64 ((rd_T78 l0_1 x19_1).f0))) (fun _ hk => hk.2) (.int .i64 ((rd_T78 l0_1 x19_1).f1))) (fun _ hk => hk.2) (.int .i64 ((rd_T78 l0_1 x19_1).f2))) (fun _ h_ => h_.1))))) (below_size (by repeat (first | (with_reducible first | exact HB.out | apply lA_ | apply lN_ | apply lD_ | refine below_set ?_ GE101.out | refine below_set ?_ GE102.out | refine below_set ?_ GE105.out) | exact HB.out)))); have n2_ := Aside0.mk (blk_below (g := gb101) (o := .cells #[.slice A0_0 l0_0.length c0_0, .slice (some ad104) l0_1.length c0_1] 25 (0, 0)) (by (with_reducible repeat first | refine bN_ ?_ _ | refine bD_ ?_ | refine bA_ ?_ _); refine blk_far ?_ NB101_105.out _; (with_reducible repeat first | refine bN_ ?_ _ | refine bD_ ?_ | refine bA_ ?_ _); refine blk_far ?_ NB101_105.out _; (with_reducible repeat first | refine bN_ ?_ _ | refine bD_ ?_ | refine bA_ ?_ _); refine blk_far ?_ NB101_105.out _; (with_reducible repeat first | refine bN_ ?_ _ | refine bD_ ?_ | refine bA_ ?_ _); exact BK101.out) hb); have n3_ := Aside0.mk (blk_below (g := gb102) (o := .cells #[.slice A1_0 l1_0.length c1_0, .slice A1_1 l1_1.length c1_1] 27 (0, 0)) (by (with_reducible repeat first | refine bN_ ?_ _ | refine bD_ ?_ | refine bA_ ?_ _); refine blk_far ?_ NB102_105.out _; (with_reducible repeat first | refine bN_ ?_ _ | refine bD_ ?_ | refine bA_ ?_ _); refine blk_far ?_ NB102_105.out _; (with_reducible repeat first | refine bN_ ?_ _ | refine bD_ ?_ | refine bA_ ?_ _); refine blk_far ?_ NB102_105.out _; (with_reducible repeat first | refine bN_ ?_ _ | refine bD_ ?_ | refine bA_ ?_ _); exact BK102.out) hb); have n4_ := Aside0.mk (blk_below (g := gb105) (o := .cells #[.int .i64 ((rd_T78 l0_1 x19_1).f0), .int .i64 ((rd_T78 l0_1 x19_1).f1), .int .i64 ((rd_T78 l0_1 x19_1).f2)] 78 (0, 0)) (by (with_reducible repeat first | refine bN_ ?_ _ | refine bD_ ?_ | refine bA_ ?_ _); refine blk_put (cs := #[.int .i64 ((rd_T78 l0_1 x19_1).f0), .int .i64 ((rd_T78 l0_1 x19_1).f1), .int .i64 0]) ?_ 2 _ rfl; (with_reducible repeat first | refine bN_ ?_ _ | refine bD_ ?_ | refine bA_ ?_ _); refine blk_put (cs := #[.int .i64 ((rd_T78 l0_1 x19_1).f0), .int .i64 0, .int .i64 0]) ?_ 1 _ rfl; (with_reducible repeat first | refine bN_ ?_ _ | refine bD_ ?_ | refine bA_ ?_ _); refine blk_put (cs := #[.int .i64 0, .int .i64 0, .int .i64 0]) ?_ 0 _ rfl; (with_reducible repeat first | refine bN_ ?_ _ | refine bD_ ?_ | refine bA_ ?_ _); exact BK105.out) hb); have n5_ := Aside0.mk (below_step (by repeat (first | (with_reducible first | exact HB.out | apply lA_ | apply lN_ | apply lD_ | refine below_set ?_ GE101.out | refine below_set ?_ GE102.out | refine below_set ?_ GE105.out) | exact HB.out)) hb); clear HO_7; clear BK101; clear BK102; clear BK105; clear HB; have HO_7 := n0_; have HO109 := n1_; have BK101 := n2_; have BK102 := n3_; have BK105 := n4_; have HB := n5_; clear n0_ n1_ n2_ n3_ n4_ n5_; clear hb ho31; obtain ⟨Ao33, co33, eo33⟩ := Kd.R_slice HO109.out; subst eo33) | ((with_reducible refine gate_builtin (b := .append) (xs := #[.tmp 29, .tmp 34]) rfl ?_); at_builtin; refine Kd.R_append_rows (Kd.int .i64) (w0 := w) w.heap.size rfl (.tmp 29) (.tmp 34) 22 3 (.int .i64 0) 8 rfl Try.underlying22 info3 rfl (by decide) (by omega) u7 x7_1 y107 _ _ _ (fun k_ => some k_ ≠ (.slice Ao33 y107.length co33 : Value).ownBlock) (fun _ => False) rfl rfl ?aO ?aR (fun _ _ h => h) (fun _ h => h.elim) ?aF ?aB ?aS ?aL ?_; (case aR => repeat (first | exact (Kd.R_reads' HO109.out).2.2 | (with_reducible refine Kd.C_alloc ?_ _) | (with_reducible refine Kd.C_drewN ?_ _) | (with_reducible refine Kd.C_drew ?_))); (case aB => exact (by repeat (first | (with_reducible first | exact HB.out | apply lA_ | apply lN_ | apply lD_ | refine below_set ?_ GE101.out | refine below_set ?_ GE102.out | refine below_set ?_ GE105.out) | exact HB.out))); (case aF => exact (fun k_ hk => Kd.fresh' (Kd.R_lt (by (with_reducible repeat (first | apply rA_ | apply rN_ | apply rD_)); exact HO109.out)) k_ hk)); (case aO => exact (by (with_reducible repeat (first | apply rA_ | apply rN_ | apply rD_)); exact Kd.R_mono HO_7.out (fun _ hk => hk.2))); (case aS => exact (below_size (by repeat (first | (with_reducible first | exact HB.out | apply lA_ | apply lN_ | apply lD_ | refine below_set ?_ GE101.out | refine below_set ?_ GE102.out | refine below_set ?_ GE105.out) | exact HB.out)))); (case aL => have := LMc23.out; omega); intro v111 w32 ho hb hg hat; rw [← Ny110.out] at ho; have n0_ := Aside0.mk (blk_grown (g := gb101) (o := .cells #[.slice A0_0 l0_0.length c0_0, .slice (some ad104) l0_1.length c0_1] 25 (0, 0)) (by (with_reducible repeat first | refine bN_ ?_ _ | refine bD_ ?_ | refine bA_ ?_ _); exact BK101.out) hg (Kd.R_ne HO_7.out BK101.out (by decide))); have n1_ := Aside0.mk (blk_grown (g := gb102) (o := .cells #[.slice A1_0 l1_0.length c1_0, .slice A1_1 l1_1.length c1_1] 27 (0, 0)) (by (with_reducible repeat first | refine bN_ ?_ _ | refine bD_ ?_ | refine bA_ ?_ _); exact BK102.out) hg (Kd.R_ne HO_7.out BK102.out (by decide))); have n2_ := Aside0.mk (blk_grown (g := gb105) (o := .cells #[.int .i64 ((rd_T78 l0_1 x19_1).f0), .int .i64 ((rd_T78 l0_1 x19_1).f1), .int .i64 ((rd_T78 l0_1 x19_1).f2)] 78 (0, 0)) (by (with_reducible repeat first | refine bN_ ?_ _ | refine bD_ ?_ | refine bA_ ?_ _); exact BK105.out) hg (Kd.R_ne HO_7.out BK105.out (by decide))); have n3_ := Aside0.mk (Kd.R_after (ok := (fun _ => True)) (by (with_reducible repeat (first | apply rA_ | apply rN_ | apply rD_)); exact HO109.out) hg hat); have n4_ := Aside0.mk (hb); have n5_ := Aside0.mk (ho); clear BK101; clear BK102; clear BK105; clear HO109; clear HB; clear HO_7; have BK101 := n0_; have BK102 := n1_; have BK105 := n2_; have HO109 := n3_; have HB := n4_; have HO112 := n5_; clear n0_ n1_ n2_ n3_ n4_ n5_; clear ho hb hg hat))
         go_roundg k1
         case measure => have := HK1.out; omega
         case rel => exact ⟨(y110), (wrap64 (x19_1 + 1)), (by first | rfl | (simp; done) | (simp [*]; done)), H', ⟨by have := HK1.out; omega⟩, ⟨by (with_reducible repeat (first | apply rA_ | apply rN_ | apply rD_)); exact Kd.R_mono HO112.out (fun _ hk => trivial)⟩, ⟨by (with_reducible repeat first | refine bN_ ?_ _ | refine bD_ ?_ | refine bA_ ?_ _); exact BK101.out⟩, ⟨by (with_reducible repeat first | refine bN_ ?_ _ | refine bD_ ?_ | refine bA_ ?_ _); exact BK102.out⟩, ⟨by repeat (first | (with_reducible first | exact HB.out | apply lA_ | apply lN_ | apply lD_ | refine below_set ?_ GE101.out | refine below_set ?_ GE102.out | refine below_set ?_ GE105.out) | exact HB.out)⟩⟩
        ·rw [if_neg c23] at H
         exact absurd H (by simp)
      ·rw [if_neg c14] at H
       exact absurd H (by simp)
     ·rw [if_neg c13] at H
      exact absurd H (by simp)
    ·rw [if_neg c12] at H
     have c12b0 : decide (x19_1 < (l0_1.length : Int)) = false := decide_eq_false c12; clear c12; replace H := Option.bind_eq_some_iff.mp H; obtain ⟨t113, A340, H⟩ := H; replace H : ((subgraph_common.f t113 l1_0).bind fun t116 => (some (t116, 0))) = some (r1, r2) := H; have A34 := Aside0.mk A340; clear A340; replace H := Option.bind_eq_some_iff.mp H; obtain ⟨t116, A350, H⟩ := H; replace H : (some (t116, 0)) = some (r1, r2) := H; have A35 := Aside0.mk A350; clear A350; simp only [Option.some.injEq, Prod.mk.injEq] at H; obtain ⟨rfl, rfl⟩ := H
     try go_wp2
     have n0_ := Aside0.mk (Kd.R_drew HO_7.out); have n1_ := Aside0.mk (blk_drew BK101.out); have n2_ := Aside0.mk (blk_drew BK102.out); have n3_ := Aside0.mk (below_drew1 HB.out); clear HO_7; clear BK101; clear BK102; clear HB; have HO_7 := n0_; have BK101 := n1_; have BK102 := n2_; have HB := n3_; clear n0_ n1_ n2_ n3_; obtain ⟨Ao37, co37, eo37⟩ := Kd.R_slice HO_7.out
     (first | subst eo37 | (injection eo37 with f1_ f2_ f3_; have f4_ := f1_.symm; have f5_ := f3_.symm; clear f1_ f2_ f3_; subst f4_; subst f5_))
     refine start_ (n := 7) (S := fun w' => w'.cell? ⟨gb102, 0, none⟩ = some (.slice A1_0 l1_0.length c1_0) ∧ w'.cell? ⟨gb102, 1, none⟩ = some (.slice A1_1 l1_1.length c1_1)) (ds := []) #[false, false, false, false, false, false, false] (by kernel_rfl) rfl rfl ⟨(blk_cell BK102.out 0).trans rfl, (blk_cell BK102.out 1).trans rfl⟩ (fun hHeld => ?_)
     generalize wr.drew = w36 at HO_7 BK101 BK102 HB hHeld ⊢
     refine pure_ (i := 0) (N := some 37) (v := ?_) (a' := ?_) #[true, false, false, false, false, false, false] rfl rfl (by kernel_rfl) (fun _ _ _ h => h) (Or.inl ⟨by rfl, ?_⟩) ?_ ?_
     rotate_left
     ·intro w'
      go_simp
      with_reducible rfl
     rotate_left
     ·simp only [Act.put, sI_, s0_, sS_, i64_w, i32_w]
      rfl
     refine pure_ (i := 2) (N := some 39) (v := ?_) (a' := ?_) #[true, false, true, false, false, false, false] rfl rfl (by kernel_rfl) (fun _ _ _ h => h) (Or.inl ⟨by rfl, ?_⟩) ?_ ?_
     rotate_left
     ·intro w'
      go_simp
      with_reducible rfl
     rotate_left
     ·simp only [Act.put, sI_, s0_, sS_, i64_w, i32_w]
      rfl
     refine take_ (i := 3) (N := some 40) (v := ?_) (a' := ?_) #[true, false, true, true, false, false, false] rfl rfl (by kernel_rfl) (fun _ _ _ h => h) (Or.inl ⟨by rfl, ?_⟩) hHeld ?_ ?_
     rotate_left
     ·rintro w' ⟨s0, s1⟩
      go_simp
      with_reducible rfl
     rotate_left
     ·simp only [Act.put, sI_, s0_, sS_, i64_w, i32_w]
      rfl
     refine one_ (i := 1) (N := some 38) #[true, true, true, true, false, false, false] rfl rfl (by kernel_rfl) (by decide) (fun K hK => ?_)
     refine goes_ Try.func57 (by kernel_rfl) rfl #[.slice Ao37 x7_1.length co37] (by rfl) rfl rfl (by (try simp only [List.map_toArray, List.map_cons, List.map_nil]); first | done | rfl | (simp only [List.length_drop, List.length_take]; rfl)) ?_
     with_reducible refine (subgraph_sorted.calls (fun k_ => some k_ = (.slice Ao37 x7_1.length co37 : Value).ownBlock) (.slice Ao37 x7_1.length co37) x7_1 t113 w _ ?side1 ?side2 A34.out).mono ?_
     (case side1 => repeat (first | (with_reducible first | exact HB.out | apply lA_ | apply lN_ | apply lD_ | refine below_set ?_ GE101.out | refine below_set ?_ GE102.out) | exact HB.out))
     (case side2 => exact Kd.R_tight rfl HO_7.out)
     rintro e w38 ⟨v114, rfl, ho0, hb, hkp⟩
     refine ⟨_, rfl, ?_⟩
     have n0_ := Aside0.mk (blk_kept (by (with_reducible repeat first | refine bN_ ?_ _ | refine bD_ ?_ | refine bA_ ?_ _); exact BK101.out) hkp (fun hs_ => (fun e_ => (Kd.R_ne HO_7.out BK101.out (by decide)) e_) hs_)); have n1_ := Aside0.mk (blk_kept (by (with_reducible repeat first | refine bN_ ?_ _ | refine bD_ ?_ | refine bA_ ?_ _); exact BK102.out) hkp (fun hs_ => (fun e_ => (Kd.R_ne HO_7.out BK102.out (by decide)) e_) hs_)); have n2_ := Aside0.mk (Kd.R_mono (ok' := fun k_ => True) ho0 (fun k_ hk_ => trivial)); have n3_ := Aside0.mk (hb); clear BK101; clear BK102; clear HB; clear HO_7; have BK101 := n0_; have BK102 := n1_; have HO115 := n2_; have HB := n3_; clear n0_ n1_ n2_ n3_
     (try clear hb)
     (try clear hkp)
     (try clear ho0)
     obtain ⟨Ao39, co39, eo39⟩ := Kd.R_slice HO115.out
     (first | subst eo39 | (injection eo39 with f1_ f2_ f3_; have f4_ := f1_.symm; have f5_ := f3_.symm; clear f1_ f2_ f3_; subst f4_; subst f5_))
     refine hK.out _ _ ⟨(blk_cell BK102.out 0).trans rfl, (blk_cell BK102.out 1).trans rfl⟩ (fun hHeld => ?_)
     clear hK K
     refine norm_ (a' := ?_) ?_ ?_
     rotate_left
     ·show Act.put _ (some 38) _ = _
      simp only [Act.put, sI_, s0_, sS_, i64_w, i32_w]
      rfl
     refine one_ (i := 4) (N := some 41) #[true, true, true, true, true, false, false] rfl rfl (by kernel_rfl) (by decide) (fun K hK => ?_)
     refine goes_ Try.func64 (by kernel_rfl) rfl #[.slice Ao39 t113.length co39, .slice A1_0 l1_0.length c1_0] (by rfl) rfl rfl (by (try simp only [List.map_toArray, List.map_cons, List.map_nil]); first | done | rfl | (simp only [List.length_drop, List.length_take]; rfl)) ?_
     with_reducible refine (subgraph_common.calls _ _ t113 _ _ l1_0 t116 _ ?side1 ?side2 ?side3 ?side4 A35.out).mono ?_
     (case side1 => repeat (first | exact (Kd.R_reads' HO115.out).2.2 | (with_reducible refine Kd.C_alloc ?_ _) | (with_reducible refine Kd.C_drewN ?_ _) | (with_reducible refine Kd.C_drew ?_)))
     (case side2 => exact (Kd.R_reads' HO115.out).2.1)
     (case side3 => repeat (first | exact (Kd.C_below HR1_0.out HB.out) | (with_reducible refine Kd.C_alloc ?_ _) | (with_reducible refine Kd.C_drewN ?_ _) | (with_reducible refine Kd.C_drew ?_)))
     (case side4 => exact HC1_0.out)
     rintro e w40 ⟨v117, rfl, ho0, hb⟩
     refine ⟨_, rfl, ?_⟩
     have n0_ := Aside0.mk (Kd.R_elder' (by (with_reducible repeat (first | apply rA_ | apply rN_ | apply rD_)); exact HO115.out) (Kd.R_base ho0) hb); have n1_ := Aside0.mk (Kd.R_lower (Kd.R_new' ho0 (Kd.R_lt (by (with_reducible repeat (first | apply rA_ | apply rN_ | apply rD_)); exact HO115.out))) (below_size (by repeat (first | (with_reducible first | exact HB.out | apply lA_ | apply lN_ | apply lD_ | refine below_set ?_ GE101.out | refine below_set ?_ GE102.out) | exact HB.out)))); have n2_ := Aside0.mk (blk_below (g := gb101) (o := .cells #[.slice A0_0 l0_0.length c0_0, .slice A0_1 l0_1.length c0_1] 25 (0, 0)) (by (with_reducible repeat first | refine bN_ ?_ _ | refine bD_ ?_ | refine bA_ ?_ _); exact BK101.out) hb); have n3_ := Aside0.mk (blk_below (g := gb102) (o := .cells #[.slice A1_0 l1_0.length c1_0, .slice A1_1 l1_1.length c1_1] 27 (0, 0)) (by (with_reducible repeat first | refine bN_ ?_ _ | refine bD_ ?_ | refine bA_ ?_ _); exact BK102.out) hb); have n4_ := Aside0.mk (below_step (by repeat (first | (with_reducible first | exact HB.out | apply lA_ | apply lN_ | apply lD_ | refine below_set ?_ GE101.out | refine below_set ?_ GE102.out) | exact HB.out)) hb); clear HO115; clear BK101; clear BK102; clear HB; have HO115 := n0_; have HO118 := n1_; have BK101 := n2_; have BK102 := n3_; have HB := n4_; clear n0_ n1_ n2_ n3_ n4_
     (try clear hb)
     (try clear hb2)
     (try clear hk)
     (try clear hi)
     (try clear ho0)
     refine hK.out _ _ ⟨(blk_cell BK102.out 0).trans rfl, (blk_cell BK102.out 1).trans rfl⟩ (fun hHeld => ?_)
     clear hK K
     refine norm_ (a' := ?_) ?_ ?_
     rotate_left
     ·show Act.put _ (some 41) _ = _
      simp only [Act.put, sI_, s0_, sS_, i64_w, i32_w]
      rfl
     refine pure_ (i := 5) (N := some 4) (v := ?_) (a' := ?_) #[true, true, true, true, true, true, false] rfl rfl (by kernel_rfl) (fun _ _ _ h => h) (Or.inl ⟨by rfl, ?_⟩) ?_ ?_
     rotate_left
     ·intro w'
      go_simp
      with_reducible rfl
     rotate_left
     ·simp only [Act.put, sI_, s0_, sS_, i64_w, i32_w]
      rfl
     refine pure_ (i := 6) (N := some 5) (v := ?_) (a' := ?_) #[true, true, true, true, true, true, true] rfl rfl (by kernel_rfl) (fun _ _ _ h => h) (Or.inl ⟨by rfl, ?_⟩) ?_ ?_
     rotate_left
     ·intro w'
      go_simp
      with_reducible rfl
     rotate_left
     ·simp only [Act.put, sI_, s0_, sS_, i64_w, i32_w]
      rfl
     refine done_ (by kernel_rfl) ?_
     try go_wp2
     go_ret2
     exact ⟨_, by first | rfl | (simp [errW_none, errW_some] <;> rfl) | (simp [*, errW_none, errW_some] <;> rfl), by (with_reducible repeat (first | apply rA_ | apply rN_ | apply rD_)); exact Kd.R_mono HO118.out (fun _ hk => trivial), by repeat (first | (with_reducible first | exact HB.out | apply lA_ | apply lN_ | apply lD_ | refine below_set ?_ GE101.out | refine below_set ?_ GE102.out) | exact HB.out)⟩
 ·rw [if_neg c4] at H
  have c4b0 : (t103 == 0) = false := beq_eq_false_iff_ne.mpr c4; have c4b1 : (t103 != 0) = true := bne_iff_ne.mpr c4; simp only [Option.some.injEq, Prod.mk.injEq] at H; obtain ⟨rfl, rfl⟩ := H
  go_enter Try.func21, Try.ntmps21
  go_wp2_with (first | ((with_reducible refine gate_dst (N := 2) rfl ?_); refine box_event ?hg (N := 2) ?hd (cs := #[.slice A0_0 l0_0.length c0_0, .slice A0_1 l0_1.length c0_1]) (t := 25) ?hr ?_; (case hd => rfl); (case hg => rfl); (case hr => first | (go_simp; done) | (go_simp; rfl)); intro gb101 hg w41 hbox hb; have n0_ := Aside0.mk (below_step (by repeat (first | (with_reducible first | exact HB.out | apply lA_ | apply lN_ | apply lD_) | exact HB.out)) hb); have n1_ := Aside0.mk (hbox); have n2_ := Aside0.mk ((by rw [hg]; exact (below_size (by repeat (first | (with_reducible first | exact HB.out | apply lA_ | apply lN_ | apply lD_) | exact HB.out))) : w.heap.size ≤ gb101)); have n3_ := Aside0.mk ((by rw [hg]; exact (below_size (by repeat (first | (with_reducible first | exact HB.out | apply lA_ | apply lN_ | apply lD_) | exact HB.out))) : w.heap.size ≤ gb101)); clear HB; have HB := n0_; have BK101 := n1_; have GW101 := n2_; have GE101 := n3_; clear n0_ n1_ n2_ n3_; clear hb hbox hg) | ((with_reducible refine gate_dst (N := 3) rfl ?_); refine box_event ?hg (N := 3) ?hd (cs := #[.slice A1_0 l1_0.length c1_0, .slice A1_1 l1_1.length c1_1]) (t := 27) ?hr ?_; (case hd => rfl); (case hg => rfl); (case hr => first | (go_simp; done) | (go_simp; rfl)); intro gb102 hg w42 hbox hb; have n0_ := Aside0.mk (blk_below (g := gb101) (o := .cells #[.slice A0_0 l0_0.length c0_0, .slice A0_1 l0_1.length c0_1] 25 (0, 0)) (by (with_reducible repeat first | refine bN_ ?_ _ | refine bD_ ?_ | refine bA_ ?_ _); exact BK101.out) hb); have n1_ := Aside0.mk (below_step (by repeat (first | (with_reducible first | exact HB.out | apply lA_ | apply lN_ | apply lD_ | refine below_set ?_ GE101.out) | exact HB.out)) hb); have n2_ := Aside0.mk (hbox); have n3_ := Aside0.mk ((by rw [hg]; exact (below_size (by repeat (first | (with_reducible first | exact HB.out | apply lA_ | apply lN_ | apply lD_ | refine below_set ?_ GE101.out) | exact HB.out))) : w.heap.size ≤ gb102)); have n4_ := Aside0.mk ((by rw [hg]; exact (below_size (by repeat (first | (with_reducible first | exact HB.out | apply lA_ | apply lN_ | apply lD_ | refine below_set ?_ GE101.out) | exact HB.out))) : w.heap.size ≤ gb102)); have n5_ := Aside0.mk ((by rw [hg]; exact Nat.ne_of_lt (blk_lt (g := gb101) (o := .cells #[.slice A0_0 l0_0.length c0_0, .slice A0_1 l0_1.length c0_1] 25 (0, 0)) (by (with_reducible repeat first | refine bN_ ?_ _ | refine bD_ ?_ | refine bA_ ?_ _); exact BK101.out)) : gb101 ≠ gb102)); have n6_ := Aside0.mk ((by rw [hg]; exact Nat.ne_of_gt (blk_lt (g := gb101) (o := .cells #[.slice A0_0 l0_0.length c0_0, .slice A0_1 l0_1.length c0_1] 25 (0, 0)) (by (with_reducible repeat first | refine bN_ ?_ _ | refine bD_ ?_ | refine bA_ ?_ _); exact BK101.out)) : gb102 ≠ gb101)); clear BK101; clear HB; have BK101 := n0_; have HB := n1_; have BK102 := n2_; have GW102 := n3_; have GE102 := n4_; have NB101_102 := n5_; have NB102_101 := n6_; clear n0_ n1_ n2_ n3_ n4_ n5_ n6_; clear hb hbox hg; have hnb43 := NB101_102.out; have hnc43 := NB102_101.out; have hcz44_0 : w42.cell? ⟨gb101, 0, none⟩ = some (.slice A0_0 l0_0.length c0_0) := (blk_cell BK101.out 0).trans rfl; have hcz44_1 : w42.cell? ⟨gb101, 1, none⟩ = some (.slice A0_1 l0_1.length c0_1) := (blk_cell BK101.out 1).trans rfl; have hfz44_0 := blk_frozen BK101.out 0; have hfz44_1 := blk_frozen BK101.out 1; have hcz45_0 : w42.cell? ⟨gb102, 0, none⟩ = some (.slice A1_0 l1_0.length c1_0) := (blk_cell BK102.out 0).trans rfl; have hcz45_1 : w42.cell? ⟨gb102, 1, none⟩ = some (.slice A1_1 l1_1.length c1_1) := (blk_cell BK102.out 1).trans rfl; have hfz45_0 := blk_frozen BK102.out 0; have hfz45_1 := blk_frozen BK102.out 1) | ((with_reducible refine gate_callee (f := 27) rfl ?_); refine goesL_ (some 12) rfl rfl Try.func27 (by kernel_rfl) rfl #[.agg #[.slice A0_0 l0_0.length c0_0, .slice A0_1 l0_1.length c0_1], .agg #[.slice A1_0 l1_0.length c1_0, .slice A1_1 l1_1.length c1_1]] rfl (by (try simp only [List.map_toArray, List.map_cons, List.map_nil]); first | done | rfl | (simp only [List.length_drop, List.length_take]; rfl)) ?_; (with_reducible refine (subgraph_Valid.calls k _ _ l0_0 _ _ l0_1 _ _ l1_0 _ _ l1_1 t103 _ ?side1 ?side2 ?side3 ?side4 ?side5 ?side6 ?side7 ?side8 A3.out).mono ?_); (case side1 => repeat (first | exact (Kd.C_below HR0_0.out HB.out) | (with_reducible refine Kd.C_alloc ?_ _) | (with_reducible refine Kd.C_drewN ?_ _) | (with_reducible refine Kd.C_drew ?_))); (case side2 => exact HC0_0.out); (case side3 => repeat (first | exact (Kd.C_below HR0_1.out HB.out) | (with_reducible refine Kd.C_alloc ?_ _) | (with_reducible refine Kd.C_drewN ?_ _) | (with_reducible refine Kd.C_drew ?_))); (case side4 => exact HC0_1.out); (case side5 => repeat (first | exact (Kd.C_below HR1_0.out HB.out) | (with_reducible refine Kd.C_alloc ?_ _) | (with_reducible refine Kd.C_drewN ?_ _) | (with_reducible refine Kd.C_drew ?_))); (case side6 => exact HC1_0.out); (case side7 => repeat (first | exact (Kd.C_below HR1_1.out HB.out) | (with_reducible refine Kd.C_alloc ?_ _) | (with_reducible refine Kd.C_drewN ?_ _) | (with_reducible refine Kd.C_drew ?_))); (case side8 => exact HC1_1.out); rintro e w46 ⟨rfl, hb⟩; refine ⟨_, rfl, ?_⟩; have n0_ := Aside0.mk (blk_below (g := gb101) (o := .cells #[.slice A0_0 l0_0.length c0_0, .slice A0_1 l0_1.length c0_1] 25 (0, 0)) (by (with_reducible repeat first | refine bN_ ?_ _ | refine bD_ ?_ | refine bA_ ?_ _); exact BK101.out) hb); have n1_ := Aside0.mk (blk_below (g := gb102) (o := .cells #[.slice A1_0 l1_0.length c1_0, .slice A1_1 l1_1.length c1_1] 27 (0, 0)) (by (with_reducible repeat first | refine bN_ ?_ _ | refine bD_ ?_ | refine bA_ ?_ _); exact BK102.out) hb); have n2_ := Aside0.mk (below_step (by repeat (first | (with_reducible first | exact HB.out | apply lA_ | apply lN_ | apply lD_ | refine below_set ?_ GE101.out | refine below_set ?_ GE102.out) | exact HB.out)) hb); clear BK101; clear BK102; clear HB; have BK101 := n0_; have BK102 := n1_; have HB := n2_; clear n0_ n1_ n2_; (try clear hb); (try clear hb2); (try clear hk); (try clear hi)))
  go_ret2
  exact ⟨_, by first | rfl | (simp [errW_none, errW_some] <;> rfl) | (simp [*, errW_none, errW_some] <;> rfl), by first | exact Kd.R_nil _ _ _ _ _ | exact Kd.N_nil _ _ _ _ _ | exact Kd.V_nil _ _ _ _ _ | exact Kd.Q_nil _ _ _ _ _ | exact Kd.S_nil _ _ _ _ _, by repeat (first | (with_reducible first | exact HB.out | apply lA_ | apply lN_ | apply lD_ | refine below_set ?_ GE101.out | refine below_set ?_ GE102.out) | exact HB.out)⟩
end Go.Proofs.Ytonipihlpbaknaa.Print
namespace Go.Proofs.Ytonipihlpbaknaa.Print
set_option linter.unusedVariables false
set_option linter.unusedSimpArgs false
open Go.RowKit Go.Proofs.YtonipihlpbaknaaW.PrintWords Go.Proofs.YtonipihlpbaknaaW.PrintLast Go.Proofs.YtonipihlpbaknaaW.PrintMore
/-- The error of an ascending list of numbers below n, behind a number. -/
def listE (n : Int) : Option Int → List Int → Int
  | _, [] => 0
  | none, k :: l => if k < 0 ∨ n ≤ k then 6 else listE n (some k) l
  | some p, k :: l => if k < 0 ∨ n ≤ k then 6 else if k ≤ p then 12 else listE n (some k) l
/-- The one ahead of place i. -/
def aheadO (l : List Int) : Nat → Option Int
  | 0 => none
  | i + 1 => l[i]?
theorem pred_ok (i : Nat) (h : i + 1 < 9223372036854775807) : wrap64 (((i + 1 : Nat) : Int) - 1) = (i : Int) := by unfold wrap64; omega
theorem list_ends (l : List Int) (n : Int) (hl : l.length < 4611686018427387904) : ∀ (d k i : Nat), i ≤ l.length → l.length - i ≤ d → 3 * d < k →
    subgraph_list.l0 k l n l l.length i = some (listE n (aheadO l i) (l.drop i)) := by
  intro d
  induction d with
  | zero =>
    intro k i hi hd hk
    obtain ⟨k, rfl⟩ : ∃ m, k = m + 1 := ⟨k - 1, by omega⟩
    obtain rfl : i = l.length := by omega
    simp only [subgraph_list.l0]; rw [if_neg (by omega), List.drop_length]
    cases aheadO l l.length <;> rfl
  | succ d ih =>
    intro k i hi hd hk
    by_cases c : i < l.length
    · obtain ⟨k, rfl⟩ : ∃ m, k = m + 3 := ⟨k - 3, by omega⟩
      have step : listE n (aheadO l (i + 1)) (l.drop (i + 1)) = listE n (some l[i]) (l.drop (i + 1)) := by simp [aheadO, c]
      have ih' := ih k (i + 1) (by omega) (by omega) (by omega); rw [step] at ih'; rw [List.drop_eq_getElem_cons c]; simp only [subgraph_list.l0]; rw [if_pos (by omega), if_pos (by omega), if_pos (by omega), rd_get l i c]
      have go1 : ∀ b : Bool, b = decide (l[i] < 0 ∨ n ≤ l[i]) → subgraph_list.j1 (k + 2) l n i l[i] l l.length i b = some (listE n (aheadO l i) (l[i] :: l.drop (i + 1))) := by
        rintro b rfl; simp only [subgraph_list.j1, decide_eq_true_eq]
        by_cases e : l[i] < 0 ∨ n ≤ l[i]
        · rw [if_pos e]
          cases aheadO l i with
          | none => simp [listE, e]
          | some p => simp [listE, e]
        · rw [if_neg e]
          cases i with
          | zero =>
            rw [if_neg (by omega)]; simp only [subgraph_list.j2, Bool.false_eq_true, if_false]; rw [succ_ok 0 (by omega), ih']
            simp [aheadO, listE, e]
          | succ i =>
            rw [if_pos (by omega), pred_ok i (by omega), if_pos (by omega), if_pos (by omega), rd_get l i (by omega)]; simp only [subgraph_list.j2, decide_eq_true_eq]
            have ha : aheadO l (i + 1) = some l[i] := by simp [aheadO, show i < l.length by omega]
            rw [ha]
            by_cases e2 : l[i + 1] ≤ l[i]
            · rw [if_pos e2]
              simp [listE, e, e2]
            · rw [if_neg e2, succ_ok (i + 1) (by omega), ih']
              simp [listE, e, e2]
      by_cases e : l[i] < 0
      · rw [if_pos e]
        exact go1 true (by simp [e])
      · rw [if_neg e]
        exact go1 _ (by simp [e])
    · exact ih k i hi (by omega) (by omega)
theorem list_ok (l : List Int) (n : Int) (hl : l.length < 4611686018427387904) (k : Nat) (hk : 3 * l.length < k) : subgraph_list.f k l n = some (listE n none l) := by
  have := list_ends l n hl l.length k 0 (Nat.zero_le _) (by omega) hk
  simpa [subgraph_list.f, aheadO] using this
/-- What it says of the list. -/
theorem listE_none {n : Int} {o : Option Int} {l : List Int} (h : listE n o l = 0) : (∀ x ∈ l, 0 ≤ x ∧ x < n) ∧ l.Pairwise (· < ·) ∧ ∀ p, o = some p → ∀ x ∈ l, p < x := by
  induction l generalizing o with
  | nil => exact ⟨by simp, List.Pairwise.nil, by simp⟩
  | cons k l ih =>
    have h' : ¬ (k < 0 ∨ n ≤ k) ∧ listE n (some k) l = 0 ∧ ∀ p, o = some p → p < k := by
      cases o with
      | none =>
        simp only [listE] at h
        split at h
        · omega
        · rename_i e
          exact ⟨e, h, by simp⟩
      | some p =>
        simp only [listE] at h
        split at h
        · omega
        · rename_i e
          split at h
          · omega
          · rename_i e2
            exact ⟨e, h, by rintro q ⟨⟩; omega⟩
    obtain ⟨h1, h2, h3⟩ := h'; obtain ⟨i1, i2, i3⟩ := ih h2
    refine ⟨?_, ?_, ?_⟩
    · intro x hx
      rcases List.mem_cons.1 hx with rfl | hx
      · omega
      · exact i1 x hx
    · exact List.pairwise_cons.2 ⟨fun x hx => i3 k rfl x hx, i2⟩
    · intro p hp x hx
      rcases List.mem_cons.1 hx with rfl | hx
      · exact h3 p hp
      · have := h3 p hp
        have := i3 k rfl x hx
        omega
theorem listE_of {n : Int} {o : Option Int} {l : List Int} (h1 : ∀ x ∈ l, 0 ≤ x ∧ x < n) (h2 : l.Pairwise (· < ·)) (h3 : ∀ p, o = some p → ∀ x ∈ l, p < x) : listE n o l = 0 := by
  induction l generalizing o with
  | nil => cases o <;> rfl
  | cons k l ih =>
    have hk := h1 k (List.mem_cons_self ..); have i := ih (o := some k) (fun x hx => h1 x (List.mem_cons_of_mem _ hx)) (List.pairwise_cons.1 h2).2 (by rintro p ⟨⟩ x hx; exact (List.pairwise_cons.1 h2).1 x hx)
    cases o with
    | none =>
      simp only [listE]; rw [if_neg (by omega), i]
    | some p =>
      have := h3 p rfl k (List.mem_cons_self ..); simp only [listE]; rw [if_neg (by omega), if_neg (by omega), i]
/-- An edge's ends are among the nodes. -/
def endsIn (es : List S78) (ns : List Int) (k : Int) : Bool := decide ((rd_T78 es k).f1 ∈ ns) && decide ((rd_T78 es k).f2 ∈ ns)
def partE (l0 : List Int) (l1 : List S78) (ns es : List Int) : Int :=
  if listE l0.length none ns = 0 then if listE l1.length none es = 0 then if es.all (endsIn l1 ns) then 0 else 14 else listE l1.length none es else listE l0.length none ns
theorem part_ends (l0 : List Int) (l1 : List S78) (ns es : List Int) (hn : ns.Pairwise (· < ·)) (hnl : ns.length < 4611686018427387904) (he : es.length < 4611686018427387904) (hr : ∀ x ∈ es, 0 ≤ x ∧ x < l1.length) : ∀ (d k i : Nat), i ≤ es.length → es.length - i ≤ d → 2 * d + ns.length < k →
    subgraph_part.l0 (k + 1) es es.length i l0 l1 ns es = some (if (es.drop i).all (endsIn l1 ns) then 0 else 14) := by
  intro d
  induction d with
  | zero =>
    intro k i hi hd hk
    obtain rfl : i = es.length := by omega
    simp only [subgraph_part.l0]; rw [if_neg (by omega), List.drop_length]
    rfl
  | succ d ih =>
    intro k i hi hd hk
    by_cases c : i < es.length
    · obtain ⟨k, rfl⟩ : ∃ m, k = m + 2 := ⟨k - 2, by omega⟩
      have hx := hr es[i] (List.getElem_mem c); have ih' := ih k (i + 1) (by omega) (by omega) (by omega); rw [List.drop_eq_getElem_cons c]; simp only [subgraph_part.l0]; rw [if_pos (by omega), if_pos (by omega), if_pos (by omega), rd_get es i c, if_pos hx.1, if_pos hx.2, has_ok ns _ hn hnl _ (by omega)]; simp only [Option.bind_some, List.all_cons, endsIn]
      by_cases e1 : (rd_T78 l1 es[i]).f1 ∈ ns
      · rw [if_pos (by simpa using e1), has_ok ns _ hn hnl _ (by omega)]
        simp only [Option.bind_some, subgraph_part.j1]
        by_cases e2 : (rd_T78 l1 es[i]).f2 ∈ ns
        · rw [if_neg (by simp [e2]), succ_ok i (by omega), ih']
          simp [e1, e2, endsIn]
        · rw [if_pos (by simp [e2])]
          simp [e1, e2]
      · rw [if_neg (by simpa using e1)]
        simp only [subgraph_part.j1, if_true]
        simp [e1]
    · exact ih k i hi (by omega) (by omega)
theorem part_ok (l0 : List Int) (l1 : List S78) (ns es : List Int) (hn : ns.length < 4611686018427387904) (he : es.length < 4611686018427387904) (k : Nat) (hk : 3 * ns.length + 3 * es.length + 1 < k) : subgraph_part.f k l0 l1 ns es = some (partE l0 l1 ns es) := by
  unfold subgraph_part.f partE; rw [list_ok ns _ hn k (by omega)]; simp only [Option.bind_some]
  by_cases e1 : listE l0.length none ns = 0
  · rw [if_pos e1, if_pos e1, list_ok es _ he k (by omega)]
    simp only [Option.bind_some]
    by_cases e2 : listE l1.length none es = 0
    · rw [if_pos e2, if_pos e2]
      obtain ⟨k, rfl⟩ : ∃ m, k = m + 1 := ⟨k - 1, by omega⟩
      have := part_ends l0 l1 ns es (listE_none e1).2.1 hn he (listE_none e2).1 es.length k 0 (Nat.zero_le _) (by omega) (by omega)
      simpa using this
    · rw [if_neg e2, if_neg e2]
  · rw [if_neg e1, if_neg e1]
theorem valid_ok (l0 : List Int) (l1 : List S78) (ns es : List Int) (hn : ns.length < 4611686018427387904) (he : es.length < 4611686018427387904) (k : Nat) (hk : 3 * ns.length + 3 * es.length + 1 < k) : subgraph_Valid.f k l0 l1 ns es = some (if validB l0 l1 = 0 then partE l0 l1 ns es else validB l0 l1) := by
  unfold subgraph_Valid.f; simp only [graph_Valid.f, Option.bind_some]
  by_cases e : validB l0 l1 = 0
  · rw [if_pos e, if_pos e, part_ok l0 l1 ns es hn he k hk]
    try rfl
  · rw [if_neg e, if_neg e]
end Go.Proofs.Ytonipihlpbaknaa.Print
namespace Go.Proofs.Ytonipihlpbaknaa.Print
set_option linter.unusedVariables false
set_option linter.unusedSimpArgs false
open Go.RowKit Go.Proofs.YtonipihlpbaknaaW.PrintWords Go.Proofs.YtonipihlpbaknaaW.PrintLast Go.Proofs.YtonipihlpbaknaaW.PrintMore
/-- The ends of the edges below i that are not among some edges. -/
def outUpto (l1 : List S78) (es : List Int) (i : Nat) : List Int := (List.range i).flatMap fun (j : Nat) => if (j : Int) ∈ es then [] else [(rd_T78 l1 j).f1, (rd_T78 l1 j).f2]
def bdryL (l1 : List S78) (ns es : List Int) : List Int := (Lib.compact (sortI (outUpto l1 es l1.length))).filter fun x => decide (x ∈ ns)
def valE (l0 : List Int) (l1 : List S78) (ns es : List Int) : Int := if validB l0 l1 = 0 then partE l0 l1 ns es else validB l0 l1
theorem outUpto_succ (l1 : List S78) (es : List Int) (i : Nat) : outUpto l1 es (i + 1) = outUpto l1 es i ++ (if (i : Int) ∈ es then [] else [(rd_T78 l1 i).f1, (rd_T78 l1 i).f2]) := by
  unfold outUpto; rw [List.range_succ, List.flatMap_append]
  simp
theorem outUpto_len (l1 : List S78) (es : List Int) (i : Nat) : (outUpto l1 es i).length ≤ 2 * i := by
  induction i with
  | zero => simp [outUpto]
  | succ i ih =>
    rw [outUpto_succ, List.length_append]
    split <;> simp <;> omega
theorem validB_sizes (l0 : List Int) (l1 : List S78) (h : validB l0 l1 = 0) : l0.length ≤ 40 ∧ l1.length ≤ 80 := by
  unfold validB at h
  split at h
  · omega
  · split at h
    · omega
    · omega
theorem partE_zero {l0 : List Int} {l1 : List S78} {ns es : List Int} (h : partE l0 l1 ns es = 0) : listE l0.length none ns = 0 ∧ listE l1.length none es = 0 ∧ es.all (endsIn l1 ns) = true := by
  unfold partE at h
  by_cases h1 : listE l0.length none ns = 0
  · rw [if_pos h1] at h
    by_cases h2 : listE l1.length none es = 0
    · rw [if_pos h2] at h
      by_cases h3 : es.all (endsIn l1 ns) = true
      · exact ⟨h1, h2, h3⟩
      · rw [if_neg h3] at h
        omega
    · rw [if_neg h2] at h
      exact absurd h h2
  · rw [if_neg h1] at h
    exact absurd h h1
theorem valE_zero {l0 : List Int} {l1 : List S78} {ns es : List Int} (h : valE l0 l1 ns es = 0) : validB l0 l1 = 0 ∧ partE l0 l1 ns es = 0 := by
  unfold valE at h
  by_cases h1 : validB l0 l1 = 0
  · rw [if_pos h1] at h
    exact ⟨h1, h⟩
  · rw [if_neg h1] at h
    exact absurd h h1
theorem compact_le (l : List Int) : (Lib.compact (sortI l)).length ≤ l.length := compact_sortI_le l
theorem bdry_ends (l1 : List S78) (ns es : List Int) (hes : es.Pairwise (· < ·)) (hns : ascB ns = true) (hn : ns.length < 1000000) (he : es.length < 1000000) (hl : l1.length < 1000000) : ∀ (d k i : Nat), i ≤ l1.length → l1.length - i ≤ d → d + es.length < k →
    subgraph_Boundary.l0 (k + 1) (outUpto l1 es i) l1 l1.length i ns es = some (bdryL l1 ns es, 0) := by
  intro d
  induction d with
  | zero =>
    intro k i hi hd hk
    obtain rfl : i = l1.length := by omega
    simp only [subgraph_Boundary.l0]; have h1 := outUpto_len l1 es l1.length; have h2 := compact_le (outUpto l1 es l1.length); rw [if_neg (by omega), subgraph_sorted.f, if_pos (by omega)]; simp only [Option.bind_some]; rw [subgraph_common.f, if_pos ⟨by omega, by omega, hns⟩]
    rfl
  | succ d ih =>
    intro k i hi hd hk
    by_cases c : i < l1.length
    · obtain ⟨k, rfl⟩ : ∃ m, k = m + 1 := ⟨k - 1, by omega⟩
      have ih' := ih k (i + 1) (by omega) (by omega) (by omega); rw [outUpto_succ] at ih'; have h1 := outUpto_len l1 es i; simp only [subgraph_Boundary.l0]; rw [if_pos (by omega), if_pos (by omega), if_pos (by omega), has_ok es _ hes (by omega) _ (by omega)]; simp only [Option.bind_some]
      by_cases e : (i : Int) ∈ es
      · rw [if_pos (by simpa using e), succ_ok i (by omega)]
        rw [if_pos e, List.append_nil] at ih'; exact ih'
      · rw [if_neg (by simpa using e), if_pos (by simp; omega), succ_ok i (by omega)]
        rw [if_neg e] at ih'; exact ih'
    · exact ih k i hi (by omega) (by omega)
theorem bdry_ok (l0 : List Int) (l1 : List S78) (ns es : List Int) (hn : ns.length < 1000000) (he : es.length < 1000000) (k : Nat) (hk : 3 * ns.length + 3 * es.length + 200 < k) : subgraph_Boundary.f k l0 l1 ns es = some (if valE l0 l1 ns es = 0 then (bdryL l1 ns es, 0) else ([], valE l0 l1 ns es)) := by
  unfold subgraph_Boundary.f; rw [valid_ok l0 l1 ns es (by omega) (by omega) k (by omega)]; simp only [Option.bind_some]
  change (if valE l0 l1 ns es = 0 then _ else _) = _
  by_cases e : valE l0 l1 ns es = 0
  · rw [if_pos e, if_pos e]
    obtain ⟨h1, h2⟩ := valE_zero e; obtain ⟨h3, h4, h5⟩ := partE_zero h2; have hz := validB_sizes l0 l1 h1
    obtain ⟨k, rfl⟩ : ∃ m, k = m + 1 := ⟨k - 1, by omega⟩
    have := bdry_ends l1 ns es (listE_none h4).2.1 (decide_eq_true (listE_none h3).2.1) hn he (by omega) l1.length k 0 (Nat.zero_le _) (by omega) (by omega)
    simpa [outUpto] using this
  · rw [if_neg e, if_neg e]
    rfl
end Go.Proofs.Ytonipihlpbaknaa.Print
namespace Go.Proofs.Ytonipihlpbaknaa.Print
set_option linter.unusedVariables false
set_option linter.unusedSimpArgs false
open Go.RowKit Go.Proofs.YtonipihlpbaknaaW.PrintWords Go.Proofs.YtonipihlpbaknaaW.PrintLast Go.Proofs.YtonipihlpbaknaaW.PrintMore
theorem rdT_get (l : List S78) (i : Nat) (h : i < l.length) : rd_T78 l (i : Int) = l[i] := by simp [rd_T78, List.getD_eq_getElem?_getD, h]
theorem kind_ok (a : Int) : scarfjointref05_kind.f a = some (withinB a 99) := by
  unfold scarfjointref05_kind.f withinB
  by_cases h : a ≥ 0
  · rw [if_pos h]
    simp [h]
  · rw [if_neg h]
    simp; omega
theorem right_ok (e : S78) (n : Int) : scarfjointref05_right.f e.f0 e.f1 e.f2 n = some (fitsB e n) := by
  unfold scarfjointref05_right.f fitsB; rw [kind_ok, Option.bind_some]
  by_cases h0 : withinB e.f0 99 = true
  · rw [if_pos h0, h0]
    by_cases h1 : e.f1 ≥ 0
    · rw [if_pos h1]
      by_cases h2 : e.f1 < n
      · rw [if_pos h2]
        by_cases h3 : e.f2 ≥ 0
        · rw [if_pos h3]
          simp only [withinB, Bool.true_and, Option.some.injEq]; rw [decide_eq_true (show 0 ≤ e.f1 ∧ e.f1 ≤ n - 1 by omega), Bool.true_and]
          by_cases h4 : e.f2 < n
          · rw [decide_eq_true h4, decide_eq_true (by omega)]
          · rw [decide_eq_false h4, decide_eq_false (by omega)]
        · rw [if_neg h3]
          simp only [withinB, Bool.true_and, Option.some.injEq]; rw [decide_eq_false (show ¬(0 ≤ e.f2 ∧ e.f2 ≤ n - 1) by omega), Bool.and_false]
      · rw [if_neg h2]
        simp only [withinB, Bool.true_and, Option.some.injEq]; rw [decide_eq_false (show ¬(0 ≤ e.f1 ∧ e.f1 ≤ n - 1) by omega), Bool.false_and]
    · rw [if_neg h1]
      simp only [withinB, Bool.true_and, Option.some.injEq]; rw [decide_eq_false (show ¬(0 ≤ e.f1 ∧ e.f1 ≤ n - 1) by omega), Bool.false_and]
  · rw [if_neg h0]
    simp only [Bool.not_eq_true] at h0; rw [h0]
    rfl
theorem rvalid1 (l0 : List Int) (l1 : List S78) (hn : l1.length < 9223372036854775807) : ∀ (d k i : Nat), i + d = l1.length → d < k → scarfjointref05_Valid.l1 k i l0 l1 = some (if (l1.drop i).any (fun e => !fitsB e l0.length) then 6 else 0) := by
  intro d
  induction d with
  | zero =>
    intro k i hi hk
    obtain ⟨k, rfl⟩ : ∃ m, k = m + 1 := ⟨k - 1, by omega⟩
    rw [scarfjointref05_Valid.l1, if_neg (by omega), List.drop_of_length_le (by omega)]
    simp
  | succ d ih =>
    intro k i hi hk
    obtain ⟨k, rfl⟩ : ∃ m, k = m + 1 := ⟨k - 1, by omega⟩
    have hlt : i < l1.length := by omega
    rw [scarfjointref05_Valid.l1, if_pos (by omega), if_pos (by omega), rdT_get l1 i hlt, right_ok, Option.bind_some, List.drop_eq_getElem_cons hlt]
    by_cases h : fitsB l1[i] l0.length = true
    · rw [if_pos h, succ_ok i (by omega), ih k (i + 1) (by omega) (by omega)]
      generalize l1.drop (i + 1) = t1
      simp [h]
    · rw [if_neg h]
      generalize l1.drop (i + 1) = t1
      simp [h]
theorem rvalid0 (l0 : List Int) (l1 : List S78) (hn0 : l0.length < 9223372036854775807) (hn : l1.length < 9223372036854775807) : ∀ (d k i : Nat), i + d = l0.length → d + l1.length + 1 < k →
    scarfjointref05_Valid.l0 k i l0 l1 = some (if (l0.drop i).any (fun t => !withinB t 99) then 6 else if l1.any (fun e => !fitsB e l0.length) then 6 else 0) := by
  intro d
  induction d with
  | zero =>
    intro k i hi hk
    obtain ⟨k, rfl⟩ : ∃ m, k = m + 1 := ⟨k - 1, by omega⟩
    have h1 := rvalid1 l0 l1 hn l1.length k 0 (by omega) (by omega); rw [scarfjointref05_Valid.l0, if_neg (by omega), List.drop_of_length_le (by omega)]
    simpa using h1
  | succ d ih =>
    intro k i hi hk
    obtain ⟨k, rfl⟩ : ∃ m, k = m + 1 := ⟨k - 1, by omega⟩
    have hlt : i < l0.length := by omega
    rw [scarfjointref05_Valid.l0, if_pos (by omega), if_pos (by omega), rd_get l0 i hlt, kind_ok, Option.bind_some, List.drop_eq_getElem_cons hlt]
    by_cases h : withinB l0[i] 99 = true
    · rw [if_pos h, succ_ok i (by omega), ih k (i + 1) (by omega) (by omega)]
      generalize l0.drop (i + 1) = t1
      simp [h]
    · rw [if_neg h]
      generalize l0.drop (i + 1) = t1
      simp [h]
theorem rvalid_ok (l0 : List Int) (l1 : List S78) (k : Nat) (hn0 : l0.length < 9223372036854775807) (hn : l1.length < 9223372036854775807) (hk : l0.length + l1.length + 2 < k) : scarfjointref05_Valid.f k l0 l1 = some (validB l0 l1) := by
  obtain ⟨k, rfl⟩ : ∃ m, k = m + 1 := ⟨k - 1, by omega⟩
  have h0 := rvalid0 l0 l1 hn0 hn l0.length k 0 (by omega) (by omega); unfold scarfjointref05_Valid.f validB
  by_cases h1 : 40 < l0.length
  · rw [if_pos (by omega), if_pos h1, scarfjointref05_Valid.j0, if_pos rfl]
  · rw [if_neg (by omega), if_neg h1, scarfjointref05_Valid.j0]
    by_cases h2 : 80 < l1.length
    · rw [if_pos h2, if_pos (by simp; omega)]
    · rw [if_neg h2, if_neg (by simp; omega)]
      simpa using h0
theorem fits_of {l0 : List Int} {l1 : List S78} (h : validB l0 l1 = 0) (j : Nat) (hj : j < l1.length) : 0 ≤ l1[j].f1 ∧ l1[j].f1 < l0.length ∧ 0 ≤ l1[j].f2 ∧ l1[j].f2 < l0.length := by
  unfold validB at h
  split at h
  · omega
  · split at h
    · omega
    · split at h
      · omega
      · split at h
        · omega
        · rename_i h4
          simp only [List.any_eq_true, not_exists, not_and, Bool.not_eq_true, Bool.not_eq_false'] at h4; have h5 := h4 l1[j] (List.getElem_mem hj)
          simp [fitsB, withinB] at h5
          omega
theorem getD_set2 (bs : List Bool) (a v : Nat) (ha : a < bs.length) : (bs.set a true).getD v false = true ↔ (bs.getD v false = true ∨ a = v) := by
  simp only [List.getD_eq_getElem?_getD, List.getElem?_set]
  by_cases h : a = v
  · subst h
    simp [ha]
  · simp [h]
theorem least_l (l0 : List Int) (l1 : List S78) (x2 : List Bool) (hx : x2.length = l1.length) (hn : l1.length < 17592186044416) (hn0 : l0.length < 17592186044416)
  (hf : ∀ j, (hj : j < l1.length) → 0 ≤ l1[j].f1 ∧ l1[j].f1 < l0.length ∧ 0 ≤ l1[j].f2 ∧ l1[j].f2 < l0.length) : ∀ (d k i : Nat) (bs : List Bool), i + d = x2.length → d + l0.length + l1.length + 1 < k → bs.length = l0.length →
  ∃ bs' : List Bool, scarfjointref07_Least.l0 k x2 bs i l0 l1 = some (markedL bs', markedL x2) ∧ bs'.length = bs.length ∧
   ∀ v : Nat, bs'.getD v false = true ↔ (bs.getD v false = true ∨ ∃ j, i ≤ j ∧ ∃ hj : j < l1.length, x2.getD j false = true ∧ (l1[j].f1 = v ∨ l1[j].f2 = v)) := by
 intro d
 induction d with
 | zero =>
  intro k i bs hi hk hb
  obtain ⟨k, rfl⟩ : ∃ m, k = m + 1 := ⟨k - 1, by omega⟩
  refine ⟨bs, ?_, rfl, fun v => ⟨Or.inl, ?_⟩⟩
  ·rw [scarfjointref07_Least.l0, if_neg (by omega), marked_ok bs k (by omega) (by omega), Option.bind_some, marked_ok x2 k (by omega) (by omega), Option.bind_some]
  ·rintro (h | ⟨j, h1, h2, _⟩)
   ·exact h
   ·omega
 | succ d ih =>
  intro k i bs hi hk hb
  obtain ⟨k, rfl⟩ : ∃ m, k = m + 1 := ⟨k - 1, by omega⟩
  have hlt : i < l1.length := by omega
  have e : rdOf false x2 (i : Int) = x2.getD i false := by simp [rdOf]
  rw [scarfjointref07_Least.l0, if_pos (by omega), if_pos (by omega), e]
  by_cases h : x2.getD i false = true
  ·obtain ⟨f1, f2, f3, f4⟩ := hf i hlt
   rw [if_pos h, if_pos (by omega), rdT_get l1 i hlt, if_pos f1, if_pos (by omega), if_pos f3, if_pos (by omega), succ_ok i (by omega)]; obtain ⟨bs', h1, h2, h3⟩ := ih k (i + 1) ((bs.set l1[i].f1.toNat true).set l1[i].f2.toNat true) (by omega) (by omega) (by simp [hb])
   refine ⟨bs', h1, by rw [h2]; simp, fun v => ?_⟩
   rw [h3 v, getD_set2 _ _ _ (by simp; omega), getD_set2 _ _ _ (by omega)]
   constructor
   ·rintro (((h4 | h4) | h4) | ⟨j, h4, h5, h6⟩)
    ·exact .inl h4
    ·exact .inr ⟨i, Nat.le_refl _, hlt, h, .inl (by omega)⟩
    ·exact .inr ⟨i, Nat.le_refl _, hlt, h, .inr (by omega)⟩
    ·exact .inr ⟨j, by omega, h5, h6⟩
   ·rintro (h4 | ⟨j, h4, h5, h6, h7⟩)
    ·exact .inl (.inl (.inl h4))
    ·rcases Nat.lt_or_ge i j with h8 | h8
     ·exact .inr ⟨j, by omega, h5, h6, h7⟩
     ·have : i = j := by omega
      subst this
      rcases h7 with h7 | h7
      ·exact .inl (.inl (.inr (by omega)))
      ·exact .inl (.inr (by omega))
  ·rw [if_neg h, succ_ok i (by omega)]
   obtain ⟨bs', h1, h2, h3⟩ := ih k (i + 1) bs (by omega) (by omega) hb
   refine ⟨bs', h1, h2, fun v => ?_⟩
   rw [h3 v]
   constructor
   ·rintro (h4 | ⟨j, h4, h5, h6⟩)
    ·exact .inl h4
    ·exact .inr ⟨j, by omega, h5, h6⟩
   ·rintro (h4 | ⟨j, h4, h5, h6, h7⟩)
    ·exact .inl h4
    ·rcases Nat.lt_or_ge i j with h8 | h8
     ·exact .inr ⟨j, by omega, h5, h6, h7⟩
     ·have : i = j := by omega
      subst this; exact absurd h6 h
theorem least_ok (l0 : List Int) (l1 : List S78) (ns es : List Bool) (k : Nat) (he : es.length = l1.length) (hs : ns.length = l0.length) (hn : l1.length < 17592186044416) (hn0 : l0.length < 17592186044416)
    (hf : ∀ j, (hj : j < l1.length) → 0 ≤ l1[j].f1 ∧ l1[j].f1 < l0.length ∧ 0 ≤ l1[j].f2 ∧ l1[j].f2 < l0.length) (hk : l0.length + 2 * l1.length + 1 < k) :
    ∃ bs' : List Bool, scarfjointref07_Least.f k l0 l1 ns es = some (markedL bs', markedL es) ∧ bs'.length = l0.length ∧
      ∀ v : Nat, bs'.getD v false = true ↔ (ns.getD v false = true ∨ ∃ j, ∃ hj : j < l1.length, es.getD j false = true ∧ (l1[j].f1 = v ∨ l1[j].f2 = v)) := by
  obtain ⟨bs', h1, h2, h3⟩ := least_l l0 l1 es he hn hn0 hf es.length k 0 ns (by omega) (by omega) hs
  refine ⟨bs', ?_, by omega, fun v => ?_⟩
  · unfold scarfjointref07_Least.f
    rw [Option.bind_some, if_pos (by simp; omega)]; exact h1
  · rw [h3 v]
    simp
end Go.Proofs.Ytonipihlpbaknaa.Print
namespace Go.Proofs.Ytonipihlpbaknaa.Print
set_option linter.unusedVariables false
set_option linter.unusedSimpArgs false
open Go.RowKit Go.Proofs.YtonipihlpbaknaaW.PrintWords Go.Proofs.YtonipihlpbaknaaW.PrintLast Go.Proofs.YtonipihlpbaknaaW.PrintMore
theorem tmod_nn (a : Nat) : 0 ≤ Int.tmod (a : Int) 64 := Int.tmod_nonneg _ (by omega)
theorem mk1 (l0 : List Int) (l1 : List S78) (a : Int) (x5 : List Bool) (hx5 : x5.length = l0.length) (hn0 : l0.length ≤ 1000) (hn : l1.length ≤ 1000)
    (hf : ∀ j, (hj : j < l1.length) → 0 ≤ l1[j].f1 ∧ l1[j].f1 < l0.length ∧ 0 ≤ l1[j].f2 ∧ l1[j].f2 < l0.length) : ∀ (d k i : Nat) (x6 : List Bool), i + d = l1.length → d + l0.length + 2 * l1.length + 2 < k → x6.length = l1.length →
    ∃ bs' es' : List Bool, scarfjointref07_Made.l1 k a x5 x6 i l0 l1 = some (markedL bs', markedL es') ∧ bs'.length = l0.length ∧ es'.length = l1.length ∧
      (∀ v : Nat, bs'.getD v false = true ↔ (x5.getD v false = true ∨ ∃ j, ∃ hj : j < l1.length, es'.getD j false = true ∧ (l1[j].f1 = v ∨ l1[j].f2 = v))) := by
  intro d
  induction d with
  | zero =>
    intro k i x6 hi hk hx
    obtain ⟨k, rfl⟩ : ∃ m, k = m + 1 := ⟨k - 1, by omega⟩
    obtain ⟨bs', h1, h2, h3⟩ := least_ok l0 l1 x5 x6 k hx hx5 (by omega) (by omega) hf (by omega)
    refine ⟨bs', x6, ?_, h2, hx, h3⟩
    rw [scarfjointref07_Made.l1, if_neg (by omega), h1, Option.bind_some]
  | succ d ih =>
    intro k i x6 hi hk hx
    obtain ⟨k, rfl⟩ : ∃ m, k = m + 1 := ⟨k - 1, by omega⟩
    have e : wrap64 ((x5.length : Int) + i) = ((x5.length + i : Nat) : Int) := by unfold wrap64; omega
    rw [scarfjointref07_Made.l1, if_pos (by omega), e, if_pos (tmod_nn _), if_pos (by omega), succ_ok i (by omega)]; exact ih k (i + 1) _ (by omega) (by omega) (by simp [hx])
theorem mk0 (l0 : List Int) (l1 : List S78) (a : Int) (x6 : List Bool) (hx6 : x6.length = l1.length) (hn0 : l0.length ≤ 1000) (hn : l1.length ≤ 1000)
    (hf : ∀ j, (hj : j < l1.length) → 0 ≤ l1[j].f1 ∧ l1[j].f1 < l0.length ∧ 0 ≤ l1[j].f2 ∧ l1[j].f2 < l0.length) : ∀ (d k i : Nat) (x5 : List Bool), i + d = l0.length → d + l0.length + 3 * l1.length + 3 < k → x5.length = l0.length →
    ∃ bs' es' : List Bool, scarfjointref07_Made.l0 k a x5 x6 i l0 l1 = some (markedL bs', markedL es') ∧ bs'.length = l0.length ∧ es'.length = l1.length ∧
      (∀ j, (hj : j < l1.length) → es'.getD j false = true → bs'.getD l1[j].f1.toNat false = true ∧ bs'.getD l1[j].f2.toNat false = true) := by
  intro d
  induction d with
  | zero =>
    intro k i x5 hi hk hx
    obtain ⟨k, rfl⟩ : ∃ m, k = m + 1 := ⟨k - 1, by omega⟩
    obtain ⟨bs', es', h1, h2, h3, h4⟩ := mk1 l0 l1 a x5 hx hn0 hn hf l1.length k 0 x6 (by omega) (by omega) hx6
    refine ⟨bs', es', ?_, h2, h3, fun j hj h => ⟨(h4 _).2 (.inr ⟨j, hj, h, .inl ?_⟩), (h4 _).2 (.inr ⟨j, hj, h, .inr ?_⟩)⟩⟩
    · rw [scarfjointref07_Made.l0, if_neg (by omega)]
      exact h1
    · have := hf j hj
      omega
    · have := hf j hj
      omega
  | succ d ih =>
    intro k i x5 hi hk hx
    obtain ⟨k, rfl⟩ : ∃ m, k = m + 1 := ⟨k - 1, by omega⟩
    rw [scarfjointref07_Made.l0, if_pos (by omega), if_pos (tmod_nn _), if_pos (by omega), succ_ok i (by omega)]; exact ih k (i + 1) _ (by omega) (by omega) (by simp [hx])
theorem made_ok (l0 : List Int) (l1 : List S78) (a : Int) (k : Nat) (hv : validB l0 l1 = 0) (hk : 1000 < k) :
    ∃ bs' es' : List Bool, scarfjointref07_Made.f k l0 l1 a = some (markedL bs', markedL es') ∧ bs'.length = l0.length ∧ es'.length = l1.length ∧
      (∀ j, (hj : j < l1.length) → es'.getD j false = true → bs'.getD l1[j].f1.toNat false = true ∧ bs'.getD l1[j].f2.toNat false = true) := by
  obtain ⟨hs0, hs1⟩ := validB_sizes l0 l1 hv; obtain ⟨bs', es', h1, h2⟩ := mk0 l0 l1 a (List.replicate l1.length false) (by simp) (by omega) (by omega) (fits_of hv) l0.length k 0 (List.replicate l0.length false) (by omega) (by omega) (by simp)
  refine ⟨bs', es', ?_, h2⟩
  unfold scarfjointref07_Made.f; rw [if_pos (by omega), if_pos (by omega), if_pos (by omega), if_pos (by omega)]; exact h1
end Go.Proofs.Ytonipihlpbaknaa.Print
namespace Go.Proofs.Ytonipihlpbaknaa.Print
set_option linter.unusedVariables false
set_option linter.unusedSimpArgs false
open Go.RowKit Go.Proofs.YtonipihlpbaknaaW.PrintWords Go.Proofs.YtonipihlpbaknaaW.PrintLast Go.Proofs.YtonipihlpbaknaaW.PrintMore
/-- The edges' ends are nodes. -/
def EndsOk (n : Nat) (l1 : List S78) : Prop := ∀ e ∈ l1, 0 ≤ e.f1 ∧ e.f1 < n ∧ 0 ≤ e.f2 ∧ e.f2 < n
end Go.Proofs.Ytonipihlpbaknaa.Print
namespace Go.Proofs.Ytonipihlpbaknaa.Print
open Go.RowKit Go.Proofs.YtonipihlpbaknaaW.PrintWords Go.Proofs.YtonipihlpbaknaaW.PrintLast Go.Proofs.YtonipihlpbaknaaW.PrintMore
attribute [local go_sem] max2_int min2_int max_two min_two max_three min_three max_four min_four   -- for this text's walks alone
set_option linter.unusedVariables false
set_option linter.unusedSimpArgs false
def cmp_Compare_int.f (a0 : Int) (a1 : Int) : Option (Int) := (cmp_isNaN_int.f a0).bind fun t101 => ((cmp_isNaN_int.f a1).bind fun t102 => (if t101 = true then (if t102 = true then (some 0) else (some (-1))) else (if t102 = true then (some 1) else (if a0 < a1 then (some (-1)) else (if a0 > a1 then (some 1) else (some 0))))))
set_option maxHeartbeats 8000000 in
set_option maxRecDepth 100000 in
theorem cmp_Compare_int.calls (a0 : Int) (a1 : Int) (r : Int) (w : World) (h : cmp_Compare_int.f a0 a1 = some r) :
  Calls Try.prog 100 #[.int .i64 a0, .int .i64 a1] w fun e w' => e = .returned (.int .i64 r) ∧ Drawn0 w w' := by
 have H : ((cmp_isNaN_int.f a0).bind fun t101 => ((cmp_isNaN_int.f a1).bind fun t102 => (if t101 = true then (if t102 = true then (some 0) else (some (-1))) else (if t102 = true then (some 1) else (if a0 < a1 then (some (-1)) else (if a0 > a1 then (some 1) else (some 0))))))) = some r := h; clear h; replace H := Option.bind_eq_some_iff.mp H; obtain ⟨t101, A30, H⟩ := H; replace H : ((cmp_isNaN_int.f a1).bind fun t102 => (if t101 = true then (if t102 = true then (some 0) else (some (-1))) else (if t102 = true then (some 1) else (if a0 < a1 then (some (-1)) else (if a0 > a1 then (some 1) else (some 0)))))) = some r := H; have A3 := Aside0.mk A30; clear A30; replace H := Option.bind_eq_some_iff.mp H; obtain ⟨t102, A40, H⟩ := H; replace H : (if t101 = true then (if t102 = true then (some 0) else (some (-1))) else (if t102 = true then (some 1) else (if a0 < a1 then (some (-1)) else (if a0 > a1 then (some 1) else (some 0))))) = some r := H; have A4 := Aside0.mk A40; clear A40
 by_cases c5 : t101 = true
 ·subst c5
  have H1 : (if t102 = true then (some 0) else (some (-1))) = some r := by rw [if_pos rfl] at H; exact H
  clear H; have H := H1; clear H1
  by_cases c6 : t102 = true
  ·subst c6
   have H1 : (some 0) = some r := by rw [if_pos rfl] at H; exact H
   clear H; have H := H1; clear H1; obtain rfl := Option.some.inj H
   go_enter Try.func100, Try.ntmps100
   go_wp2_with (first | ((with_reducible refine gate_callee (f := 112) rfl ?_); refine goesL_ (some 8) rfl rfl Try.func112 (by kernel_rfl) rfl #[.int .i64 a0] rfl (by (try simp only [List.map_toArray, List.map_cons, List.map_nil]); first | done | rfl | (simp only [List.length_drop, List.length_take]; rfl)) ?_; (with_reducible refine (cmp_isNaN_int.calls a0 true _ A3.out).mono ?_); rintro e w' ⟨rfl, ⟨nd, rfl⟩⟩; refine ⟨_, rfl, ?_⟩) | ((with_reducible refine gate_callee (f := 112) rfl ?_); refine goesL_ (some 10) rfl rfl Try.func112 (by kernel_rfl) rfl #[.int .i64 a1] rfl (by (try simp only [List.map_toArray, List.map_cons, List.map_nil]); first | done | rfl | (simp only [List.length_drop, List.length_take]; rfl)) ?_; (with_reducible refine (cmp_isNaN_int.calls a1 true _ A4.out).mono ?_); rintro e w' ⟨rfl, ⟨nd, rfl⟩⟩; refine ⟨_, rfl, ?_⟩))
   go_ret
   exact ⟨by first | rfl | (simp; done) | (simp [*]; done), by repeat (first | exact Drawn0.refl _ | apply Drawn0.step)⟩
  ·replace c6 := Bool.eq_false_iff.mpr c6
   subst c6
   have H1 : (some (-1)) = some r := by rw [if_neg (show ¬ (false = true) by decide)] at H; exact H
   clear H; have H := H1; clear H1; obtain rfl := Option.some.inj H
   go_enter Try.func100, Try.ntmps100
   go_wp2_with (first | ((with_reducible refine gate_callee (f := 112) rfl ?_); refine goesL_ (some 8) rfl rfl Try.func112 (by kernel_rfl) rfl #[.int .i64 a0] rfl (by (try simp only [List.map_toArray, List.map_cons, List.map_nil]); first | done | rfl | (simp only [List.length_drop, List.length_take]; rfl)) ?_; (with_reducible refine (cmp_isNaN_int.calls a0 true _ A3.out).mono ?_); rintro e w' ⟨rfl, ⟨nd, rfl⟩⟩; refine ⟨_, rfl, ?_⟩) | ((with_reducible refine gate_callee (f := 112) rfl ?_); refine goesL_ (some 10) rfl rfl Try.func112 (by kernel_rfl) rfl #[.int .i64 a1] rfl (by (try simp only [List.map_toArray, List.map_cons, List.map_nil]); first | done | rfl | (simp only [List.length_drop, List.length_take]; rfl)) ?_; (with_reducible refine (cmp_isNaN_int.calls a1 false _ A4.out).mono ?_); rintro e w' ⟨rfl, ⟨nd, rfl⟩⟩; refine ⟨_, rfl, ?_⟩))
   go_ret
   exact ⟨by first | rfl | (simp; done) | (simp [*]; done), by repeat (first | exact Drawn0.refl _ | apply Drawn0.step)⟩
 ·replace c5 := Bool.eq_false_iff.mpr c5
  subst c5
  have H1 : (if t102 = true then (some 1) else (if a0 < a1 then (some (-1)) else (if a0 > a1 then (some 1) else (some 0)))) = some r := by rw [if_neg (show ¬ (false = true) by decide)] at H; exact H
  clear H; have H := H1; clear H1
  by_cases c7 : t102 = true
  ·subst c7
   have H1 : (some 1) = some r := by rw [if_pos rfl] at H; exact H
   clear H; have H := H1; clear H1; obtain rfl := Option.some.inj H
   go_enter Try.func100, Try.ntmps100
   go_wp2_with (first | ((with_reducible refine gate_callee (f := 112) rfl ?_); refine goesL_ (some 8) rfl rfl Try.func112 (by kernel_rfl) rfl #[.int .i64 a0] rfl (by (try simp only [List.map_toArray, List.map_cons, List.map_nil]); first | done | rfl | (simp only [List.length_drop, List.length_take]; rfl)) ?_; (with_reducible refine (cmp_isNaN_int.calls a0 false _ A3.out).mono ?_); rintro e w' ⟨rfl, ⟨nd, rfl⟩⟩; refine ⟨_, rfl, ?_⟩) | ((with_reducible refine gate_callee (f := 112) rfl ?_); refine goesL_ (some 10) rfl rfl Try.func112 (by kernel_rfl) rfl #[.int .i64 a1] rfl (by (try simp only [List.map_toArray, List.map_cons, List.map_nil]); first | done | rfl | (simp only [List.length_drop, List.length_take]; rfl)) ?_; (with_reducible refine (cmp_isNaN_int.calls a1 true _ A4.out).mono ?_); rintro e w' ⟨rfl, ⟨nd, rfl⟩⟩; refine ⟨_, rfl, ?_⟩))
   go_ret
   exact ⟨by first | rfl | (simp; done) | (simp [*]; done), by repeat (first | exact Drawn0.refl _ | apply Drawn0.step)⟩
  ·replace c7 := Bool.eq_false_iff.mpr c7
   subst c7
   have H1 : (if a0 < a1 then (some (-1)) else (if a0 > a1 then (some 1) else (some 0))) = some r := by rw [if_neg (show ¬ (false = true) by decide)] at H; exact H
   clear H; have H := H1; clear H1
   by_cases c8 : a0 < a1
   ·rw [if_pos c8] at H
    have c8b0 : decide (a0 < a1) = true := decide_eq_true c8; clear c8; obtain rfl := Option.some.inj H
    go_enter Try.func100, Try.ntmps100
    go_wp2_with (first | ((with_reducible refine gate_callee (f := 112) rfl ?_); refine goesL_ (some 8) rfl rfl Try.func112 (by kernel_rfl) rfl #[.int .i64 a0] rfl (by (try simp only [List.map_toArray, List.map_cons, List.map_nil]); first | done | rfl | (simp only [List.length_drop, List.length_take]; rfl)) ?_; (with_reducible refine (cmp_isNaN_int.calls a0 false _ A3.out).mono ?_); rintro e w' ⟨rfl, ⟨nd, rfl⟩⟩; refine ⟨_, rfl, ?_⟩) | ((with_reducible refine gate_callee (f := 112) rfl ?_); refine goesL_ (some 10) rfl rfl Try.func112 (by kernel_rfl) rfl #[.int .i64 a1] rfl (by (try simp only [List.map_toArray, List.map_cons, List.map_nil]); first | done | rfl | (simp only [List.length_drop, List.length_take]; rfl)) ?_; (with_reducible refine (cmp_isNaN_int.calls a1 false _ A4.out).mono ?_); rintro e w' ⟨rfl, ⟨nd, rfl⟩⟩; refine ⟨_, rfl, ?_⟩))
    go_ret
    exact ⟨by first | rfl | (simp; done) | (simp [*]; done), by repeat (first | exact Drawn0.refl _ | apply Drawn0.step)⟩
   ·rw [if_neg c8] at H
    have c8b0 : decide (a0 < a1) = false := decide_eq_false c8; clear c8
    by_cases c9 : a0 > a1
    ·rw [if_pos c9] at H
     have c9b0 : decide (a1 < a0) = true := decide_eq_true c9; clear c9; obtain rfl := Option.some.inj H
     go_enter Try.func100, Try.ntmps100
     go_wp2_with (first | ((with_reducible refine gate_callee (f := 112) rfl ?_); refine goesL_ (some 8) rfl rfl Try.func112 (by kernel_rfl) rfl #[.int .i64 a0] rfl (by (try simp only [List.map_toArray, List.map_cons, List.map_nil]); first | done | rfl | (simp only [List.length_drop, List.length_take]; rfl)) ?_; (with_reducible refine (cmp_isNaN_int.calls a0 false _ A3.out).mono ?_); rintro e w' ⟨rfl, ⟨nd, rfl⟩⟩; refine ⟨_, rfl, ?_⟩) | ((with_reducible refine gate_callee (f := 112) rfl ?_); refine goesL_ (some 10) rfl rfl Try.func112 (by kernel_rfl) rfl #[.int .i64 a1] rfl (by (try simp only [List.map_toArray, List.map_cons, List.map_nil]); first | done | rfl | (simp only [List.length_drop, List.length_take]; rfl)) ?_; (with_reducible refine (cmp_isNaN_int.calls a1 false _ A4.out).mono ?_); rintro e w' ⟨rfl, ⟨nd, rfl⟩⟩; refine ⟨_, rfl, ?_⟩))
     go_ret
     exact ⟨by first | rfl | (simp; done) | (simp [*]; done), by repeat (first | exact Drawn0.refl _ | apply Drawn0.step)⟩
    ·rw [if_neg c9] at H
     have c9b0 : decide (a1 < a0) = false := decide_eq_false c9; clear c9; obtain rfl := Option.some.inj H
     go_enter Try.func100, Try.ntmps100
     go_wp2_with (first | ((with_reducible refine gate_callee (f := 112) rfl ?_); refine goesL_ (some 8) rfl rfl Try.func112 (by kernel_rfl) rfl #[.int .i64 a0] rfl (by (try simp only [List.map_toArray, List.map_cons, List.map_nil]); first | done | rfl | (simp only [List.length_drop, List.length_take]; rfl)) ?_; (with_reducible refine (cmp_isNaN_int.calls a0 false _ A3.out).mono ?_); rintro e w' ⟨rfl, ⟨nd, rfl⟩⟩; refine ⟨_, rfl, ?_⟩) | ((with_reducible refine gate_callee (f := 112) rfl ?_); refine goesL_ (some 10) rfl rfl Try.func112 (by kernel_rfl) rfl #[.int .i64 a1] rfl (by (try simp only [List.map_toArray, List.map_cons, List.map_nil]); first | done | rfl | (simp only [List.length_drop, List.length_take]; rfl)) ?_; (with_reducible refine (cmp_isNaN_int.calls a1 false _ A4.out).mono ?_); rintro e w' ⟨rfl, ⟨nd, rfl⟩⟩; refine ⟨_, rfl, ?_⟩))
     go_ret
     exact ⟨by first | rfl | (simp; done) | (simp [*]; done), by repeat (first | exact Drawn0.refl _ | apply Drawn0.step)⟩
end Go.Proofs.Ytonipihlpbaknaa.Print
namespace Go.Proofs.Ytonipihlpbaknaa.Print
open Go.RowKit Go.Proofs.YtonipihlpbaknaaW.PrintWords Go.Proofs.YtonipihlpbaknaaW.PrintLast Go.Proofs.YtonipihlpbaknaaW.PrintMore
attribute [local go_sem] max2_int min2_int max_two min_two max_three min_three max_four min_four   -- for this text's walks alone
set_option linter.unusedVariables false
set_option linter.unusedSimpArgs false
def slices_Compare_int_int.l0 : Nat → List Int → List Int → List Int → Int → Int → Option (Int)
  | 0, _, _, _, _, _ => none
  | k + 1, x0, x1, x9, x10, x11 => if x11 < x10 then (if 0 ≤ x11 then (if x11 < (x9.length : Int) then (if x11 ≥ (x1.length : Int) then (some 1) else (if x11 < (x1.length : Int) then ((cmp_Compare_int.f (rd x9 x11) (rd x1 x11)).bind fun t103 => (if t103 = 0 then (slices_Compare_int_int.l0 k x0 x1 x9 x10 (wrap64 (x11 + 1))) else (some t103))) else (none))) else (none)) else (none)) else (if (x0.length : Int) < (x1.length : Int) then (some (-1)) else (some 0))
def slices_Compare_int_int.f (k : Nat) (l0 : List Int) (l1 : List Int) : Option (Int) := slices_Compare_int_int.l0 k l0 l1 l0 (l0.length : Int) 0
set_option maxHeartbeats 8000000 in
set_option maxRecDepth 100000 in
theorem slices_Compare_int_int.calls (k : Nat) (A0 : Option Addr) (c0 : Nat) (l0 : List Int) (A1 : Option Addr) (c1 : Nat) (l1 : List Int) (r : Int) (w : World) (hr0 : Kd.C (Kd.int .i64) w A0 l0.length l0) (hc0 : l0.length ≤ c0) (hr1 : Kd.C (Kd.int .i64) w A1 l1.length l1) (hc1 : l1.length ≤ c1) (h : slices_Compare_int_int.f k l0 l1 = some r) :
  Calls Try.prog 101 #[.slice A0 l0.length c0, .slice A1 l1.length c1] w fun e w' => e = .returned (.int .i64 r) ∧ Drawn0 w w' := by
 have HR0 := Aside0.mk hr0; have HC0 := Aside0.mk hc0; clear hr0 hc0; have HR1 := Aside0.mk hr1; have HC1 := Aside0.mk hc1; clear hr1 hc1; have H : (slices_Compare_int_int.l0 k l0 l1 l0 (l0.length : Int) 0) = some r := h; clear h; have H' := Aside0.mk H; clear H
 go_enter Try.func101, Try.ntmps101
 go_wp2
 go_loopg [11] k (fun kq v11 w' => ∃ (x11_1 : Int), v11 = .int .i64 x11_1 ∧ Aside0 (slices_Compare_int_int.l0 kq l0 l1 l0 (l0.length : Int) x11_1 = some r) ∧ Aside0 (kq ≤ k) ∧ Drawn0 w w')
 case atStart => exact ⟨(0), (by first | rfl | (simp; done) | (simp [*]; done)), H', ⟨Nat.le_refl _⟩, by repeat (first | exact Drawn0.refl _ | apply Drawn0.step)⟩
 case round =>
  clear H'; (try clear c1); (try clear p2); obtain ⟨x11_1, rfl, HA, HK1, ⟨m1, rfl⟩⟩ := hrel
  cases gk with
  | zero => exact absurd HA.out (by simp [slices_Compare_int_int.l0])
  | succ k1 =>
   have H := HA.out; clear HA; simp only [slices_Compare_int_int.l0] at H
   by_cases c3 : x11_1 < (l0.length : Int)
   ·rw [if_pos c3] at H
    have c3b0 : decide (x11_1 < (l0.length : Int)) = true := decide_eq_true c3; clear c3
    by_cases c4 : 0 ≤ x11_1
    ·rw [if_pos c4] at H
     have c4b0 : decide (0 ≤ x11_1) = true := decide_eq_true c4; clear c4
     by_cases c5 : x11_1 < (l0.length : Int)
     ·rw [if_pos c5] at H
      have c5b0 : decide (x11_1 < (l0.length : Int)) = true := decide_eq_true c5; clear c5
      by_cases c6 : x11_1 ≥ (l1.length : Int)
      ·rw [if_pos c6] at H
       have c6b0 : decide ((l1.length : Int) ≤ x11_1) = true := decide_eq_true c6; clear c6; obtain rfl := Option.some.inj H; have p101 : 0 ≤ (x11_1 : Int) := of_decide_eq_true (by first | (with_reducible assumption) | assumption); have q101 : x11_1 < (l0.length : Int) := of_decide_eq_true (by first | (with_reducible assumption) | assumption); obtain ⟨ad101, e101, hx101_0⟩ := Kd.at_int HR0.out x11_1 p101 q101; cases e101; replace p101 := eq_true p101; replace q101 := eq_true q101
       go_wp2
       go_ret
       exact ⟨by first | rfl | (simp; done) | (simp [*]; done), by repeat (first | exact Drawn0.refl _ | apply Drawn0.step)⟩
      ·rw [if_neg c6] at H
       have c6b0 : decide ((l1.length : Int) ≤ x11_1) = false := decide_eq_false c6; clear c6
       by_cases c7 : x11_1 < (l1.length : Int)
       ·rw [if_pos c7] at H
        have c7b0 : decide (x11_1 < (l1.length : Int)) = true := decide_eq_true c7; clear c7; replace H := Option.bind_eq_some_iff.mp H; obtain ⟨t103, A80, H⟩ := H; replace H : (if t103 = 0 then (slices_Compare_int_int.l0 k1 l0 l1 l0 (l0.length : Int) (wrap64 (x11_1 + 1))) else (some t103)) = some r := H; have A8 := Aside0.mk A80; clear A80
        by_cases c9 : t103 = 0
        ·rw [if_pos c9] at H
         have c9b0 : (t103 == 0) = true := beq_iff_eq.mpr c9; have c9b1 : (t103 != 0) = false := bne_eq_false_iff_eq.mpr c9; clear c9; have H' := Aside0.mk H; clear H; have p101 : 0 ≤ (x11_1 : Int) := of_decide_eq_true (by first | (with_reducible assumption) | assumption); have q101 : x11_1 < (l0.length : Int) := of_decide_eq_true (by first | (with_reducible assumption) | assumption); obtain ⟨ad101, e101, hx101_0⟩ := Kd.at_int HR0.out x11_1 p101 q101; cases e101; replace p101 := eq_true p101; replace q101 := eq_true q101; have p102 : 0 ≤ (x11_1 : Int) := of_decide_eq_true (by first | (with_reducible assumption) | assumption); have q102 : x11_1 < (l1.length : Int) := of_decide_eq_true (by first | (with_reducible assumption) | assumption); obtain ⟨ad102, e102, hx102_0⟩ := Kd.at_int HR1.out x11_1 p102 q102; cases e102; replace p102 := eq_true p102; replace q102 := eq_true q102
         go_wp2_with (first | ((with_reducible refine gate_callee (f := 100) rfl ?_); refine goesL_ (some 26) rfl rfl Try.func100 (by kernel_rfl) rfl #[.int .i64 (rd l0 x11_1), .int .i64 (rd l1 x11_1)] rfl (by (try simp only [List.map_toArray, List.map_cons, List.map_nil]); first | done | rfl | (simp only [List.length_drop, List.length_take]; rfl)) ?_; (with_reducible refine (cmp_Compare_int.calls (rd l0 x11_1) (rd l1 x11_1) t103 _ A8.out).mono ?_); rintro e w' ⟨rfl, ⟨nd, rfl⟩⟩; refine ⟨_, rfl, ?_⟩))
         go_roundg k1
         case measure => have := HK1.out; omega
         case rel => exact ⟨(wrap64 (x11_1 + 1)), (by first | rfl | (simp; done) | (simp [*]; done)), H', ⟨by have := HK1.out; omega⟩, by repeat (first | exact Drawn0.refl _ | apply Drawn0.step)⟩
        ·rw [if_neg c9] at H
         have c9b0 : (t103 == 0) = false := beq_eq_false_iff_ne.mpr c9; have c9b1 : (t103 != 0) = true := bne_iff_ne.mpr c9; obtain rfl := Option.some.inj H; have p101 : 0 ≤ (x11_1 : Int) := of_decide_eq_true (by first | (with_reducible assumption) | assumption); have q101 : x11_1 < (l0.length : Int) := of_decide_eq_true (by first | (with_reducible assumption) | assumption); obtain ⟨ad101, e101, hx101_0⟩ := Kd.at_int HR0.out x11_1 p101 q101; cases e101; replace p101 := eq_true p101; replace q101 := eq_true q101; have p102 : 0 ≤ (x11_1 : Int) := of_decide_eq_true (by first | (with_reducible assumption) | assumption); have q102 : x11_1 < (l1.length : Int) := of_decide_eq_true (by first | (with_reducible assumption) | assumption); obtain ⟨ad102, e102, hx102_0⟩ := Kd.at_int HR1.out x11_1 p102 q102; cases e102; replace p102 := eq_true p102; replace q102 := eq_true q102
         go_wp2_with (first | ((with_reducible refine gate_callee (f := 100) rfl ?_); refine goesL_ (some 26) rfl rfl Try.func100 (by kernel_rfl) rfl #[.int .i64 (rd l0 x11_1), .int .i64 (rd l1 x11_1)] rfl (by (try simp only [List.map_toArray, List.map_cons, List.map_nil]); first | done | rfl | (simp only [List.length_drop, List.length_take]; rfl)) ?_; (with_reducible refine (cmp_Compare_int.calls (rd l0 x11_1) (rd l1 x11_1) t103 _ A8.out).mono ?_); rintro e w' ⟨rfl, ⟨nd, rfl⟩⟩; refine ⟨_, rfl, ?_⟩))
         go_ret
         exact ⟨by first | rfl | (simp; done) | (simp [*]; done), by repeat (first | exact Drawn0.refl _ | apply Drawn0.step)⟩
       ·rw [if_neg c7] at H
        exact absurd H (by simp)
     ·rw [if_neg c5] at H
      exact absurd H (by simp)
    ·rw [if_neg c4] at H
     exact absurd H (by simp)
   ·rw [if_neg c3] at H
    have c3b0 : decide (x11_1 < (l0.length : Int)) = false := decide_eq_false c3; clear c3
    by_cases c10 : (l0.length : Int) < (l1.length : Int)
    ·rw [if_pos c10] at H
     have c10b0 : decide ((l0.length : Int) < (l1.length : Int)) = true := decide_eq_true c10; have c10b1 : decide (l0.length < l1.length) = true := decide_eq_true (Int.ofNat_lt.mp c10); clear c10; obtain rfl := Option.some.inj H
     go_wp2
     go_ret
     exact ⟨by first | rfl | (simp; done) | (simp [*]; done), by repeat (first | exact Drawn0.refl _ | apply Drawn0.step)⟩
    ·rw [if_neg c10] at H
     have c10b0 : decide ((l0.length : Int) < (l1.length : Int)) = false := decide_eq_false c10; have c10b1 : decide (l0.length < l1.length) = false := decide_eq_false (fun h => c10 (Int.ofNat_lt.mpr h)); clear c10; obtain rfl := Option.some.inj H
     go_wp2
     go_ret
     exact ⟨by first | rfl | (simp; done) | (simp [*]; done), by repeat (first | exact Drawn0.refl _ | apply Drawn0.step)⟩
end Go.Proofs.Ytonipihlpbaknaa.Print
namespace Go.Proofs.Ytonipihlpbaknaa.Print
open Go.RowKit Go.Proofs.YtonipihlpbaknaaW.PrintWords Go.Proofs.YtonipihlpbaknaaW.PrintLast Go.Proofs.YtonipihlpbaknaaW.PrintMore
attribute [local go_sem] max2_int min2_int max_two min_two max_three min_three max_four min_four   -- for this text's walks alone
set_option linter.unusedVariables false
set_option linter.unusedSimpArgs false
def cmp_Or_int.l0 : Nat → Int → List Int → Int → Int → Option (Int)
  | 0, _, _, _, _ => none
  | k + 1, x3, x6, x7, x8 => if x8 < x7 then (if 0 ≤ x8 then (if x8 < (x6.length : Int) then (if (rd x6 x8) = x3 then (cmp_Or_int.l0 k x3 x6 x7 (wrap64 (x8 + 1))) else (some (rd x6 x8))) else (none)) else (none)) else (some x3)
def cmp_Or_int.f (k : Nat) (l0 : List Int) : Option (Int) := cmp_Or_int.l0 k 0 l0 (l0.length : Int) 0
set_option maxHeartbeats 8000000 in
set_option maxRecDepth 100000 in
theorem cmp_Or_int.calls (k : Nat) (A0 : Option Addr) (c0 : Nat) (l0 : List Int) (r : Int) (w : World) (hr0 : Kd.C (Kd.int .i64) w A0 l0.length l0) (hc0 : l0.length ≤ c0) (h : cmp_Or_int.f k l0 = some r) :
  Calls Try.prog 99 #[.slice A0 l0.length c0] w fun e w' => e = .returned (.int .i64 r) ∧ Drawn0 w w' := by
 have HR0 := Aside0.mk hr0; have HC0 := Aside0.mk hc0; clear hr0 hc0; have H : (cmp_Or_int.l0 k 0 l0 (l0.length : Int) 0) = some r := h; clear h; have H' := Aside0.mk H; clear H
 go_enter Try.func99, Try.ntmps99
 go_wp2
 go_loopg [8] k (fun kq v8 w' => ∃ (x8_1 : Int), v8 = .int .i64 x8_1 ∧ Aside0 (cmp_Or_int.l0 kq 0 l0 (l0.length : Int) x8_1 = some r) ∧ Aside0 (kq ≤ k) ∧ Drawn0 w w')
 case atStart => exact ⟨(0), (by first | rfl | (simp; done) | (simp [*]; done)), H', ⟨Nat.le_refl _⟩, by repeat (first | exact Drawn0.refl _ | apply Drawn0.step)⟩
 case round =>
  clear H'; obtain ⟨x8_1, rfl, HA, HK1, ⟨m1, rfl⟩⟩ := hrel
  cases gk with
  | zero => exact absurd HA.out (by simp [cmp_Or_int.l0])
  | succ k1 =>
   have H := HA.out; clear HA; simp only [cmp_Or_int.l0] at H
   by_cases c2 : x8_1 < (l0.length : Int)
   ·rw [if_pos c2] at H
    have c2b0 : decide (x8_1 < (l0.length : Int)) = true := decide_eq_true c2; clear c2
    by_cases c3 : 0 ≤ x8_1
    ·rw [if_pos c3] at H
     have c3b0 : decide (0 ≤ x8_1) = true := decide_eq_true c3; clear c3
     by_cases c4 : x8_1 < (l0.length : Int)
     ·rw [if_pos c4] at H
      have c4b0 : decide (x8_1 < (l0.length : Int)) = true := decide_eq_true c4; clear c4
      by_cases c5 : (rd l0 x8_1) = 0
      ·rw [if_pos c5] at H
       have c5b0 : ((rd l0 x8_1) == 0) = true := beq_iff_eq.mpr c5; have c5b1 : ((rd l0 x8_1) != 0) = false := bne_eq_false_iff_eq.mpr c5; clear c5; have H' := Aside0.mk H; clear H; have p101 : 0 ≤ (x8_1 : Int) := of_decide_eq_true (by first | (with_reducible assumption) | assumption); have q101 : x8_1 < (l0.length : Int) := of_decide_eq_true (by first | (with_reducible assumption) | assumption); obtain ⟨ad101, e101, hx101_0⟩ := Kd.at_int HR0.out x8_1 p101 q101; cases e101; replace p101 := eq_true p101; replace q101 := eq_true q101
       go_wp2
       go_roundg k1
       case measure => have := HK1.out; omega
       case rel => exact ⟨(wrap64 (x8_1 + 1)), (by first | rfl | (simp; done) | (simp [*]; done)), H', ⟨by have := HK1.out; omega⟩, by repeat (first | exact Drawn0.refl _ | apply Drawn0.step)⟩
      ·rw [if_neg c5] at H
       have c5b0 : ((rd l0 x8_1) == 0) = false := beq_eq_false_iff_ne.mpr c5; have c5b1 : ((rd l0 x8_1) != 0) = true := bne_iff_ne.mpr c5; obtain rfl := Option.some.inj H; have p101 : 0 ≤ (x8_1 : Int) := of_decide_eq_true (by first | (with_reducible assumption) | assumption); have q101 : x8_1 < (l0.length : Int) := of_decide_eq_true (by first | (with_reducible assumption) | assumption); obtain ⟨ad101, e101, hx101_0⟩ := Kd.at_int HR0.out x8_1 p101 q101; cases e101; replace p101 := eq_true p101; replace q101 := eq_true q101
       go_wp2
       go_ret
       exact ⟨by first | rfl | (simp; done) | (simp [*]; done), by repeat (first | exact Drawn0.refl _ | apply Drawn0.step)⟩
     ·rw [if_neg c4] at H
      exact absurd H (by simp)
    ·rw [if_neg c3] at H
     exact absurd H (by simp)
   ·rw [if_neg c2] at H
    have c2b0 : decide (x8_1 < (l0.length : Int)) = false := decide_eq_false c2; clear c2; obtain rfl := Option.some.inj H
    go_wp2
    go_ret
    exact ⟨by first | rfl | (simp; done) | (simp [*]; done), by repeat (first | exact Drawn0.refl _ | apply Drawn0.step)⟩
end Go.Proofs.Ytonipihlpbaknaa.Print
namespace Go.Proofs.Ytonipihlpbaknaa.Print
set_option linter.unusedVariables false
set_option linter.unusedSimpArgs false
open Go.RowKit Go.Sort Go.Proofs.YtonipihlpbaknaaW.PrintWords Go.Proofs.YtonipihlpbaknaaW.PrintLast Go.Proofs.YtonipihlpbaknaaW.PrintMore
/-- Lists compared lexicographically. -/
def lexC : List Int → List Int → Int
  | [], [] => 0
  | [], _ :: _ => -1
  | _ :: _, [] => 1
  | x :: a, y :: b => if x < y then -1 else if y < x then 1 else lexC a b
theorem lexC_swap (a b : List Int) : lexC b a = - lexC a b := by
  induction a generalizing b with
  | nil => cases b <;> simp [lexC]
  | cons x a ih =>
    cases b with
    | nil => simp [lexC]
    | cons y b =>
      simp only [lexC]
      by_cases h1 : x < y
      · rw [if_pos h1, if_neg (by omega), if_pos h1]
        rfl
      · rw [if_neg h1]
        by_cases h2 : y < x
        · rw [if_pos h2, if_pos h2]
          omega
        · rw [if_neg h2, if_neg h2, if_neg h1, ih b]
theorem lexC_zero (a b : List Int) (h : lexC a b = 0) : a = b := by
  induction a generalizing b with
  | nil => cases b with
    | nil => rfl
    | cons y b => simp [lexC] at h
  | cons x a ih =>
    cases b with
    | nil => simp [lexC] at h
    | cons y b =>
      simp only [lexC] at h
      split at h
      · omega
      · split at h
        · omega
        · rw [ih b h, show x = y by omega]
theorem lexC_trans (a b c : List Int) (h1 : lexC a b ≤ 0) (h2 : lexC b c ≤ 0) : lexC a c ≤ 0 ∧ (lexC a b < 0 ∨ lexC b c < 0 → lexC a c < 0) := by
  induction a generalizing b c with
  | nil =>
    cases b with
    | nil => exact ⟨h2, fun h => h.elim (fun h => by simp [lexC] at h) id⟩
    | cons y b =>
      cases c with
      | nil => simp [lexC] at h2
      | cons z c => simp [lexC]
  | cons x a ih =>
    cases b with
    | nil => simp [lexC] at h1
    | cons y b =>
      cases c with
      | nil => simp [lexC] at h2
      | cons z c =>
        simp only [lexC] at h1 h2 ⊢
        by_cases p1 : x < y
        · rw [if_pos p1] at h1
          by_cases p2 : y < z
          · rw [if_pos (show x < z by omega)]
            omega
          · rw [if_neg p2] at h2
            by_cases p3 : z < y
            · rw [if_pos p3] at h2; omega
            · rw [if_pos (show x < z by omega)]
              omega
        · rw [if_neg p1] at h1
          by_cases p4 : y < x
          · rw [if_pos p4] at h1; omega
          · rw [if_neg p4] at h1
            by_cases p2 : y < z
            · rw [if_pos (show x < z by omega)]
              omega
            · rw [if_neg p2] at h2
              by_cases p3 : z < y
              · rw [if_pos p3] at h2; omega
              · rw [if_neg p3] at h2
                have := ih b c h1 h2; rw [if_neg (show ¬ x < z by omega), if_neg (show ¬ z < x by omega), if_neg p1, if_neg p4, if_neg p2, if_neg p3]; exact this
/-- A comparison that is a total order. -/
structure TotC (cf : List Int → List Int → Int) : Prop where
  swap : ∀ a b, cf b a = - cf a b
  zero : ∀ a b, cf a b = 0 → a = b
  trans : ∀ a b c, cf a b ≤ 0 → cf b c ≤ 0 → cf a c ≤ 0 ∧ (cf a b < 0 ∨ cf b c < 0 → cf a c < 0)
theorem TotC.swo {cf : List Int → List Int → Int} (h : TotC cf) : SWO (ltOf cf) := by
  refine ⟨fun x => ?_, fun x y z => ?_, fun x y z => ?_⟩
  · have := h.swap x x
    simp only [ltOf, decide_eq_false_iff_not]
    omega
  · simp only [ltOf, decide_eq_true_eq]
    intro h1 h2; exact (h.trans x y z (by omega) (by omega)).2 (.inl h1)
  · simp only [ltOf, decide_eq_false_iff_not]
    intro h1 h2 h3; have e1 := h.swap x y; have e2 := h.swap y z; have := (h.trans z y x (by omega) (by omega)).1; have e3 := h.swap x z
    omega
theorem TotC.tot {cf : List Int → List Int → Int} (h : TotC cf) : ∀ x y, ltOf cf x y = false → ltOf cf y x = false → x = y := by
  intro x y h1 h2; simp only [ltOf, decide_eq_false_iff_not] at h1 h2; have := h.swap x y; exact h.zero x y (by omega)
/-- The shorter ones first, then lexicographically. -/
def lenC (a b : List Int) : Int := if a.length < b.length then -1 else if b.length < a.length then 1 else lexC a b
theorem lenC_tot : TotC lenC := by
  refine ⟨fun a b => ?_, fun a b h => ?_, fun a b c h1 h2 => ?_⟩
  · unfold lenC
    by_cases p : a.length < b.length
    · rw [if_pos p, if_neg (by omega), if_pos p]
      rfl
    · by_cases q : b.length < a.length
      · rw [if_pos q, if_neg p, if_pos q]
      · rw [if_neg p, if_neg q, if_neg q, if_neg p, lexC_swap]
  · unfold lenC at h
    split at h
    · omega
    · split at h
      · omega
      · exact lexC_zero a b h
  · unfold lenC at *
    by_cases p : a.length < b.length
    · by_cases q : c.length < b.length
      · rw [if_neg (by omega), if_pos q] at h2; omega
      · rw [if_pos (show a.length < c.length by omega)]
        omega
    · rw [if_neg p] at h1
      by_cases p2 : b.length < a.length
      · rw [if_pos p2] at h1; omega
      · rw [if_neg p2] at h1
        by_cases q : b.length < c.length
        · rw [if_pos (show a.length < c.length by omega)]
          omega
        · rw [if_neg q] at h2
          by_cases q2 : c.length < b.length
          · rw [if_pos q2] at h2; omega
          · rw [if_neg q2] at h2
            rw [if_neg (show ¬ a.length < c.length by omega), if_neg (show ¬ c.length < a.length by omega), if_neg p, if_neg p2, if_neg q, if_neg q2]; exact lexC_trans a b c h1 h2
theorem cmp_int (a b : Int) : cmp_Compare_int.f a b = some (if a < b then -1 else if b < a then 1 else 0) := by
  unfold cmp_Compare_int.f; simp only [cmp_isNaN_int.f, Option.bind_some, bne_self_eq_false, Bool.false_eq_true, if_false]
  by_cases h : a < b
  · simp [h]
  · by_cases h2 : b < a
    · simp [h, h2]
    · simp [h, h2]
theorem compare_ends (a b : List Int) (ha : a.length ≤ 9223372036854775807) : ∀ (d k i : Nat), i ≤ a.length → i ≤ b.length → a.length - i ≤ d → d < k →
    slices_Compare_int_int.l0 k a b a a.length i = some (lexC (a.drop i) (b.drop i)) ∨ (a.take i ≠ b.take i) := by
  intro d
  induction d with
  | zero =>
    intro k i hi hb hd hk
    obtain ⟨k, rfl⟩ : ∃ m, k = m + 1 := ⟨k - 1, by omega⟩
    by_cases e : a.take i = b.take i
    · left
      obtain rfl : i = a.length := by omega
      simp only [slices_Compare_int_int.l0]; rw [if_neg (by omega), List.drop_length]
      by_cases c : a.length < b.length
      · rw [if_pos (by omega), List.drop_eq_getElem_cons c]
        rfl
      · rw [if_neg (by omega), List.drop_of_length_le (by omega)]
        rfl
    · exact .inr e
  | succ d ih =>
    intro k i hi hb hd hk
    by_cases e : a.take i = b.take i
    · left
      by_cases c : i < a.length
      · obtain ⟨k, rfl⟩ : ∃ m, k = m + 1 := ⟨k - 1, by omega⟩
        simp only [slices_Compare_int_int.l0]; rw [if_pos (by omega), if_pos (by omega), if_pos (by omega), List.drop_eq_getElem_cons c]
        by_cases c2 : i < b.length
        · rw [if_neg (by omega), if_pos (by omega), rd_get a i c, rd_get b i c2, cmp_int, List.drop_eq_getElem_cons c2]
          simp only [Option.bind_some, lexC]
          by_cases l1 : a[i] < b[i]
          · rw [if_pos l1, if_neg (by decide), if_pos l1]
          · rw [if_neg l1, if_neg l1]
            by_cases l2 : b[i] < a[i]
            · rw [if_pos l2, if_neg (by decide), if_pos l2]
            · rw [if_neg l2, if_pos rfl, if_neg l2, succ_ok i (by omega)]
              have e2 : a.take (i + 1) = b.take (i + 1) := by
                rw [List.take_succ_eq_append_getElem c, List.take_succ_eq_append_getElem c2, e, show a[i] = b[i] by omega]
              rcases ih k (i + 1) (by omega) (by omega) (by omega) (by omega) with h | h
              · exact h
              · exact absurd e2 h
        · rw [if_pos (by omega), List.drop_of_length_le (l := b) (by omega)]
          rfl
      · rcases ih k i hi hb (by omega) (by omega) with h | h
        · exact h
        · exact absurd e h
    · exact .inr e
theorem compare_ok (a b : List Int) (ha : a.length ≤ 9223372036854775807) (k : Nat) (hk : a.length < k) : slices_Compare_int_int.f k a b = some (lexC a b) := by
  unfold slices_Compare_int_int.f
  rcases compare_ends a b ha a.length k 0 (Nat.zero_le _) (Nat.zero_le _) (by omega) hk with h | h
  · simpa using h
  · exact absurd (by simp) h
end Go.Proofs.Ytonipihlpbaknaa.Print
namespace Go.Proofs.Ytonipihlpbaknaa.Print
set_option linter.unusedVariables false
set_option linter.unusedSimpArgs false
open Go.RowKit Go.Sort Go.Proofs.YtonipihlpbaknaaW.PrintWords Go.Proofs.YtonipihlpbaknaaW.PrintLast Go.Proofs.YtonipihlpbaknaaW.PrintMore
/-- A list of numbers with the slice that holds it. -/
structure Held (w : World) (base : Nat) (ok : Nat → Prop) where
  v : Value
  l : List Int
  h : Kd.R (Kd.int .i64) 3 w base ok v l
instance (w : World) (base : Nat) (ok : Nat → Prop) : Inhabited (Held w base ok) := ⟨⟨.slice none 0 0, [], Kd.R_nil _ _ _ _ _⟩⟩
theorem held_one {w : World} {base : Nat} {ok : Nat → Prop} : OneCell (Held.v (w := w) (base := base) (ok := ok)) := by
  intro p; obtain ⟨A, c, e⟩ := Kd.R_slice p.h; rw [e]
  rfl
theorem held_list {w : World} {base : Nat} {ok : Nat → Prop} (xs : List (List Int)) (inner : List Value) (h : Reps ((Kd.slice 3 (Kd.int .i64)).M w base ok) 1 xs inner) :
    ∃ ps : List (Held w base ok), ps.map Held.v = inner ∧ ps.map Held.l = xs := by
  induction xs generalizing inner with
  | nil =>
    have := h.1; simp only [List.length_nil, Nat.zero_mul] at this; exact ⟨[], by simp [List.eq_nil_of_length_eq_zero this], rfl⟩
  | cons x xs ih =>
    have hl := h.1
    cases inner with
    | nil => simp at hl
    | cons u inner =>
      have h0 : (Kd.slice 3 (Kd.int .i64)).M w base ok x [u] := by
        have := h.2 0 x rfl
        simpa using this
      obtain ⟨v, e, hr⟩ := h0; cases e
      obtain ⟨ps, h1, h2⟩ := ih inner ⟨by simpa using hl, fun j p hj => by
        have := h.2 (j + 1) p hj; simp only [Nat.mul_one, List.drop_succ_cons] at this
        simpa using this⟩
      exact ⟨⟨u, x, hr⟩ :: ps, by simp [h1], by simp [h2]⟩
theorem held_reps {w w1 : World} {base : Nat} {ok ok' : Nat → Prop} (ps : List (Held w base ok)) (hm : ∀ (v : Value) (l : List Int), Kd.R (Kd.int .i64) 3 w base ok v l → Kd.R (Kd.int .i64) 3 w1 base ok' v l) :
    Reps ((Kd.slice 3 (Kd.int .i64)).M w1 base ok') 1 (ps.map Held.l) (ps.map Held.v) := by
  refine ⟨by simp, fun j p hj => ?_⟩
  obtain ⟨hl, rfl⟩ := List.getElem?_eq_some_iff.1 hj
  have hl' : j < (ps.map (Held.v (w := w) (base := base) (ok := ok))).length := by simpa using hl
  rw [Nat.mul_one, List.drop_eq_getElem_cons hl']; simp only [List.take_succ_cons, List.take_zero, List.getElem_map]; exact ⟨_, rfl, hm _ _ (ps[j]'(by simpa using hl)).h⟩
/-- The comparison that the sort is given, on the lists. -/
def leOf (cf : List Int → List Int → Int) (x y : List Int) : Bool := !ltOf cf y x
theorem sort_held {α : Type} {w : World} {base : Nat} {ok : Nat → Prop} (cf : List Int → List Int → Int) (hO : SWO (ltOf cf)) (hT : ∀ x y, ltOf cf x y = false → ltOf cf y x = false → x = y) (d d' : Array (Held w base ok)) (hp : PermIn 0 d.size d d') (hs : SortedIn (ltOf fun p q : Held w base ok => cf p.l q.l) 0 d.size d') :
    d'.toList.map Held.l = (d.toList.map Held.l).mergeSort (leOf cf) := by
  obtain ⟨hsz, _, hperm⟩ := hp
  have e1 : d'.extract 0 d.size = d' := by rw [← hsz]; exact Array.extract_size
  rw [e1, Array.extract_size] at hperm
  refine List.Perm.eq_of_pairwise (le := fun x y => leOf cf x y = true) ?_ ?_ ?_ ((hperm.map Held.l).trans (List.mergeSort_perm _ _).symm)
  · intro a b _ _ h1 h2
    simp only [leOf, Bool.not_eq_true'] at h1 h2; exact hT a b h2 h1
  · rw [List.pairwise_map, List.pairwise_iff_getElem]
    intro i j hi hj hij
    have hi' : i < d'.size := by simpa using hi
    have hj' : j < d'.size := by simpa using hj
    have := hs i j (Nat.zero_le _) hij (by omega); rw [getElem!_pos d' j hj', getElem!_pos d' i hi'] at this
    simpa [leOf, ltOf] using this
  · refine List.pairwise_mergeSort ?_ ?_ _
    · intro a b c h1 h2
      simp only [leOf, Bool.not_eq_true'] at h1 h2 ⊢; exact hO.ntrans c b a h2 h1
    · intro a b
      simp only [leOf, Bool.or_eq_true, Bool.not_eq_true']
      by_cases h : ltOf cf b a = true
      · right
        exact hO.asymmA h
      · left
        simpa using h
theorem heap_sortWorld {α : Type} [Inhabited α] (enc : α → Value) (w : World) (g n : Nat) (dk : Array α) (os : Array Obj) (k : Nat) (hk : k < w.heap.size) (hne : k ≠ g) : (sortWorld enc w g 0 n dk os).heap[k]? = w.heap[k]? := by
  unfold sortWorld; rw [heap_grow_old _ _ (by simpa [putRow, mapBlock, Sort.ahead] using hk), heap_putRow_ne enc _ g dk k hne]
  rfl
theorem grownBy_sortWorld {α : Type} [Inhabited α] (enc : α → Value) (w : World) (g n : Nat) (dk : Array α) (os : Array Obj) : w.grownBy (sortWorld enc w g 0 n dk os) (some g) :=
  ⟨rfl, rfl, rfl, by simp [sortWorld, putRow, mapBlock, Sort.ahead], fun k hk hne => heap_sortWorld enc w g n dk os k hk (fun e => hne (by rw [e]))⟩
/-- What is asked of a comparison. -/
def CmpL (g : Nat) (cb : Array Value) (cf : List Int → List Int → Int) : Prop :=
  ∀ (W : World) (A1 : Option Addr) (c1 : Nat) (l1 : List Int) (A2 : Option Addr) (c2 : Nat) (l2 : List Int), Kd.C (Kd.int .i64) W A1 l1.length l1 → l1.length ≤ c1 → Kd.C (Kd.int .i64) W A2 l2.length l2 → l2.length ≤ c2 →
      Calls Try.prog g (#[.slice A1 l1.length c1, .slice A2 l2.length c2] ++ cb) W fun e w' => e = .returned (.int .i64 (cf l1 l2)) ∧ ∃ q os, w' = grow (W.drewN q) os
set_option maxHeartbeats 1000000 in
theorem sortL_some (g : Nat) (cb : Array Value) (cf : List Int → List Int → Int) (hO : SWO (ltOf cf)) (hT : ∀ x y, ltOf cf x y = false → ltOf cf y x = false → x = y) (eg : ∀ args w, (callFunc g args).run Try.prog w = .ok (.enter g args) w) (hcmp : CmpL g cb cf)
    (base b cap : Nat) (ok : Nat → Prop) (w : World) (ps : List (Held w base ok)) (hne : ∀ k, ok k → k ≠ b) (hH : Holds Held.v w b 0 ps.toArray) (hlt : b < w.heap.size) (hl : ps.length < 17592186044416) :
    Calls Try.prog 97 #[.slice (some ⟨b, 0, none⟩) ps.length cap, .func (.func g) #[] cb] w fun e w' => e = .returned (.tuple #[]) ∧ ∃ (d' : Array (Held w base ok)) (n : Nat) (os : Array Obj), d'.toList.map Held.l = (ps.map Held.l).mergeSort (leOf cf) ∧ w' = sortWorld Held.v w b 0 n d' os := by
  have keep : ∀ (n : Nat) (dk : Array (Held w base ok)) (os : Array Obj) (u : Value) (l : List Int), Kd.R (Kd.int .i64) 3 w base ok u l → Kd.R (Kd.int .i64) 3 (sortWorld Held.v w b 0 n dk os) base ok u l :=
    fun n dk os u l h => Kd.R_step h (fun k hk hlt => heap_sortWorld _ w b n dk os k hlt (hne k hk))
  have S := Try.slices_SortFunc (α := Held w base ok) Held.v held_one (fun p q => cf p.l q.l)
    ⟨fun x => hO.irrefl x.l, fun x y z => hO.trans x.l y.l z.l, fun x y z => hO.ntrans x.l y.l z.l⟩ g cb b 0 cap ps.toArray w eg
    (fun m os dk hdk x y => by
      obtain ⟨A1, c1, e1, m1, r1⟩ := Kd.R_reads (keep m dk os x.v x.l x.h); obtain ⟨A2, c2, e2, m2, r2⟩ := Kd.R_reads (keep m dk os y.v y.l y.h); rw [e1, e2]
      exact hcmp _ A1 c1 x.l A2 c2 y.l r1 m1 r2 m2)
    hH hlt (by simp; omega)
  simp only [List.size_toArray] at S
  refine S.mono ?_
  rintro e w' ⟨rfl, d', n, os, hp, hs, rfl⟩
  refine ⟨rfl, d', n, os, ?_, rfl⟩
  have hsort := sort_held (α := Nat) cf hO hT ps.toArray d' (by simpa using hp) (by simpa using hs)
  simpa using hsort
theorem sortL (g : Nat) (cb : Array Value) (cf : List Int → List Int → Int) (hO : SWO (ltOf cf)) (hT : ∀ x y, ltOf cf x y = false → ltOf cf y x = false → x = y) (eg : ∀ args w, (callFunc g args).run Try.prog w = .ok (.enter g args) w) (hcmp : CmpL g cb cf)
    (base : Nat) (ok : Nat → Prop) (v : Value) (xs : List (List Int)) (w : World) (ho : Kd.R (Kd.slice 3 (Kd.int .i64)) 22 w base ok v xs) (hl : xs.length < 17592186044416) :
    Calls Try.prog 97 #[v, .func (.func g) #[] cb] w fun e w' => e = .returned (.tuple #[]) ∧ Kd.R (Kd.slice 3 (Kd.int .i64)) 22 w' base ok v (xs.mergeSort (leOf cf)) ∧ w.grownBy w' v.ownBlock := by
  obtain ⟨hok, inner, hown, hreps⟩ := ho; obtain ⟨ps, hps1, hps2⟩ := held_list xs inner hreps
  have hlen : ps.length = xs.length := by rw [← hps2, List.length_map]
  rcases hown.2 with ⟨rfl, hn⟩ | ⟨b, cap, cur, rfl, hbase, hb, h1, h2, h3, h4⟩
  · have hx : xs = [] := List.eq_nil_of_length_eq_zero hn
    subst hx
    refine (Try.slices_SortFunc_none (α := Nat) none 0 _ w).mono ?_
    rintro e w' ⟨rfl, rfl⟩; rw [List.mergeSort_nil]; exact ⟨rfl, Kd.R_nil _ _ _ _ _, World.grownBy.refl _ _⟩
  · have hown' : w.ownsRow base 22 1 (.slice (some ⟨b, 0, none⟩) xs.length cap) xs.length (ps.map Held.v) := by rw [hps1]; exact hown
    obtain ⟨b', cap', hv, _, hlt, _, _, _, hH⟩ := Lib.holds_of_ownsRow hown' (by simp); cases hv; have S := sortL_some g cb cf hO hT eg hcmp base b cap _ w ps (fun k hk e => hk.2 (by rw [e]; rfl)) hH hlt (by omega); rw [hlen] at S
    refine S.mono ?_
    rintro e w' ⟨rfl, d', n, os, hsort, rfl⟩; rw [hps2] at hsort
    have hdl : d'.toList.length = xs.length := by
      have := congrArg List.length hsort
      simpa [List.length_mergeSort] using this
    have o1 := Lib.ownsRow_putRow (q := n) (k := xs.length) (ys := d'.toList) hown' hdl (Nat.le_refl _); rw [List.take_of_length_le (by omega), Array.toArray_toList] at o1; have o2 := pw_own_below o1 (below_grow _ os)
    refine ⟨rfl, ⟨hok, d'.toList.map Held.v, ?_, ?_⟩, grownBy_sortWorld _ _ _ _ _ _⟩
    · rw [List.length_mergeSort]
      exact o2
    · rw [← hsort]
      exact held_reps d'.toList (fun u l h => Kd.R_step h (fun k hk hlt => heap_sortWorld _ w b n d' os k hlt (fun e => hk.2 (by rw [e]; rfl))))
end Go.Proofs.Ytonipihlpbaknaa.Print
namespace Go.Proofs.Ytonipihlpbaknaa.Print
set_option linter.unusedVariables false
set_option linter.unusedSimpArgs false
open Go.RowKit Go.Proofs.YtonipihlpbaknaaW.PrintWords Go.Proofs.YtonipihlpbaknaaW.PrintLast Go.Proofs.YtonipihlpbaknaaW.PrintMore
theorem or2 (x y : Int) (k : Nat) (hk : 3 < k) : cmp_Or_int.f k [x, y] = some (if x = 0 then y else x) := by
  obtain ⟨k, rfl⟩ : ∃ m, k = m + 4 := ⟨k - 4, by omega⟩
  have e0 : rd [x, y] 0 = x := rfl; have e1 : rd [x, y] 1 = y := rfl
  have w1 : wrap64 (0 + 1) = 1 := by unfold wrap64; omega
  have w2 : wrap64 (1 + 1) = 2 := by unfold wrap64; omega
  show cmp_Or_int.l0 (k + 4) 0 [x, y] ((2 : Nat) : Int) 0 = _
  unfold cmp_Or_int.l0; rw [if_pos (by omega), if_pos (by omega), if_pos (by simp), e0]
  by_cases h : x = 0
  · rw [if_pos h, if_pos h, w1]
    unfold cmp_Or_int.l0; rw [if_pos (by omega), if_pos (by omega), if_pos (by simp), e1]
    by_cases h2 : y = 0
    · rw [if_pos h2, w2]
      unfold cmp_Or_int.l0; rw [if_neg (by omega), h2]
    · rw [if_neg h2]
  · rw [if_neg h, if_neg h]
set_option maxHeartbeats 1000000 in
theorem subsets1 (W : World) (A1 : Option Addr) (c1 : Nat) (l1 : List Int) (A2 : Option Addr) (c2 : Nat) (l2 : List Int) (h1 : Kd.C (Kd.int .i64) W A1 l1.length l1) (hc1 : l1.length ≤ c1) (h2 : Kd.C (Kd.int .i64) W A2 l2.length l2) (hc2 : l2.length ≤ c2) :
  Calls Try.prog 98 (#[.slice A1 l1.length c1, .slice A2 l2.length c2] ++ #[]) W fun e w' => e = .returned (.int .i64 (lenC l1 l2)) ∧ ∃ q os, w' = Go.Sort.grow (W.drewN q) os := by
 have hm1 := Kd.C_max h1; have hm2 := Kd.C_max h2; have K1 := Lib.hid (fun W => cmp_Compare_int.calls l1.length l2.length _ W (cmp_int _ _)); have K2 := Lib.hid (fun (W' : World) (hb : Below W.heap.size W W') => slices_Compare_int_int.calls (l1.length + 1) A1 c1 l1 A2 c2 l2 _ W' (Kd.C_below h1 hb) hc1 (Kd.C_below h2 hb) hc2 (compare_ok l1 l2 hm1 _ (by omega)))
 have V : Hid (lenC l1 l2 = if (if (l1.length : Int) < l2.length then -1 else if (l2.length : Int) < l1.length then 1 else 0) = (0 : Int) then lexC l1 l2 else (if (l1.length : Int) < l2.length then -1 else if (l2.length : Int) < l1.length then 1 else 0)) := by
  show lenC l1 l2 = _
  unfold lenC
  by_cases p : l1.length < l2.length
  ·rw [if_pos p, if_pos (show (l1.length : Int) < l2.length by omega), if_neg (by decide)]
  ·by_cases q : l2.length < l1.length
   ·rw [if_neg p, if_pos q, if_neg (show ¬ (l1.length : Int) < l2.length by omega), if_pos (show (l2.length : Int) < l1.length by omega), if_neg (by decide)]
   ·rw [if_neg p, if_neg q, if_neg (show ¬ (l1.length : Int) < l2.length by omega), if_neg (show ¬ (l2.length : Int) < l1.length by omega), if_pos rfl]
 clear h1 h2; generalize (if (l1.length : Int) < l2.length then -1 else if (l2.length : Int) < l1.length then 1 else 0 : Int) = x at K1 V; generalize lexC l1 l2 = y at K2 V
 show Calls Try.prog 98 #[.slice A1 l1.length c1, .slice A2 l2.length c2] W _
 go_enter Try.func98, Try.ntmps98
 go_wp2_with fail
 refine (K1.out _).mono ?_
 rintro e w1 ⟨rfl, ⟨n1, rfl⟩⟩
 go_wp2_with fail
 refine (K2.out _ (by exact pw_below_drewN (Below.refl _ _) _)).mono ?_
 rintro e w1 ⟨rfl, ⟨n2, rfl⟩⟩
 have HC : Hid (Kd.C (Kd.int .i64) ((W.drewN (n1 + n2)).alloc (.cells #[.int .i64 x, .int .i64 y] 3)) (some ⟨W.heap.size, 0, none⟩) 2 [x, y]) := by
  refine Kd.C_of_reads (d := (0 : Int)) (h1 := fun _ => rfl) (show ReadsOf (Value.int .i64) 0 _ _ _ _ from ⟨rfl, by omega, fun _ => ⟨_, rfl, fun j hj => ?_⟩⟩)
  rw [add_plain]
  rcases (by omega : j = 0 ∨ j = 1) with rfl | rfl
  ·exact (blk_cell (blk_new (W.drewN (n1 + n2)) (.cells #[.int .i64 x, .int .i64 y] 3)) 0).trans rfl
  ·exact (blk_cell (blk_new (W.drewN (n1 + n2)) (.cells #[.int .i64 x, .int .i64 y] 3)) 1).trans rfl
 have O2 := Lib.hid (or2 x y 4 (by omega)); generalize (if x = 0 then y else x) = z at O2 V
 go_wp2_with fail
 refine (cmp_Or_int.calls 4 _ _ [x, y] z _ HC (by simp) O2.out).mono ?_
 rintro e w3 ⟨rfl, ⟨n3, rfl⟩⟩
 go_wp2_with fail
 go_ret
 refine ⟨by rw [show lenC l1 l2 = _ from V]; rfl, n1 + n2 + n3, #[.cells #[.int .i64 x, .int .i64 y] 3], ?_⟩
 rw [Go.Sort.alloc_eq_grow]
 show Go.Sort.grow ((W.drewN (n1 + n2)).drewN n3) _ = _
 rw [World.drewN_drewN]
def bitB (s i : Nat) : Bool := s.testBit i
def bitsL (n s : Nat) : List Int := ((List.range n).filter (bitB s)).map (fun (i : Nat) => (i : Int))
def genL (n : Nat) : List (List Int) := (List.range (2 ^ n)).map (bitsL n)
def subsetsL (n : Nat) : List (List Int) := (genL n).mergeSort (leOf lenC)
theorem bitsL_succ (n s : Nat) : bitsL (n + 1) s = bitsL n s ++ (if bitB s n then [(n : Int)] else []) := by
  unfold bitsL; rw [List.range_succ, List.filter_append, List.map_append]
  congr 1
  by_cases h : bitB s n = true
  · simp [h]
  · simp [h]
theorem genL_take (n k : Nat) (h : k ≤ 2 ^ n) : (genL n).take k = (List.range k).map (bitsL n) := by
  unfold genL; rw [← List.map_take, List.take_range, Nat.min_eq_left h]
theorem bits_run (s i : Nat) (hs : s < 64) (hi : i < 6) : Go.bits .and .i64 ((s : Int) / 2 ^ i) 1 = if bitB s i then 1 else 0 := by
  have : ∀ s : Fin 64, ∀ i : Fin 6, Go.bits .and .i64 (((s : Nat) : Int) / 2 ^ (i : Nat)) 1 = if bitB s i then 1 else 0 := by decide +kernel
  exact this ⟨s, hs⟩ ⟨i, hi⟩
theorem bitsL_len (n s : Nat) : (bitsL n s).length ≤ n := by
  unfold bitsL; rw [List.length_map]; exact Nat.le_trans (List.length_filter_le _ _) (by simp)
theorem genL_snoc (n k : Nat) (h : k < 2 ^ n) : (genL n).take (k + 1) = (genL n).take k ++ [bitsL n k] := by
  rw [genL_take n (k + 1) h, genL_take n k (by omega), List.range_succ, List.map_append]
  rfl
theorem genL_len (n : Nat) : (genL n).length = 2 ^ n := by simp [genL]
theorem R_apart {ok ok' : Nat → Prop} {w : World} {base : Nat} {u v : Value} {l : List Int} {xs : List (List Int)} (h : Kd.R (Kd.int .i64) 3 w base ok u l) (ho : Kd.R (Kd.slice 3 (Kd.int .i64)) 22 w base ok' v xs) : Kd.R (Kd.int .i64) 3 w base (fun k => ok k ∧ some k ≠ v.ownBlock) u l :=
  Kd.R_mono (Kd.R_bound h) (fun k hk => ⟨hk.1, fun e => by
    obtain ⟨_, _, _, q, hq, cells, hc⟩ := hk; obtain ⟨inner, hown⟩ := Kd.R_own ho; obtain ⟨cells', hc'⟩ := own_typed hown k e.symm; rw [hc] at hc'
    injection hc' with hc'
    injection hc' with _ hc'
    have : q = 3 := by simpa [Kd.int, Kd.scalar] using hq
    rw [this] at hc'
    exact absurd hc' (by decide)⟩)
set_option maxHeartbeats 2000000 in
set_option maxRecDepth 100000 in
theorem subsets_gen (n : Nat) (hn : n ≤ 6) (w : World) : Calls Try.prog 67 #[.int .i64 n] w fun e w' => ∃ v0_ : Value, e = .returned (v0_) ∧ Kd.R (Kd.slice 3 (Kd.int .i64)) 22 w' w.heap.size (fun _ => True) v0_ (subsetsL n) ∧ Below w.heap.size w w' := by
 have hp : 2 ^ n ≤ 64 := Nat.le_trans (Nat.pow_le_pow_right (by omega) hn) (by decide)
 have hw : wrap64 ((2 : Int) ^ n) = ((2 ^ n : Nat) : Int) := by
  rcases (by omega : n = 0 ∨ n = 1 ∨ n = 2 ∨ n = 3 ∨ n = 4 ∨ n = 5 ∨ n = 6) with rfl | rfl | rfl | rfl | rfl | rfl | rfl <;> decide +kernel
 obtain ⟨p, EP⟩ : ∃ p, 2 ^ n = p := ⟨_, rfl⟩
 rw [EP] at hp hw; have EP := Lib.hid EP
 rename_i EP0
 clear EP0
 go_enter Try.func67, Try.ntmps67
 go_wp2
 rw [hw]; clear hw
 go_loopg [3, 4, 5, 6, 9, 13] p (fun gg s3 _ _ _ s9 _ wr => ∃ k : Nat, k ≤ p ∧ p - k ≤ gg ∧ s9 = .int .i64 k ∧ Aside0 (Kd.R (Kd.slice 3 (Kd.int .i64)) 22 wr w.heap.size (fun _ => True) s3 ((genL n).take k)) ∧ Aside0 (Below w.heap.size w wr))
 case atStart => exact ⟨0, Nat.zero_le _, by omega, rfl, ⟨by rw [List.take_zero]; exact Kd.R_nil _ _ _ _ _⟩, ⟨Below.refl _ _⟩⟩
 case round =>
  obtain ⟨k, hk, hg, rfl, BO, BW⟩ := hrel
  by_cases hlt : k < p
  ·have hltz : (k : Int) < (p : Int) := by omega
   obtain ⟨wo, rfl⟩ : ∃ wo : World, wo = wr := ⟨_, rfl⟩
   go_wp2
   go_loopg [5, 6, 13] n (fun gg s5 _ s13 wr => ∃ i : Nat, i ≤ n ∧ n - i ≤ gg ∧ s13 = .int .i64 i ∧ Aside0 (Kd.R (Kd.int .i64) 3 wr wo.heap.size (fun _ => True) s5 (bitsL i k)) ∧ Aside0 (Below wo.heap.size wo wr))
   case atStart => exact ⟨0, Nat.zero_le _, by omega, rfl, ⟨by exact Kd.R_nil _ _ _ _ _⟩, ⟨Below.refl _ _⟩⟩
   case round =>
    obtain ⟨i, hi, hgi, rfl, CO, CW⟩ := hrel
    by_cases hlti : i < n
    ·have hltiz : (i : Int) < (n : Int) := by omega
     have hb := bits_run k i (by omega) (by omega)
     cases hbit : bitB k i with
     | true =>
      rw [hbit] at hb; simp only [if_true] at hb; have HB := Lib.hid hbit; clear hbit
      go_wp2_with ((with_reducible refine gate_builtin (b := .append) (xs := #[.tmp 21, .tmp 23]) rfl ?_); at_builtin; refine Kd.R_append (Kd.int .i64) (w0 := wo) wo.heap.size rfl (.tmp 21) (.tmp 23) 22 3 (.int .i64 0) 8 rfl Try.underlying22 info3 rfl (by decide) (by omega) u5 (bitsL i k) (i : Int) [.int .i64 i] (fun _ => True) (fun _ => False) rfl rfl ?aP (fun _ hk => hk.elim) ?aF ?aO ?aB ?aS ?aL ?_; (case aP => exact rfl); (case aB => exact CW.out); (case aF => exact (fun _ _ => trivial)); (case aO => exact CO.out); (case aS => exact CW.out.size); (case aL => have := bitsL_len i k; omega); intro v8 w8 ho hb1 hg1 hat; have HO8 := Lib.hid ho; have BW8 := Lib.hid hb1; clear ho hb1 hg1 hat)
      go_roundg (n - (i + 1))
      case measure => omega
      case rel => exact ⟨i + 1, by omega, by omega, by go_num, ⟨by rw [bitsL_succ, HB.out]; exact HO8.out⟩, ⟨BW8.out⟩⟩
     | false =>
      rw [hbit] at hb; simp only [Bool.false_eq_true, if_false] at hb; have HB := Lib.hid hbit; clear hbit
      go_wp2
      go_roundg (n - (i + 1))
      case measure => omega
      case rel => exact ⟨i + 1, by omega, by omega, by go_num, ⟨by rw [bitsL_succ, HB.out]; simpa using CO.out⟩, ⟨CW.out⟩⟩
    ·have hltiz : ¬ (i : Int) < (n : Int) := by omega
     obtain rfl : i = n := by omega
     have BO2 := Lib.hid (Kd.R_below BO.out CW.out); have BW2 := Lib.hid (below_then BW.out BW.out.size CW.out); have CO2 := Lib.hid (R_apart (Kd.R_lower CO.out BW.out.size) BO2.out); obtain ⟨A5, c5, rfl⟩ := Kd.R_slice CO.out; clear BO BW CO CW hlti
     go_wp2_with ((with_reducible refine gate_builtin (b := .append) (xs := #[.tmp 26, .tmp 28]) rfl ?_); at_builtin; refine Kd.R_append (Kd.slice 3 (Kd.int .i64)) (w0 := w) w.heap.size rfl (.tmp 26) (.tmp 28) 87 22 (.slice none 0 0) 24 rfl Try.underlying87 info22 rfl (by decide) (by omega) u3 ((genL i).take k) (bitsL i k) [.slice A5 (bitsL i k).length c5] (fun _ => True) (fun k => True ∧ some k ≠ (u3 : Value).ownBlock) rfl rfl ?aP ?aK ?aF ?aO ?aB ?aS ?aL ?_; (case aP => exact Kd.M_row CO2.out); (case aK => exact (fun _ hk => hk)); (case aB => exact BW2.out); (case aF => exact (fun _ _ => trivial)); (case aO => exact BO2.out); (case aS => exact BW2.out.size); (case aL => rw [List.length_take]; omega); intro v8 w8 ho hb1 hg1 hat; have HO8 := Lib.hid ho; have BW8 := Lib.hid hb1; clear ho hb1 hg1 hat)
     go_roundg (p - (k + 1))
     case measure => omega
     case rel => exact ⟨k + 1, by omega, by omega, by go_num, ⟨by rw [genL_snoc i k (by have := EP.out; omega)]; exact HO8.out⟩, ⟨BW8.out⟩⟩
  ·have hltz : ¬ (k : Int) < (p : Int) := by omega
   obtain rfl : k = p := by omega
   have BO2 : Hid (Kd.R (Kd.slice 3 (Kd.int .i64)) 22 wr w.heap.size (fun _ => True) u3 (genL n)) := by
    have := BO.out; rw [genL_take n k (by have := EP.out; omega), ← show 2 ^ n = k from EP.out] at this; exact this
   have BW2 := Lib.hid BW.out; clear BO BW hlt
   go_wp2_with fail
   refine (sortL 98 #[] lenC lenC_tot.swo lenC_tot.tot (enters_of Try.func98 (by kernel_rfl) rfl) (fun W A1 c1 l1 A2 c2 l2 h1 m1 h2 m2 => subsets1 W A1 c1 l1 A2 c2 l2 h1 m1 h2 m2) w.heap.size (fun _ => True) u3 (genL n) wr BO2.out (by rw [genL_len]; have := EP.out; omega)).mono ?_
   rintro e w9 ⟨rfl, ho, hg⟩; have HO9 := Lib.hid ho; have HB9 := Lib.hid (BW2.out.grown hg BW2.out.size (Kd.R_base BO2.out)); clear ho hg
   go_wp2_with fail
   go_ret
   exact ⟨_, rfl, HO9.out, HB9.out⟩
end Go.Proofs.Ytonipihlpbaknaa.Print

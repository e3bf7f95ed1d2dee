/- A part of the proof that the law returns true at every input; what the walked functions compute. -/
import Derived.Test.YtonipihlpbaknaaZBd0
import Derived.Test.YtonipihlpbaknaaZBd1
import Derived.Test.YtonipihlpbaknaaZBd2
import Derived.Test.YtonipihlpbaknaaZBd3
import Derived.Test.YtonipihlpbaknaaZBd4
import Derived.Test.YtonipihlpbaknaaZBd5
import Derived.Test.YtonipihlpbaknaaZBd6
namespace Go.Proofs.Ytonipihlpbaknaa.Print
open Go.RowKit Go.Proofs.YtonipihlpbaknaaW.PrintWords Go.Proofs.YtonipihlpbaknaaW.PrintLast Go.Proofs.YtonipihlpbaknaaW.PrintMore
attribute [local go_sem] max2_int min2_int max_two min_two max_three min_three max_four min_four   -- for this text's walks alone
set_option linter.unusedVariables false
set_option linter.unusedSimpArgs false
mutual
def scarfjointref05_Components.l0 : Nat → List Int → Int → List Int → List (S78) → Option ((List (S27)) × Int)
  | 0, _, _, _, _ => none
  | k + 1, x5, x6, x102000, x102001 => if x6 < (x102000.length : Int) then (scarfjointref05_Components.l1 k x5 x6 0 x102000 x102001) else (scarfjointref05_Components.l2 k x5 ([] : List (S27)) 0 x102000 x102001)
def scarfjointref05_Components.l1 : Nat → List Int → Int → Int → List Int → List (S78) → Option ((List (S27)) × Int)
  | 0, _, _, _, _, _ => none
  | k + 1, x5, x6, x7, x102000, x102001 => if x7 < (x102001.length : Int) then (if 0 ≤ x7 then (if 0 ≤ ((rd_T78 x102001 x7).f1) then (if ((rd_T78 x102001 x7).f1) < (x5.length : Int) then (if 0 ≤ ((rd_T78 x102001 x7).f2) then (if ((rd_T78 x102001 x7).f2) < (x5.length : Int) then (scarfjointref05_Components.l1 k ((x5.set (((rd_T78 x102001 x7).f1) : Int).toNat (mn (rd x5 ((rd_T78 x102001 x7).f1)) (rd x5 ((rd_T78 x102001 x7).f2)))).set (((rd_T78 x102001 x7).f2) : Int).toNat (mn (rd x5 ((rd_T78 x102001 x7).f1)) (rd x5 ((rd_T78 x102001 x7).f2)))) x6 (wrap64 (x7 + 1)) x102000 x102001) else (none)) else (none)) else (none)) else (none)) else (none)) else (scarfjointref05_Components.l0 k x5 (wrap64 (x6 + 1)) x102000 x102001)
def scarfjointref05_Components.l2 : Nat → List Int → List (S27) → Int → List Int → List (S78) → Option ((List (S27)) × Int)
  | 0, _, _, _, _, _ => none
  | k + 1, x5, x11, x12, x102000, x102001 => if x12 < (x102000.length : Int) then (if 0 ≤ x12 then (if x12 < (x5.length : Int) then (if (rd x5 x12) = x12 then (scarfjointref05_Components.l3 k x5 x11 x12 0 x102000 x102001 ([] : List Int)) else (scarfjointref05_Components.l2 k x5 x11 (wrap64 (x12 + 1)) x102000 x102001)) else (none)) else (none)) else (some (x11, 0))
def scarfjointref05_Components.l3 : Nat → List Int → List (S27) → Int → Int → List Int → List (S78) → List Int → Option ((List (S27)) × Int)
  | 0, _, _, _, _, _, _, _ => none
  | k + 1, x5, x11, x12, x14, x102000, x102001, x114000 => if x14 < (x102000.length : Int) then (if 0 ≤ x14 then (if x14 < (x5.length : Int) then (if (rd x5 x14) = x12 then (if x114000.length < 17592186044416 then (scarfjointref05_Components.l3 k x5 x11 x12 (wrap64 (x14 + 1)) x102000 x102001 (x114000 ++ [x14])) else (none)) else (scarfjointref05_Components.l3 k x5 x11 x12 (wrap64 (x14 + 1)) x102000 x102001 x114000)) else (none)) else (none)) else (scarfjointref05_Components.l4 k x5 x11 x12 0 x102000 x102001 x114000 ([] : List Int))
def scarfjointref05_Components.l4 : Nat → List Int → List (S27) → Int → Int → List Int → List (S78) → List Int → List Int → Option ((List (S27)) × Int)
  | 0, _, _, _, _, _, _, _, _ => none
  | k + 1, x5, x11, x12, x15, x102000, x102001, x114000, x114001 => if x15 < (x102001.length : Int) then (if 0 ≤ x15 then (if 0 ≤ ((rd_T78 x102001 x15).f1) then (if ((rd_T78 x102001 x15).f1) < (x5.length : Int) then (if (rd x5 ((rd_T78 x102001 x15).f1)) = x12 then (if x114001.length < 17592186044416 then (scarfjointref05_Components.l4 k x5 x11 x12 (wrap64 (x15 + 1)) x102000 x102001 x114000 (x114001 ++ [x15])) else (none)) else (scarfjointref05_Components.l4 k x5 x11 x12 (wrap64 (x15 + 1)) x102000 x102001 x114000 x114001)) else (none)) else (none)) else (none)) else (if x11.length < 2932031007402 then (scarfjointref05_Components.l2 k x5 (x11 ++ [(⟨x114000, x114001⟩ : S27)]) (wrap64 (x12 + 1)) x102000 x102001) else (none))
end
def scarfjointref05_Components.f (k : Nat) (l0_0 : List Int) (l0_1 : List (S78)) : Option ((List (S27)) × Int) := (scarfjointref05_Valid.f k l0_0 l0_1).bind fun t102 => (if t102 = 0 then ((scarfjointref05_Numbers.f k 0 (l0_0.length : Int)).bind fun t103 => (scarfjointref05_Components.l0 k t103 0 l0_0 l0_1)) else (some (([] : List (S27)), t102)))
set_option maxHeartbeats 8000000 in
set_option maxRecDepth 100000 in
theorem scarfjointref05_Components.calls (k : Nat) (A0_0 : Option Addr) (c0_0 : Nat) (l0_0 : List Int) (A0_1 : Option Addr) (c0_1 : Nat) (l0_1 : List (S78)) (r1 : List (S27)) (r2 : Int) (w : World) (hr0_0 : Kd.C (Kd.int .i64) w A0_0 l0_0.length l0_0) (hc0_0 : l0_0.length ≤ c0_0) (hr0_1 : Kd.C k78 w A0_1 l0_1.length l0_1) (hc0_1 : l0_1.length ≤ c0_1) (h : scarfjointref05_Components.f k l0_0 l0_1 = some (r1, r2)) :
    Calls Try.prog 22 #[.agg #[.slice A0_0 l0_0.length c0_0, .slice A0_1 l0_1.length c0_1]] w fun e w' => ∃ v0_ : Value, e = .returned (.tuple #[v0_, .int .i64 r2]) ∧ Kd.S k27 27 w' w.heap.size (fun _ => True) v0_ r1 ∧ Below w.heap.size w w' := by
  have hu25 := Try.underlying25
  have hu27 := Try.underlying27
  have HR0_0 := Aside0.mk hr0_0
  have HC0_0 := Aside0.mk hc0_0
  clear hr0_0 hc0_0
  have HR0_1 := Aside0.mk hr0_1
  have HC0_1 := Aside0.mk hc0_1
  clear hr0_1 hc0_1
  have HB := Aside0.mk (Below.refl w.heap.size w)
  have H : ((scarfjointref05_Valid.f k l0_0 l0_1).bind fun t102 => (if t102 = 0 then ((scarfjointref05_Numbers.f k 0 (l0_0.length : Int)).bind fun t103 => (scarfjointref05_Components.l0 k t103 0 l0_0 l0_1)) else (some (([] : List (S27)), t102)))) = some (r1, r2) := h
  clear h
  replace H := Option.bind_eq_some_iff.mp H
  obtain ⟨t102, A20, H⟩ := H
  replace H : (if t102 = 0 then ((scarfjointref05_Numbers.f k 0 (l0_0.length : Int)).bind fun t103 => (scarfjointref05_Components.l0 k t103 0 l0_0 l0_1)) else (some (([] : List (S27)), t102))) = some (r1, r2) := H
  have A2 := Aside0.mk A20
  clear A20
  by_cases c3 : t102 = 0
  · rw [if_pos c3] at H
    have c3b0 : (t102 == 0) = true := beq_iff_eq.mpr c3
    have c3b1 : (t102 != 0) = false := bne_eq_false_iff_eq.mpr c3
    clear c3
    replace H := Option.bind_eq_some_iff.mp H
    obtain ⟨t103, A40, H⟩ := H
    replace H : (scarfjointref05_Components.l0 k t103 0 l0_0 l0_1) = some (r1, r2) := H
    have A4 := Aside0.mk A40
    clear A40
    have H' := Aside0.mk H
    clear H
    go_enter Try.func22, Try.ntmps22
    go_wp2_with (first | ((with_reducible refine gate_dst (N := 1) rfl ?_); refine box_event ?hg (N := 1) ?hd (cs := #[.slice A0_0 l0_0.length c0_0, .slice A0_1 l0_1.length c0_1]) (t := 25) ?hr ?_; (case hd => rfl); (case hg => rfl); (case hr => first | (go_simp; done) | (go_simp; rfl)); intro gb101 hg w5 hbox hb; have n0_ := Aside0.mk (below_step (by repeat (first | (with_reducible first | exact HB.out | apply below_alloc | apply pw_below_drewN | apply below_drew1) | exact HB.out)) hb); have n1_ := Aside0.mk (hbox); have n2_ := Aside0.mk ((by rw [hg]; exact (below_size (by repeat (first | (with_reducible first | exact HB.out | apply below_alloc | apply pw_below_drewN | apply below_drew1) | exact HB.out))) : w.heap.size ≤ gb101)); have n3_ := Aside0.mk ((by rw [hg]; exact (below_size (by repeat (first | (with_reducible first | exact HB.out | apply below_alloc | apply pw_below_drewN | apply below_drew1) | exact HB.out))) : w.heap.size ≤ gb101)); clear HB; have HB := n0_; have BK101 := n1_; have GW101 := n2_; have GE101 := n3_; clear n0_ n1_ n2_ n3_; clear hb hbox hg; have hcz6_0 : w5.cell? ⟨gb101, 0, none⟩ = some (.slice A0_0 l0_0.length c0_0) := (blk_cell BK101.out 0).trans rfl; have hcz6_1 : w5.cell? ⟨gb101, 1, none⟩ = some (.slice A0_1 l0_1.length c0_1) := (blk_cell BK101.out 1).trans rfl; have hfz6_0 := blk_frozen BK101.out 0; have hfz6_1 := blk_frozen BK101.out 1) | (go_at_call 20; (with_reducible refine (scarfjointref05_Valid.calls k _ _ l0_0 _ _ l0_1 t102 _ ?side1 ?side2 ?side3 ?side4 A2.out).mono ?_); (case side1 => repeat (first | exact (Kd.C_below HR0_0.out HB.out) | (with_reducible refine Kd.C_alloc ?_ _) | (with_reducible refine Kd.C_drewN ?_ _) | (with_reducible refine Kd.C_drew ?_))); (case side2 => exact HC0_0.out); (case side3 => repeat (first | exact (Kd.C_below HR0_1.out HB.out) | (with_reducible refine Kd.C_alloc ?_ _) | (with_reducible refine Kd.C_drewN ?_ _) | (with_reducible refine Kd.C_drew ?_))); (case side4 => exact HC0_1.out); rintro e w7 ⟨rfl, hb⟩; have n0_ := Aside0.mk (blk_below (g := gb101) (o := .cells #[.slice A0_0 l0_0.length c0_0, .slice A0_1 l0_1.length c0_1] 25 (0, 0)) (by (with_reducible repeat (first | refine blk_drewN ?_ _ | refine blk_drew ?_ | refine blk_alloc ?_ _)); exact BK101.out) hb); have n1_ := Aside0.mk (below_step (by repeat (first | (with_reducible first | exact HB.out | apply below_alloc | apply pw_below_drewN | apply below_drew1 | refine below_set ?_ GE101.out) | exact HB.out)) hb); clear BK101; clear HB; have BK101 := n0_; have HB := n1_; clear n0_ n1_; (try clear hb); (try clear hb2); (try clear hk); (try clear hi); have hcz8_0 : w7.cell? ⟨gb101, 0, none⟩ = some (.slice A0_0 l0_0.length c0_0) := (blk_cell BK101.out 0).trans rfl; have hcz8_1 : w7.cell? ⟨gb101, 1, none⟩ = some (.slice A0_1 l0_1.length c0_1) := (blk_cell BK101.out 1).trans rfl; have hfz8_0 := blk_frozen BK101.out 0; have hfz8_1 := blk_frozen BK101.out 1) | (go_at_call 65; (with_reducible refine (scarfjointref05_Numbers.calls k 0 (l0_0.length : Int) t103 _ A4.out).mono ?_); rintro e w9 ⟨v104, rfl, ho0, hb⟩; have n0_ := Aside0.mk (Kd.R_lower ho0 (below_size (by repeat (first | (with_reducible first | exact HB.out | apply below_alloc | apply pw_below_drewN | apply below_drew1 | refine below_set ?_ GE101.out) | exact HB.out)))); have n1_ := Aside0.mk (blk_below (g := gb101) (o := .cells #[.slice A0_0 l0_0.length c0_0, .slice A0_1 l0_1.length c0_1] 25 (0, 0)) (by (with_reducible repeat (first | refine blk_drewN ?_ _ | refine blk_drew ?_ | refine blk_alloc ?_ _)); exact BK101.out) hb); have n2_ := Aside0.mk (below_step (by repeat (first | (with_reducible first | exact HB.out | apply below_alloc | apply pw_below_drewN | apply below_drew1 | refine below_set ?_ GE101.out) | exact HB.out)) hb); clear BK101; clear HB; have HO105 := n0_; have BK101 := n1_; have HB := n2_; clear n0_ n1_ n2_; (try clear hb); (try clear hb2); (try clear hk); (try clear hi); (try clear ho0)))
    repeat (go_quiet (first | ((with_reducible refine gate_dst (N := 1) rfl ?_); refine box_event ?hg (N := 1) ?hd (cs := #[.slice A0_0 l0_0.length c0_0, .slice A0_1 l0_1.length c0_1]) (t := 25) ?hr ?_; (case hd => rfl); (case hg => rfl); (case hr => first | (go_simp; done) | (go_simp; rfl)); intro gb101 hg w5 hbox hb; have n0_ := Aside0.mk (below_step (by repeat (first | (with_reducible first | exact HB.out | apply below_alloc | apply pw_below_drewN | apply below_drew1) | exact HB.out)) hb); have n1_ := Aside0.mk (hbox); have n2_ := Aside0.mk ((by rw [hg]; exact (below_size (by repeat (first | (with_reducible first | exact HB.out | apply below_alloc | apply pw_below_drewN | apply below_drew1) | exact HB.out))) : w.heap.size ≤ gb101)); have n3_ := Aside0.mk ((by rw [hg]; exact (below_size (by repeat (first | (with_reducible first | exact HB.out | apply below_alloc | apply pw_below_drewN | apply below_drew1) | exact HB.out))) : w.heap.size ≤ gb101)); clear HB; have HB := n0_; have BK101 := n1_; have GW101 := n2_; have GE101 := n3_; clear n0_ n1_ n2_ n3_; clear hb hbox hg; have hcz6_0 : w5.cell? ⟨gb101, 0, none⟩ = some (.slice A0_0 l0_0.length c0_0) := (blk_cell BK101.out 0).trans rfl; have hcz6_1 : w5.cell? ⟨gb101, 1, none⟩ = some (.slice A0_1 l0_1.length c0_1) := (blk_cell BK101.out 1).trans rfl; have hfz6_0 := blk_frozen BK101.out 0; have hfz6_1 := blk_frozen BK101.out 1) | (go_at_call 20; (with_reducible refine (scarfjointref05_Valid.calls k _ _ l0_0 _ _ l0_1 t102 _ ?side1 ?side2 ?side3 ?side4 A2.out).mono ?_); (case side1 => repeat (first | exact (Kd.C_below HR0_0.out HB.out) | (with_reducible refine Kd.C_alloc ?_ _) | (with_reducible refine Kd.C_drewN ?_ _) | (with_reducible refine Kd.C_drew ?_))); (case side2 => exact HC0_0.out); (case side3 => repeat (first | exact (Kd.C_below HR0_1.out HB.out) | (with_reducible refine Kd.C_alloc ?_ _) | (with_reducible refine Kd.C_drewN ?_ _) | (with_reducible refine Kd.C_drew ?_))); (case side4 => exact HC0_1.out); rintro e w7 ⟨rfl, hb⟩; have n0_ := Aside0.mk (blk_below (g := gb101) (o := .cells #[.slice A0_0 l0_0.length c0_0, .slice A0_1 l0_1.length c0_1] 25 (0, 0)) (by (with_reducible repeat (first | refine blk_drewN ?_ _ | refine blk_drew ?_ | refine blk_alloc ?_ _)); exact BK101.out) hb); have n1_ := Aside0.mk (below_step (by repeat (first | (with_reducible first | exact HB.out | apply below_alloc | apply pw_below_drewN | apply below_drew1 | refine below_set ?_ GE101.out) | exact HB.out)) hb); clear BK101; clear HB; have BK101 := n0_; have HB := n1_; clear n0_ n1_; (try clear hb); (try clear hb2); (try clear hk); (try clear hi); have hcz8_0 : w7.cell? ⟨gb101, 0, none⟩ = some (.slice A0_0 l0_0.length c0_0) := (blk_cell BK101.out 0).trans rfl; have hcz8_1 : w7.cell? ⟨gb101, 1, none⟩ = some (.slice A0_1 l0_1.length c0_1) := (blk_cell BK101.out 1).trans rfl; have hfz8_0 := blk_frozen BK101.out 0; have hfz8_1 := blk_frozen BK101.out 1) | (go_at_call 65; (with_reducible refine (scarfjointref05_Numbers.calls k 0 (l0_0.length : Int) t103 _ A4.out).mono ?_); rintro e w9 ⟨v104, rfl, ho0, hb⟩; have n0_ := Aside0.mk (Kd.R_lower ho0 (below_size (by repeat (first | (with_reducible first | exact HB.out | apply below_alloc | apply pw_below_drewN | apply below_drew1 | refine below_set ?_ GE101.out) | exact HB.out)))); have n1_ := Aside0.mk (blk_below (g := gb101) (o := .cells #[.slice A0_0 l0_0.length c0_0, .slice A0_1 l0_1.length c0_1] 25 (0, 0)) (by (with_reducible repeat (first | refine blk_drewN ?_ _ | refine blk_drew ?_ | refine blk_alloc ?_ _)); exact BK101.out) hb); have n2_ := Aside0.mk (below_step (by repeat (first | (with_reducible first | exact HB.out | apply below_alloc | apply pw_below_drewN | apply below_drew1 | refine below_set ?_ GE101.out) | exact HB.out)) hb); clear BK101; clear HB; have HO105 := n0_; have BK101 := n1_; have HB := n2_; clear n0_ n1_ n2_; (try clear hb); (try clear hb2); (try clear hk); (try clear hi); (try clear ho0))); try go_wp2_with (first | ((with_reducible refine gate_dst (N := 1) rfl ?_); refine box_event ?hg (N := 1) ?hd (cs := #[.slice A0_0 l0_0.length c0_0, .slice A0_1 l0_1.length c0_1]) (t := 25) ?hr ?_; (case hd => rfl); (case hg => rfl); (case hr => first | (go_simp; done) | (go_simp; rfl)); intro gb101 hg w5 hbox hb; have n0_ := Aside0.mk (below_step (by repeat (first | (with_reducible first | exact HB.out | apply below_alloc | apply pw_below_drewN | apply below_drew1) | exact HB.out)) hb); have n1_ := Aside0.mk (hbox); have n2_ := Aside0.mk ((by rw [hg]; exact (below_size (by repeat (first | (with_reducible first | exact HB.out | apply below_alloc | apply pw_below_drewN | apply below_drew1) | exact HB.out))) : w.heap.size ≤ gb101)); have n3_ := Aside0.mk ((by rw [hg]; exact (below_size (by repeat (first | (with_reducible first | exact HB.out | apply below_alloc | apply pw_below_drewN | apply below_drew1) | exact HB.out))) : w.heap.size ≤ gb101)); clear HB; have HB := n0_; have BK101 := n1_; have GW101 := n2_; have GE101 := n3_; clear n0_ n1_ n2_ n3_; clear hb hbox hg; have hcz6_0 : w5.cell? ⟨gb101, 0, none⟩ = some (.slice A0_0 l0_0.length c0_0) := (blk_cell BK101.out 0).trans rfl; have hcz6_1 : w5.cell? ⟨gb101, 1, none⟩ = some (.slice A0_1 l0_1.length c0_1) := (blk_cell BK101.out 1).trans rfl; have hfz6_0 := blk_frozen BK101.out 0; have hfz6_1 := blk_frozen BK101.out 1) | (go_at_call 20; (with_reducible refine (scarfjointref05_Valid.calls k _ _ l0_0 _ _ l0_1 t102 _ ?side1 ?side2 ?side3 ?side4 A2.out).mono ?_); (case side1 => repeat (first | exact (Kd.C_below HR0_0.out HB.out) | (with_reducible refine Kd.C_alloc ?_ _) | (with_reducible refine Kd.C_drewN ?_ _) | (with_reducible refine Kd.C_drew ?_))); (case side2 => exact HC0_0.out); (case side3 => repeat (first | exact (Kd.C_below HR0_1.out HB.out) | (with_reducible refine Kd.C_alloc ?_ _) | (with_reducible refine Kd.C_drewN ?_ _) | (with_reducible refine Kd.C_drew ?_))); (case side4 => exact HC0_1.out); rintro e w7 ⟨rfl, hb⟩; have n0_ := Aside0.mk (blk_below (g := gb101) (o := .cells #[.slice A0_0 l0_0.length c0_0, .slice A0_1 l0_1.length c0_1] 25 (0, 0)) (by (with_reducible repeat (first | refine blk_drewN ?_ _ | refine blk_drew ?_ | refine blk_alloc ?_ _)); exact BK101.out) hb); have n1_ := Aside0.mk (below_step (by repeat (first | (with_reducible first | exact HB.out | apply below_alloc | apply pw_below_drewN | apply below_drew1 | refine below_set ?_ GE101.out) | exact HB.out)) hb); clear BK101; clear HB; have BK101 := n0_; have HB := n1_; clear n0_ n1_; (try clear hb); (try clear hb2); (try clear hk); (try clear hi); have hcz8_0 : w7.cell? ⟨gb101, 0, none⟩ = some (.slice A0_0 l0_0.length c0_0) := (blk_cell BK101.out 0).trans rfl; have hcz8_1 : w7.cell? ⟨gb101, 1, none⟩ = some (.slice A0_1 l0_1.length c0_1) := (blk_cell BK101.out 1).trans rfl; have hfz8_0 := blk_frozen BK101.out 0; have hfz8_1 := blk_frozen BK101.out 1) | (go_at_call 65; (with_reducible refine (scarfjointref05_Numbers.calls k 0 (l0_0.length : Int) t103 _ A4.out).mono ?_); rintro e w9 ⟨v104, rfl, ho0, hb⟩; have n0_ := Aside0.mk (Kd.R_lower ho0 (below_size (by repeat (first | (with_reducible first | exact HB.out | apply below_alloc | apply pw_below_drewN | apply below_drew1 | refine below_set ?_ GE101.out) | exact HB.out)))); have n1_ := Aside0.mk (blk_below (g := gb101) (o := .cells #[.slice A0_0 l0_0.length c0_0, .slice A0_1 l0_1.length c0_1] 25 (0, 0)) (by (with_reducible repeat (first | refine blk_drewN ?_ _ | refine blk_drew ?_ | refine blk_alloc ?_ _)); exact BK101.out) hb); have n2_ := Aside0.mk (below_step (by repeat (first | (with_reducible first | exact HB.out | apply below_alloc | apply pw_below_drewN | apply below_drew1 | refine below_set ?_ GE101.out) | exact HB.out)) hb); clear BK101; clear HB; have HO105 := n0_; have BK101 := n1_; have HB := n2_; clear n0_ n1_ n2_; (try clear hb); (try clear hb2); (try clear hk); (try clear hi); (try clear ho0))))
    go_loopg [6] k (fun kq v6 w' => ∃ (x5_1 : List Int) (x6_1 : Int), v6 = .int .i64 x6_1 ∧ Aside0 (scarfjointref05_Components.l0 kq x5_1 x6_1 l0_0 l0_1 = some (r1, r2)) ∧ Aside0 (kq ≤ k) ∧ Aside0 (Kd.R (Kd.int .i64) 3 w' w.heap.size (fun _ => True) v104 x5_1) ∧ Aside0 (w'.heap[gb101]? = some (.cells #[(.slice A0_0 l0_0.length c0_0), (.slice A0_1 l0_1.length c0_1)] 25 (0, 0))) ∧ Aside0 (Below w.heap.size w w'))
    case atStart => exact ⟨(t103), (0), (by first | rfl | (simp; done) | (simp [*]; done)), H', ⟨Nat.le_refl _⟩, ⟨by (with_reducible repeat (first | apply Kd.R_alloc | apply Kd.R_drewN | apply Kd.R_drew)); exact HO105.out⟩, ⟨by (with_reducible repeat (first | refine blk_drewN ?_ _ | refine blk_drew ?_ | refine blk_alloc ?_ _)); exact BK101.out⟩, ⟨by repeat (first | (with_reducible first | exact HB.out | apply below_alloc | apply pw_below_drewN | apply below_drew1 | refine below_set ?_ GE101.out) | exact HB.out)⟩⟩
    case round =>
      clear H'
      try clear c2
      try clear p2
      try clear c3
      try clear c3b0
      try clear c3b1
      try clear hcz6_0
      try clear hcz6_1
      try clear hcz8_0
      try clear hcz8_1
      try clear hfz6_0
      try clear hfz6_1
      try clear hfz8_0
      try clear hfz8_1
      obtain ⟨x5_1, x6_1, rfl, HA, HK1, HO_5, BK101, HB⟩ := hrel
      cases gk with
      | zero => exact absurd HA.out (by simp [scarfjointref05_Components.l0])
      | succ k1 =>
        have H := HA.out
        clear HA
        simp only [scarfjointref05_Components.l0] at H
        by_cases c10 : x6_1 < (l0_0.length : Int)
        · rw [if_pos c10] at H
          have c10b0 : decide (x6_1 < (l0_0.length : Int)) = true := decide_eq_true c10
          clear c10
          have H' := Aside0.mk H
          clear H
          have hcz11_0 : wr.cell? ⟨gb101, 0, none⟩ = some (.slice A0_0 l0_0.length c0_0) := (blk_cell BK101.out 0).trans rfl
          have hcz11_1 : wr.cell? ⟨gb101, 1, none⟩ = some (.slice A0_1 l0_1.length c0_1) := (blk_cell BK101.out 1).trans rfl
          have hfz11_0 := blk_frozen BK101.out 0
          have hfz11_1 := blk_frozen BK101.out 1
          go_wp2
          repeat (go_quiet (fail); try go_wp2)
          go_loopg [7] k1 (fun kq v7 w' => ∃ (x5_2 : List Int) (x7_2 : Int), v7 = .int .i64 x7_2 ∧ Aside0 (scarfjointref05_Components.l1 kq x5_2 x6_1 x7_2 l0_0 l0_1 = some (r1, r2)) ∧ Aside0 (kq ≤ k1) ∧ Aside0 (Kd.R (Kd.int .i64) 3 w' w.heap.size (fun _ => True) v104 x5_2) ∧ Aside0 (w'.heap[gb101]? = some (.cells #[(.slice A0_0 l0_0.length c0_0), (.slice A0_1 l0_1.length c0_1)] 25 (0, 0))) ∧ Aside0 (Below w.heap.size w w'))
          case atStart => exact ⟨(x5_1), (0), (by first | rfl | (simp; done) | (simp [*]; done)), H', ⟨Nat.le_refl _⟩, ⟨by (with_reducible repeat (first | apply Kd.R_alloc | apply Kd.R_drewN | apply Kd.R_drew)); exact HO_5.out⟩, ⟨by (with_reducible repeat (first | refine blk_drewN ?_ _ | refine blk_drew ?_ | refine blk_alloc ?_ _)); exact BK101.out⟩, ⟨by repeat (first | (with_reducible first | exact HB.out | apply below_alloc | apply pw_below_drewN | apply below_drew1 | refine below_set ?_ GE101.out) | exact HB.out)⟩⟩
          case round =>
            clear H'
            try clear c1
            try clear c2
            try clear p2
            try clear c3
            try clear c3b0
            try clear c3b1
            try clear c10
            try clear c10b0
            try clear hcz11_0
            try clear hcz11_1
            try clear hcz6_0
            try clear hcz6_1
            try clear hcz8_0
            try clear hcz8_1
            try clear hfz11_0
            try clear hfz11_1
            try clear hfz6_0
            try clear hfz6_1
            try clear hfz8_0
            try clear hfz8_1
            try clear p2
            obtain ⟨x5_2, x7_2, rfl, HA, HK2, HO_5, BK101, HB⟩ := hrel
            cases gk with
            | zero => exact absurd HA.out (by simp [scarfjointref05_Components.l1])
            | succ k2 =>
              have H := HA.out
              clear HA
              simp only [scarfjointref05_Components.l1] at H
              by_cases c12 : x7_2 < (l0_1.length : Int)
              · rw [if_pos c12] at H
                have c12b0 : decide (x7_2 < (l0_1.length : Int)) = true := decide_eq_true c12
                clear c12
                by_cases c13 : 0 ≤ x7_2
                · rw [if_pos c13] at H
                  have c13b0 : decide (0 ≤ x7_2) = true := decide_eq_true c13
                  clear c13
                  by_cases c14 : 0 ≤ ((rd_T78 l0_1 x7_2).f1)
                  · rw [if_pos c14] at H
                    have c14b0 : decide (0 ≤ ((rd_T78 l0_1 x7_2).f1)) = true := decide_eq_true c14
                    clear c14
                    by_cases c15 : ((rd_T78 l0_1 x7_2).f1) < (x5_2.length : Int)
                    · rw [if_pos c15] at H
                      have c15b0 : decide (((rd_T78 l0_1 x7_2).f1) < (x5_2.length : Int)) = true := decide_eq_true c15
                      clear c15
                      by_cases c16 : 0 ≤ ((rd_T78 l0_1 x7_2).f2)
                      · rw [if_pos c16] at H
                        have c16b0 : decide (0 ≤ ((rd_T78 l0_1 x7_2).f2)) = true := decide_eq_true c16
                        clear c16
                        by_cases c17 : ((rd_T78 l0_1 x7_2).f2) < (x5_2.length : Int)
                        · rw [if_pos c17] at H
                          have c17b0 : decide (((rd_T78 l0_1 x7_2).f2) < (x5_2.length : Int)) = true := decide_eq_true c17
                          clear c17
                          obtain ⟨ji18, hji18⟩ : ∃ j_ : Int, (mn (rd x5_2 ((rd_T78 l0_1 x7_2).f1)) (rd x5_2 ((rd_T78 l0_1 x7_2).f2))) = j_ := ⟨_, rfl⟩
                          replace H : (scarfjointref05_Components.l1 k2 ((x5_2.set (((rd_T78 l0_1 x7_2).f1) : Int).toNat (ji18)).set (((rd_T78 l0_1 x7_2).f2) : Int).toNat (ji18)) x6_1 (wrap64 (x7_2 + 1)) l0_0 l0_1) = some (r1, r2) := by first | (rw [hji18] at H; exact H) | (simp only [hji18] at H ⊢; exact H)
                          have hji18_ : (if (rd x5_2 ((rd_T78 l0_1 x7_2).f2)) < (rd x5_2 ((rd_T78 l0_1 x7_2).f1)) then (rd x5_2 ((rd_T78 l0_1 x7_2).f2)) else (rd x5_2 ((rd_T78 l0_1 x7_2).f1))) = ji18 := hji18
                          obtain ⟨y110, hy110⟩ : ∃ y_ : List Int, y_ = (x5_2.set (((rd_T78 l0_1 x7_2).f1) : Int).toNat (ji18)) := ⟨_, rfl⟩
                          replace H : (scarfjointref05_Components.l1 k2 (y110.set (((rd_T78 l0_1 x7_2).f2) : Int).toNat (ji18)) x6_1 (wrap64 (x7_2 + 1)) l0_0 l0_1) = some (r1, r2) := by first | (rw [hy110]; with_reducible exact H) | (have H2_ := (Option.bind_some _ _).symm.trans H; rw [hy110]; with_reducible exact H2_) | (have H2_ := (Option.bind_some _ _).symm.trans H; with_reducible exact H2_) | with_reducible exact H | (rw [hy110]; exact H) | exact H
                          have Ny110 := Aside0.mk hy110
                          clear hy110
                          obtain ⟨y111, hy111⟩ : ∃ y_ : List Int, y_ = (y110.set (((rd_T78 l0_1 x7_2).f2) : Int).toNat (ji18)) := ⟨_, rfl⟩
                          replace H : (scarfjointref05_Components.l1 k2 y111 x6_1 (wrap64 (x7_2 + 1)) l0_0 l0_1) = some (r1, r2) := by first | (rw [hy111]; with_reducible exact H) | (have H2_ := (Option.bind_some _ _).symm.trans H; rw [hy111]; with_reducible exact H2_) | (have H2_ := (Option.bind_some _ _).symm.trans H; with_reducible exact H2_) | with_reducible exact H | (rw [hy111]; exact H) | exact H
                          have Ny111 := Aside0.mk hy111
                          clear hy111
                          have H' := Aside0.mk H
                          clear H
                          have hcz21_0 : wr.cell? ⟨gb101, 0, none⟩ = some (.slice A0_0 l0_0.length c0_0) := (blk_cell BK101.out 0).trans rfl
                          have hcz21_1 : wr.cell? ⟨gb101, 1, none⟩ = some (.slice A0_1 l0_1.length c0_1) := (blk_cell BK101.out 1).trans rfl
                          have hfz21_0 := blk_frozen BK101.out 0
                          have hfz21_1 := blk_frozen BK101.out 1
                          have p106 : 0 ≤ (x7_2 : Int) := of_decide_eq_true (by first | (with_reducible assumption) | assumption)
                          have q106 : x7_2 < (l0_1.length : Int) := of_decide_eq_true (by first | (with_reducible assumption) | assumption)
                          obtain ⟨ad106, e106, hx106_0, hx106_1, hx106_2⟩ := at_T78 HR0_1.out x7_2 p106 q106
                          cases e106
                          replace hx106_0 := (HB.out.cell (World.block_lt_of_cell? w _ hx106_0)).trans hx106_0
                          replace hx106_1 := (HB.out.cell (World.block_lt_of_cell? w _ hx106_1)).trans hx106_1
                          replace hx106_2 := (HB.out.cell (World.block_lt_of_cell? w _ hx106_2)).trans hx106_2
                          replace p106 := eq_true p106
                          replace q106 := eq_true q106
                          have p107 : 0 ≤ (x7_2 : Int) := of_decide_eq_true (by first | (with_reducible assumption) | assumption)
                          have q107 : x7_2 < (l0_1.length : Int) := of_decide_eq_true (by first | (with_reducible assumption) | assumption)
                          obtain ⟨ad107, e107, hx107_0, hx107_1, hx107_2⟩ := at_T78 HR0_1.out x7_2 p107 q107
                          obtain rfl : ad106 = ad107 := (by injection e107)
                          replace hx107_0 := (HB.out.cell (World.block_lt_of_cell? w _ hx107_0)).trans hx107_0
                          replace hx107_1 := (HB.out.cell (World.block_lt_of_cell? w _ hx107_1)).trans hx107_1
                          replace hx107_2 := (HB.out.cell (World.block_lt_of_cell? w _ hx107_2)).trans hx107_2
                          replace p107 := eq_true p107
                          replace q107 := eq_true q107
                          obtain ⟨Ao22, co22, eo22⟩ := Kd.R_slice HO_5.out
                          subst eo22
                          have p108 : 0 ≤ (((rd_T78 l0_1 x7_2).f1) : Int) := of_decide_eq_true (by first | (with_reducible assumption) | assumption)
                          have q108 : ((rd_T78 l0_1 x7_2).f1) < (x5_2.length : Int) := of_decide_eq_true (by first | (with_reducible assumption) | assumption)
                          obtain ⟨ad108, e108, hx108_0⟩ := Kd.at_int (Kd.R_reads' HO_5.out).2.2 ((rd_T78 l0_1 x7_2).f1) p108 q108
                          cases e108
                          replace p108 := eq_true p108
                          replace q108 := eq_true q108
                          have p109 : 0 ≤ (((rd_T78 l0_1 x7_2).f2) : Int) := of_decide_eq_true (by first | (with_reducible assumption) | assumption)
                          have q109 : ((rd_T78 l0_1 x7_2).f2) < (x5_2.length : Int) := of_decide_eq_true (by first | (with_reducible assumption) | assumption)
                          obtain ⟨ad109, e109, hx109_0⟩ := Kd.at_int (Kd.R_reads' HO_5.out).2.2 ((rd_T78 l0_1 x7_2).f2) p109 q109
                          obtain rfl : ad108 = ad109 := (by injection e109)
                          replace p109 := eq_true p109
                          replace q109 := eq_true q109
                          have p19 : 0 ≤ (((rd_T78 l0_1 x7_2).f1) : Int) := of_decide_eq_true (by first | (with_reducible assumption) | assumption)
                          have q19 : (((rd_T78 l0_1 x7_2).f1) : Int) < ((x5_2.length : Int) : Int) := of_decide_eq_true (by first | (with_reducible assumption) | assumption)
                          obtain ⟨go19, co19, eo19, gb19, gl19, cl19, HG19⟩ := Kd.R_form HO_5.out (by omega)
                          (first | cases eo19 | (injection eo19 with ea_ en_ ec_; (first | subst ea_ | (injection ea_ with ea_; subst ea_)); subst ec_; clear en_))
                          have GB19 := Aside0.mk gb19
                          have GG19 := Aside0.mk HG19
                          clear gb19 gl19 HG19
                          (first | simp only [add_plain] at hx108_0 | skip)
                          (first | simp only [add_plain] at hx109_0 | skip)
                          obtain ⟨hx19_0, hf19_0⟩ := Kd.R_celln 0 HO_5.out (((rd_T78 l0_1 x7_2).f1) : Int) p19 q19
                          replace p19 := eq_true p19
                          replace q19 := eq_true q19
                          have HP23 := Kd.R_putg HO_5.out (((rd_T78 l0_1 x7_2).f1) : Int) ji18
                          go_wp2_with (first | ((with_reducible refine gate_store (t := 3) (p := 66) rfl ?_); (try (rw [drewN_self wr]; generalize hq_ : World.drewN wr _ = wr; have n0_ := Aside0.mk (Kd.R_at hq_ HO_5.out); have n1_ := Aside0.mk (blk_at hq_ BK101.out); have n2_ := Aside0.mk (below_at hq_ HB.out); clear hq_ HO_5 BK101 HB; have HO_5 := n0_; have BK101 := n1_; have HB := n2_; clear n0_ n1_ n2_; (try (obtain ⟨hy_q, hz_q⟩ := Kd.R_celln 0 HO_5.out (((rd_T78 l0_1 x7_2).f1) : Int) (of_decide_eq_true (by first | (with_reducible assumption) | assumption)) (of_decide_eq_true (by first | (with_reducible assumption) | assumption)))); (try (have HP23 := Kd.R_putg HO_5.out (((rd_T78 l0_1 x7_2).f1) : Int) ji18)))); refine store_event (t := 3) (p := 66) (v := ?vo_w24) (w1 := (wr.setCell ⟨go19, (((rd_T78 l0_1 x7_2).f1) : Int).toNat, none⟩ (.int .i64 ji18))) ?hg ?ho ?hn ?hr ?_; (case ho => rfl); (case hg => rfl); (case hn => rfl); (case hr => first | (go_simp; done) | (go_simp; rfl)); intro w24 hw; have hg : wr.grownBy w24 (some go19) := (by rw [hw]; exact HP23.2); have hp_ : Kd.R (Kd.int .i64) 3 w24 w.heap.size (fun _ => True) (.slice (some ⟨go19, 0, none⟩) x5_2.length co22) y110 := (by rw [hw, Ny110.out]; exact HP23.1); clear HP23; have n0_ := Aside0.mk (hp_); have n1_ := Aside0.mk (blk_grown (g := gb101) (o := .cells #[.slice A0_0 l0_0.length c0_0, .slice (some ad106) l0_1.length c0_1] 25 (0, 0)) (by (with_reducible repeat (first | refine blk_drewN ?_ _ | refine blk_drew ?_ | refine blk_alloc ?_ _)); exact BK101.out) hg (Kd.R_ne HO_5.out BK101.out (by decide))); have n2_ := Aside0.mk ((by rw [hw]; exact below_set (HB.out) GB19.out : Below w.heap.size w w24)); clear HO_5; clear BK101; clear HB; have HO_5 := n0_; have BK101 := n1_; have HB := n2_; clear n0_ n1_ n2_; clear hg hw hp_; have p20 : 0 ≤ (((rd_T78 l0_1 x7_2).f2) : Int) := of_decide_eq_true (by first | (with_reducible assumption) | assumption); have q20 : (((rd_T78 l0_1 x7_2).f2) : Int) < ((x5_2.length : Int) : Int) := of_decide_eq_true (by first | (with_reducible assumption) | assumption); obtain ⟨hx20_0, hf20_0⟩ := Kd.R_celln 0 HO_5.out (((rd_T78 l0_1 x7_2).f2) : Int) p20 q20; replace p20 := eq_true p20; replace q20 := eq_true q20; obtain ⟨hy25_, hz25_⟩ := Kd.R_celln 0 HO_5.out (((rd_T78 l0_1 x7_2).f2) : Int) (of_decide_eq_true (by first | (with_reducible assumption) | assumption)) (of_decide_eq_true (by first | (with_reducible assumption) | assumption)); have HP25 := Kd.R_putg HO_5.out (((rd_T78 l0_1 x7_2).f2) : Int) ji18) | ((with_reducible refine gate_store (t := 3) (p := 67) rfl ?_); (try (rw [drewN_self w24]; generalize hq_ : World.drewN w24 _ = w24; have n0_ := Aside0.mk (Kd.R_at hq_ HO_5.out); have n1_ := Aside0.mk (blk_at hq_ BK101.out); have n2_ := Aside0.mk (below_at hq_ HB.out); clear hq_ HO_5 BK101 HB; have HO_5 := n0_; have BK101 := n1_; have HB := n2_; clear n0_ n1_ n2_; (try (obtain ⟨hy25_, hz25_⟩ := Kd.R_celln 0 HO_5.out (((rd_T78 l0_1 x7_2).f2) : Int) (of_decide_eq_true (by first | (with_reducible assumption) | assumption)) (of_decide_eq_true (by first | (with_reducible assumption) | assumption)))); (try (have HP25 := Kd.R_putg HO_5.out (((rd_T78 l0_1 x7_2).f2) : Int) ji18)))); refine store_event (t := 3) (p := 67) (v := ?vo_w26) (w1 := (w24.setCell ⟨go19, (((rd_T78 l0_1 x7_2).f2) : Int).toNat, none⟩ (.int .i64 ji18))) ?hg ?ho ?hn ?hr ?_; (case ho => rfl); (case hg => rfl); (case hn => rfl); (case hr => first | (go_simp; done) | (go_simp; rfl)); intro w26 hw; have hg : w24.grownBy w26 (some go19) := (by rw [hw]; exact HP25.2); have hp_ : Kd.R (Kd.int .i64) 3 w26 w.heap.size (fun _ => True) (.slice (some ⟨go19, 0, none⟩) x5_2.length co22) y111 := (by rw [hw, Ny111.out]; exact HP25.1); clear HP25; have n0_ := Aside0.mk (hp_); have n1_ := Aside0.mk (blk_grown (g := gb101) (o := .cells #[.slice A0_0 l0_0.length c0_0, .slice (some ad106) l0_1.length c0_1] 25 (0, 0)) (by (with_reducible repeat (first | refine blk_drewN ?_ _ | refine blk_drew ?_ | refine blk_alloc ?_ _)); exact BK101.out) hg (Kd.R_ne HO_5.out BK101.out (by decide))); have n2_ := Aside0.mk ((by rw [hw]; exact below_set (HB.out) GB19.out : Below w.heap.size w w26)); clear HO_5; clear BK101; clear HB; have HO_5 := n0_; have BK101 := n1_; have HB := n2_; clear n0_ n1_ n2_; clear hg hw hp_))
                          repeat (go_quiet (first | ((with_reducible refine gate_store (t := 3) (p := 66) rfl ?_); (try (rw [drewN_self wr]; generalize hq_ : World.drewN wr _ = wr; have n0_ := Aside0.mk (Kd.R_at hq_ HO_5.out); have n1_ := Aside0.mk (blk_at hq_ BK101.out); have n2_ := Aside0.mk (below_at hq_ HB.out); clear hq_ HO_5 BK101 HB; have HO_5 := n0_; have BK101 := n1_; have HB := n2_; clear n0_ n1_ n2_; (try (obtain ⟨hy_q, hz_q⟩ := Kd.R_celln 0 HO_5.out (((rd_T78 l0_1 x7_2).f1) : Int) (of_decide_eq_true (by first | (with_reducible assumption) | assumption)) (of_decide_eq_true (by first | (with_reducible assumption) | assumption)))); (try (have HP23 := Kd.R_putg HO_5.out (((rd_T78 l0_1 x7_2).f1) : Int) ji18)))); refine store_event (t := 3) (p := 66) (v := ?vo_w24) (w1 := (wr.setCell ⟨go19, (((rd_T78 l0_1 x7_2).f1) : Int).toNat, none⟩ (.int .i64 ji18))) ?hg ?ho ?hn ?hr ?_; (case ho => rfl); (case hg => rfl); (case hn => rfl); (case hr => first | (go_simp; done) | (go_simp; rfl)); intro w24 hw; have hg : wr.grownBy w24 (some go19) := (by rw [hw]; exact HP23.2); have hp_ : Kd.R (Kd.int .i64) 3 w24 w.heap.size (fun _ => True) (.slice (some ⟨go19, 0, none⟩) x5_2.length co22) y110 := (by rw [hw, Ny110.out]; exact HP23.1); clear HP23; have n0_ := Aside0.mk (hp_); have n1_ := Aside0.mk (blk_grown (g := gb101) (o := .cells #[.slice A0_0 l0_0.length c0_0, .slice (some ad106) l0_1.length c0_1] 25 (0, 0)) (by (with_reducible repeat (first | refine blk_drewN ?_ _ | refine blk_drew ?_ | refine blk_alloc ?_ _)); exact BK101.out) hg (Kd.R_ne HO_5.out BK101.out (by decide))); have n2_ := Aside0.mk ((by rw [hw]; exact below_set (HB.out) GB19.out : Below w.heap.size w w24)); clear HO_5; clear BK101; clear HB; have HO_5 := n0_; have BK101 := n1_; have HB := n2_; clear n0_ n1_ n2_; clear hg hw hp_; have p20 : 0 ≤ (((rd_T78 l0_1 x7_2).f2) : Int) := of_decide_eq_true (by first | (with_reducible assumption) | assumption); have q20 : (((rd_T78 l0_1 x7_2).f2) : Int) < ((x5_2.length : Int) : Int) := of_decide_eq_true (by first | (with_reducible assumption) | assumption); obtain ⟨hx20_0, hf20_0⟩ := Kd.R_celln 0 HO_5.out (((rd_T78 l0_1 x7_2).f2) : Int) p20 q20; replace p20 := eq_true p20; replace q20 := eq_true q20; obtain ⟨hy25_, hz25_⟩ := Kd.R_celln 0 HO_5.out (((rd_T78 l0_1 x7_2).f2) : Int) (of_decide_eq_true (by first | (with_reducible assumption) | assumption)) (of_decide_eq_true (by first | (with_reducible assumption) | assumption)); have HP25 := Kd.R_putg HO_5.out (((rd_T78 l0_1 x7_2).f2) : Int) ji18) | ((with_reducible refine gate_store (t := 3) (p := 67) rfl ?_); (try (rw [drewN_self w24]; generalize hq_ : World.drewN w24 _ = w24; have n0_ := Aside0.mk (Kd.R_at hq_ HO_5.out); have n1_ := Aside0.mk (blk_at hq_ BK101.out); have n2_ := Aside0.mk (below_at hq_ HB.out); clear hq_ HO_5 BK101 HB; have HO_5 := n0_; have BK101 := n1_; have HB := n2_; clear n0_ n1_ n2_; (try (obtain ⟨hy25_, hz25_⟩ := Kd.R_celln 0 HO_5.out (((rd_T78 l0_1 x7_2).f2) : Int) (of_decide_eq_true (by first | (with_reducible assumption) | assumption)) (of_decide_eq_true (by first | (with_reducible assumption) | assumption)))); (try (have HP25 := Kd.R_putg HO_5.out (((rd_T78 l0_1 x7_2).f2) : Int) ji18)))); refine store_event (t := 3) (p := 67) (v := ?vo_w26) (w1 := (w24.setCell ⟨go19, (((rd_T78 l0_1 x7_2).f2) : Int).toNat, none⟩ (.int .i64 ji18))) ?hg ?ho ?hn ?hr ?_; (case ho => rfl); (case hg => rfl); (case hn => rfl); (case hr => first | (go_simp; done) | (go_simp; rfl)); intro w26 hw; have hg : w24.grownBy w26 (some go19) := (by rw [hw]; exact HP25.2); have hp_ : Kd.R (Kd.int .i64) 3 w26 w.heap.size (fun _ => True) (.slice (some ⟨go19, 0, none⟩) x5_2.length co22) y111 := (by rw [hw, Ny111.out]; exact HP25.1); clear HP25; have n0_ := Aside0.mk (hp_); have n1_ := Aside0.mk (blk_grown (g := gb101) (o := .cells #[.slice A0_0 l0_0.length c0_0, .slice (some ad106) l0_1.length c0_1] 25 (0, 0)) (by (with_reducible repeat (first | refine blk_drewN ?_ _ | refine blk_drew ?_ | refine blk_alloc ?_ _)); exact BK101.out) hg (Kd.R_ne HO_5.out BK101.out (by decide))); have n2_ := Aside0.mk ((by rw [hw]; exact below_set (HB.out) GB19.out : Below w.heap.size w w26)); clear HO_5; clear BK101; clear HB; have HO_5 := n0_; have BK101 := n1_; have HB := n2_; clear n0_ n1_ n2_; clear hg hw hp_)); try go_wp2_with (first | ((with_reducible refine gate_store (t := 3) (p := 66) rfl ?_); (try (rw [drewN_self wr]; generalize hq_ : World.drewN wr _ = wr; have n0_ := Aside0.mk (Kd.R_at hq_ HO_5.out); have n1_ := Aside0.mk (blk_at hq_ BK101.out); have n2_ := Aside0.mk (below_at hq_ HB.out); clear hq_ HO_5 BK101 HB; have HO_5 := n0_; have BK101 := n1_; have HB := n2_; clear n0_ n1_ n2_; (try (obtain ⟨hy_q, hz_q⟩ := Kd.R_celln 0 HO_5.out (((rd_T78 l0_1 x7_2).f1) : Int) (of_decide_eq_true (by first | (with_reducible assumption) | assumption)) (of_decide_eq_true (by first | (with_reducible assumption) | assumption)))); (try (have HP23 := Kd.R_putg HO_5.out (((rd_T78 l0_1 x7_2).f1) : Int) ji18)))); refine store_event (t := 3) (p := 66) (v := ?vo_w24) (w1 := (wr.setCell ⟨go19, (((rd_T78 l0_1 x7_2).f1) : Int).toNat, none⟩ (.int .i64 ji18))) ?hg ?ho ?hn ?hr ?_; (case ho => rfl); (case hg => rfl); (case hn => rfl); (case hr => first | (go_simp; done) | (go_simp; rfl)); intro w24 hw; have hg : wr.grownBy w24 (some go19) := (by rw [hw]; exact HP23.2); have hp_ : Kd.R (Kd.int .i64) 3 w24 w.heap.size (fun _ => True) (.slice (some ⟨go19, 0, none⟩) x5_2.length co22) y110 := (by rw [hw, Ny110.out]; exact HP23.1); clear HP23; have n0_ := Aside0.mk (hp_); have n1_ := Aside0.mk (blk_grown (g := gb101) (o := .cells #[.slice A0_0 l0_0.length c0_0, .slice (some ad106) l0_1.length c0_1] 25 (0, 0)) (by (with_reducible repeat (first | refine blk_drewN ?_ _ | refine blk_drew ?_ | refine blk_alloc ?_ _)); exact BK101.out) hg (Kd.R_ne HO_5.out BK101.out (by decide))); have n2_ := Aside0.mk ((by rw [hw]; exact below_set (HB.out) GB19.out : Below w.heap.size w w24)); clear HO_5; clear BK101; clear HB; have HO_5 := n0_; have BK101 := n1_; have HB := n2_; clear n0_ n1_ n2_; clear hg hw hp_; have p20 : 0 ≤ (((rd_T78 l0_1 x7_2).f2) : Int) := of_decide_eq_true (by first | (with_reducible assumption) | assumption); have q20 : (((rd_T78 l0_1 x7_2).f2) : Int) < ((x5_2.length : Int) : Int) := of_decide_eq_true (by first | (with_reducible assumption) | assumption); obtain ⟨hx20_0, hf20_0⟩ := Kd.R_celln 0 HO_5.out (((rd_T78 l0_1 x7_2).f2) : Int) p20 q20; replace p20 := eq_true p20; replace q20 := eq_true q20; obtain ⟨hy25_, hz25_⟩ := Kd.R_celln 0 HO_5.out (((rd_T78 l0_1 x7_2).f2) : Int) (of_decide_eq_true (by first | (with_reducible assumption) | assumption)) (of_decide_eq_true (by first | (with_reducible assumption) | assumption)); have HP25 := Kd.R_putg HO_5.out (((rd_T78 l0_1 x7_2).f2) : Int) ji18) | ((with_reducible refine gate_store (t := 3) (p := 67) rfl ?_); (try (rw [drewN_self w24]; generalize hq_ : World.drewN w24 _ = w24; have n0_ := Aside0.mk (Kd.R_at hq_ HO_5.out); have n1_ := Aside0.mk (blk_at hq_ BK101.out); have n2_ := Aside0.mk (below_at hq_ HB.out); clear hq_ HO_5 BK101 HB; have HO_5 := n0_; have BK101 := n1_; have HB := n2_; clear n0_ n1_ n2_; (try (obtain ⟨hy25_, hz25_⟩ := Kd.R_celln 0 HO_5.out (((rd_T78 l0_1 x7_2).f2) : Int) (of_decide_eq_true (by first | (with_reducible assumption) | assumption)) (of_decide_eq_true (by first | (with_reducible assumption) | assumption)))); (try (have HP25 := Kd.R_putg HO_5.out (((rd_T78 l0_1 x7_2).f2) : Int) ji18)))); refine store_event (t := 3) (p := 67) (v := ?vo_w26) (w1 := (w24.setCell ⟨go19, (((rd_T78 l0_1 x7_2).f2) : Int).toNat, none⟩ (.int .i64 ji18))) ?hg ?ho ?hn ?hr ?_; (case ho => rfl); (case hg => rfl); (case hn => rfl); (case hr => first | (go_simp; done) | (go_simp; rfl)); intro w26 hw; have hg : w24.grownBy w26 (some go19) := (by rw [hw]; exact HP25.2); have hp_ : Kd.R (Kd.int .i64) 3 w26 w.heap.size (fun _ => True) (.slice (some ⟨go19, 0, none⟩) x5_2.length co22) y111 := (by rw [hw, Ny111.out]; exact HP25.1); clear HP25; have n0_ := Aside0.mk (hp_); have n1_ := Aside0.mk (blk_grown (g := gb101) (o := .cells #[.slice A0_0 l0_0.length c0_0, .slice (some ad106) l0_1.length c0_1] 25 (0, 0)) (by (with_reducible repeat (first | refine blk_drewN ?_ _ | refine blk_drew ?_ | refine blk_alloc ?_ _)); exact BK101.out) hg (Kd.R_ne HO_5.out BK101.out (by decide))); have n2_ := Aside0.mk ((by rw [hw]; exact below_set (HB.out) GB19.out : Below w.heap.size w w26)); clear HO_5; clear BK101; clear HB; have HO_5 := n0_; have BK101 := n1_; have HB := n2_; clear n0_ n1_ n2_; clear hg hw hp_)))
                          go_roundg k2
                          case measure => have := HK1.out; have := HK2.out; omega
                          case rel => exact ⟨(y111), (wrap64 (x7_2 + 1)), (by first | rfl | (simp; done) | (simp [*]; done)), H', ⟨by have := HK1.out; have := HK2.out; omega⟩, ⟨by (with_reducible repeat (first | apply Kd.R_alloc | apply Kd.R_drewN | apply Kd.R_drew)); exact HO_5.out⟩, ⟨by (with_reducible repeat (first | refine blk_drewN ?_ _ | refine blk_drew ?_ | refine blk_alloc ?_ _)); exact BK101.out⟩, ⟨by repeat (first | (with_reducible first | exact HB.out | apply below_alloc | apply pw_below_drewN | apply below_drew1 | refine below_set ?_ GE101.out) | exact HB.out)⟩⟩
                        · rw [if_neg c17] at H
                          exact absurd H (by simp)
                      · rw [if_neg c16] at H
                        exact absurd H (by simp)
                    · rw [if_neg c15] at H
                      exact absurd H (by simp)
                  · rw [if_neg c14] at H
                    exact absurd H (by simp)
                · rw [if_neg c13] at H
                  exact absurd H (by simp)
              · rw [if_neg c12] at H
                have c12b0 : decide (x7_2 < (l0_1.length : Int)) = false := decide_eq_false c12
                clear c12
                have H' := Aside0.mk H
                clear H
                have hcz27_0 : wr.cell? ⟨gb101, 0, none⟩ = some (.slice A0_0 l0_0.length c0_0) := (blk_cell BK101.out 0).trans rfl
                have hcz27_1 : wr.cell? ⟨gb101, 1, none⟩ = some (.slice A0_1 l0_1.length c0_1) := (blk_cell BK101.out 1).trans rfl
                have hfz27_0 := blk_frozen BK101.out 0
                have hfz27_1 := blk_frozen BK101.out 1
                go_wp2
                repeat (go_quiet (fail); try go_wp2)
                go_roundg k2
                case measure => have := HK1.out; have := HK2.out; omega
                case rel => exact ⟨(x5_2), (wrap64 (x6_1 + 1)), (by first | rfl | (simp; done) | (simp [*]; done)), H', ⟨by have := HK1.out; have := HK2.out; omega⟩, ⟨by (with_reducible repeat (first | apply Kd.R_alloc | apply Kd.R_drewN | apply Kd.R_drew)); exact HO_5.out⟩, ⟨by (with_reducible repeat (first | refine blk_drewN ?_ _ | refine blk_drew ?_ | refine blk_alloc ?_ _)); exact BK101.out⟩, ⟨by repeat (first | (with_reducible first | exact HB.out | apply below_alloc | apply pw_below_drewN | apply below_drew1 | refine below_set ?_ GE101.out) | exact HB.out)⟩⟩
        · rw [if_neg c10] at H
          have c10b0 : decide (x6_1 < (l0_0.length : Int)) = false := decide_eq_false c10
          clear c10
          have H' := Aside0.mk H
          clear H
          have hcz28_0 : wr.cell? ⟨gb101, 0, none⟩ = some (.slice A0_0 l0_0.length c0_0) := (blk_cell BK101.out 0).trans rfl
          have hcz28_1 : wr.cell? ⟨gb101, 1, none⟩ = some (.slice A0_1 l0_1.length c0_1) := (blk_cell BK101.out 1).trans rfl
          have hfz28_0 := blk_frozen BK101.out 0
          have hfz28_1 := blk_frozen BK101.out 1
          go_wp2
          repeat (go_quiet (fail); try go_wp2)
          go_loopg [11, 12] k1 (fun kq v11 v12 w' => ∃ (x11_2 : List (S27)) (x12_2 : Int), v12 = .int .i64 x12_2 ∧ Aside0 (scarfjointref05_Components.l2 kq x5_1 x11_2 x12_2 l0_0 l0_1 = some (r1, r2)) ∧ Aside0 (kq ≤ k1) ∧ Aside0 (Kd.R (Kd.int .i64) 3 w' w.heap.size (fun _ => True) v104 x5_1) ∧ Aside0 (Kd.S k27 27 w' w.heap.size (fun k_ => some k_ ≠ (v104 : Value).ownBlock) v11 x11_2) ∧ Aside0 (w'.heap[gb101]? = some (.cells #[(.slice A0_0 l0_0.length c0_0), (.slice A0_1 l0_1.length c0_1)] 25 (0, 0))) ∧ Aside0 (Below w.heap.size w w'))
          case atStart => exact ⟨(([] : List (S27))), (0), (by first | rfl | (simp; done) | (simp [*]; done)), H', ⟨Nat.le_refl _⟩, ⟨by (with_reducible repeat (first | apply Kd.R_alloc | apply Kd.R_drewN | apply Kd.R_drew)); exact HO_5.out⟩, ⟨by first | exact Kd.S_nil _ _ _ _ _ | exact Kd.N_nil _ _ _ _ _ | exact Kd.V_nil _ _ _ _ _ | exact Kd.Q_nil _ _ _ _ _ | exact Kd.R_nil _ _ _ _ _⟩, ⟨by (with_reducible repeat (first | refine blk_drewN ?_ _ | refine blk_drew ?_ | refine blk_alloc ?_ _)); exact BK101.out⟩, ⟨by repeat (first | (with_reducible first | exact HB.out | apply below_alloc | apply pw_below_drewN | apply below_drew1 | refine below_set ?_ GE101.out) | exact HB.out)⟩⟩
          case round =>
            clear H'
            try clear c1
            try clear p1
            try clear q1
            try clear hx1
            try clear hf1
            try clear c2
            try clear p2
            try clear q2
            try clear hx2
            try clear hf2
            try clear c3
            try clear c3b0
            try clear c3b1
            try clear p6
            try clear c10
            try clear c10b0
            try clear p10
            try clear q10
            try clear hx10
            try clear c12
            try clear c12b0
            try clear c13
            try clear c13b0
            try clear c14
            try clear c14b0
            try clear c15
            try clear c15b0
            try clear c16
            try clear c16b0
            try clear c17
            try clear c17b0
            try clear p19
            try clear q19
            try clear hx19
            try clear hf19
            try clear p20
            try clear q20
            try clear hx20
            try clear hf20
            try clear c22
            try clear hcz11_0
            try clear hcz11_1
            try clear hcz21_0
            try clear hcz21_1
            try clear hcz27_0
            try clear hcz27_1
            try clear hcz28_0
            try clear hcz28_1
            try clear hcz6_0
            try clear hcz6_1
            try clear hcz8_0
            try clear hcz8_1
            try clear hfz11_0
            try clear hfz11_1
            try clear hfz21_0
            try clear hfz21_1
            try clear hfz27_0
            try clear hfz27_1
            try clear hfz28_0
            try clear hfz28_1
            try clear hfz6_0
            try clear hfz6_1
            try clear hfz8_0
            try clear hfz8_1
            try clear hx106_0
            try clear hx106_1
            try clear hx106_2
            try clear hx107_0
            try clear hx107_1
            try clear hx107_2
            try clear hx108_0
            try clear hx109_0
            try clear hx19_0
            try clear hx20_0
            try clear p106
            try clear p107
            try clear p108
            try clear p109
            try clear p19
            try clear p2
            try clear p20
            try clear q106
            try clear q107
            try clear q108
            try clear q109
            try clear q19
            try clear q20
            obtain ⟨x11_2, x12_2, rfl, HA, HK2, HO_5, HO_11, BK101, HB⟩ := hrel
            cases gk with
            | zero => exact absurd HA.out (by simp [scarfjointref05_Components.l2])
            | succ k2 =>
              have H := HA.out
              clear HA
              simp only [scarfjointref05_Components.l2] at H
              by_cases c29 : x12_2 < (l0_0.length : Int)
              · rw [if_pos c29] at H
                have c29b0 : decide (x12_2 < (l0_0.length : Int)) = true := decide_eq_true c29
                clear c29
                by_cases c30 : 0 ≤ x12_2
                · rw [if_pos c30] at H
                  have c30b0 : decide (0 ≤ x12_2) = true := decide_eq_true c30
                  clear c30
                  by_cases c31 : x12_2 < (x5_1.length : Int)
                  · rw [if_pos c31] at H
                    have c31b0 : decide (x12_2 < (x5_1.length : Int)) = true := decide_eq_true c31
                    clear c31
                    by_cases c32 : (rd x5_1 x12_2) = x12_2
                    · rw [if_pos c32] at H
                      have c32b0 : ((rd x5_1 x12_2) == x12_2) = true := beq_iff_eq.mpr c32
                      have c32b1 : ((rd x5_1 x12_2) != x12_2) = false := bne_eq_false_iff_eq.mpr c32
                      clear c32
                      have H' := Aside0.mk H
                      clear H
                      have hcz33_0 : wr.cell? ⟨gb101, 0, none⟩ = some (.slice A0_0 l0_0.length c0_0) := (blk_cell BK101.out 0).trans rfl
                      have hcz33_1 : wr.cell? ⟨gb101, 1, none⟩ = some (.slice A0_1 l0_1.length c0_1) := (blk_cell BK101.out 1).trans rfl
                      have hfz33_0 := blk_frozen BK101.out 0
                      have hfz33_1 := blk_frozen BK101.out 1
                      obtain ⟨Ao34, co34, eo34⟩ := Kd.R_slice HO_5.out
                      subst eo34
                      have p112 : 0 ≤ (x12_2 : Int) := of_decide_eq_true (by first | (with_reducible assumption) | assumption)
                      have q112 : x12_2 < (x5_1.length : Int) := of_decide_eq_true (by first | (with_reducible assumption) | assumption)
                      obtain ⟨ad112, e112, hx112_0⟩ := Kd.at_int (Kd.R_reads' HO_5.out).2.2 x12_2 p112 q112
                      cases e112
                      replace p112 := eq_true p112
                      replace q112 := eq_true q112
                      go_wp2_with (first | ((with_reducible refine gate_dst (N := 13) rfl ?_); refine box_event ?hg (N := 13) ?hd (cs := #[.slice none 0 0, .slice none 0 0]) (t := 27) ?hr ?_; (case hd => rfl); (case hg => rfl); (case hr => first | (go_simp; done) | (go_simp; rfl)); intro gb113 hg w35 hbox hb; have n0_ := Aside0.mk (Kd.R_below (by (with_reducible repeat (first | apply Kd.R_alloc | apply Kd.R_drewN | apply Kd.R_drew)); exact HO_5.out) hb); have n1_ := Aside0.mk (Kd.S_below (Kd.S_elderB (by (with_reducible repeat (first | apply Kd.S_alloc | apply Kd.S_drewN | apply Kd.S_drew)); exact HO_11.out) gb113 (Nat.le_of_eq hg.symm)) hb); have n2_ := Aside0.mk (blk_below (g := gb101) (o := .cells #[.slice A0_0 l0_0.length c0_0, .slice A0_1 l0_1.length c0_1] 25 (0, 0)) (by (with_reducible repeat (first | refine blk_drewN ?_ _ | refine blk_drew ?_ | refine blk_alloc ?_ _)); exact BK101.out) hb); have n3_ := Aside0.mk (below_step (by repeat (first | (with_reducible first | exact HB.out | apply below_alloc | apply pw_below_drewN | apply below_drew1 | refine below_set ?_ GE101.out) | exact HB.out)) hb); have n4_ := Aside0.mk (hbox); have n5_ := Aside0.mk ((by rw [hg]; exact (below_size (by repeat (first | (with_reducible first | exact HB.out | apply below_alloc | apply pw_below_drewN | apply below_drew1 | refine below_set ?_ GE101.out) | exact HB.out))) : w.heap.size ≤ gb113)); have n6_ := Aside0.mk ((by rw [hg]; exact (below_size (by repeat (first | (with_reducible first | exact HB.out | apply below_alloc | apply pw_below_drewN | apply below_drew1 | refine below_set ?_ GE101.out) | exact HB.out))) : w.heap.size ≤ gb113)); have n7_ := Aside0.mk ((by rw [hg]; exact Nat.ne_of_lt (blk_lt (g := gb101) (o := .cells #[.slice A0_0 l0_0.length c0_0, .slice A0_1 l0_1.length c0_1] 25 (0, 0)) (by (with_reducible repeat (first | refine blk_drewN ?_ _ | refine blk_drew ?_ | refine blk_alloc ?_ _)); exact BK101.out)) : gb101 ≠ gb113)); have n8_ := Aside0.mk ((by rw [hg]; exact Nat.ne_of_gt (blk_lt (g := gb101) (o := .cells #[.slice A0_0 l0_0.length c0_0, .slice A0_1 l0_1.length c0_1] 25 (0, 0)) (by (with_reducible repeat (first | refine blk_drewN ?_ _ | refine blk_drew ?_ | refine blk_alloc ?_ _)); exact BK101.out)) : gb113 ≠ gb101)); clear HO_5; clear HO_11; clear BK101; clear HB; have HO_5 := n0_; have HO_11 := n1_; have BK101 := n2_; have HB := n3_; have BK113 := n4_; have GW113 := n5_; have GE113 := n6_; have NB101_113 := n7_; have NB113_101 := n8_; clear n0_ n1_ n2_ n3_ n4_ n5_ n6_ n7_ n8_; clear hb hbox hg))
                      repeat (go_quiet (first | ((with_reducible refine gate_dst (N := 13) rfl ?_); refine box_event ?hg (N := 13) ?hd (cs := #[.slice none 0 0, .slice none 0 0]) (t := 27) ?hr ?_; (case hd => rfl); (case hg => rfl); (case hr => first | (go_simp; done) | (go_simp; rfl)); intro gb113 hg w35 hbox hb; have n0_ := Aside0.mk (Kd.R_below (by (with_reducible repeat (first | apply Kd.R_alloc | apply Kd.R_drewN | apply Kd.R_drew)); exact HO_5.out) hb); have n1_ := Aside0.mk (Kd.S_below (Kd.S_elderB (by (with_reducible repeat (first | apply Kd.S_alloc | apply Kd.S_drewN | apply Kd.S_drew)); exact HO_11.out) gb113 (Nat.le_of_eq hg.symm)) hb); have n2_ := Aside0.mk (blk_below (g := gb101) (o := .cells #[.slice A0_0 l0_0.length c0_0, .slice A0_1 l0_1.length c0_1] 25 (0, 0)) (by (with_reducible repeat (first | refine blk_drewN ?_ _ | refine blk_drew ?_ | refine blk_alloc ?_ _)); exact BK101.out) hb); have n3_ := Aside0.mk (below_step (by repeat (first | (with_reducible first | exact HB.out | apply below_alloc | apply pw_below_drewN | apply below_drew1 | refine below_set ?_ GE101.out) | exact HB.out)) hb); have n4_ := Aside0.mk (hbox); have n5_ := Aside0.mk ((by rw [hg]; exact (below_size (by repeat (first | (with_reducible first | exact HB.out | apply below_alloc | apply pw_below_drewN | apply below_drew1 | refine below_set ?_ GE101.out) | exact HB.out))) : w.heap.size ≤ gb113)); have n6_ := Aside0.mk ((by rw [hg]; exact (below_size (by repeat (first | (with_reducible first | exact HB.out | apply below_alloc | apply pw_below_drewN | apply below_drew1 | refine below_set ?_ GE101.out) | exact HB.out))) : w.heap.size ≤ gb113)); have n7_ := Aside0.mk ((by rw [hg]; exact Nat.ne_of_lt (blk_lt (g := gb101) (o := .cells #[.slice A0_0 l0_0.length c0_0, .slice A0_1 l0_1.length c0_1] 25 (0, 0)) (by (with_reducible repeat (first | refine blk_drewN ?_ _ | refine blk_drew ?_ | refine blk_alloc ?_ _)); exact BK101.out)) : gb101 ≠ gb113)); have n8_ := Aside0.mk ((by rw [hg]; exact Nat.ne_of_gt (blk_lt (g := gb101) (o := .cells #[.slice A0_0 l0_0.length c0_0, .slice A0_1 l0_1.length c0_1] 25 (0, 0)) (by (with_reducible repeat (first | refine blk_drewN ?_ _ | refine blk_drew ?_ | refine blk_alloc ?_ _)); exact BK101.out)) : gb113 ≠ gb101)); clear HO_5; clear HO_11; clear BK101; clear HB; have HO_5 := n0_; have HO_11 := n1_; have BK101 := n2_; have HB := n3_; have BK113 := n4_; have GW113 := n5_; have GE113 := n6_; have NB101_113 := n7_; have NB113_101 := n8_; clear n0_ n1_ n2_ n3_ n4_ n5_ n6_ n7_ n8_; clear hb hbox hg)); try go_wp2_with (first | ((with_reducible refine gate_dst (N := 13) rfl ?_); refine box_event ?hg (N := 13) ?hd (cs := #[.slice none 0 0, .slice none 0 0]) (t := 27) ?hr ?_; (case hd => rfl); (case hg => rfl); (case hr => first | (go_simp; done) | (go_simp; rfl)); intro gb113 hg w35 hbox hb; have n0_ := Aside0.mk (Kd.R_below (by (with_reducible repeat (first | apply Kd.R_alloc | apply Kd.R_drewN | apply Kd.R_drew)); exact HO_5.out) hb); have n1_ := Aside0.mk (Kd.S_below (Kd.S_elderB (by (with_reducible repeat (first | apply Kd.S_alloc | apply Kd.S_drewN | apply Kd.S_drew)); exact HO_11.out) gb113 (Nat.le_of_eq hg.symm)) hb); have n2_ := Aside0.mk (blk_below (g := gb101) (o := .cells #[.slice A0_0 l0_0.length c0_0, .slice A0_1 l0_1.length c0_1] 25 (0, 0)) (by (with_reducible repeat (first | refine blk_drewN ?_ _ | refine blk_drew ?_ | refine blk_alloc ?_ _)); exact BK101.out) hb); have n3_ := Aside0.mk (below_step (by repeat (first | (with_reducible first | exact HB.out | apply below_alloc | apply pw_below_drewN | apply below_drew1 | refine below_set ?_ GE101.out) | exact HB.out)) hb); have n4_ := Aside0.mk (hbox); have n5_ := Aside0.mk ((by rw [hg]; exact (below_size (by repeat (first | (with_reducible first | exact HB.out | apply below_alloc | apply pw_below_drewN | apply below_drew1 | refine below_set ?_ GE101.out) | exact HB.out))) : w.heap.size ≤ gb113)); have n6_ := Aside0.mk ((by rw [hg]; exact (below_size (by repeat (first | (with_reducible first | exact HB.out | apply below_alloc | apply pw_below_drewN | apply below_drew1 | refine below_set ?_ GE101.out) | exact HB.out))) : w.heap.size ≤ gb113)); have n7_ := Aside0.mk ((by rw [hg]; exact Nat.ne_of_lt (blk_lt (g := gb101) (o := .cells #[.slice A0_0 l0_0.length c0_0, .slice A0_1 l0_1.length c0_1] 25 (0, 0)) (by (with_reducible repeat (first | refine blk_drewN ?_ _ | refine blk_drew ?_ | refine blk_alloc ?_ _)); exact BK101.out)) : gb101 ≠ gb113)); have n8_ := Aside0.mk ((by rw [hg]; exact Nat.ne_of_gt (blk_lt (g := gb101) (o := .cells #[.slice A0_0 l0_0.length c0_0, .slice A0_1 l0_1.length c0_1] 25 (0, 0)) (by (with_reducible repeat (first | refine blk_drewN ?_ _ | refine blk_drew ?_ | refine blk_alloc ?_ _)); exact BK101.out)) : gb113 ≠ gb101)); clear HO_5; clear HO_11; clear BK101; clear HB; have HO_5 := n0_; have HO_11 := n1_; have BK101 := n2_; have HB := n3_; have BK113 := n4_; have GW113 := n5_; have GE113 := n6_; have NB101_113 := n7_; have NB113_101 := n8_; clear n0_ n1_ n2_ n3_ n4_ n5_ n6_ n7_ n8_; clear hb hbox hg)))
                      go_loopg [14] k2 (fun kq v14 w' => ∃ (x14_3 : Int) (x114000_3 : List Int) (u114000 : Value), v14 = .int .i64 x14_3 ∧ Aside0 (scarfjointref05_Components.l3 kq x5_1 x11_2 x12_2 x14_3 l0_0 l0_1 x114000_3 = some (r1, r2)) ∧ Aside0 (kq ≤ k2) ∧ Aside0 (Kd.R (Kd.int .i64) 3 w' w.heap.size (fun k_ => some k_ ≠ (u114000 : Value).ownBlock) (.slice (some ad112) x5_1.length co34) x5_1) ∧ Aside0 (Kd.S k27 27 w' w.heap.size (fun k_ => some k_ ≠ ((.slice (some ad112) x5_1.length co34) : Value).ownBlock ∧ some k_ ≠ (u114000 : Value).ownBlock ∧ k_ ≠ gb113) u11 x11_2) ∧ Aside0 (Kd.R (Kd.int .i64) 3 w' w.heap.size (fun k_ => some k_ ≠ ((.slice (some ad112) x5_1.length co34) : Value).ownBlock) u114000 x114000_3) ∧ Aside0 (w'.heap[gb101]? = some (.cells #[(.slice A0_0 l0_0.length c0_0), (.slice A0_1 l0_1.length c0_1)] 25 (0, 0))) ∧ Aside0 (w'.heap[gb113]? = some (.cells #[u114000, (.slice none 0 0)] 27 (0, 0))) ∧ Aside0 (Below w.heap.size w w'))
                      case atStart => exact ⟨(0), (([] : List Int)), (.slice none 0 0), (by first | rfl | (simp; done) | (simp [*]; done)), H', ⟨Nat.le_refl _⟩, ⟨by (with_reducible repeat (first | apply Kd.R_alloc | apply Kd.R_drewN | apply Kd.R_drew)); exact Kd.R_mono HO_5.out (fun _ hk => (by simp [Value.ownBlock]))⟩, ⟨by (with_reducible repeat (first | apply Kd.S_alloc | apply Kd.S_drewN | apply Kd.S_drew)); exact Kd.S_mono HO_11.out (fun _ hk => ⟨hk.1, ⟨(by simp [Value.ownBlock]), hk.2⟩⟩)⟩, ⟨by first | exact Kd.R_nil _ _ _ _ _ | exact Kd.N_nil _ _ _ _ _ | exact Kd.V_nil _ _ _ _ _ | exact Kd.Q_nil _ _ _ _ _ | exact Kd.S_nil _ _ _ _ _⟩, ⟨by (with_reducible repeat (first | refine blk_drewN ?_ _ | refine blk_drew ?_ | refine blk_alloc ?_ _)); exact BK101.out⟩, ⟨by (with_reducible repeat (first | refine blk_drewN ?_ _ | refine blk_drew ?_ | refine blk_alloc ?_ _)); exact BK113.out⟩, ⟨by repeat (first | (with_reducible first | exact HB.out | apply below_alloc | apply pw_below_drewN | apply below_drew1 | refine below_set ?_ GE101.out | refine below_set ?_ GE113.out) | exact HB.out)⟩⟩
                      case round =>
                        clear H'
                        try clear c1
                        try clear p1
                        try clear q1
                        try clear hx1
                        try clear hf1
                        try clear c2
                        try clear p2
                        try clear q2
                        try clear hx2
                        try clear hf2
                        try clear c3
                        try clear c3b0
                        try clear c3b1
                        try clear p6
                        try clear c10
                        try clear c10b0
                        try clear p10
                        try clear q10
                        try clear hx10
                        try clear p11
                        try clear q11
                        try clear hx11
                        try clear c12
                        try clear c12b0
                        try clear c13
                        try clear c13b0
                        try clear c14
                        try clear c14b0
                        try clear c15
                        try clear c15b0
                        try clear c16
                        try clear c16b0
                        try clear c17
                        try clear c17b0
                        try clear p19
                        try clear q19
                        try clear hx19
                        try clear hf19
                        try clear p20
                        try clear q20
                        try clear hx20
                        try clear hf20
                        try clear c22
                        try clear c29
                        try clear c29b0
                        try clear c30
                        try clear c30b0
                        try clear c31
                        try clear c31b0
                        try clear c32
                        try clear c32b0
                        try clear c32b1
                        try clear hcz11_0
                        try clear hcz11_1
                        try clear hcz21_0
                        try clear hcz21_1
                        try clear hcz27_0
                        try clear hcz27_1
                        try clear hcz28_0
                        try clear hcz28_1
                        try clear hcz33_0
                        try clear hcz33_1
                        try clear hcz6_0
                        try clear hcz6_1
                        try clear hcz8_0
                        try clear hcz8_1
                        try clear hfz11_0
                        try clear hfz11_1
                        try clear hfz21_0
                        try clear hfz21_1
                        try clear hfz27_0
                        try clear hfz27_1
                        try clear hfz28_0
                        try clear hfz28_1
                        try clear hfz33_0
                        try clear hfz33_1
                        try clear hfz6_0
                        try clear hfz6_1
                        try clear hfz8_0
                        try clear hfz8_1
                        try clear hx106_0
                        try clear hx106_1
                        try clear hx106_2
                        try clear hx107_0
                        try clear hx107_1
                        try clear hx107_2
                        try clear hx108_0
                        try clear hx109_0
                        try clear hx112_0
                        try clear hx19_0
                        try clear hx20_0
                        try clear p1
                        try clear p10
                        try clear p106
                        try clear p107
                        try clear p108
                        try clear p109
                        try clear p112
                        try clear p19
                        try clear p2
                        try clear p20
                        try clear p6
                        try clear q1
                        try clear q10
                        try clear q106
                        try clear q107
                        try clear q108
                        try clear q109
                        try clear q112
                        try clear q19
                        try clear q2
                        try clear q20
                        obtain ⟨x14_3, x114000_3, u114000, rfl, HA, HK3, HO_5, HO_11, HO_114000, BK101, BK113, HB⟩ := hrel
                        cases gk with
                        | zero => exact absurd HA.out (by simp [scarfjointref05_Components.l3])
                        | succ k3 =>
                          have H := HA.out
                          clear HA
                          simp only [scarfjointref05_Components.l3] at H
                          by_cases c36 : x14_3 < (l0_0.length : Int)
                          · rw [if_pos c36] at H
                            have c36b0 : decide (x14_3 < (l0_0.length : Int)) = true := decide_eq_true c36
                            clear c36
                            by_cases c37 : 0 ≤ x14_3
                            · rw [if_pos c37] at H
                              have c37b0 : decide (0 ≤ x14_3) = true := decide_eq_true c37
                              clear c37
                              by_cases c38 : x14_3 < (x5_1.length : Int)
                              · rw [if_pos c38] at H
                                have c38b0 : decide (x14_3 < (x5_1.length : Int)) = true := decide_eq_true c38
                                clear c38
                                by_cases c39 : (rd x5_1 x14_3) = x12_2
                                · rw [if_pos c39] at H
                                  have c39b0 : ((rd x5_1 x14_3) == x12_2) = true := beq_iff_eq.mpr c39
                                  have c39b1 : ((rd x5_1 x14_3) != x12_2) = false := bne_eq_false_iff_eq.mpr c39
                                  clear c39
                                  by_cases c40 : x114000_3.length < 17592186044416
                                  · rw [if_pos c40] at H
                                    have LMc40 := Aside0.mk c40
                                    clear c40
                                    obtain ⟨y115, hy115⟩ : ∃ y_ : List Int, y_ = (x114000_3 ++ [x14_3]) := ⟨_, rfl⟩
                                    replace H : (scarfjointref05_Components.l3 k3 x5_1 x11_2 x12_2 (wrap64 (x14_3 + 1)) l0_0 l0_1 y115) = some (r1, r2) := by first | (rw [hy115]; with_reducible exact H) | (have H2_ := (Option.bind_some _ _).symm.trans H; rw [hy115]; with_reducible exact H2_) | (have H2_ := (Option.bind_some _ _).symm.trans H; with_reducible exact H2_) | with_reducible exact H | (rw [hy115]; exact H) | exact H
                                    have Ny115 := Aside0.mk hy115
                                    clear hy115
                                    have H' := Aside0.mk H
                                    clear H
                                    have hnb41 := NB101_113.out
                                    have hnc41 := NB113_101.out
                                    have hcz42_0 : wr.cell? ⟨gb101, 0, none⟩ = some (.slice A0_0 l0_0.length c0_0) := (blk_cell BK101.out 0).trans rfl
                                    have hcz42_1 : wr.cell? ⟨gb101, 1, none⟩ = some (.slice A0_1 l0_1.length c0_1) := (blk_cell BK101.out 1).trans rfl
                                    have hfz42_0 := blk_frozen BK101.out 0
                                    have hfz42_1 := blk_frozen BK101.out 1
                                    have p114 : 0 ≤ (x14_3 : Int) := of_decide_eq_true (by first | (with_reducible assumption) | assumption)
                                    have q114 : x14_3 < (x5_1.length : Int) := of_decide_eq_true (by first | (with_reducible assumption) | assumption)
                                    obtain ⟨ad114, e114, hx114_0⟩ := Kd.at_int (Kd.R_reads' HO_5.out).2.2 x14_3 p114 q114
                                    obtain rfl : ad112 = ad114 := (by injection e114)
                                    replace p114 := eq_true p114
                                    replace q114 := eq_true q114
                                    have hcz43_0 : wr.cell? ⟨gb113, 0, none⟩ = some (u114000) := (blk_cell BK113.out 0).trans rfl
                                    have hcz43_1 : wr.cell? ⟨gb113, 1, none⟩ = some (.slice none 0 0) := (blk_cell BK113.out 1).trans rfl
                                    have hfz43_0 := blk_frozen BK113.out 0
                                    have hfz43_1 := blk_frozen BK113.out 1
                                    go_wp2_with (first | ((with_reducible refine gate_builtin (b := .append) (xs := #[.tmp 95, .tmp 97]) rfl ?_); at_builtin; refine Kd.R_append (Kd.int .i64) (w0 := w) w.heap.size rfl (.tmp 95) (.tmp 97) 22 3 (.int .i64 0) 8 rfl Try.underlying22 info3 rfl (by decide) (by omega) u114000 x114000_3 x14_3 [.int .i64 x14_3] (fun k_ => some k_ ≠ (.slice (some ad112) x5_1.length co34 : Value).ownBlock) (fun _ => False) rfl rfl ?aP (fun _ hk => hk.elim) ?aF ?aO ?aB ?aS ?aL ?_; (case aP => exact rfl); (case aB => exact (by repeat (first | (with_reducible first | exact HB.out | apply below_alloc | apply pw_below_drewN | apply below_drew1 | refine below_set ?_ GE101.out | refine below_set ?_ GE113.out) | exact HB.out))); (case aF => exact (fun k_ hk => Kd.fresh' (Kd.R_lt (by (with_reducible repeat (first | apply Kd.R_alloc | apply Kd.R_drewN | apply Kd.R_drew)); exact HO_5.out)) k_ hk)); (case aO => exact (by (with_reducible repeat (first | apply Kd.R_alloc | apply Kd.R_drewN | apply Kd.R_drew)); exact HO_114000.out)); (case aS => exact (below_size (by repeat (first | (with_reducible first | exact HB.out | apply below_alloc | apply pw_below_drewN | apply below_drew1 | refine below_set ?_ GE101.out | refine below_set ?_ GE113.out) | exact HB.out)))); (case aL => have := LMc40.out; omega); intro v116 w44 ho hb hg hat; rw [← Ny115.out] at ho; have n0_ := Aside0.mk (Kd.R_after (ok := (fun _ => True)) (by (with_reducible repeat (first | apply Kd.R_alloc | apply Kd.R_drewN | apply Kd.R_drew)); exact Kd.R_mono HO_5.out (fun _ hk => ⟨trivial, hk⟩)) hg hat); have n1_ := Aside0.mk (Kd.S_after (ok := (fun k_ => some k_ ≠ (.slice (some ad112) x5_1.length co34 : Value).ownBlock ∧ k_ ≠ gb113)) (by (with_reducible repeat (first | apply Kd.S_alloc | apply Kd.S_drewN | apply Kd.S_drew)); exact Kd.S_mono HO_11.out (fun _ hk => ⟨⟨hk.1, hk.2.2⟩, hk.2.1⟩)) hg hat); have n2_ := Aside0.mk (blk_grown (g := gb101) (o := .cells #[.slice A0_0 l0_0.length c0_0, .slice A0_1 l0_1.length c0_1] 25 (0, 0)) (by (with_reducible repeat (first | refine blk_drewN ?_ _ | refine blk_drew ?_ | refine blk_alloc ?_ _)); exact BK101.out) hg (Kd.R_ne HO_114000.out BK101.out (by decide))); have n3_ := Aside0.mk (blk_grown (g := gb113) (o := .cells #[u114000, .slice none 0 0] 27 (0, 0)) (by (with_reducible repeat (first | refine blk_drewN ?_ _ | refine blk_drew ?_ | refine blk_alloc ?_ _)); exact BK113.out) hg (Kd.R_ne HO_114000.out BK113.out (by decide))); have n4_ := Aside0.mk (hb); have n5_ := Aside0.mk (ho); clear HO_5; clear HO_11; clear BK101; clear BK113; clear HB; clear HO_114000; have HO_5 := n0_; have HO_11 := n1_; have BK101 := n2_; have BK113 := n3_; have HB := n4_; have HO117 := n5_; clear n0_ n1_ n2_ n3_ n4_ n5_; clear ho hb hg hat; obtain ⟨Ao45, co45, eo45⟩ := Kd.R_slice HO117.out; subst eo45; have hcz46_0 : w44.cell? ⟨gb113, 0, none⟩ = some (u114000) := (blk_cell BK113.out 0).trans rfl; have hcz46_1 : w44.cell? ⟨gb113, 1, none⟩ = some (.slice none 0 0) := (blk_cell BK113.out 1).trans rfl; have hfz46_0 := blk_frozen BK113.out 0; have hfz46_1 := blk_frozen BK113.out 1))
                                    repeat (go_quiet (first | ((with_reducible refine gate_builtin (b := .append) (xs := #[.tmp 95, .tmp 97]) rfl ?_); at_builtin; refine Kd.R_append (Kd.int .i64) (w0 := w) w.heap.size rfl (.tmp 95) (.tmp 97) 22 3 (.int .i64 0) 8 rfl Try.underlying22 info3 rfl (by decide) (by omega) u114000 x114000_3 x14_3 [.int .i64 x14_3] (fun k_ => some k_ ≠ (.slice (some ad112) x5_1.length co34 : Value).ownBlock) (fun _ => False) rfl rfl ?aP (fun _ hk => hk.elim) ?aF ?aO ?aB ?aS ?aL ?_; (case aP => exact rfl); (case aB => exact (by repeat (first | (with_reducible first | exact HB.out | apply below_alloc | apply pw_below_drewN | apply below_drew1 | refine below_set ?_ GE101.out | refine below_set ?_ GE113.out) | exact HB.out))); (case aF => exact (fun k_ hk => Kd.fresh' (Kd.R_lt (by (with_reducible repeat (first | apply Kd.R_alloc | apply Kd.R_drewN | apply Kd.R_drew)); exact HO_5.out)) k_ hk)); (case aO => exact (by (with_reducible repeat (first | apply Kd.R_alloc | apply Kd.R_drewN | apply Kd.R_drew)); exact HO_114000.out)); (case aS => exact (below_size (by repeat (first | (with_reducible first | exact HB.out | apply below_alloc | apply pw_below_drewN | apply below_drew1 | refine below_set ?_ GE101.out | refine below_set ?_ GE113.out) | exact HB.out)))); (case aL => have := LMc40.out; omega); intro v116 w44 ho hb hg hat; rw [← Ny115.out] at ho; have n0_ := Aside0.mk (Kd.R_after (ok := (fun _ => True)) (by (with_reducible repeat (first | apply Kd.R_alloc | apply Kd.R_drewN | apply Kd.R_drew)); exact Kd.R_mono HO_5.out (fun _ hk => ⟨trivial, hk⟩)) hg hat); have n1_ := Aside0.mk (Kd.S_after (ok := (fun k_ => some k_ ≠ (.slice (some ad112) x5_1.length co34 : Value).ownBlock ∧ k_ ≠ gb113)) (by (with_reducible repeat (first | apply Kd.S_alloc | apply Kd.S_drewN | apply Kd.S_drew)); exact Kd.S_mono HO_11.out (fun _ hk => ⟨⟨hk.1, hk.2.2⟩, hk.2.1⟩)) hg hat); have n2_ := Aside0.mk (blk_grown (g := gb101) (o := .cells #[.slice A0_0 l0_0.length c0_0, .slice A0_1 l0_1.length c0_1] 25 (0, 0)) (by (with_reducible repeat (first | refine blk_drewN ?_ _ | refine blk_drew ?_ | refine blk_alloc ?_ _)); exact BK101.out) hg (Kd.R_ne HO_114000.out BK101.out (by decide))); have n3_ := Aside0.mk (blk_grown (g := gb113) (o := .cells #[u114000, .slice none 0 0] 27 (0, 0)) (by (with_reducible repeat (first | refine blk_drewN ?_ _ | refine blk_drew ?_ | refine blk_alloc ?_ _)); exact BK113.out) hg (Kd.R_ne HO_114000.out BK113.out (by decide))); have n4_ := Aside0.mk (hb); have n5_ := Aside0.mk (ho); clear HO_5; clear HO_11; clear BK101; clear BK113; clear HB; clear HO_114000; have HO_5 := n0_; have HO_11 := n1_; have BK101 := n2_; have BK113 := n3_; have HB := n4_; have HO117 := n5_; clear n0_ n1_ n2_ n3_ n4_ n5_; clear ho hb hg hat; obtain ⟨Ao45, co45, eo45⟩ := Kd.R_slice HO117.out; subst eo45; have hcz46_0 : w44.cell? ⟨gb113, 0, none⟩ = some (u114000) := (blk_cell BK113.out 0).trans rfl; have hcz46_1 : w44.cell? ⟨gb113, 1, none⟩ = some (.slice none 0 0) := (blk_cell BK113.out 1).trans rfl; have hfz46_0 := blk_frozen BK113.out 0; have hfz46_1 := blk_frozen BK113.out 1)); try go_wp2_with (first | ((with_reducible refine gate_builtin (b := .append) (xs := #[.tmp 95, .tmp 97]) rfl ?_); at_builtin; refine Kd.R_append (Kd.int .i64) (w0 := w) w.heap.size rfl (.tmp 95) (.tmp 97) 22 3 (.int .i64 0) 8 rfl Try.underlying22 info3 rfl (by decide) (by omega) u114000 x114000_3 x14_3 [.int .i64 x14_3] (fun k_ => some k_ ≠ (.slice (some ad112) x5_1.length co34 : Value).ownBlock) (fun _ => False) rfl rfl ?aP (fun _ hk => hk.elim) ?aF ?aO ?aB ?aS ?aL ?_; (case aP => exact rfl); (case aB => exact (by repeat (first | (with_reducible first | exact HB.out | apply below_alloc | apply pw_below_drewN | apply below_drew1 | refine below_set ?_ GE101.out | refine below_set ?_ GE113.out) | exact HB.out))); (case aF => exact (fun k_ hk => Kd.fresh' (Kd.R_lt (by (with_reducible repeat (first | apply Kd.R_alloc | apply Kd.R_drewN | apply Kd.R_drew)); exact HO_5.out)) k_ hk)); (case aO => exact (by (with_reducible repeat (first | apply Kd.R_alloc | apply Kd.R_drewN | apply Kd.R_drew)); exact HO_114000.out)); (case aS => exact (below_size (by repeat (first | (with_reducible first | exact HB.out | apply below_alloc | apply pw_below_drewN | apply below_drew1 | refine below_set ?_ GE101.out | refine below_set ?_ GE113.out) | exact HB.out)))); (case aL => have := LMc40.out; omega); intro v116 w44 ho hb hg hat; rw [← Ny115.out] at ho; have n0_ := Aside0.mk (Kd.R_after (ok := (fun _ => True)) (by (with_reducible repeat (first | apply Kd.R_alloc | apply Kd.R_drewN | apply Kd.R_drew)); exact Kd.R_mono HO_5.out (fun _ hk => ⟨trivial, hk⟩)) hg hat); have n1_ := Aside0.mk (Kd.S_after (ok := (fun k_ => some k_ ≠ (.slice (some ad112) x5_1.length co34 : Value).ownBlock ∧ k_ ≠ gb113)) (by (with_reducible repeat (first | apply Kd.S_alloc | apply Kd.S_drewN | apply Kd.S_drew)); exact Kd.S_mono HO_11.out (fun _ hk => ⟨⟨hk.1, hk.2.2⟩, hk.2.1⟩)) hg hat); have n2_ := Aside0.mk (blk_grown (g := gb101) (o := .cells #[.slice A0_0 l0_0.length c0_0, .slice A0_1 l0_1.length c0_1] 25 (0, 0)) (by (with_reducible repeat (first | refine blk_drewN ?_ _ | refine blk_drew ?_ | refine blk_alloc ?_ _)); exact BK101.out) hg (Kd.R_ne HO_114000.out BK101.out (by decide))); have n3_ := Aside0.mk (blk_grown (g := gb113) (o := .cells #[u114000, .slice none 0 0] 27 (0, 0)) (by (with_reducible repeat (first | refine blk_drewN ?_ _ | refine blk_drew ?_ | refine blk_alloc ?_ _)); exact BK113.out) hg (Kd.R_ne HO_114000.out BK113.out (by decide))); have n4_ := Aside0.mk (hb); have n5_ := Aside0.mk (ho); clear HO_5; clear HO_11; clear BK101; clear BK113; clear HB; clear HO_114000; have HO_5 := n0_; have HO_11 := n1_; have BK101 := n2_; have BK113 := n3_; have HB := n4_; have HO117 := n5_; clear n0_ n1_ n2_ n3_ n4_ n5_; clear ho hb hg hat; obtain ⟨Ao45, co45, eo45⟩ := Kd.R_slice HO117.out; subst eo45; have hcz46_0 : w44.cell? ⟨gb113, 0, none⟩ = some (u114000) := (blk_cell BK113.out 0).trans rfl; have hcz46_1 : w44.cell? ⟨gb113, 1, none⟩ = some (.slice none 0 0) := (blk_cell BK113.out 1).trans rfl; have hfz46_0 := blk_frozen BK113.out 0; have hfz46_1 := blk_frozen BK113.out 1)))
                                    go_roundg k3
                                    case measure => have := HK1.out; have := HK2.out; have := HK3.out; omega
                                    case rel => exact ⟨(wrap64 (x14_3 + 1)), (y115), (.slice Ao45 y115.length co45), (by first | rfl | (simp; done) | (simp [*]; done)), H', ⟨by have := HK1.out; have := HK2.out; have := HK3.out; omega⟩, ⟨by (with_reducible repeat (first | apply Kd.R_alloc | apply Kd.R_drewN | apply Kd.R_drew)); exact Kd.R_mono (Kd.R_far (p := ⟨gb113, 0, none⟩) (Kd.R_types HO_5.out BK113.out (by decide)) (fun _ hk => hk.2) (.slice Ao45 y115.length co45)) (fun _ hk => hk.1.2)⟩, ⟨by (with_reducible repeat (first | apply Kd.S_alloc | apply Kd.S_drewN | apply Kd.S_drew)); exact Kd.S_mono (Kd.S_far (p := ⟨gb113, 0, none⟩) (Kd.S_mono HO_11.out (fun k_ hk => (⟨hk, hk.1.2⟩ : _ ∧ k_ ≠ gb113))) (fun _ hk => hk.2) (.slice Ao45 y115.length co45)) (fun _ hk => ⟨hk.1.1.1, ⟨hk.1.2, hk.1.1.2⟩⟩)⟩, ⟨by (with_reducible repeat (first | apply Kd.R_alloc | apply Kd.R_drewN | apply Kd.R_drew)); exact Kd.R_mono (Kd.R_far (p := ⟨gb113, 0, none⟩) (Kd.R_types HO117.out BK113.out (by decide)) (fun _ hk => hk.2) (.slice Ao45 y115.length co45)) (fun _ hk => hk.1)⟩, ⟨by (with_reducible repeat (first | refine blk_drewN ?_ _ | refine blk_drew ?_ | refine blk_alloc ?_ _)); refine blk_far ?_ NB101_113.out _; (with_reducible repeat (first | refine blk_drewN ?_ _ | refine blk_drew ?_ | refine blk_alloc ?_ _)); exact BK101.out⟩, ⟨by (with_reducible repeat (first | refine blk_drewN ?_ _ | refine blk_drew ?_ | refine blk_alloc ?_ _)); refine blk_put (cs := #[u114000, .slice none 0 0]) ?_ 0 _ rfl; (with_reducible repeat (first | refine blk_drewN ?_ _ | refine blk_drew ?_ | refine blk_alloc ?_ _)); exact BK113.out⟩, ⟨by repeat (first | (with_reducible first | exact HB.out | apply below_alloc | apply pw_below_drewN | apply below_drew1 | refine below_set ?_ GE101.out | refine below_set ?_ GE113.out) | exact HB.out)⟩⟩
                                  · rw [if_neg c40] at H
                                    exact absurd H (by simp)
                                · rw [if_neg c39] at H
                                  have c39b0 : ((rd x5_1 x14_3) == x12_2) = false := beq_eq_false_iff_ne.mpr c39
                                  have c39b1 : ((rd x5_1 x14_3) != x12_2) = true := bne_iff_ne.mpr c39
                                  have H' := Aside0.mk H
                                  clear H
                                  have hnb47 := NB101_113.out
                                  have hnc47 := NB113_101.out
                                  have hcz48_0 : wr.cell? ⟨gb101, 0, none⟩ = some (.slice A0_0 l0_0.length c0_0) := (blk_cell BK101.out 0).trans rfl
                                  have hcz48_1 : wr.cell? ⟨gb101, 1, none⟩ = some (.slice A0_1 l0_1.length c0_1) := (blk_cell BK101.out 1).trans rfl
                                  have hfz48_0 := blk_frozen BK101.out 0
                                  have hfz48_1 := blk_frozen BK101.out 1
                                  have p114 : 0 ≤ (x14_3 : Int) := of_decide_eq_true (by first | (with_reducible assumption) | assumption)
                                  have q114 : x14_3 < (x5_1.length : Int) := of_decide_eq_true (by first | (with_reducible assumption) | assumption)
                                  obtain ⟨ad114, e114, hx114_0⟩ := Kd.at_int (Kd.R_reads' HO_5.out).2.2 x14_3 p114 q114
                                  obtain rfl : ad112 = ad114 := (by injection e114)
                                  replace p114 := eq_true p114
                                  replace q114 := eq_true q114
                                  go_wp2
                                  repeat (go_quiet (fail); try go_wp2)
                                  go_roundg k3
                                  case measure => have := HK1.out; have := HK2.out; have := HK3.out; omega
                                  case rel => exact ⟨(wrap64 (x14_3 + 1)), (x114000_3), (u114000), (by first | rfl | (simp; done) | (simp [*]; done)), H', ⟨by have := HK1.out; have := HK2.out; have := HK3.out; omega⟩, ⟨by (with_reducible repeat (first | apply Kd.R_alloc | apply Kd.R_drewN | apply Kd.R_drew)); exact HO_5.out⟩, ⟨by (with_reducible repeat (first | apply Kd.S_alloc | apply Kd.S_drewN | apply Kd.S_drew)); exact HO_11.out⟩, ⟨by (with_reducible repeat (first | apply Kd.R_alloc | apply Kd.R_drewN | apply Kd.R_drew)); exact HO_114000.out⟩, ⟨by (with_reducible repeat (first | refine blk_drewN ?_ _ | refine blk_drew ?_ | refine blk_alloc ?_ _)); exact BK101.out⟩, ⟨by (with_reducible repeat (first | refine blk_drewN ?_ _ | refine blk_drew ?_ | refine blk_alloc ?_ _)); exact BK113.out⟩, ⟨by repeat (first | (with_reducible first | exact HB.out | apply below_alloc | apply pw_below_drewN | apply below_drew1 | refine below_set ?_ GE101.out | refine below_set ?_ GE113.out) | exact HB.out)⟩⟩
                              · rw [if_neg c38] at H
                                exact absurd H (by simp)
                            · rw [if_neg c37] at H
                              exact absurd H (by simp)
                          · rw [if_neg c36] at H
                            have c36b0 : decide (x14_3 < (l0_0.length : Int)) = false := decide_eq_false c36
                            clear c36
                            have H' := Aside0.mk H
                            clear H
                            have hnb49 := NB101_113.out
                            have hnc49 := NB113_101.out
                            have hcz50_0 : wr.cell? ⟨gb101, 0, none⟩ = some (.slice A0_0 l0_0.length c0_0) := (blk_cell BK101.out 0).trans rfl
                            have hcz50_1 : wr.cell? ⟨gb101, 1, none⟩ = some (.slice A0_1 l0_1.length c0_1) := (blk_cell BK101.out 1).trans rfl
                            have hfz50_0 := blk_frozen BK101.out 0
                            have hfz50_1 := blk_frozen BK101.out 1
                            go_wp2
                            repeat (go_quiet (fail); try go_wp2)
                            go_loopg [15] k3 (fun kq v15 w' => ∃ (x15_4 : Int) (x114001_4 : List Int) (u114001 : Value), v15 = .int .i64 x15_4 ∧ Aside0 (scarfjointref05_Components.l4 kq x5_1 x11_2 x12_2 x15_4 l0_0 l0_1 x114000_3 x114001_4 = some (r1, r2)) ∧ Aside0 (kq ≤ k3) ∧ Aside0 (Kd.R (Kd.int .i64) 3 w' w.heap.size (fun k_ => some k_ ≠ (u114000 : Value).ownBlock ∧ some k_ ≠ (u114001 : Value).ownBlock) (.slice (some ad112) x5_1.length co34) x5_1) ∧ Aside0 (Kd.S k27 27 w' w.heap.size (fun k_ => some k_ ≠ ((.slice (some ad112) x5_1.length co34) : Value).ownBlock ∧ some k_ ≠ (u114000 : Value).ownBlock ∧ some k_ ≠ (u114001 : Value).ownBlock ∧ k_ ≠ gb113) u11 x11_2) ∧ Aside0 (Kd.R (Kd.int .i64) 3 w' w.heap.size (fun k_ => some k_ ≠ ((.slice (some ad112) x5_1.length co34) : Value).ownBlock ∧ some k_ ≠ (u114001 : Value).ownBlock) u114000 x114000_3) ∧ Aside0 (Kd.R (Kd.int .i64) 3 w' w.heap.size (fun k_ => some k_ ≠ ((.slice (some ad112) x5_1.length co34) : Value).ownBlock ∧ some k_ ≠ (u114000 : Value).ownBlock) u114001 x114001_4) ∧ Aside0 (w'.heap[gb101]? = some (.cells #[(.slice A0_0 l0_0.length c0_0), (.slice A0_1 l0_1.length c0_1)] 25 (0, 0))) ∧ Aside0 (w'.heap[gb113]? = some (.cells #[u114000, u114001] 27 (0, 0))) ∧ Aside0 (Below w.heap.size w w'))
                            case atStart => exact ⟨(0), (([] : List Int)), (.slice none 0 0), (by first | rfl | (simp; done) | (simp [*]; done)), H', ⟨Nat.le_refl _⟩, ⟨by (with_reducible repeat (first | apply Kd.R_alloc | apply Kd.R_drewN | apply Kd.R_drew)); exact Kd.R_mono HO_5.out (fun _ hk => ⟨hk, (by simp [Value.ownBlock])⟩)⟩, ⟨by (with_reducible repeat (first | apply Kd.S_alloc | apply Kd.S_drewN | apply Kd.S_drew)); exact Kd.S_mono HO_11.out (fun _ hk => ⟨hk.1, ⟨hk.2.1, ⟨(by simp [Value.ownBlock]), hk.2.2⟩⟩⟩)⟩, ⟨by (with_reducible repeat (first | apply Kd.R_alloc | apply Kd.R_drewN | apply Kd.R_drew)); exact Kd.R_mono HO_114000.out (fun _ hk => ⟨hk, (by simp [Value.ownBlock])⟩)⟩, ⟨by first | exact Kd.R_nil _ _ _ _ _ | exact Kd.N_nil _ _ _ _ _ | exact Kd.V_nil _ _ _ _ _ | exact Kd.Q_nil _ _ _ _ _ | exact Kd.S_nil _ _ _ _ _⟩, ⟨by (with_reducible repeat (first | refine blk_drewN ?_ _ | refine blk_drew ?_ | refine blk_alloc ?_ _)); exact BK101.out⟩, ⟨by (with_reducible repeat (first | refine blk_drewN ?_ _ | refine blk_drew ?_ | refine blk_alloc ?_ _)); exact BK113.out⟩, ⟨by repeat (first | (with_reducible first | exact HB.out | apply below_alloc | apply pw_below_drewN | apply below_drew1 | refine below_set ?_ GE101.out | refine below_set ?_ GE113.out) | exact HB.out)⟩⟩
                            case round =>
                              clear H'
                              try clear c1
                              try clear p1
                              try clear q1
                              try clear hx1
                              try clear hf1
                              try clear c2
                              try clear p2
                              try clear q2
                              try clear hx2
                              try clear hf2
                              try clear c3
                              try clear c3b0
                              try clear c3b1
                              try clear c4
                              try clear p6
                              try clear c10
                              try clear c10b0
                              try clear p10
                              try clear q10
                              try clear hx10
                              try clear p11
                              try clear q11
                              try clear hx11
                              try clear c12
                              try clear c12b0
                              try clear c13
                              try clear c13b0
                              try clear c14
                              try clear c14b0
                              try clear c15
                              try clear c15b0
                              try clear c16
                              try clear c16b0
                              try clear c17
                              try clear c17b0
                              try clear p19
                              try clear q19
                              try clear hx19
                              try clear hf19
                              try clear p20
                              try clear q20
                              try clear hx20
                              try clear hf20
                              try clear c22
                              try clear c29
                              try clear c29b0
                              try clear c30
                              try clear c30b0
                              try clear c31
                              try clear c31b0
                              try clear c32
                              try clear c32b0
                              try clear c32b1
                              try clear c36
                              try clear c36b0
                              try clear c37
                              try clear c37b0
                              try clear c38
                              try clear c38b0
                              try clear c39
                              try clear c39b0
                              try clear c39b1
                              try clear c40
                              try clear c41
                              try clear c47
                              try clear c49
                              try clear hcz11_0
                              try clear hcz11_1
                              try clear hcz21_0
                              try clear hcz21_1
                              try clear hcz27_0
                              try clear hcz27_1
                              try clear hcz28_0
                              try clear hcz28_1
                              try clear hcz33_0
                              try clear hcz33_1
                              try clear hcz42_0
                              try clear hcz42_1
                              try clear hcz43_0
                              try clear hcz43_1
                              try clear hcz46_0
                              try clear hcz46_1
                              try clear hcz48_0
                              try clear hcz48_1
                              try clear hcz50_0
                              try clear hcz50_1
                              try clear hcz6_0
                              try clear hcz6_1
                              try clear hcz8_0
                              try clear hcz8_1
                              try clear hfz11_0
                              try clear hfz11_1
                              try clear hfz21_0
                              try clear hfz21_1
                              try clear hfz27_0
                              try clear hfz27_1
                              try clear hfz28_0
                              try clear hfz28_1
                              try clear hfz33_0
                              try clear hfz33_1
                              try clear hfz42_0
                              try clear hfz42_1
                              try clear hfz43_0
                              try clear hfz43_1
                              try clear hfz46_0
                              try clear hfz46_1
                              try clear hfz48_0
                              try clear hfz48_1
                              try clear hfz50_0
                              try clear hfz50_1
                              try clear hfz6_0
                              try clear hfz6_1
                              try clear hfz8_0
                              try clear hfz8_1
                              try clear hx106_0
                              try clear hx106_1
                              try clear hx106_2
                              try clear hx107_0
                              try clear hx107_1
                              try clear hx107_2
                              try clear hx108_0
                              try clear hx109_0
                              try clear hx112_0
                              try clear hx114_0
                              try clear hx19_0
                              try clear hx20_0
                              try clear p1
                              try clear p10
                              try clear p106
                              try clear p107
                              try clear p108
                              try clear p109
                              try clear p11
                              try clear p112
                              try clear p114
                              try clear p19
                              try clear p2
                              try clear p20
                              try clear p6
                              try clear q1
                              try clear q10
                              try clear q106
                              try clear q107
                              try clear q108
                              try clear q109
                              try clear q11
                              try clear q112
                              try clear q114
                              try clear q19
                              try clear q2
                              try clear q20
                              obtain ⟨x15_4, x114001_4, u114001, rfl, HA, HK4, HO_5, HO_11, HO_114000, HO_114001, BK101, BK113, HB⟩ := hrel
                              cases gk with
                              | zero => exact absurd HA.out (by simp [scarfjointref05_Components.l4])
                              | succ k4 =>
                                have H := HA.out
                                clear HA
                                simp only [scarfjointref05_Components.l4] at H
                                by_cases c51 : x15_4 < (l0_1.length : Int)
                                · rw [if_pos c51] at H
                                  have c51b0 : decide (x15_4 < (l0_1.length : Int)) = true := decide_eq_true c51
                                  clear c51
                                  by_cases c52 : 0 ≤ x15_4
                                  · rw [if_pos c52] at H
                                    have c52b0 : decide (0 ≤ x15_4) = true := decide_eq_true c52
                                    clear c52
                                    by_cases c53 : 0 ≤ ((rd_T78 l0_1 x15_4).f1)
                                    · rw [if_pos c53] at H
                                      have c53b0 : decide (0 ≤ ((rd_T78 l0_1 x15_4).f1)) = true := decide_eq_true c53
                                      clear c53
                                      by_cases c54 : ((rd_T78 l0_1 x15_4).f1) < (x5_1.length : Int)
                                      · rw [if_pos c54] at H
                                        have c54b0 : decide (((rd_T78 l0_1 x15_4).f1) < (x5_1.length : Int)) = true := decide_eq_true c54
                                        clear c54
                                        by_cases c55 : (rd x5_1 ((rd_T78 l0_1 x15_4).f1)) = x12_2
                                        · rw [if_pos c55] at H
                                          have c55b0 : ((rd x5_1 ((rd_T78 l0_1 x15_4).f1)) == x12_2) = true := beq_iff_eq.mpr c55
                                          have c55b1 : ((rd x5_1 ((rd_T78 l0_1 x15_4).f1)) != x12_2) = false := bne_eq_false_iff_eq.mpr c55
                                          clear c55
                                          by_cases c56 : x114001_4.length < 17592186044416
                                          · rw [if_pos c56] at H
                                            have LMc56 := Aside0.mk c56
                                            clear c56
                                            obtain ⟨y123, hy123⟩ : ∃ y_ : List Int, y_ = (x114001_4 ++ [x15_4]) := ⟨_, rfl⟩
                                            replace H : (scarfjointref05_Components.l4 k4 x5_1 x11_2 x12_2 (wrap64 (x15_4 + 1)) l0_0 l0_1 x114000_3 y123) = some (r1, r2) := by first | (rw [hy123]; with_reducible exact H) | (have H2_ := (Option.bind_some _ _).symm.trans H; rw [hy123]; with_reducible exact H2_) | (have H2_ := (Option.bind_some _ _).symm.trans H; with_reducible exact H2_) | with_reducible exact H | (rw [hy123]; exact H) | exact H
                                            have Ny123 := Aside0.mk hy123
                                            clear hy123
                                            have H' := Aside0.mk H
                                            clear H
                                            have hnb57 := NB101_113.out
                                            have hnc57 := NB113_101.out
                                            have hcz58_0 : wr.cell? ⟨gb101, 0, none⟩ = some (.slice A0_0 l0_0.length c0_0) := (blk_cell BK101.out 0).trans rfl
                                            have hcz58_1 : wr.cell? ⟨gb101, 1, none⟩ = some (.slice A0_1 l0_1.length c0_1) := (blk_cell BK101.out 1).trans rfl
                                            have hfz58_0 := blk_frozen BK101.out 0
                                            have hfz58_1 := blk_frozen BK101.out 1
                                            have p121 : 0 ≤ (x15_4 : Int) := of_decide_eq_true (by first | (with_reducible assumption) | assumption)
                                            have q121 : x15_4 < (l0_1.length : Int) := of_decide_eq_true (by first | (with_reducible assumption) | assumption)
                                            obtain ⟨ad121, e121, hx121_0, hx121_1, hx121_2⟩ := at_T78 HR0_1.out x15_4 p121 q121
                                            cases e121
                                            replace hx121_0 := (HB.out.cell (World.block_lt_of_cell? w _ hx121_0)).trans hx121_0
                                            replace hx121_1 := (HB.out.cell (World.block_lt_of_cell? w _ hx121_1)).trans hx121_1
                                            replace hx121_2 := (HB.out.cell (World.block_lt_of_cell? w _ hx121_2)).trans hx121_2
                                            replace p121 := eq_true p121
                                            replace q121 := eq_true q121
                                            have p122 : 0 ≤ (((rd_T78 l0_1 x15_4).f1) : Int) := of_decide_eq_true (by first | (with_reducible assumption) | assumption)
                                            have q122 : ((rd_T78 l0_1 x15_4).f1) < (x5_1.length : Int) := of_decide_eq_true (by first | (with_reducible assumption) | assumption)
                                            obtain ⟨ad122, e122, hx122_0⟩ := Kd.at_int (Kd.R_reads' HO_5.out).2.2 ((rd_T78 l0_1 x15_4).f1) p122 q122
                                            obtain rfl : ad112 = ad122 := (by injection e122)
                                            replace p122 := eq_true p122
                                            replace q122 := eq_true q122
                                            have hcz59_0 : wr.cell? ⟨gb113, 0, none⟩ = some (u114000) := (blk_cell BK113.out 0).trans rfl
                                            have hcz59_1 : wr.cell? ⟨gb113, 1, none⟩ = some (u114001) := (blk_cell BK113.out 1).trans rfl
                                            have hfz59_0 := blk_frozen BK113.out 0
                                            have hfz59_1 := blk_frozen BK113.out 1
                                            go_wp2_with (first | ((with_reducible refine gate_builtin (b := .append) (xs := #[.tmp 119, .tmp 121]) rfl ?_); at_builtin; refine Kd.R_append (Kd.int .i64) (w0 := w) w.heap.size rfl (.tmp 119) (.tmp 121) 22 3 (.int .i64 0) 8 rfl Try.underlying22 info3 rfl (by decide) (by omega) u114001 x114001_4 x15_4 [.int .i64 x15_4] (fun k_ => some k_ ≠ (.slice (some ad112) x5_1.length co34 : Value).ownBlock ∧ some k_ ≠ (u114000 : Value).ownBlock) (fun _ => False) rfl rfl ?aP (fun _ hk => hk.elim) ?aF ?aO ?aB ?aS ?aL ?_; (case aP => exact rfl); (case aB => exact (by repeat (first | (with_reducible first | exact HB.out | apply below_alloc | apply pw_below_drewN | apply below_drew1 | refine below_set ?_ GE101.out | refine below_set ?_ GE113.out) | exact HB.out))); (case aF => exact (fun k_ hk => ⟨Kd.fresh' (Kd.R_lt (by (with_reducible repeat (first | apply Kd.R_alloc | apply Kd.R_drewN | apply Kd.R_drew)); exact HO_5.out)) k_ hk, Kd.fresh' (Kd.R_lt (by (with_reducible repeat (first | apply Kd.R_alloc | apply Kd.R_drewN | apply Kd.R_drew)); exact HO_114000.out)) k_ hk⟩)); (case aO => exact (by (with_reducible repeat (first | apply Kd.R_alloc | apply Kd.R_drewN | apply Kd.R_drew)); exact HO_114001.out)); (case aS => exact (below_size (by repeat (first | (with_reducible first | exact HB.out | apply below_alloc | apply pw_below_drewN | apply below_drew1 | refine below_set ?_ GE101.out | refine below_set ?_ GE113.out) | exact HB.out)))); (case aL => have := LMc56.out; omega); intro v124 w60 ho hb hg hat; rw [← Ny123.out] at ho; have n0_ := Aside0.mk (Kd.R_after (ok := (fun k_ => some k_ ≠ (u114000 : Value).ownBlock)) (by (with_reducible repeat (first | apply Kd.R_alloc | apply Kd.R_drewN | apply Kd.R_drew)); exact HO_5.out) hg hat); have n1_ := Aside0.mk (Kd.S_after (ok := (fun k_ => some k_ ≠ (.slice (some ad112) x5_1.length co34 : Value).ownBlock ∧ some k_ ≠ (u114000 : Value).ownBlock ∧ k_ ≠ gb113)) (by (with_reducible repeat (first | apply Kd.S_alloc | apply Kd.S_drewN | apply Kd.S_drew)); exact Kd.S_mono HO_11.out (fun _ hk => ⟨⟨hk.1, ⟨hk.2.1, hk.2.2.2⟩⟩, hk.2.2.1⟩)) hg hat); have n2_ := Aside0.mk (Kd.R_after (ok := (fun k_ => some k_ ≠ (.slice (some ad112) x5_1.length co34 : Value).ownBlock)) (by (with_reducible repeat (first | apply Kd.R_alloc | apply Kd.R_drewN | apply Kd.R_drew)); exact HO_114000.out) hg hat); have n3_ := Aside0.mk (blk_grown (g := gb101) (o := .cells #[.slice A0_0 l0_0.length c0_0, .slice (some ad121) l0_1.length c0_1] 25 (0, 0)) (by (with_reducible repeat (first | refine blk_drewN ?_ _ | refine blk_drew ?_ | refine blk_alloc ?_ _)); exact BK101.out) hg (Kd.R_ne HO_114001.out BK101.out (by decide))); have n4_ := Aside0.mk (blk_grown (g := gb113) (o := .cells #[u114000, u114001] 27 (0, 0)) (by (with_reducible repeat (first | refine blk_drewN ?_ _ | refine blk_drew ?_ | refine blk_alloc ?_ _)); exact BK113.out) hg (Kd.R_ne HO_114001.out BK113.out (by decide))); have n5_ := Aside0.mk (hb); have n6_ := Aside0.mk (ho); clear HO_5; clear HO_11; clear HO_114000; clear BK101; clear BK113; clear HB; clear HO_114001; have HO_5 := n0_; have HO_11 := n1_; have HO_114000 := n2_; have BK101 := n3_; have BK113 := n4_; have HB := n5_; have HO125 := n6_; clear n0_ n1_ n2_ n3_ n4_ n5_ n6_; clear ho hb hg hat; obtain ⟨Ao61, co61, eo61⟩ := Kd.R_slice HO125.out; subst eo61; have hcz62_0 : w60.cell? ⟨gb113, 0, none⟩ = some (u114000) := (blk_cell BK113.out 0).trans rfl; have hcz62_1 : w60.cell? ⟨gb113, 1, none⟩ = some (u114001) := (blk_cell BK113.out 1).trans rfl; have hfz62_0 := blk_frozen BK113.out 0; have hfz62_1 := blk_frozen BK113.out 1))
                                            repeat (go_quiet (first | ((with_reducible refine gate_builtin (b := .append) (xs := #[.tmp 119, .tmp 121]) rfl ?_); at_builtin; refine Kd.R_append (Kd.int .i64) (w0 := w) w.heap.size rfl (.tmp 119) (.tmp 121) 22 3 (.int .i64 0) 8 rfl Try.underlying22 info3 rfl (by decide) (by omega) u114001 x114001_4 x15_4 [.int .i64 x15_4] (fun k_ => some k_ ≠ (.slice (some ad112) x5_1.length co34 : Value).ownBlock ∧ some k_ ≠ (u114000 : Value).ownBlock) (fun _ => False) rfl rfl ?aP (fun _ hk => hk.elim) ?aF ?aO ?aB ?aS ?aL ?_; (case aP => exact rfl); (case aB => exact (by repeat (first | (with_reducible first | exact HB.out | apply below_alloc | apply pw_below_drewN | apply below_drew1 | refine below_set ?_ GE101.out | refine below_set ?_ GE113.out) | exact HB.out))); (case aF => exact (fun k_ hk => ⟨Kd.fresh' (Kd.R_lt (by (with_reducible repeat (first | apply Kd.R_alloc | apply Kd.R_drewN | apply Kd.R_drew)); exact HO_5.out)) k_ hk, Kd.fresh' (Kd.R_lt (by (with_reducible repeat (first | apply Kd.R_alloc | apply Kd.R_drewN | apply Kd.R_drew)); exact HO_114000.out)) k_ hk⟩)); (case aO => exact (by (with_reducible repeat (first | apply Kd.R_alloc | apply Kd.R_drewN | apply Kd.R_drew)); exact HO_114001.out)); (case aS => exact (below_size (by repeat (first | (with_reducible first | exact HB.out | apply below_alloc | apply pw_below_drewN | apply below_drew1 | refine below_set ?_ GE101.out | refine below_set ?_ GE113.out) | exact HB.out)))); (case aL => have := LMc56.out; omega); intro v124 w60 ho hb hg hat; rw [← Ny123.out] at ho; have n0_ := Aside0.mk (Kd.R_after (ok := (fun k_ => some k_ ≠ (u114000 : Value).ownBlock)) (by (with_reducible repeat (first | apply Kd.R_alloc | apply Kd.R_drewN | apply Kd.R_drew)); exact HO_5.out) hg hat); have n1_ := Aside0.mk (Kd.S_after (ok := (fun k_ => some k_ ≠ (.slice (some ad112) x5_1.length co34 : Value).ownBlock ∧ some k_ ≠ (u114000 : Value).ownBlock ∧ k_ ≠ gb113)) (by (with_reducible repeat (first | apply Kd.S_alloc | apply Kd.S_drewN | apply Kd.S_drew)); exact Kd.S_mono HO_11.out (fun _ hk => ⟨⟨hk.1, ⟨hk.2.1, hk.2.2.2⟩⟩, hk.2.2.1⟩)) hg hat); have n2_ := Aside0.mk (Kd.R_after (ok := (fun k_ => some k_ ≠ (.slice (some ad112) x5_1.length co34 : Value).ownBlock)) (by (with_reducible repeat (first | apply Kd.R_alloc | apply Kd.R_drewN | apply Kd.R_drew)); exact HO_114000.out) hg hat); have n3_ := Aside0.mk (blk_grown (g := gb101) (o := .cells #[.slice A0_0 l0_0.length c0_0, .slice (some ad121) l0_1.length c0_1] 25 (0, 0)) (by (with_reducible repeat (first | refine blk_drewN ?_ _ | refine blk_drew ?_ | refine blk_alloc ?_ _)); exact BK101.out) hg (Kd.R_ne HO_114001.out BK101.out (by decide))); have n4_ := Aside0.mk (blk_grown (g := gb113) (o := .cells #[u114000, u114001] 27 (0, 0)) (by (with_reducible repeat (first | refine blk_drewN ?_ _ | refine blk_drew ?_ | refine blk_alloc ?_ _)); exact BK113.out) hg (Kd.R_ne HO_114001.out BK113.out (by decide))); have n5_ := Aside0.mk (hb); have n6_ := Aside0.mk (ho); clear HO_5; clear HO_11; clear HO_114000; clear BK101; clear BK113; clear HB; clear HO_114001; have HO_5 := n0_; have HO_11 := n1_; have HO_114000 := n2_; have BK101 := n3_; have BK113 := n4_; have HB := n5_; have HO125 := n6_; clear n0_ n1_ n2_ n3_ n4_ n5_ n6_; clear ho hb hg hat; obtain ⟨Ao61, co61, eo61⟩ := Kd.R_slice HO125.out; subst eo61; have hcz62_0 : w60.cell? ⟨gb113, 0, none⟩ = some (u114000) := (blk_cell BK113.out 0).trans rfl; have hcz62_1 : w60.cell? ⟨gb113, 1, none⟩ = some (u114001) := (blk_cell BK113.out 1).trans rfl; have hfz62_0 := blk_frozen BK113.out 0; have hfz62_1 := blk_frozen BK113.out 1)); try go_wp2_with (first | ((with_reducible refine gate_builtin (b := .append) (xs := #[.tmp 119, .tmp 121]) rfl ?_); at_builtin; refine Kd.R_append (Kd.int .i64) (w0 := w) w.heap.size rfl (.tmp 119) (.tmp 121) 22 3 (.int .i64 0) 8 rfl Try.underlying22 info3 rfl (by decide) (by omega) u114001 x114001_4 x15_4 [.int .i64 x15_4] (fun k_ => some k_ ≠ (.slice (some ad112) x5_1.length co34 : Value).ownBlock ∧ some k_ ≠ (u114000 : Value).ownBlock) (fun _ => False) rfl rfl ?aP (fun _ hk => hk.elim) ?aF ?aO ?aB ?aS ?aL ?_; (case aP => exact rfl); (case aB => exact (by repeat (first | (with_reducible first | exact HB.out | apply below_alloc | apply pw_below_drewN | apply below_drew1 | refine below_set ?_ GE101.out | refine below_set ?_ GE113.out) | exact HB.out))); (case aF => exact (fun k_ hk => ⟨Kd.fresh' (Kd.R_lt (by (with_reducible repeat (first | apply Kd.R_alloc | apply Kd.R_drewN | apply Kd.R_drew)); exact HO_5.out)) k_ hk, Kd.fresh' (Kd.R_lt (by (with_reducible repeat (first | apply Kd.R_alloc | apply Kd.R_drewN | apply Kd.R_drew)); exact HO_114000.out)) k_ hk⟩)); (case aO => exact (by (with_reducible repeat (first | apply Kd.R_alloc | apply Kd.R_drewN | apply Kd.R_drew)); exact HO_114001.out)); (case aS => exact (below_size (by repeat (first | (with_reducible first | exact HB.out | apply below_alloc | apply pw_below_drewN | apply below_drew1 | refine below_set ?_ GE101.out | refine below_set ?_ GE113.out) | exact HB.out)))); (case aL => have := LMc56.out; omega); intro v124 w60 ho hb hg hat; rw [← Ny123.out] at ho; have n0_ := Aside0.mk (Kd.R_after (ok := (fun k_ => some k_ ≠ (u114000 : Value).ownBlock)) (by (with_reducible repeat (first | apply Kd.R_alloc | apply Kd.R_drewN | apply Kd.R_drew)); exact HO_5.out) hg hat); have n1_ := Aside0.mk (Kd.S_after (ok := (fun k_ => some k_ ≠ (.slice (some ad112) x5_1.length co34 : Value).ownBlock ∧ some k_ ≠ (u114000 : Value).ownBlock ∧ k_ ≠ gb113)) (by (with_reducible repeat (first | apply Kd.S_alloc | apply Kd.S_drewN | apply Kd.S_drew)); exact Kd.S_mono HO_11.out (fun _ hk => ⟨⟨hk.1, ⟨hk.2.1, hk.2.2.2⟩⟩, hk.2.2.1⟩)) hg hat); have n2_ := Aside0.mk (Kd.R_after (ok := (fun k_ => some k_ ≠ (.slice (some ad112) x5_1.length co34 : Value).ownBlock)) (by (with_reducible repeat (first | apply Kd.R_alloc | apply Kd.R_drewN | apply Kd.R_drew)); exact HO_114000.out) hg hat); have n3_ := Aside0.mk (blk_grown (g := gb101) (o := .cells #[.slice A0_0 l0_0.length c0_0, .slice (some ad121) l0_1.length c0_1] 25 (0, 0)) (by (with_reducible repeat (first | refine blk_drewN ?_ _ | refine blk_drew ?_ | refine blk_alloc ?_ _)); exact BK101.out) hg (Kd.R_ne HO_114001.out BK101.out (by decide))); have n4_ := Aside0.mk (blk_grown (g := gb113) (o := .cells #[u114000, u114001] 27 (0, 0)) (by (with_reducible repeat (first | refine blk_drewN ?_ _ | refine blk_drew ?_ | refine blk_alloc ?_ _)); exact BK113.out) hg (Kd.R_ne HO_114001.out BK113.out (by decide))); have n5_ := Aside0.mk (hb); have n6_ := Aside0.mk (ho); clear HO_5; clear HO_11; clear HO_114000; clear BK101; clear BK113; clear HB; clear HO_114001; have HO_5 := n0_; have HO_11 := n1_; have HO_114000 := n2_; have BK101 := n3_; have BK113 := n4_; have HB := n5_; have HO125 := n6_; clear n0_ n1_ n2_ n3_ n4_ n5_ n6_; clear ho hb hg hat; obtain ⟨Ao61, co61, eo61⟩ := Kd.R_slice HO125.out; subst eo61; have hcz62_0 : w60.cell? ⟨gb113, 0, none⟩ = some (u114000) := (blk_cell BK113.out 0).trans rfl; have hcz62_1 : w60.cell? ⟨gb113, 1, none⟩ = some (u114001) := (blk_cell BK113.out 1).trans rfl; have hfz62_0 := blk_frozen BK113.out 0; have hfz62_1 := blk_frozen BK113.out 1)))
                                            go_roundg k4
                                            case measure => have := HK1.out; have := HK2.out; have := HK3.out; have := HK4.out; omega
                                            case rel => exact ⟨(wrap64 (x15_4 + 1)), (y123), (.slice Ao61 y123.length co61), (by first | rfl | (simp; done) | (simp [*]; done)), H', ⟨by have := HK1.out; have := HK2.out; have := HK3.out; have := HK4.out; omega⟩, ⟨by (with_reducible repeat (first | apply Kd.R_alloc | apply Kd.R_drewN | apply Kd.R_drew)); exact Kd.R_mono (Kd.R_far (p := ⟨gb113, 1, none⟩) (Kd.R_types HO_5.out BK113.out (by decide)) (fun _ hk => hk.2) (.slice Ao61 y123.length co61)) (fun _ hk => ⟨hk.1.1, hk.1.2⟩)⟩, ⟨by (with_reducible repeat (first | apply Kd.S_alloc | apply Kd.S_drewN | apply Kd.S_drew)); exact Kd.S_mono (Kd.S_far (p := ⟨gb113, 1, none⟩) (Kd.S_mono HO_11.out (fun k_ hk => (⟨hk, hk.1.2.2⟩ : _ ∧ k_ ≠ gb113))) (fun _ hk => hk.2) (.slice Ao61 y123.length co61)) (fun _ hk => ⟨hk.1.1.1, ⟨hk.1.1.2.1, ⟨hk.1.2, hk.1.1.2.2⟩⟩⟩)⟩, ⟨by (with_reducible repeat (first | apply Kd.R_alloc | apply Kd.R_drewN | apply Kd.R_drew)); exact Kd.R_mono (Kd.R_far (p := ⟨gb113, 1, none⟩) (Kd.R_types HO_114000.out BK113.out (by decide)) (fun _ hk => hk.2) (.slice Ao61 y123.length co61)) (fun _ hk => ⟨hk.1.1, hk.1.2⟩)⟩, ⟨by (with_reducible repeat (first | apply Kd.R_alloc | apply Kd.R_drewN | apply Kd.R_drew)); exact Kd.R_mono (Kd.R_far (p := ⟨gb113, 1, none⟩) (Kd.R_types HO125.out BK113.out (by decide)) (fun _ hk => hk.2) (.slice Ao61 y123.length co61)) (fun _ hk => ⟨hk.1.1, hk.1.2⟩)⟩, ⟨by (with_reducible repeat (first | refine blk_drewN ?_ _ | refine blk_drew ?_ | refine blk_alloc ?_ _)); refine blk_far ?_ NB101_113.out _; (with_reducible repeat (first | refine blk_drewN ?_ _ | refine blk_drew ?_ | refine blk_alloc ?_ _)); exact BK101.out⟩, ⟨by (with_reducible repeat (first | refine blk_drewN ?_ _ | refine blk_drew ?_ | refine blk_alloc ?_ _)); refine blk_put (cs := #[u114000, u114001]) ?_ 1 _ rfl; (with_reducible repeat (first | refine blk_drewN ?_ _ | refine blk_drew ?_ | refine blk_alloc ?_ _)); exact BK113.out⟩, ⟨by repeat (first | (with_reducible first | exact HB.out | apply below_alloc | apply pw_below_drewN | apply below_drew1 | refine below_set ?_ GE101.out | refine below_set ?_ GE113.out) | exact HB.out)⟩⟩
                                          · rw [if_neg c56] at H
                                            exact absurd H (by simp)
                                        · rw [if_neg c55] at H
                                          have c55b0 : ((rd x5_1 ((rd_T78 l0_1 x15_4).f1)) == x12_2) = false := beq_eq_false_iff_ne.mpr c55
                                          have c55b1 : ((rd x5_1 ((rd_T78 l0_1 x15_4).f1)) != x12_2) = true := bne_iff_ne.mpr c55
                                          have H' := Aside0.mk H
                                          clear H
                                          have hnb63 := NB101_113.out
                                          have hnc63 := NB113_101.out
                                          have hcz64_0 : wr.cell? ⟨gb101, 0, none⟩ = some (.slice A0_0 l0_0.length c0_0) := (blk_cell BK101.out 0).trans rfl
                                          have hcz64_1 : wr.cell? ⟨gb101, 1, none⟩ = some (.slice A0_1 l0_1.length c0_1) := (blk_cell BK101.out 1).trans rfl
                                          have hfz64_0 := blk_frozen BK101.out 0
                                          have hfz64_1 := blk_frozen BK101.out 1
                                          have p121 : 0 ≤ (x15_4 : Int) := of_decide_eq_true (by first | (with_reducible assumption) | assumption)
                                          have q121 : x15_4 < (l0_1.length : Int) := of_decide_eq_true (by first | (with_reducible assumption) | assumption)
                                          obtain ⟨ad121, e121, hx121_0, hx121_1, hx121_2⟩ := at_T78 HR0_1.out x15_4 p121 q121
                                          cases e121
                                          replace hx121_0 := (HB.out.cell (World.block_lt_of_cell? w _ hx121_0)).trans hx121_0
                                          replace hx121_1 := (HB.out.cell (World.block_lt_of_cell? w _ hx121_1)).trans hx121_1
                                          replace hx121_2 := (HB.out.cell (World.block_lt_of_cell? w _ hx121_2)).trans hx121_2
                                          replace p121 := eq_true p121
                                          replace q121 := eq_true q121
                                          have p122 : 0 ≤ (((rd_T78 l0_1 x15_4).f1) : Int) := of_decide_eq_true (by first | (with_reducible assumption) | assumption)
                                          have q122 : ((rd_T78 l0_1 x15_4).f1) < (x5_1.length : Int) := of_decide_eq_true (by first | (with_reducible assumption) | assumption)
                                          obtain ⟨ad122, e122, hx122_0⟩ := Kd.at_int (Kd.R_reads' HO_5.out).2.2 ((rd_T78 l0_1 x15_4).f1) p122 q122
                                          obtain rfl : ad112 = ad122 := (by injection e122)
                                          replace p122 := eq_true p122
                                          replace q122 := eq_true q122
                                          go_wp2
                                          repeat (go_quiet (fail); try go_wp2)
                                          go_roundg k4
                                          case measure => have := HK1.out; have := HK2.out; have := HK3.out; have := HK4.out; omega
                                          case rel => exact ⟨(wrap64 (x15_4 + 1)), (x114001_4), (u114001), (by first | rfl | (simp; done) | (simp [*]; done)), H', ⟨by have := HK1.out; have := HK2.out; have := HK3.out; have := HK4.out; omega⟩, ⟨by (with_reducible repeat (first | apply Kd.R_alloc | apply Kd.R_drewN | apply Kd.R_drew)); exact HO_5.out⟩, ⟨by (with_reducible repeat (first | apply Kd.S_alloc | apply Kd.S_drewN | apply Kd.S_drew)); exact HO_11.out⟩, ⟨by (with_reducible repeat (first | apply Kd.R_alloc | apply Kd.R_drewN | apply Kd.R_drew)); exact HO_114000.out⟩, ⟨by (with_reducible repeat (first | apply Kd.R_alloc | apply Kd.R_drewN | apply Kd.R_drew)); exact HO_114001.out⟩, ⟨by (with_reducible repeat (first | refine blk_drewN ?_ _ | refine blk_drew ?_ | refine blk_alloc ?_ _)); exact BK101.out⟩, ⟨by (with_reducible repeat (first | refine blk_drewN ?_ _ | refine blk_drew ?_ | refine blk_alloc ?_ _)); exact BK113.out⟩, ⟨by repeat (first | (with_reducible first | exact HB.out | apply below_alloc | apply pw_below_drewN | apply below_drew1 | refine below_set ?_ GE101.out | refine below_set ?_ GE113.out) | exact HB.out)⟩⟩
                                      · rw [if_neg c54] at H
                                        exact absurd H (by simp)
                                    · rw [if_neg c53] at H
                                      exact absurd H (by simp)
                                  · rw [if_neg c52] at H
                                    exact absurd H (by simp)
                                · rw [if_neg c51] at H
                                  have c51b0 : decide (x15_4 < (l0_1.length : Int)) = false := decide_eq_false c51
                                  clear c51
                                  by_cases c65 : x11_2.length < 2932031007402
                                  · rw [if_pos c65] at H
                                    have LMc65 := Aside0.mk c65
                                    clear c65
                                    obtain ⟨y118, hy118⟩ : ∃ y_ : List (S27), y_ = (x11_2 ++ [(⟨x114000_3, x114001_4⟩ : S27)]) := ⟨_, rfl⟩
                                    replace H : (scarfjointref05_Components.l2 k4 x5_1 y118 (wrap64 (x12_2 + 1)) l0_0 l0_1) = some (r1, r2) := by first | (rw [hy118]; with_reducible exact H) | (have H2_ := (Option.bind_some _ _).symm.trans H; rw [hy118]; with_reducible exact H2_) | (have H2_ := (Option.bind_some _ _).symm.trans H; with_reducible exact H2_) | with_reducible exact H | (rw [hy118]; exact H) | exact H
                                    have Ny118 := Aside0.mk hy118
                                    clear hy118
                                    have H' := Aside0.mk H
                                    clear H
                                    have hnb66 := NB101_113.out
                                    have hnc66 := NB113_101.out
                                    have hcz67_0 : wr.cell? ⟨gb101, 0, none⟩ = some (.slice A0_0 l0_0.length c0_0) := (blk_cell BK101.out 0).trans rfl
                                    have hcz67_1 : wr.cell? ⟨gb101, 1, none⟩ = some (.slice A0_1 l0_1.length c0_1) := (blk_cell BK101.out 1).trans rfl
                                    have hfz67_0 := blk_frozen BK101.out 0
                                    have hfz67_1 := blk_frozen BK101.out 1
                                    have hcz68_0 : wr.cell? ⟨gb113, 0, none⟩ = some (u114000) := (blk_cell BK113.out 0).trans rfl
                                    have hcz68_1 : wr.cell? ⟨gb113, 1, none⟩ = some (u114001) := (blk_cell BK113.out 1).trans rfl
                                    have hfz68_0 := blk_frozen BK113.out 0
                                    have hfz68_1 := blk_frozen BK113.out 1
                                    obtain ⟨Ao70, co70, eo70⟩ := Kd.R_slice HO_114000.out
                                    subst eo70
                                    obtain ⟨Ao71, co71, eo71⟩ := Kd.R_slice HO_114001.out
                                    subst eo71
                                    go_wp2_with (first | ((with_reducible refine gate_builtin (b := .append) (xs := #[.tmp 124, .tmp 126]) rfl ?_); at_builtin; refine Kd.S_append k27 (w0 := w) w.heap.size rfl (.tmp 124) (.tmp 126) 42 27 (.agg #[(.slice none 0 0), (.slice none 0 0)]) 48 rfl Try.underlying42 info27 rfl (by decide) (by omega) u11 x11_2 (⟨x114000_3, x114001_4⟩ : S27) [.slice Ao70 x114000_3.length co70, .slice Ao71 x114001_4.length co71] (fun k_ => some k_ ≠ (.slice (some ad112) x5_1.length co34 : Value).ownBlock ∧ k_ ≠ gb113) (fun k_ => some k_ = (.slice Ao70 x114000_3.length co70 : Value).ownBlock ∨ some k_ = (.slice Ao71 x114001_4.length co71 : Value).ownBlock) rfl rfl ?aP (fun k_ hk_ => hk_.elim (fun h_ => ((Kd.R_mono (ok' := fun k_ => ((fun k_ => some k_ ≠ (.slice (some ad112) x5_1.length co34 : Value).ownBlock ∧ k_ ≠ gb113)) k_ ∧ some k_ ≠ (u11 : Value).ownBlock) (Kd.R_types (Kd.R_apart' (HO_114000.out) (Kd.S_typed HO_11.out) (by decide)) BK113.out (by decide)) (fun k_ hk => ⟨⟨hk.1.1.1, hk.2⟩, hk.1.2⟩))).1 k_ h_.symm) (fun h_ => ((Kd.R_mono (ok' := fun k_ => ((fun k_ => some k_ ≠ (.slice (some ad112) x5_1.length co34 : Value).ownBlock ∧ k_ ≠ gb113)) k_ ∧ some k_ ≠ (u11 : Value).ownBlock) (Kd.R_types (Kd.R_apart' (HO_114001.out) (Kd.S_typed HO_11.out) (by decide)) BK113.out (by decide)) (fun k_ hk => ⟨⟨hk.1.1.1, hk.2⟩, hk.1.2⟩))).1 k_ h_.symm)) ?aF ?aO ?aB ?aS ?aL ?_; (case aP => exact k27_mkM _ _ _ (⟨x114000_3, x114001_4⟩ : S27) (Kd.R_mono (Kd.R_tight rfl (Kd.R_mono (ok' := fun k_ => ((fun k_ => some k_ ≠ (.slice (some ad112) x5_1.length co34 : Value).ownBlock ∧ k_ ≠ gb113)) k_ ∧ some k_ ≠ (u11 : Value).ownBlock) (Kd.R_types (Kd.R_apart' (HO_114000.out) (Kd.S_typed HO_11.out) (by decide)) BK113.out (by decide)) (fun k_ hk => ⟨⟨hk.1.1.1, hk.2⟩, hk.1.2⟩))) (fun _ h_ => Or.inl h_)) (Kd.R_mono (Kd.R_tight rfl (Kd.R_mono (ok' := fun k_ => ((fun k_ => some k_ ≠ (.slice (some ad112) x5_1.length co34 : Value).ownBlock ∧ k_ ≠ gb113)) k_ ∧ some k_ ≠ (u11 : Value).ownBlock) (Kd.R_types (Kd.R_apart' (HO_114001.out) (Kd.S_typed HO_11.out) (by decide)) BK113.out (by decide)) (fun k_ hk => ⟨⟨hk.1.1.1, hk.2⟩, hk.1.2⟩))) (fun _ h_ => Or.inr (h_)))); (case aB => exact (by repeat (first | (with_reducible first | exact HB.out | apply below_alloc | apply pw_below_drewN | apply below_drew1 | refine below_set ?_ GE101.out | refine below_set ?_ GE113.out) | exact HB.out))); (case aF => exact (fun k_ hk => ⟨Kd.fresh' (Kd.R_lt (by (with_reducible repeat (first | apply Kd.R_alloc | apply Kd.R_drewN | apply Kd.R_drew)); exact HO_5.out)) k_ hk, Kd.freshB (g := gb113) (o := .cells #[.slice Ao70 x114000_3.length co70, .slice Ao71 x114001_4.length co71] 27 (0, 0)) (by (with_reducible repeat (first | refine blk_drewN ?_ _ | refine blk_drew ?_ | refine blk_alloc ?_ _)); exact BK113.out) k_ hk⟩)); (case aO => exact (by (with_reducible repeat (first | apply Kd.S_alloc | apply Kd.S_drewN | apply Kd.S_drew)); exact Kd.S_mono HO_11.out (fun k_ hk => ⟨⟨hk.1, hk.2.2.2⟩, fun e_ => e_.elim (fun h_ => hk.2.1 h_) (fun h_ => hk.2.2.1 h_)⟩))); (case aS => exact (below_size (by repeat (first | (with_reducible first | exact HB.out | apply below_alloc | apply pw_below_drewN | apply below_drew1 | refine below_set ?_ GE101.out | refine below_set ?_ GE113.out) | exact HB.out)))); (case aL => have := LMc65.out; omega); intro v119 w69 ho hb hg hat; rw [← Ny118.out] at ho; have n0_ := Aside0.mk (Kd.R_over' (by (with_reducible repeat (first | apply Kd.R_alloc | apply Kd.R_drewN | apply Kd.R_drew)); exact HO_5.out) (Kd.S_typed (by (with_reducible repeat (first | apply Kd.S_alloc | apply Kd.S_drewN | apply Kd.S_drew)); exact HO_11.out)) (by decide) hg); have n1_ := Aside0.mk (blk_grown (g := gb101) (o := .cells #[.slice A0_0 l0_0.length c0_0, .slice A0_1 l0_1.length c0_1] 25 (0, 0)) (by (with_reducible repeat (first | refine blk_drewN ?_ _ | refine blk_drew ?_ | refine blk_alloc ?_ _)); exact BK101.out) hg (Kd.S_ne HO_11.out BK101.out (by decide))); have n2_ := Aside0.mk (blk_grown (g := gb113) (o := .cells #[.slice Ao70 x114000_3.length co70, .slice Ao71 x114001_4.length co71] 27 (0, 0)) (by (with_reducible repeat (first | refine blk_drewN ?_ _ | refine blk_drew ?_ | refine blk_alloc ?_ _)); exact BK113.out) hg (Kd.S_away HO_11.out (fun _ hk => hk.2.2.2))); have n3_ := Aside0.mk (hb); have n4_ := Aside0.mk (ho); clear HO_5; clear BK101; clear BK113; clear HB; clear HO_11; clear HO_114000; clear HO_114001; have HO_5 := n0_; have BK101 := n1_; have BK113 := n2_; have HB := n3_; have HO120 := n4_; clear n0_ n1_ n2_ n3_ n4_; clear ho hb hg hat))
                                    repeat (go_quiet (first | ((with_reducible refine gate_builtin (b := .append) (xs := #[.tmp 124, .tmp 126]) rfl ?_); at_builtin; refine Kd.S_append k27 (w0 := w) w.heap.size rfl (.tmp 124) (.tmp 126) 42 27 (.agg #[(.slice none 0 0), (.slice none 0 0)]) 48 rfl Try.underlying42 info27 rfl (by decide) (by omega) u11 x11_2 (⟨x114000_3, x114001_4⟩ : S27) [.slice Ao70 x114000_3.length co70, .slice Ao71 x114001_4.length co71] (fun k_ => some k_ ≠ (.slice (some ad112) x5_1.length co34 : Value).ownBlock ∧ k_ ≠ gb113) (fun k_ => some k_ = (.slice Ao70 x114000_3.length co70 : Value).ownBlock ∨ some k_ = (.slice Ao71 x114001_4.length co71 : Value).ownBlock) rfl rfl ?aP (fun k_ hk_ => hk_.elim (fun h_ => ((Kd.R_mono (ok' := fun k_ => ((fun k_ => some k_ ≠ (.slice (some ad112) x5_1.length co34 : Value).ownBlock ∧ k_ ≠ gb113)) k_ ∧ some k_ ≠ (u11 : Value).ownBlock) (Kd.R_types (Kd.R_apart' (HO_114000.out) (Kd.S_typed HO_11.out) (by decide)) BK113.out (by decide)) (fun k_ hk => ⟨⟨hk.1.1.1, hk.2⟩, hk.1.2⟩))).1 k_ h_.symm) (fun h_ => ((Kd.R_mono (ok' := fun k_ => ((fun k_ => some k_ ≠ (.slice (some ad112) x5_1.length co34 : Value).ownBlock ∧ k_ ≠ gb113)) k_ ∧ some k_ ≠ (u11 : Value).ownBlock) (Kd.R_types (Kd.R_apart' (HO_114001.out) (Kd.S_typed HO_11.out) (by decide)) BK113.out (by decide)) (fun k_ hk => ⟨⟨hk.1.1.1, hk.2⟩, hk.1.2⟩))).1 k_ h_.symm)) ?aF ?aO ?aB ?aS ?aL ?_; (case aP => exact k27_mkM _ _ _ (⟨x114000_3, x114001_4⟩ : S27) (Kd.R_mono (Kd.R_tight rfl (Kd.R_mono (ok' := fun k_ => ((fun k_ => some k_ ≠ (.slice (some ad112) x5_1.length co34 : Value).ownBlock ∧ k_ ≠ gb113)) k_ ∧ some k_ ≠ (u11 : Value).ownBlock) (Kd.R_types (Kd.R_apart' (HO_114000.out) (Kd.S_typed HO_11.out) (by decide)) BK113.out (by decide)) (fun k_ hk => ⟨⟨hk.1.1.1, hk.2⟩, hk.1.2⟩))) (fun _ h_ => Or.inl h_)) (Kd.R_mono (Kd.R_tight rfl (Kd.R_mono (ok' := fun k_ => ((fun k_ => some k_ ≠ (.slice (some ad112) x5_1.length co34 : Value).ownBlock ∧ k_ ≠ gb113)) k_ ∧ some k_ ≠ (u11 : Value).ownBlock) (Kd.R_types (Kd.R_apart' (HO_114001.out) (Kd.S_typed HO_11.out) (by decide)) BK113.out (by decide)) (fun k_ hk => ⟨⟨hk.1.1.1, hk.2⟩, hk.1.2⟩))) (fun _ h_ => Or.inr (h_)))); (case aB => exact (by repeat (first | (with_reducible first | exact HB.out | apply below_alloc | apply pw_below_drewN | apply below_drew1 | refine below_set ?_ GE101.out | refine below_set ?_ GE113.out) | exact HB.out))); (case aF => exact (fun k_ hk => ⟨Kd.fresh' (Kd.R_lt (by (with_reducible repeat (first | apply Kd.R_alloc | apply Kd.R_drewN | apply Kd.R_drew)); exact HO_5.out)) k_ hk, Kd.freshB (g := gb113) (o := .cells #[.slice Ao70 x114000_3.length co70, .slice Ao71 x114001_4.length co71] 27 (0, 0)) (by (with_reducible repeat (first | refine blk_drewN ?_ _ | refine blk_drew ?_ | refine blk_alloc ?_ _)); exact BK113.out) k_ hk⟩)); (case aO => exact (by (with_reducible repeat (first | apply Kd.S_alloc | apply Kd.S_drewN | apply Kd.S_drew)); exact Kd.S_mono HO_11.out (fun k_ hk => ⟨⟨hk.1, hk.2.2.2⟩, fun e_ => e_.elim (fun h_ => hk.2.1 h_) (fun h_ => hk.2.2.1 h_)⟩))); (case aS => exact (below_size (by repeat (first | (with_reducible first | exact HB.out | apply below_alloc | apply pw_below_drewN | apply below_drew1 | refine below_set ?_ GE101.out | refine below_set ?_ GE113.out) | exact HB.out)))); (case aL => have := LMc65.out; omega); intro v119 w69 ho hb hg hat; rw [← Ny118.out] at ho; have n0_ := Aside0.mk (Kd.R_over' (by (with_reducible repeat (first | apply Kd.R_alloc | apply Kd.R_drewN | apply Kd.R_drew)); exact HO_5.out) (Kd.S_typed (by (with_reducible repeat (first | apply Kd.S_alloc | apply Kd.S_drewN | apply Kd.S_drew)); exact HO_11.out)) (by decide) hg); have n1_ := Aside0.mk (blk_grown (g := gb101) (o := .cells #[.slice A0_0 l0_0.length c0_0, .slice A0_1 l0_1.length c0_1] 25 (0, 0)) (by (with_reducible repeat (first | refine blk_drewN ?_ _ | refine blk_drew ?_ | refine blk_alloc ?_ _)); exact BK101.out) hg (Kd.S_ne HO_11.out BK101.out (by decide))); have n2_ := Aside0.mk (blk_grown (g := gb113) (o := .cells #[.slice Ao70 x114000_3.length co70, .slice Ao71 x114001_4.length co71] 27 (0, 0)) (by (with_reducible repeat (first | refine blk_drewN ?_ _ | refine blk_drew ?_ | refine blk_alloc ?_ _)); exact BK113.out) hg (Kd.S_away HO_11.out (fun _ hk => hk.2.2.2))); have n3_ := Aside0.mk (hb); have n4_ := Aside0.mk (ho); clear HO_5; clear BK101; clear BK113; clear HB; clear HO_11; clear HO_114000; clear HO_114001; have HO_5 := n0_; have BK101 := n1_; have BK113 := n2_; have HB := n3_; have HO120 := n4_; clear n0_ n1_ n2_ n3_ n4_; clear ho hb hg hat)); try go_wp2_with (first | ((with_reducible refine gate_builtin (b := .append) (xs := #[.tmp 124, .tmp 126]) rfl ?_); at_builtin; refine Kd.S_append k27 (w0 := w) w.heap.size rfl (.tmp 124) (.tmp 126) 42 27 (.agg #[(.slice none 0 0), (.slice none 0 0)]) 48 rfl Try.underlying42 info27 rfl (by decide) (by omega) u11 x11_2 (⟨x114000_3, x114001_4⟩ : S27) [.slice Ao70 x114000_3.length co70, .slice Ao71 x114001_4.length co71] (fun k_ => some k_ ≠ (.slice (some ad112) x5_1.length co34 : Value).ownBlock ∧ k_ ≠ gb113) (fun k_ => some k_ = (.slice Ao70 x114000_3.length co70 : Value).ownBlock ∨ some k_ = (.slice Ao71 x114001_4.length co71 : Value).ownBlock) rfl rfl ?aP (fun k_ hk_ => hk_.elim (fun h_ => ((Kd.R_mono (ok' := fun k_ => ((fun k_ => some k_ ≠ (.slice (some ad112) x5_1.length co34 : Value).ownBlock ∧ k_ ≠ gb113)) k_ ∧ some k_ ≠ (u11 : Value).ownBlock) (Kd.R_types (Kd.R_apart' (HO_114000.out) (Kd.S_typed HO_11.out) (by decide)) BK113.out (by decide)) (fun k_ hk => ⟨⟨hk.1.1.1, hk.2⟩, hk.1.2⟩))).1 k_ h_.symm) (fun h_ => ((Kd.R_mono (ok' := fun k_ => ((fun k_ => some k_ ≠ (.slice (some ad112) x5_1.length co34 : Value).ownBlock ∧ k_ ≠ gb113)) k_ ∧ some k_ ≠ (u11 : Value).ownBlock) (Kd.R_types (Kd.R_apart' (HO_114001.out) (Kd.S_typed HO_11.out) (by decide)) BK113.out (by decide)) (fun k_ hk => ⟨⟨hk.1.1.1, hk.2⟩, hk.1.2⟩))).1 k_ h_.symm)) ?aF ?aO ?aB ?aS ?aL ?_; (case aP => exact k27_mkM _ _ _ (⟨x114000_3, x114001_4⟩ : S27) (Kd.R_mono (Kd.R_tight rfl (Kd.R_mono (ok' := fun k_ => ((fun k_ => some k_ ≠ (.slice (some ad112) x5_1.length co34 : Value).ownBlock ∧ k_ ≠ gb113)) k_ ∧ some k_ ≠ (u11 : Value).ownBlock) (Kd.R_types (Kd.R_apart' (HO_114000.out) (Kd.S_typed HO_11.out) (by decide)) BK113.out (by decide)) (fun k_ hk => ⟨⟨hk.1.1.1, hk.2⟩, hk.1.2⟩))) (fun _ h_ => Or.inl h_)) (Kd.R_mono (Kd.R_tight rfl (Kd.R_mono (ok' := fun k_ => ((fun k_ => some k_ ≠ (.slice (some ad112) x5_1.length co34 : Value).ownBlock ∧ k_ ≠ gb113)) k_ ∧ some k_ ≠ (u11 : Value).ownBlock) (Kd.R_types (Kd.R_apart' (HO_114001.out) (Kd.S_typed HO_11.out) (by decide)) BK113.out (by decide)) (fun k_ hk => ⟨⟨hk.1.1.1, hk.2⟩, hk.1.2⟩))) (fun _ h_ => Or.inr (h_)))); (case aB => exact (by repeat (first | (with_reducible first | exact HB.out | apply below_alloc | apply pw_below_drewN | apply below_drew1 | refine below_set ?_ GE101.out | refine below_set ?_ GE113.out) | exact HB.out))); (case aF => exact (fun k_ hk => ⟨Kd.fresh' (Kd.R_lt (by (with_reducible repeat (first | apply Kd.R_alloc | apply Kd.R_drewN | apply Kd.R_drew)); exact HO_5.out)) k_ hk, Kd.freshB (g := gb113) (o := .cells #[.slice Ao70 x114000_3.length co70, .slice Ao71 x114001_4.length co71] 27 (0, 0)) (by (with_reducible repeat (first | refine blk_drewN ?_ _ | refine blk_drew ?_ | refine blk_alloc ?_ _)); exact BK113.out) k_ hk⟩)); (case aO => exact (by (with_reducible repeat (first | apply Kd.S_alloc | apply Kd.S_drewN | apply Kd.S_drew)); exact Kd.S_mono HO_11.out (fun k_ hk => ⟨⟨hk.1, hk.2.2.2⟩, fun e_ => e_.elim (fun h_ => hk.2.1 h_) (fun h_ => hk.2.2.1 h_)⟩))); (case aS => exact (below_size (by repeat (first | (with_reducible first | exact HB.out | apply below_alloc | apply pw_below_drewN | apply below_drew1 | refine below_set ?_ GE101.out | refine below_set ?_ GE113.out) | exact HB.out)))); (case aL => have := LMc65.out; omega); intro v119 w69 ho hb hg hat; rw [← Ny118.out] at ho; have n0_ := Aside0.mk (Kd.R_over' (by (with_reducible repeat (first | apply Kd.R_alloc | apply Kd.R_drewN | apply Kd.R_drew)); exact HO_5.out) (Kd.S_typed (by (with_reducible repeat (first | apply Kd.S_alloc | apply Kd.S_drewN | apply Kd.S_drew)); exact HO_11.out)) (by decide) hg); have n1_ := Aside0.mk (blk_grown (g := gb101) (o := .cells #[.slice A0_0 l0_0.length c0_0, .slice A0_1 l0_1.length c0_1] 25 (0, 0)) (by (with_reducible repeat (first | refine blk_drewN ?_ _ | refine blk_drew ?_ | refine blk_alloc ?_ _)); exact BK101.out) hg (Kd.S_ne HO_11.out BK101.out (by decide))); have n2_ := Aside0.mk (blk_grown (g := gb113) (o := .cells #[.slice Ao70 x114000_3.length co70, .slice Ao71 x114001_4.length co71] 27 (0, 0)) (by (with_reducible repeat (first | refine blk_drewN ?_ _ | refine blk_drew ?_ | refine blk_alloc ?_ _)); exact BK113.out) hg (Kd.S_away HO_11.out (fun _ hk => hk.2.2.2))); have n3_ := Aside0.mk (hb); have n4_ := Aside0.mk (ho); clear HO_5; clear BK101; clear BK113; clear HB; clear HO_11; clear HO_114000; clear HO_114001; have HO_5 := n0_; have BK101 := n1_; have BK113 := n2_; have HB := n3_; have HO120 := n4_; clear n0_ n1_ n2_ n3_ n4_; clear ho hb hg hat)))
                                    go_roundg k4
                                    case measure => have := HK1.out; have := HK2.out; have := HK3.out; have := HK4.out; omega
                                    case rel => exact ⟨(y118), (wrap64 (x12_2 + 1)), (by first | rfl | (simp; done) | (simp [*]; done)), H', ⟨by have := HK1.out; have := HK2.out; have := HK3.out; have := HK4.out; omega⟩, ⟨by (with_reducible repeat (first | apply Kd.R_alloc | apply Kd.R_drewN | apply Kd.R_drew)); exact Kd.R_mono HO_5.out (fun _ hk => trivial)⟩, ⟨by (with_reducible repeat (first | apply Kd.S_alloc | apply Kd.S_drewN | apply Kd.S_drew)); exact Kd.S_mono HO120.out (fun _ hk => hk.1)⟩, ⟨by (with_reducible repeat (first | refine blk_drewN ?_ _ | refine blk_drew ?_ | refine blk_alloc ?_ _)); exact BK101.out⟩, ⟨by repeat (first | (with_reducible first | exact HB.out | apply below_alloc | apply pw_below_drewN | apply below_drew1 | refine below_set ?_ GE101.out | refine below_set ?_ GE113.out) | exact HB.out)⟩⟩
                                  · rw [if_neg c65] at H
                                    exact absurd H (by simp)
                    · rw [if_neg c32] at H
                      have c32b0 : ((rd x5_1 x12_2) == x12_2) = false := beq_eq_false_iff_ne.mpr c32
                      have c32b1 : ((rd x5_1 x12_2) != x12_2) = true := bne_iff_ne.mpr c32
                      have H' := Aside0.mk H
                      clear H
                      have hcz72_0 : wr.cell? ⟨gb101, 0, none⟩ = some (.slice A0_0 l0_0.length c0_0) := (blk_cell BK101.out 0).trans rfl
                      have hcz72_1 : wr.cell? ⟨gb101, 1, none⟩ = some (.slice A0_1 l0_1.length c0_1) := (blk_cell BK101.out 1).trans rfl
                      have hfz72_0 := blk_frozen BK101.out 0
                      have hfz72_1 := blk_frozen BK101.out 1
                      obtain ⟨Ao73, co73, eo73⟩ := Kd.R_slice HO_5.out
                      subst eo73
                      have p112 : 0 ≤ (x12_2 : Int) := of_decide_eq_true (by first | (with_reducible assumption) | assumption)
                      have q112 : x12_2 < (x5_1.length : Int) := of_decide_eq_true (by first | (with_reducible assumption) | assumption)
                      obtain ⟨ad112, e112, hx112_0⟩ := Kd.at_int (Kd.R_reads' HO_5.out).2.2 x12_2 p112 q112
                      cases e112
                      replace p112 := eq_true p112
                      replace q112 := eq_true q112
                      go_wp2
                      repeat (go_quiet (fail); try go_wp2)
                      go_roundg k2
                      case measure => have := HK1.out; have := HK2.out; omega
                      case rel => exact ⟨(x11_2), (wrap64 (x12_2 + 1)), (by first | rfl | (simp; done) | (simp [*]; done)), H', ⟨by have := HK1.out; have := HK2.out; omega⟩, ⟨by (with_reducible repeat (first | apply Kd.R_alloc | apply Kd.R_drewN | apply Kd.R_drew)); exact HO_5.out⟩, ⟨by (with_reducible repeat (first | apply Kd.S_alloc | apply Kd.S_drewN | apply Kd.S_drew)); exact HO_11.out⟩, ⟨by (with_reducible repeat (first | refine blk_drewN ?_ _ | refine blk_drew ?_ | refine blk_alloc ?_ _)); exact BK101.out⟩, ⟨by repeat (first | (with_reducible first | exact HB.out | apply below_alloc | apply pw_below_drewN | apply below_drew1 | refine below_set ?_ GE101.out) | exact HB.out)⟩⟩
                  · rw [if_neg c31] at H
                    exact absurd H (by simp)
                · rw [if_neg c30] at H
                  exact absurd H (by simp)
              · rw [if_neg c29] at H
                have c29b0 : decide (x12_2 < (l0_0.length : Int)) = false := decide_eq_false c29
                clear c29
                simp only [Option.some.injEq, Prod.mk.injEq] at H
                obtain ⟨rfl, rfl⟩ := H
                have hcz74_0 : wr.cell? ⟨gb101, 0, none⟩ = some (.slice A0_0 l0_0.length c0_0) := (blk_cell BK101.out 0).trans rfl
                have hcz74_1 : wr.cell? ⟨gb101, 1, none⟩ = some (.slice A0_1 l0_1.length c0_1) := (blk_cell BK101.out 1).trans rfl
                have hfz74_0 := blk_frozen BK101.out 0
                have hfz74_1 := blk_frozen BK101.out 1
                go_wp2
                repeat (go_quiet (fail); try go_wp2)
                go_ret2
                exact ⟨_, by first | rfl | (simp [errW_none, errW_some] <;> rfl) | (simp [*, errW_none, errW_some] <;> rfl), by (with_reducible repeat (first | apply Kd.S_alloc | apply Kd.S_drewN | apply Kd.S_drew)); exact Kd.S_mono HO_11.out (fun _ hk => trivial), by repeat (first | (with_reducible first | exact HB.out | apply below_alloc | apply pw_below_drewN | apply below_drew1 | refine below_set ?_ GE101.out) | exact HB.out)⟩
  · rw [if_neg c3] at H
    have c3b0 : (t102 == 0) = false := beq_eq_false_iff_ne.mpr c3
    have c3b1 : (t102 != 0) = true := bne_iff_ne.mpr c3
    simp only [Option.some.injEq, Prod.mk.injEq] at H
    obtain ⟨rfl, rfl⟩ := H
    go_enter Try.func22, Try.ntmps22
    go_wp2_with (first | ((with_reducible refine gate_dst (N := 1) rfl ?_); refine box_event ?hg (N := 1) ?hd (cs := #[.slice A0_0 l0_0.length c0_0, .slice A0_1 l0_1.length c0_1]) (t := 25) ?hr ?_; (case hd => rfl); (case hg => rfl); (case hr => first | (go_simp; done) | (go_simp; rfl)); intro gb101 hg w75 hbox hb; have n0_ := Aside0.mk (below_step (by repeat (first | (with_reducible first | exact HB.out | apply below_alloc | apply pw_below_drewN | apply below_drew1) | exact HB.out)) hb); have n1_ := Aside0.mk (hbox); have n2_ := Aside0.mk ((by rw [hg]; exact (below_size (by repeat (first | (with_reducible first | exact HB.out | apply below_alloc | apply pw_below_drewN | apply below_drew1) | exact HB.out))) : w.heap.size ≤ gb101)); have n3_ := Aside0.mk ((by rw [hg]; exact (below_size (by repeat (first | (with_reducible first | exact HB.out | apply below_alloc | apply pw_below_drewN | apply below_drew1) | exact HB.out))) : w.heap.size ≤ gb101)); clear HB; have HB := n0_; have BK101 := n1_; have GW101 := n2_; have GE101 := n3_; clear n0_ n1_ n2_ n3_; clear hb hbox hg; have hcz76_0 : w75.cell? ⟨gb101, 0, none⟩ = some (.slice A0_0 l0_0.length c0_0) := (blk_cell BK101.out 0).trans rfl; have hcz76_1 : w75.cell? ⟨gb101, 1, none⟩ = some (.slice A0_1 l0_1.length c0_1) := (blk_cell BK101.out 1).trans rfl; have hfz76_0 := blk_frozen BK101.out 0; have hfz76_1 := blk_frozen BK101.out 1) | (go_at_call 20; (with_reducible refine (scarfjointref05_Valid.calls k _ _ l0_0 _ _ l0_1 t102 _ ?side1 ?side2 ?side3 ?side4 A2.out).mono ?_); (case side1 => repeat (first | exact (Kd.C_below HR0_0.out HB.out) | (with_reducible refine Kd.C_alloc ?_ _) | (with_reducible refine Kd.C_drewN ?_ _) | (with_reducible refine Kd.C_drew ?_))); (case side2 => exact HC0_0.out); (case side3 => repeat (first | exact (Kd.C_below HR0_1.out HB.out) | (with_reducible refine Kd.C_alloc ?_ _) | (with_reducible refine Kd.C_drewN ?_ _) | (with_reducible refine Kd.C_drew ?_))); (case side4 => exact HC0_1.out); rintro e w77 ⟨rfl, hb⟩; have n0_ := Aside0.mk (blk_below (g := gb101) (o := .cells #[.slice A0_0 l0_0.length c0_0, .slice A0_1 l0_1.length c0_1] 25 (0, 0)) (by (with_reducible repeat (first | refine blk_drewN ?_ _ | refine blk_drew ?_ | refine blk_alloc ?_ _)); exact BK101.out) hb); have n1_ := Aside0.mk (below_step (by repeat (first | (with_reducible first | exact HB.out | apply below_alloc | apply pw_below_drewN | apply below_drew1 | refine below_set ?_ GE101.out) | exact HB.out)) hb); clear BK101; clear HB; have BK101 := n0_; have HB := n1_; clear n0_ n1_; (try clear hb); (try clear hb2); (try clear hk); (try clear hi)))
    repeat (go_quiet (first | ((with_reducible refine gate_dst (N := 1) rfl ?_); refine box_event ?hg (N := 1) ?hd (cs := #[.slice A0_0 l0_0.length c0_0, .slice A0_1 l0_1.length c0_1]) (t := 25) ?hr ?_; (case hd => rfl); (case hg => rfl); (case hr => first | (go_simp; done) | (go_simp; rfl)); intro gb101 hg w75 hbox hb; have n0_ := Aside0.mk (below_step (by repeat (first | (with_reducible first | exact HB.out | apply below_alloc | apply pw_below_drewN | apply below_drew1) | exact HB.out)) hb); have n1_ := Aside0.mk (hbox); have n2_ := Aside0.mk ((by rw [hg]; exact (below_size (by repeat (first | (with_reducible first | exact HB.out | apply below_alloc | apply pw_below_drewN | apply below_drew1) | exact HB.out))) : w.heap.size ≤ gb101)); have n3_ := Aside0.mk ((by rw [hg]; exact (below_size (by repeat (first | (with_reducible first | exact HB.out | apply below_alloc | apply pw_below_drewN | apply below_drew1) | exact HB.out))) : w.heap.size ≤ gb101)); clear HB; have HB := n0_; have BK101 := n1_; have GW101 := n2_; have GE101 := n3_; clear n0_ n1_ n2_ n3_; clear hb hbox hg; have hcz76_0 : w75.cell? ⟨gb101, 0, none⟩ = some (.slice A0_0 l0_0.length c0_0) := (blk_cell BK101.out 0).trans rfl; have hcz76_1 : w75.cell? ⟨gb101, 1, none⟩ = some (.slice A0_1 l0_1.length c0_1) := (blk_cell BK101.out 1).trans rfl; have hfz76_0 := blk_frozen BK101.out 0; have hfz76_1 := blk_frozen BK101.out 1) | (go_at_call 20; (with_reducible refine (scarfjointref05_Valid.calls k _ _ l0_0 _ _ l0_1 t102 _ ?side1 ?side2 ?side3 ?side4 A2.out).mono ?_); (case side1 => repeat (first | exact (Kd.C_below HR0_0.out HB.out) | (with_reducible refine Kd.C_alloc ?_ _) | (with_reducible refine Kd.C_drewN ?_ _) | (with_reducible refine Kd.C_drew ?_))); (case side2 => exact HC0_0.out); (case side3 => repeat (first | exact (Kd.C_below HR0_1.out HB.out) | (with_reducible refine Kd.C_alloc ?_ _) | (with_reducible refine Kd.C_drewN ?_ _) | (with_reducible refine Kd.C_drew ?_))); (case side4 => exact HC0_1.out); rintro e w77 ⟨rfl, hb⟩; have n0_ := Aside0.mk (blk_below (g := gb101) (o := .cells #[.slice A0_0 l0_0.length c0_0, .slice A0_1 l0_1.length c0_1] 25 (0, 0)) (by (with_reducible repeat (first | refine blk_drewN ?_ _ | refine blk_drew ?_ | refine blk_alloc ?_ _)); exact BK101.out) hb); have n1_ := Aside0.mk (below_step (by repeat (first | (with_reducible first | exact HB.out | apply below_alloc | apply pw_below_drewN | apply below_drew1 | refine below_set ?_ GE101.out) | exact HB.out)) hb); clear BK101; clear HB; have BK101 := n0_; have HB := n1_; clear n0_ n1_; (try clear hb); (try clear hb2); (try clear hk); (try clear hi))); try go_wp2_with (first | ((with_reducible refine gate_dst (N := 1) rfl ?_); refine box_event ?hg (N := 1) ?hd (cs := #[.slice A0_0 l0_0.length c0_0, .slice A0_1 l0_1.length c0_1]) (t := 25) ?hr ?_; (case hd => rfl); (case hg => rfl); (case hr => first | (go_simp; done) | (go_simp; rfl)); intro gb101 hg w75 hbox hb; have n0_ := Aside0.mk (below_step (by repeat (first | (with_reducible first | exact HB.out | apply below_alloc | apply pw_below_drewN | apply below_drew1) | exact HB.out)) hb); have n1_ := Aside0.mk (hbox); have n2_ := Aside0.mk ((by rw [hg]; exact (below_size (by repeat (first | (with_reducible first | exact HB.out | apply below_alloc | apply pw_below_drewN | apply below_drew1) | exact HB.out))) : w.heap.size ≤ gb101)); have n3_ := Aside0.mk ((by rw [hg]; exact (below_size (by repeat (first | (with_reducible first | exact HB.out | apply below_alloc | apply pw_below_drewN | apply below_drew1) | exact HB.out))) : w.heap.size ≤ gb101)); clear HB; have HB := n0_; have BK101 := n1_; have GW101 := n2_; have GE101 := n3_; clear n0_ n1_ n2_ n3_; clear hb hbox hg; have hcz76_0 : w75.cell? ⟨gb101, 0, none⟩ = some (.slice A0_0 l0_0.length c0_0) := (blk_cell BK101.out 0).trans rfl; have hcz76_1 : w75.cell? ⟨gb101, 1, none⟩ = some (.slice A0_1 l0_1.length c0_1) := (blk_cell BK101.out 1).trans rfl; have hfz76_0 := blk_frozen BK101.out 0; have hfz76_1 := blk_frozen BK101.out 1) | (go_at_call 20; (with_reducible refine (scarfjointref05_Valid.calls k _ _ l0_0 _ _ l0_1 t102 _ ?side1 ?side2 ?side3 ?side4 A2.out).mono ?_); (case side1 => repeat (first | exact (Kd.C_below HR0_0.out HB.out) | (with_reducible refine Kd.C_alloc ?_ _) | (with_reducible refine Kd.C_drewN ?_ _) | (with_reducible refine Kd.C_drew ?_))); (case side2 => exact HC0_0.out); (case side3 => repeat (first | exact (Kd.C_below HR0_1.out HB.out) | (with_reducible refine Kd.C_alloc ?_ _) | (with_reducible refine Kd.C_drewN ?_ _) | (with_reducible refine Kd.C_drew ?_))); (case side4 => exact HC0_1.out); rintro e w77 ⟨rfl, hb⟩; have n0_ := Aside0.mk (blk_below (g := gb101) (o := .cells #[.slice A0_0 l0_0.length c0_0, .slice A0_1 l0_1.length c0_1] 25 (0, 0)) (by (with_reducible repeat (first | refine blk_drewN ?_ _ | refine blk_drew ?_ | refine blk_alloc ?_ _)); exact BK101.out) hb); have n1_ := Aside0.mk (below_step (by repeat (first | (with_reducible first | exact HB.out | apply below_alloc | apply pw_below_drewN | apply below_drew1 | refine below_set ?_ GE101.out) | exact HB.out)) hb); clear BK101; clear HB; have BK101 := n0_; have HB := n1_; clear n0_ n1_; (try clear hb); (try clear hb2); (try clear hk); (try clear hi))))
    go_ret2
    exact ⟨_, by first | rfl | (simp [errW_none, errW_some] <;> rfl) | (simp [*, errW_none, errW_some] <;> rfl), by first | exact Kd.S_nil _ _ _ _ _ | exact Kd.N_nil _ _ _ _ _ | exact Kd.V_nil _ _ _ _ _ | exact Kd.Q_nil _ _ _ _ _ | exact Kd.R_nil _ _ _ _ _, by repeat (first | (with_reducible first | exact HB.out | apply below_alloc | apply pw_below_drewN | apply below_drew1 | refine below_set ?_ GE101.out) | exact HB.out)⟩
end Go.Proofs.Ytonipihlpbaknaa.Print

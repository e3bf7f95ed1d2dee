/- A part of the proof that the law returns true at every input; what the walked functions compute. -/
import Derived.Test.YtonipihlpbaknaaRows
import Derived.WalkKit
import Derived.ProofKit
import Derived.OpenShut
import Derived.ShutString
import Derived.ChangeOld
import Derived.Below
import Derived.SizedLaws
import Derived.Carry
import Derived.Test.YtonipihlpbaknaaZIm0
import Derived.Test.YtonipihlpbaknaaZIm1
import Derived.Test.YtonipihlpbaknaaZIm2
import Derived.Test.YtonipihlpbaknaaZIm3
import Derived.Test.YtonipihlpbaknaaZIm4
import Derived.Test.YtonipihlpbaknaaZIm5
import Derived.Test.YtonipihlpbaknaaZIm6
import Derived.Test.YtonipihlpbaknaaZIm7
import Derived.Test.YtonipihlpbaknaaZIm8
import Derived.Test.YtonipihlpbaknaaZIm9
namespace Go.Proofs.Ytonipihlpbaknaa.Print
open Go.RowKit Go.Proofs.YtonipihlpbaknaaW.PrintWords Go.Proofs.YtonipihlpbaknaaW.PrintLast Go.Proofs.YtonipihlpbaknaaW.PrintMore
attribute [local go_sem] max2_int min2_int max_two min_two max_three min_three max_four min_four   -- for this text's walks alone
set_option linter.unusedVariables false
set_option linter.unusedSimpArgs false
def scarfjointref07_Image.f (k : Nat) (l0_0 : List Int) (l0_1 : List (S78)) (l1_0 : List Int) (l1_1 : List (S78)) (l2_0 : List Int) (l2_1 : List Int) : Option (List Int × List Int × Int) := (scarfjointref06_Valid.f l0_0 l0_1 l1_0 l1_1 l2_0 l2_1).bind fun t105 => (if t105 = 0 then ((scarfjointref07_merged.f k (l1_0.length : Int) l2_0 l2_0 false).bind fun t106 => ((scarfjointref07_merged.f k (l1_1.length : Int) l2_1 l2_1 false).bind fun t109 => (some (t106, t109, 0)))) else (some (([] : List Int), ([] : List Int), t105)))
def scarfjointref07_Image.T4 : Bool × List (List Nat × List Nat) := (true, [([], []), ([0], [0]), ([1], [1]), ([], []), ([3], [3]), ([], []), ([5], [5]), ([2, 4, 6], [2, 4, 6]), ([], []), ([8], [8]), ([9], [9]), ([], []), ([11], [11]), ([], []), ([13], [13]), ([10, 12, 14, 7], [10, 12, 14]), ([7, 15], [7, 15]), ([16, 15, 0, 1, 2, 3, 4, 5, 6, 7, 8, 9, 10, 11, 12, 13, 14, 15, 16], [16]), ([17, 0, 1, 2, 3, 4, 5, 6, 7, 8, 9, 10, 11, 12, 13, 14, 15, 16, 17], [])])
def scarfjointref07_Image.B4 : List Nat := [0, 1, 3, 0, 8, 0, 32, 127, 0, 256, 768, 0, 2048, 0, 8192, 32767, 65535, 131071, 262143]
theorem scarfjointref07_Image.tab4 : rtab .any (opsOf Try.f44 4) = scarfjointref07_Image.T4 := by kernel_rfl
theorem scarfjointref07_Image.bits4 : waitsOk scarfjointref07_Image.T4.2 scarfjointref07_Image.B4 = true := by kernel_rfl
set_option maxHeartbeats 8000000 in
set_option maxRecDepth 100000 in
theorem scarfjointref07_Image.calls (k : Nat) (A0_0 : Option Addr) (c0_0 : Nat) (l0_0 : List Int) (A0_1 : Option Addr) (c0_1 : Nat) (l0_1 : List (S78)) (A1_0 : Option Addr) (c1_0 : Nat) (l1_0 : List Int) (A1_1 : Option Addr) (c1_1 : Nat) (l1_1 : List (S78)) (A2_0 : Option Addr) (c2_0 : Nat) (l2_0 : List Int) (A2_1 : Option Addr) (c2_1 : Nat) (l2_1 : List Int) (r1 : List Int) (r2 : List Int) (r3 : Int) (w : World) (hr0_0 : Kd.C (Kd.int .i64) w A0_0 l0_0.length l0_0) (hc0_0 : l0_0.length ≤ c0_0) (hr0_1 : Kd.C k78 w A0_1 l0_1.length l0_1) (hc0_1 : l0_1.length ≤ c0_1) (hr1_0 : Kd.C (Kd.int .i64) w A1_0 l1_0.length l1_0) (hc1_0 : l1_0.length ≤ c1_0) (hr1_1 : Kd.C k78 w A1_1 l1_1.length l1_1) (hc1_1 : l1_1.length ≤ c1_1) (hr2_0 : Kd.C (Kd.int .i64) w A2_0 l2_0.length l2_0) (hc2_0 : l2_0.length ≤ c2_0) (hr2_1 : Kd.C (Kd.int .i64) w A2_1 l2_1.length l2_1) (hc2_1 : l2_1.length ≤ c2_1) (h : scarfjointref07_Image.f k l0_0 l0_1 l1_0 l1_1 l2_0 l2_1 = some (r1, r2, r3)) :
  Calls Try.prog 44 #[.agg #[.slice A0_0 l0_0.length c0_0, .slice A0_1 l0_1.length c0_1], .agg #[.slice A1_0 l1_0.length c1_0, .slice A1_1 l1_1.length c1_1], .agg #[.slice A2_0 l2_0.length c2_0, .slice A2_1 l2_1.length c2_1]] w fun e w' => ∃ v0_ v1_ : Value, e = .returned (.tuple #[.agg #[v0_, v1_], .int .i64 r3]) ∧ Kd.R (Kd.int .i64) 3 w' w.heap.size (fun k_ => some k_ ≠ (v1_ : Value).ownBlock) v0_ r1 ∧ Kd.R (Kd.int .i64) 3 w' w.heap.size (fun k_ => some k_ ≠ (v0_ : Value).ownBlock) v1_ r2 ∧ Below w.heap.size w w' := by
 have hu25 := Try.underlying25; have hu51 := Try.underlying51; have hu27 := Try.underlying27; have HR0_0 := Aside0.mk hr0_0; have HC0_0 := Aside0.mk hc0_0; clear hr0_0 hc0_0; have HR0_1 := Aside0.mk hr0_1; have HC0_1 := Aside0.mk hc0_1; clear hr0_1 hc0_1; have HR1_0 := Aside0.mk hr1_0; have HC1_0 := Aside0.mk hc1_0; clear hr1_0 hc1_0; have HR1_1 := Aside0.mk hr1_1; have HC1_1 := Aside0.mk hc1_1; clear hr1_1 hc1_1; have HR2_0 := Aside0.mk hr2_0; have HC2_0 := Aside0.mk hc2_0; clear hr2_0 hc2_0; have HR2_1 := Aside0.mk hr2_1; have HC2_1 := Aside0.mk hc2_1; clear hr2_1 hc2_1; have HB := Aside0.mk (Below.refl w.heap.size w); have H : ((scarfjointref06_Valid.f l0_0 l0_1 l1_0 l1_1 l2_0 l2_1).bind fun t105 => (if t105 = 0 then ((scarfjointref07_merged.f k (l1_0.length : Int) l2_0 l2_0 false).bind fun t106 => ((scarfjointref07_merged.f k (l1_1.length : Int) l2_1 l2_1 false).bind fun t109 => (some (t106, t109, 0)))) else (some (([] : List Int), ([] : List Int), t105)))) = some (r1, r2, r3) := h; clear h; replace H := Option.bind_eq_some_iff.mp H; obtain ⟨t105, A40, H⟩ := H; replace H : (if t105 = 0 then ((scarfjointref07_merged.f k (l1_0.length : Int) l2_0 l2_0 false).bind fun t106 => ((scarfjointref07_merged.f k (l1_1.length : Int) l2_1 l2_1 false).bind fun t109 => (some (t106, t109, 0)))) else (some (([] : List Int), ([] : List Int), t105))) = some (r1, r2, r3) := H; have A4 := Aside0.mk A40; clear A40
 by_cases c5 : t105 = 0
 ·rw [if_pos c5] at H
  have c5b0 : (t105 == 0) = true := beq_iff_eq.mpr c5; have c5b1 : (t105 != 0) = false := bne_eq_false_iff_eq.mpr c5; clear c5; replace H := Option.bind_eq_some_iff.mp H; obtain ⟨t106, A60, H⟩ := H; replace H : ((scarfjointref07_merged.f k (l1_1.length : Int) l2_1 l2_1 false).bind fun t109 => (some (t106, t109, 0))) = some (r1, r2, r3) := H; have A6 := Aside0.mk A60; clear A60; replace H := Option.bind_eq_some_iff.mp H; obtain ⟨t109, A70, H⟩ := H; replace H : (some (t106, t109, 0)) = some (r1, r2, r3) := H; have A7 := Aside0.mk A70; clear A70; simp only [Option.some.injEq, Prod.mk.injEq] at H; obtain ⟨rfl, rfl, rfl⟩ := H
  go_enter Try.func44, Try.ntmps44
  try go_wp2_with (first | ((with_reducible refine gate_dst (N := 3) rfl ?_); refine box_event ?hg (N := 3) ?hd (cs := #[.slice A0_0 l0_0.length c0_0, .slice A0_1 l0_1.length c0_1]) (t := 25) ?hr ?_; (case hd => rfl); (case hg => rfl); (case hr => first | (go_simp; done) | (go_simp; rfl)); intro gb101 hg w8 hbox hb; have n0_ := Aside0.mk (below_step (by repeat (first | (with_reducible first | exact HB.out | apply lA_ | apply lN_ | apply lD_) | exact HB.out)) hb); have n1_ := Aside0.mk (hbox); have n2_ := Aside0.mk ((by rw [hg]; exact (below_size (by repeat (first | (with_reducible first | exact HB.out | apply lA_ | apply lN_ | apply lD_) | exact HB.out))) : w.heap.size ≤ gb101)); have n3_ := Aside0.mk ((by rw [hg]; exact (below_size (by repeat (first | (with_reducible first | exact HB.out | apply lA_ | apply lN_ | apply lD_) | exact HB.out))) : w.heap.size ≤ gb101)); clear HB; have HB := n0_; have BK101 := n1_; have GW101 := n2_; have GE101 := n3_; clear n0_ n1_ n2_ n3_; clear hb hbox hg) | ((with_reducible refine gate_dst (N := 4) rfl ?_); refine box_event ?hg (N := 4) ?hd (cs := #[.slice A1_0 l1_0.length c1_0, .slice A1_1 l1_1.length c1_1]) (t := 25) ?hr ?_; (case hd => rfl); (case hg => rfl); (case hr => first | (go_simp; done) | (go_simp; rfl)); intro gb102 hg w9 hbox hb; have n0_ := Aside0.mk (blk_below (g := gb101) (o := .cells #[.slice A0_0 l0_0.length c0_0, .slice A0_1 l0_1.length c0_1] 25 (0, 0)) (by (with_reducible repeat first | refine bN_ ?_ _ | refine bD_ ?_ | refine bA_ ?_ _); exact BK101.out) hb); have n1_ := Aside0.mk (below_step (by repeat (first | (with_reducible first | exact HB.out | apply lA_ | apply lN_ | apply lD_ | refine below_set ?_ GE101.out) | exact HB.out)) hb); have n2_ := Aside0.mk (hbox); have n3_ := Aside0.mk ((by rw [hg]; exact (below_size (by repeat (first | (with_reducible first | exact HB.out | apply lA_ | apply lN_ | apply lD_ | refine below_set ?_ GE101.out) | exact HB.out))) : w.heap.size ≤ gb102)); have n4_ := Aside0.mk ((by rw [hg]; exact (below_size (by repeat (first | (with_reducible first | exact HB.out | apply lA_ | apply lN_ | apply lD_ | refine below_set ?_ GE101.out) | exact HB.out))) : w.heap.size ≤ gb102)); have n5_ := Aside0.mk ((by rw [hg]; exact Nat.ne_of_lt (blk_lt (g := gb101) (o := .cells #[.slice A0_0 l0_0.length c0_0, .slice A0_1 l0_1.length c0_1] 25 (0, 0)) (by (with_reducible repeat first | refine bN_ ?_ _ | refine bD_ ?_ | refine bA_ ?_ _); exact BK101.out)) : gb101 ≠ gb102)); have n6_ := Aside0.mk ((by rw [hg]; exact Nat.ne_of_gt (blk_lt (g := gb101) (o := .cells #[.slice A0_0 l0_0.length c0_0, .slice A0_1 l0_1.length c0_1] 25 (0, 0)) (by (with_reducible repeat first | refine bN_ ?_ _ | refine bD_ ?_ | refine bA_ ?_ _); exact BK101.out)) : gb102 ≠ gb101)); clear BK101; clear HB; have BK101 := n0_; have HB := n1_; have BK102 := n2_; have GW102 := n3_; have GE102 := n4_; have NB101_102 := n5_; have NB102_101 := n6_; clear n0_ n1_ n2_ n3_ n4_ n5_ n6_; clear hb hbox hg) | ((with_reducible refine gate_dst (N := 5) rfl ?_); refine box_event ?hg (N := 5) ?hd (cs := #[.slice A2_0 l2_0.length c2_0, .slice A2_1 l2_1.length c2_1]) (t := 51) ?hr ?_; (case hd => rfl); (case hg => rfl); (case hr => first | (go_simp; done) | (go_simp; rfl)); intro gb103 hg w10 hbox hb; have n0_ := Aside0.mk (blk_below (g := gb101) (o := .cells #[.slice A0_0 l0_0.length c0_0, .slice A0_1 l0_1.length c0_1] 25 (0, 0)) (by (with_reducible repeat first | refine bN_ ?_ _ | refine bD_ ?_ | refine bA_ ?_ _); exact BK101.out) hb); have n1_ := Aside0.mk (blk_below (g := gb102) (o := .cells #[.slice A1_0 l1_0.length c1_0, .slice A1_1 l1_1.length c1_1] 25 (0, 0)) (by (with_reducible repeat first | refine bN_ ?_ _ | refine bD_ ?_ | refine bA_ ?_ _); exact BK102.out) hb); have n2_ := Aside0.mk (below_step (by repeat (first | (with_reducible first | exact HB.out | apply lA_ | apply lN_ | apply lD_ | refine below_set ?_ GE101.out | refine below_set ?_ GE102.out) | exact HB.out)) hb); have n3_ := Aside0.mk (hbox); have n4_ := Aside0.mk ((by rw [hg]; exact (below_size (by repeat (first | (with_reducible first | exact HB.out | apply lA_ | apply lN_ | apply lD_ | refine below_set ?_ GE101.out | refine below_set ?_ GE102.out) | exact HB.out))) : w.heap.size ≤ gb103)); have n5_ := Aside0.mk ((by rw [hg]; exact (below_size (by repeat (first | (with_reducible first | exact HB.out | apply lA_ | apply lN_ | apply lD_ | refine below_set ?_ GE101.out | refine below_set ?_ GE102.out) | exact HB.out))) : w.heap.size ≤ gb103)); have n6_ := Aside0.mk ((by rw [hg]; exact Nat.ne_of_lt (blk_lt (g := gb101) (o := .cells #[.slice A0_0 l0_0.length c0_0, .slice A0_1 l0_1.length c0_1] 25 (0, 0)) (by (with_reducible repeat first | refine bN_ ?_ _ | refine bD_ ?_ | refine bA_ ?_ _); exact BK101.out)) : gb101 ≠ gb103)); have n7_ := Aside0.mk ((by rw [hg]; exact Nat.ne_of_gt (blk_lt (g := gb101) (o := .cells #[.slice A0_0 l0_0.length c0_0, .slice A0_1 l0_1.length c0_1] 25 (0, 0)) (by (with_reducible repeat first | refine bN_ ?_ _ | refine bD_ ?_ | refine bA_ ?_ _); exact BK101.out)) : gb103 ≠ gb101)); have n8_ := Aside0.mk ((by rw [hg]; exact Nat.ne_of_lt (blk_lt (g := gb102) (o := .cells #[.slice A1_0 l1_0.length c1_0, .slice A1_1 l1_1.length c1_1] 25 (0, 0)) (by (with_reducible repeat first | refine bN_ ?_ _ | refine bD_ ?_ | refine bA_ ?_ _); exact BK102.out)) : gb102 ≠ gb103)); have n9_ := Aside0.mk ((by rw [hg]; exact Nat.ne_of_gt (blk_lt (g := gb102) (o := .cells #[.slice A1_0 l1_0.length c1_0, .slice A1_1 l1_1.length c1_1] 25 (0, 0)) (by (with_reducible repeat first | refine bN_ ?_ _ | refine bD_ ?_ | refine bA_ ?_ _); exact BK102.out)) : gb103 ≠ gb102)); clear BK101; clear BK102; clear HB; have BK101 := n0_; have BK102 := n1_; have HB := n2_; have BK103 := n3_; have GW103 := n4_; have GE103 := n5_; have NB101_103 := n6_; have NB103_101 := n7_; have NB102_103 := n8_; have NB103_102 := n9_; clear n0_ n1_ n2_ n3_ n4_ n5_ n6_ n7_ n8_ n9_; clear hb hbox hg) | ((with_reducible refine gate_dst (N := 6) rfl ?_); refine box_event ?hg (N := 6) ?hd (cs := #[.slice none 0 0, .slice none 0 0]) (t := 27) ?hr ?_; (case hd => rfl); (case hg => rfl); (case hr => first | (go_simp; done) | (go_simp; rfl)); intro gb104 hg w11 hbox hb; have n0_ := Aside0.mk (blk_below (g := gb101) (o := .cells #[.slice A0_0 l0_0.length c0_0, .slice A0_1 l0_1.length c0_1] 25 (0, 0)) (by (with_reducible repeat first | refine bN_ ?_ _ | refine bD_ ?_ | refine bA_ ?_ _); exact BK101.out) hb); have n1_ := Aside0.mk (blk_below (g := gb102) (o := .cells #[.slice A1_0 l1_0.length c1_0, .slice A1_1 l1_1.length c1_1] 25 (0, 0)) (by (with_reducible repeat first | refine bN_ ?_ _ | refine bD_ ?_ | refine bA_ ?_ _); exact BK102.out) hb); have n2_ := Aside0.mk (blk_below (g := gb103) (o := .cells #[.slice A2_0 l2_0.length c2_0, .slice A2_1 l2_1.length c2_1] 51 (0, 0)) (by (with_reducible repeat first | refine bN_ ?_ _ | refine bD_ ?_ | refine bA_ ?_ _); exact BK103.out) hb); have n3_ := Aside0.mk (below_step (by repeat (first | (with_reducible first | exact HB.out | apply lA_ | apply lN_ | apply lD_ | refine below_set ?_ GE101.out | refine below_set ?_ GE102.out | refine below_set ?_ GE103.out) | exact HB.out)) hb); have n4_ := Aside0.mk (hbox); have n5_ := Aside0.mk ((by rw [hg]; exact (below_size (by repeat (first | (with_reducible first | exact HB.out | apply lA_ | apply lN_ | apply lD_ | refine below_set ?_ GE101.out | refine below_set ?_ GE102.out | refine below_set ?_ GE103.out) | exact HB.out))) : w.heap.size ≤ gb104)); have n6_ := Aside0.mk ((by rw [hg]; exact (below_size (by repeat (first | (with_reducible first | exact HB.out | apply lA_ | apply lN_ | apply lD_ | refine below_set ?_ GE101.out | refine below_set ?_ GE102.out | refine below_set ?_ GE103.out) | exact HB.out))) : w.heap.size ≤ gb104)); have n7_ := Aside0.mk ((by rw [hg]; exact Nat.ne_of_lt (blk_lt (g := gb101) (o := .cells #[.slice A0_0 l0_0.length c0_0, .slice A0_1 l0_1.length c0_1] 25 (0, 0)) (by (with_reducible repeat first | refine bN_ ?_ _ | refine bD_ ?_ | refine bA_ ?_ _); exact BK101.out)) : gb101 ≠ gb104)); have n8_ := Aside0.mk ((by rw [hg]; exact Nat.ne_of_gt (blk_lt (g := gb101) (o := .cells #[.slice A0_0 l0_0.length c0_0, .slice A0_1 l0_1.length c0_1] 25 (0, 0)) (by (with_reducible repeat first | refine bN_ ?_ _ | refine bD_ ?_ | refine bA_ ?_ _); exact BK101.out)) : gb104 ≠ gb101)); have n9_ := Aside0.mk ((by rw [hg]; exact Nat.ne_of_lt (blk_lt (g := gb102) (o := .cells #[.slice A1_0 l1_0.length c1_0, .slice A1_1 l1_1.length c1_1] 25 (0, 0)) (by (with_reducible repeat first | refine bN_ ?_ _ | refine bD_ ?_ | refine bA_ ?_ _); exact BK102.out)) : gb102 ≠ gb104)); have n10_ := Aside0.mk ((by rw [hg]; exact Nat.ne_of_gt (blk_lt (g := gb102) (o := .cells #[.slice A1_0 l1_0.length c1_0, .slice A1_1 l1_1.length c1_1] 25 (0, 0)) (by (with_reducible repeat first | refine bN_ ?_ _ | refine bD_ ?_ | refine bA_ ?_ _); exact BK102.out)) : gb104 ≠ gb102)); have n11_ := Aside0.mk ((by rw [hg]; exact Nat.ne_of_lt (blk_lt (g := gb103) (o := .cells #[.slice A2_0 l2_0.length c2_0, .slice A2_1 l2_1.length c2_1] 51 (0, 0)) (by (with_reducible repeat first | refine bN_ ?_ _ | refine bD_ ?_ | refine bA_ ?_ _); exact BK103.out)) : gb103 ≠ gb104)); have n12_ := Aside0.mk ((by rw [hg]; exact Nat.ne_of_gt (blk_lt (g := gb103) (o := .cells #[.slice A2_0 l2_0.length c2_0, .slice A2_1 l2_1.length c2_1] 51 (0, 0)) (by (with_reducible repeat first | refine bN_ ?_ _ | refine bD_ ?_ | refine bA_ ?_ _); exact BK103.out)) : gb104 ≠ gb103)); clear BK101; clear BK102; clear BK103; clear HB; have BK101 := n0_; have BK102 := n1_; have BK103 := n2_; have HB := n3_; have BK104 := n4_; have GW104 := n5_; have GE104 := n6_; have NB101_104 := n7_; have NB104_101 := n8_; have NB102_104 := n9_; have NB104_102 := n10_; have NB103_104 := n11_; have NB104_103 := n12_; clear n0_ n1_ n2_ n3_ n4_ n5_ n6_ n7_ n8_ n9_ n10_ n11_ n12_; clear hb hbox hg; have hnb12 := NB101_102.out; have hnc12 := NB102_101.out; have hnb13 := NB101_103.out; have hnc13 := NB103_101.out; have hnb14 := NB101_104.out; have hnc14 := NB104_101.out; have hcz15_0 : w11.cell? ⟨gb101, 0, none⟩ = some (.slice A0_0 l0_0.length c0_0) := (blk_cell BK101.out 0).trans rfl; have hcz15_1 : w11.cell? ⟨gb101, 1, none⟩ = some (.slice A0_1 l0_1.length c0_1) := (blk_cell BK101.out 1).trans rfl; have hfz15_0 := blk_frozen BK101.out 0; have hfz15_1 := blk_frozen BK101.out 1; have hnb16 := NB102_103.out; have hnc16 := NB103_102.out; have hnb17 := NB102_104.out; have hnc17 := NB104_102.out; have hcz18_0 : w11.cell? ⟨gb102, 0, none⟩ = some (.slice A1_0 l1_0.length c1_0) := (blk_cell BK102.out 0).trans rfl; have hcz18_1 : w11.cell? ⟨gb102, 1, none⟩ = some (.slice A1_1 l1_1.length c1_1) := (blk_cell BK102.out 1).trans rfl; have hfz18_0 := blk_frozen BK102.out 0; have hfz18_1 := blk_frozen BK102.out 1; have hnb19 := NB103_104.out; have hnc19 := NB104_103.out; have hcz20_0 : w11.cell? ⟨gb103, 0, none⟩ = some (.slice A2_0 l2_0.length c2_0) := (blk_cell BK103.out 0).trans rfl; have hcz20_1 : w11.cell? ⟨gb103, 1, none⟩ = some (.slice A2_1 l2_1.length c2_1) := (blk_cell BK103.out 1).trans rfl; have hfz20_0 := blk_frozen BK103.out 0; have hfz20_1 := blk_frozen BK103.out 1) | ((with_reducible refine gate_callee (f := 47) rfl ?_); refine goesL_ (some 12) rfl rfl Try.func47 (by kernel_rfl) rfl #[.agg #[.slice A0_0 l0_0.length c0_0, .slice A0_1 l0_1.length c0_1], .agg #[.slice A1_0 l1_0.length c1_0, .slice A1_1 l1_1.length c1_1], .agg #[.slice A2_0 l2_0.length c2_0, .slice A2_1 l2_1.length c2_1]] rfl (by (try simp only [List.map_toArray, List.map_cons, List.map_nil]); first | done | rfl | (simp only [List.length_drop, List.length_take]; rfl)) ?_; (with_reducible refine (scarfjointref06_Valid.calls _ _ l0_0 _ _ l0_1 _ _ l1_0 _ _ l1_1 _ _ l2_0 _ _ l2_1 t105 _ ?side1 ?side2 ?side3 ?side4 ?side5 ?side6 ?side7 ?side8 ?side9 ?side10 ?side11 ?side12 A4.out).mono ?_); (case side1 => repeat (first | exact (Kd.C_below HR0_0.out HB.out) | (with_reducible refine Kd.C_alloc ?_ _) | (with_reducible refine Kd.C_drewN ?_ _) | (with_reducible refine Kd.C_drew ?_))); (case side2 => exact HC0_0.out); (case side3 => repeat (first | exact (Kd.C_below HR0_1.out HB.out) | (with_reducible refine Kd.C_alloc ?_ _) | (with_reducible refine Kd.C_drewN ?_ _) | (with_reducible refine Kd.C_drew ?_))); (case side4 => exact HC0_1.out); (case side5 => repeat (first | exact (Kd.C_below HR1_0.out HB.out) | (with_reducible refine Kd.C_alloc ?_ _) | (with_reducible refine Kd.C_drewN ?_ _) | (with_reducible refine Kd.C_drew ?_))); (case side6 => exact HC1_0.out); (case side7 => repeat (first | exact (Kd.C_below HR1_1.out HB.out) | (with_reducible refine Kd.C_alloc ?_ _) | (with_reducible refine Kd.C_drewN ?_ _) | (with_reducible refine Kd.C_drew ?_))); (case side8 => exact HC1_1.out); (case side9 => repeat (first | exact (Kd.C_below HR2_0.out HB.out) | (with_reducible refine Kd.C_alloc ?_ _) | (with_reducible refine Kd.C_drewN ?_ _) | (with_reducible refine Kd.C_drew ?_))); (case side10 => exact HC2_0.out); (case side11 => repeat (first | exact (Kd.C_below HR2_1.out HB.out) | (with_reducible refine Kd.C_alloc ?_ _) | (with_reducible refine Kd.C_drewN ?_ _) | (with_reducible refine Kd.C_drew ?_))); (case side12 => exact HC2_1.out); rintro e w21 ⟨rfl, hb⟩; refine ⟨_, rfl, ?_⟩; have n0_ := Aside0.mk (blk_below (g := gb101) (o := .cells #[.slice A0_0 l0_0.length c0_0, .slice A0_1 l0_1.length c0_1] 25 (0, 0)) (by (with_reducible repeat first | refine bN_ ?_ _ | refine bD_ ?_ | refine bA_ ?_ _); exact BK101.out) hb); have n1_ := Aside0.mk (blk_below (g := gb102) (o := .cells #[.slice A1_0 l1_0.length c1_0, .slice A1_1 l1_1.length c1_1] 25 (0, 0)) (by (with_reducible repeat first | refine bN_ ?_ _ | refine bD_ ?_ | refine bA_ ?_ _); exact BK102.out) hb); have n2_ := Aside0.mk (blk_below (g := gb103) (o := .cells #[.slice A2_0 l2_0.length c2_0, .slice A2_1 l2_1.length c2_1] 51 (0, 0)) (by (with_reducible repeat first | refine bN_ ?_ _ | refine bD_ ?_ | refine bA_ ?_ _); exact BK103.out) hb); have n3_ := Aside0.mk (blk_below (g := gb104) (o := .cells #[.slice none 0 0, .slice none 0 0] 27 (0, 0)) (by (with_reducible repeat first | refine bN_ ?_ _ | refine bD_ ?_ | refine bA_ ?_ _); exact BK104.out) hb); have n4_ := Aside0.mk (below_step (by repeat (first | (with_reducible first | exact HB.out | apply lA_ | apply lN_ | apply lD_ | refine below_set ?_ GE101.out | refine below_set ?_ GE102.out | refine below_set ?_ GE103.out | refine below_set ?_ GE104.out) | exact HB.out)) hb); clear BK101; clear BK102; clear BK103; clear BK104; clear HB; have BK101 := n0_; have BK102 := n1_; have BK103 := n2_; have BK104 := n3_; have HB := n4_; clear n0_ n1_ n2_ n3_ n4_; (try clear hb); (try clear hb2); (try clear hk); (try clear hi)))
  have n0_ := Aside0.mk (blk_drew BK101.out); have n1_ := Aside0.mk (blk_drew BK102.out); have n2_ := Aside0.mk (blk_drew BK103.out); have n3_ := Aside0.mk (blk_drew BK104.out); have n4_ := Aside0.mk (below_drew1 HB.out); clear BK101; clear BK102; clear BK103; clear BK104; clear HB; have BK101 := n0_; have BK102 := n1_; have BK103 := n2_; have BK104 := n3_; have HB := n4_; clear n0_ n1_ n2_ n3_ n4_
  refine start_ (n := 19) (S := fun w' => w'.cell? ⟨gb102, 0, none⟩ = some (.slice A1_0 l1_0.length c1_0) ∧ w'.cell? ⟨gb102, 1, none⟩ = some (.slice A1_1 l1_1.length c1_1) ∧ w'.cell? ⟨gb103, 0, none⟩ = some (.slice A2_0 l2_0.length c2_0) ∧ w'.cell? ⟨gb103, 1, none⟩ = some (.slice A2_1 l2_1.length c2_1)) (ds := []) #[false, false, false, false, false, false, false, false, false, false, false, false, false, false, false, false, false, false, false] (by kernel_rfl) rfl rfl ⟨(blk_cell BK102.out 0).trans rfl, (blk_cell BK102.out 1).trans rfl, (blk_cell BK103.out 0).trans rfl, (blk_cell BK103.out 1).trans rfl⟩ (fun hHeld => ?_); refine with_tabW scarfjointref07_Image.tab4 scarfjointref07_Image.bits4 (fun HT_ HW_ => ?_)
  generalize w21.drew = w22 at BK101 BK102 BK103 BK104 HB hHeld ⊢
  refine pure_ (i := 0) (N := some 17) (v := ?_) (a' := ?_) #[true, false, false, false, false, false, false, false, false, false, false, false, false, false, false, false, false, false, false] rfl rfl (any_of HT_.out (by kernel_rfl)) (fun _ _ _ h => h) (Or.inl ⟨by rfl, ?_⟩) ?_ ?_
  rotate_left
  ·intro w'
   go_simp
   with_reducible rfl
  rotate_left
  ·simp only [Act.put, sI_, s0_, sS_, i64_w, i32_w]
   rfl
  refine pure_ (i := 3) (N := some 20) (v := ?_) (a' := ?_) #[true, false, false, true, false, false, false, false, false, false, false, false, false, false, false, false, false, false, false] rfl rfl (any_of HT_.out (by kernel_rfl)) (fun _ _ _ h => h) (Or.inl ⟨by rfl, ?_⟩) ?_ ?_
  rotate_left
  ·intro w'
   go_simp
   with_reducible rfl
  rotate_left
  ·simp only [Act.put, sI_, s0_, sS_, i64_w, i32_w]
   rfl
  refine pure_ (i := 5) (N := some 22) (v := ?_) (a' := ?_) #[true, false, false, true, false, true, false, false, false, false, false, false, false, false, false, false, false, false, false] rfl rfl (any_of HT_.out (by kernel_rfl)) (fun _ _ _ h => h) (Or.inl ⟨by rfl, ?_⟩) ?_ ?_
  rotate_left
  ·intro w'
   go_simp
   with_reducible rfl
  rotate_left
  ·simp only [Act.put, sI_, s0_, sS_, i64_w, i32_w]
   rfl
  refine pure_ (i := 8) (N := some 25) (v := ?_) (a' := ?_) #[true, false, false, true, false, true, false, false, true, false, false, false, false, false, false, false, false, false, false] rfl rfl (any_of HT_.out (by kernel_rfl)) (fun _ _ _ h => h) (Or.inl ⟨by rfl, ?_⟩) ?_ ?_
  rotate_left
  ·intro w'
   go_simp
   with_reducible rfl
  rotate_left
  ·simp only [Act.put, sI_, s0_, sS_, i64_w, i32_w]
   rfl
  refine pure_ (i := 11) (N := some 28) (v := ?_) (a' := ?_) #[true, false, false, true, false, true, false, false, true, false, false, true, false, false, false, false, false, false, false] rfl rfl (any_of HT_.out (by kernel_rfl)) (fun _ _ _ h => h) (Or.inl ⟨by rfl, ?_⟩) ?_ ?_
  rotate_left
  ·intro w'
   go_simp
   with_reducible rfl
  rotate_left
  ·simp only [Act.put, sI_, s0_, sS_, i64_w, i32_w]
   rfl
  refine pure_ (i := 13) (N := some 30) (v := ?_) (a' := ?_) #[true, false, false, true, false, true, false, false, true, false, false, true, false, true, false, false, false, false, false] rfl rfl (any_of HT_.out (by kernel_rfl)) (fun _ _ _ h => h) (Or.inl ⟨by rfl, ?_⟩) ?_ ?_
  rotate_left
  ·intro w'
   go_simp
   with_reducible rfl
  rotate_left
  ·simp only [Act.put, sI_, s0_, sS_, i64_w, i32_w]
   rfl
  refine take_ (i := 1) (N := some 18) (v := ?_) (a' := ?_) #[true, true, false, true, false, true, false, false, true, false, false, true, false, true, false, false, false, false, false] rfl rfl (take_ofW HT_.out HW_.out (by kernel_rfl)) (fun _ _ _ h => h) (Or.inl ⟨by rfl, ?_⟩) hHeld ?_ ?_
  rotate_left
  ·rintro w' ⟨s0, s1, s2, s3⟩
   go_simp
   with_reducible rfl
  rotate_left
  ·simp only [Act.put, sI_, s0_, sS_, i64_w, i32_w]
   rfl
  refine pure_ (i := 2) (N := some 19) (v := ?_) (a' := ?_) #[true, true, true, true, false, true, false, false, true, false, false, true, false, true, false, false, false, false, false] rfl rfl (any_of HT_.out (by kernel_rfl)) (fun _ _ _ h => h) (Or.inl ⟨by rfl, ?_⟩) ?_ ?_
  rotate_left
  ·intro w'
   go_simp
   with_reducible rfl
  rotate_left
  ·simp only [Act.put, sI_, s0_, sS_, i64_w, i32_w]
   rfl
  refine take_ (i := 4) (N := some 21) (v := ?_) (a' := ?_) #[true, true, true, true, true, true, false, false, true, false, false, true, false, true, false, false, false, false, false] rfl rfl (take_ofW HT_.out HW_.out (by kernel_rfl)) (fun _ _ _ h => h) (Or.inl ⟨by rfl, ?_⟩) hHeld ?_ ?_
  rotate_left
  ·rintro w' ⟨s0, s1, s2, s3⟩
   go_simp
   with_reducible rfl
  rotate_left
  ·simp only [Act.put, sI_, s0_, sS_, i64_w, i32_w]
   rfl
  refine take_ (i := 6) (N := some 23) (v := ?_) (a' := ?_) #[true, true, true, true, true, true, true, false, true, false, false, true, false, true, false, false, false, false, false] rfl rfl (take_ofW HT_.out HW_.out (by kernel_rfl)) (fun _ _ _ h => h) (Or.inl ⟨by rfl, ?_⟩) hHeld ?_ ?_
  rotate_left
  ·rintro w' ⟨s0, s1, s2, s3⟩
   go_simp
   with_reducible rfl
  rotate_left
  ·simp only [Act.put, sI_, s0_, sS_, i64_w, i32_w]
   rfl
  refine take_ (i := 9) (N := some 26) (v := ?_) (a' := ?_) #[true, true, true, true, true, true, true, false, true, true, false, true, false, true, false, false, false, false, false] rfl rfl (take_ofW HT_.out HW_.out (by kernel_rfl)) (fun _ _ _ h => h) (Or.inl ⟨by rfl, ?_⟩) hHeld ?_ ?_
  rotate_left
  ·rintro w' ⟨s0, s1, s2, s3⟩
   go_simp
   with_reducible rfl
  rotate_left
  ·simp only [Act.put, sI_, s0_, sS_, i64_w, i32_w]
   rfl
  refine pure_ (i := 10) (N := some 27) (v := ?_) (a' := ?_) #[true, true, true, true, true, true, true, false, true, true, true, true, false, true, false, false, false, false, false] rfl rfl (any_of HT_.out (by kernel_rfl)) (fun _ _ _ h => h) (Or.inl ⟨by rfl, ?_⟩) ?_ ?_
  rotate_left
  ·intro w'
   go_simp
   with_reducible rfl
  rotate_left
  ·simp only [Act.put, sI_, s0_, sS_, i64_w, i32_w]
   rfl
  refine take_ (i := 12) (N := some 29) (v := ?_) (a' := ?_) #[true, true, true, true, true, true, true, false, true, true, true, true, true, true, false, false, false, false, false] rfl rfl (take_ofW HT_.out HW_.out (by kernel_rfl)) (fun _ _ _ h => h) (Or.inl ⟨by rfl, ?_⟩) hHeld ?_ ?_
  rotate_left
  ·rintro w' ⟨s0, s1, s2, s3⟩
   go_simp
   with_reducible rfl
  rotate_left
  ·simp only [Act.put, sI_, s0_, sS_, i64_w, i32_w]
   rfl
  refine take_ (i := 14) (N := some 31) (v := ?_) (a' := ?_) #[true, true, true, true, true, true, true, false, true, true, true, true, true, true, true, false, false, false, false] rfl rfl (take_ofW HT_.out HW_.out (by kernel_rfl)) (fun _ _ _ h => h) (Or.inl ⟨by rfl, ?_⟩) hHeld ?_ ?_
  rotate_left
  ·rintro w' ⟨s0, s1, s2, s3⟩
   go_simp
   with_reducible rfl
  rotate_left
  ·simp only [Act.put, sI_, s0_, sS_, i64_w, i32_w]
   rfl
  refine one_ (i := 7) (N := some 24) #[true, true, true, true, true, true, true, true, true, true, true, true, true, true, true, false, false, false, false] rfl rfl (one_of HT_.out (by kernel_rfl)) (by decide) (fun K hK => ?_)
  refine goes_ Try.func75 (by kernel_rfl) rfl #[.int .i64 (l1_0.length : Int), .slice A2_0 l2_0.length c2_0, .slice A2_0 l2_0.length c2_0, .bool false] (by rfl) rfl rfl (by (try simp only [List.map_toArray, List.map_cons, List.map_nil]); first | done | rfl | (simp only [List.length_drop, List.length_take]; rfl)) ?_
  with_reducible refine (scarfjointref07_merged.calls k (l1_0.length : Int) _ _ l2_0 _ _ l2_0 false t106 _ ?side1 ?side2 ?side3 ?side4 A6.out).mono ?_
  (case side1 => repeat (first | exact (Kd.C_below HR2_0.out HB.out) | (with_reducible refine Kd.C_alloc ?_ _) | (with_reducible refine Kd.C_drewN ?_ _) | (with_reducible refine Kd.C_drew ?_)))
  (case side2 => exact HC2_0.out)
  (case side3 => repeat (first | exact (Kd.C_below HR2_0.out HB.out) | (with_reducible refine Kd.C_alloc ?_ _) | (with_reducible refine Kd.C_drewN ?_ _) | (with_reducible refine Kd.C_drew ?_)))
  (case side4 => exact HC2_0.out)
  rintro e w23 ⟨v107, rfl, ho0, hb⟩
  refine ⟨_, rfl, ?_⟩
  have n0_ := Aside0.mk (Kd.R_lower ho0 (below_size (by repeat (first | (with_reducible first | exact HB.out | apply lA_ | apply lN_ | apply lD_ | refine below_set ?_ GE101.out | refine below_set ?_ GE102.out | refine below_set ?_ GE103.out | refine below_set ?_ GE104.out) | exact HB.out)))); have n1_ := Aside0.mk (blk_below (g := gb101) (o := .cells #[.slice A0_0 l0_0.length c0_0, .slice A0_1 l0_1.length c0_1] 25 (0, 0)) (by (with_reducible repeat first | refine bN_ ?_ _ | refine bD_ ?_ | refine bA_ ?_ _); exact BK101.out) hb); have n2_ := Aside0.mk (blk_below (g := gb102) (o := .cells #[.slice A1_0 l1_0.length c1_0, .slice A1_1 l1_1.length c1_1] 25 (0, 0)) (by (with_reducible repeat first | refine bN_ ?_ _ | refine bD_ ?_ | refine bA_ ?_ _); exact BK102.out) hb); have n3_ := Aside0.mk (blk_below (g := gb103) (o := .cells #[.slice A2_0 l2_0.length c2_0, .slice A2_1 l2_1.length c2_1] 51 (0, 0)) (by (with_reducible repeat first | refine bN_ ?_ _ | refine bD_ ?_ | refine bA_ ?_ _); exact BK103.out) hb); have n4_ := Aside0.mk (blk_below (g := gb104) (o := .cells #[.slice none 0 0, .slice none 0 0] 27 (0, 0)) (by (with_reducible repeat first | refine bN_ ?_ _ | refine bD_ ?_ | refine bA_ ?_ _); exact BK104.out) hb); have n5_ := Aside0.mk (below_step (by repeat (first | (with_reducible first | exact HB.out | apply lA_ | apply lN_ | apply lD_ | refine below_set ?_ GE101.out | refine below_set ?_ GE102.out | refine below_set ?_ GE103.out | refine below_set ?_ GE104.out) | exact HB.out)) hb); clear BK101; clear BK102; clear BK103; clear BK104; clear HB; have HO108 := n0_; have BK101 := n1_; have BK102 := n2_; have BK103 := n3_; have BK104 := n4_; have HB := n5_; clear n0_ n1_ n2_ n3_ n4_ n5_
  (try clear hb)
  (try clear hb2)
  (try clear hk)
  (try clear hi)
  (try clear ho0)
  refine hK.out _ _ ⟨(blk_cell BK102.out 0).trans rfl, (blk_cell BK102.out 1).trans rfl, (blk_cell BK103.out 0).trans rfl, (blk_cell BK103.out 1).trans rfl⟩ (fun hHeld => ?_)
  clear hK K
  refine norm_ (a' := ?_) ?_ ?_
  rotate_left
  ·show Act.put _ (some 24) _ = _
   simp only [Act.put, sI_, s0_, sS_, i64_w, i32_w]
   rfl
  refine one_ (i := 15) (N := some 32) #[true, true, true, true, true, true, true, true, true, true, true, true, true, true, true, true, false, false, false] rfl rfl (one_of HT_.out (by kernel_rfl)) (by decide) (fun K hK => ?_)
  refine goes_ Try.func75 (by kernel_rfl) rfl #[.int .i64 (l1_1.length : Int), .slice A2_1 l2_1.length c2_1, .slice A2_1 l2_1.length c2_1, .bool false] (by rfl) rfl rfl (by (try simp only [List.map_toArray, List.map_cons, List.map_nil]); first | done | rfl | (simp only [List.length_drop, List.length_take]; rfl)) ?_
  with_reducible refine (scarfjointref07_merged.calls k (l1_1.length : Int) _ _ l2_1 _ _ l2_1 false t109 _ ?side1 ?side2 ?side3 ?side4 A7.out).mono ?_
  (case side1 => repeat (first | exact (Kd.C_below HR2_1.out HB.out) | (with_reducible refine Kd.C_alloc ?_ _) | (with_reducible refine Kd.C_drewN ?_ _) | (with_reducible refine Kd.C_drew ?_)))
  (case side2 => exact HC2_1.out)
  (case side3 => repeat (first | exact (Kd.C_below HR2_1.out HB.out) | (with_reducible refine Kd.C_alloc ?_ _) | (with_reducible refine Kd.C_drewN ?_ _) | (with_reducible refine Kd.C_drew ?_)))
  (case side4 => exact HC2_1.out)
  rintro e w24 ⟨v110, rfl, ho0, hb⟩
  refine ⟨_, rfl, ?_⟩
  have n0_ := Aside0.mk (Kd.R_elder' (by (with_reducible repeat (first | apply rA_ | apply rN_ | apply rD_)); exact HO108.out) (Kd.R_base ho0) hb); have n1_ := Aside0.mk (Kd.R_lower (Kd.R_new' ho0 (Kd.R_lt (by (with_reducible repeat (first | apply rA_ | apply rN_ | apply rD_)); exact HO108.out))) (below_size (by repeat (first | (with_reducible first | exact HB.out | apply lA_ | apply lN_ | apply lD_ | refine below_set ?_ GE101.out | refine below_set ?_ GE102.out | refine below_set ?_ GE103.out | refine below_set ?_ GE104.out) | exact HB.out)))); have n2_ := Aside0.mk (blk_below (g := gb101) (o := .cells #[.slice A0_0 l0_0.length c0_0, .slice A0_1 l0_1.length c0_1] 25 (0, 0)) (by (with_reducible repeat first | refine bN_ ?_ _ | refine bD_ ?_ | refine bA_ ?_ _); exact BK101.out) hb); have n3_ := Aside0.mk (blk_below (g := gb102) (o := .cells #[.slice A1_0 l1_0.length c1_0, .slice A1_1 l1_1.length c1_1] 25 (0, 0)) (by (with_reducible repeat first | refine bN_ ?_ _ | refine bD_ ?_ | refine bA_ ?_ _); exact BK102.out) hb); have n4_ := Aside0.mk (blk_below (g := gb103) (o := .cells #[.slice A2_0 l2_0.length c2_0, .slice A2_1 l2_1.length c2_1] 51 (0, 0)) (by (with_reducible repeat first | refine bN_ ?_ _ | refine bD_ ?_ | refine bA_ ?_ _); exact BK103.out) hb); have n5_ := Aside0.mk (blk_below (g := gb104) (o := .cells #[.slice none 0 0, .slice none 0 0] 27 (0, 0)) (by (with_reducible repeat first | refine bN_ ?_ _ | refine bD_ ?_ | refine bA_ ?_ _); exact BK104.out) hb); have n6_ := Aside0.mk (below_step (by repeat (first | (with_reducible first | exact HB.out | apply lA_ | apply lN_ | apply lD_ | refine below_set ?_ GE101.out | refine below_set ?_ GE102.out | refine below_set ?_ GE103.out | refine below_set ?_ GE104.out) | exact HB.out)) hb); clear HO108; clear BK101; clear BK102; clear BK103; clear BK104; clear HB; have HO108 := n0_; have HO111 := n1_; have BK101 := n2_; have BK102 := n3_; have BK103 := n4_; have BK104 := n5_; have HB := n6_; clear n0_ n1_ n2_ n3_ n4_ n5_ n6_
  (try clear hb)
  (try clear hb2)
  (try clear hk)
  (try clear hi)
  (try clear ho0)
  obtain ⟨Ao25, co25, eo25⟩ := Kd.R_slice HO111.out
  (first | subst eo25 | (injection eo25 with f1_ f2_ f3_; have f4_ := f1_.symm; have f5_ := f3_.symm; clear f1_ f2_ f3_; subst f4_; subst f5_))
  obtain ⟨Ao26, co26, eo26⟩ := Kd.R_slice HO108.out
  (first | subst eo26 | (injection eo26 with f1_ f2_ f3_; have f4_ := f1_.symm; have f5_ := f3_.symm; clear f1_ f2_ f3_; subst f4_; subst f5_))
  refine hK.out _ _ ⟨(blk_cell BK102.out 0).trans rfl, (blk_cell BK102.out 1).trans rfl, (blk_cell BK103.out 0).trans rfl, (blk_cell BK103.out 1).trans rfl⟩ (fun hHeld => ?_)
  clear hK K
  refine norm_ (a' := ?_) ?_ ?_
  rotate_left
  ·show Act.put _ (some 32) _ = _
   simp only [Act.put, sI_, s0_, sS_, i64_w, i32_w]
   rfl
  refine pure_ (i := 16) (N := some 33) (v := ?_) (a' := ?_) #[true, true, true, true, true, true, true, true, true, true, true, true, true, true, true, true, true, false, false] rfl rfl (any_of HT_.out (by kernel_rfl)) (fun _ _ _ h => h) (Or.inl ⟨by rfl, ?_⟩) ?_ ?_
  rotate_left
  ·intro w'
   go_simp
   with_reducible rfl
  rotate_left
  ·simp only [Act.put, sI_, s0_, sS_, i64_w, i32_w]
   rfl
  refine one_ (i := 17) (N := none) #[true, true, true, true, true, true, true, true, true, true, true, true, true, true, true, true, true, true, false] rfl rfl (one_of HT_.out (by kernel_rfl)) (by decide) (fun K hK => ?_)
  have hs27 : w24.cell? ⟨gb104, 0, none⟩ = some (.slice none 0 0) := (blk_cell BK104.out 0).trans rfl
  have hfs27 := blk_frozen BK104.out 0; have hns27_0 := NB101_104.out; have hns27_1 := NB102_104.out; have hns27_2 := NB103_104.out; have hms27_0 := NB104_101.out; have hms27_1 := NB104_102.out; have hms27_2 := NB104_103.out
  have hs28 : w24.cell? ⟨gb104, 1, none⟩ = some (.slice none 0 0) := (blk_cell BK104.out 1).trans rfl
  have hfs28 := blk_frozen BK104.out 1; have hns28_0 := NB101_104.out; have hns28_1 := NB102_104.out; have hns28_2 := NB103_104.out; have hms28_0 := NB104_101.out; have hms28_1 := NB104_102.out; have hms28_2 := NB104_103.out
  refine skip_ (w1 := ?_) (by rfl) rfl ?_ ?_
  rotate_left
  ·go_simp
   rfl
  refine hK.out _ _ ⟨((cell_far (p := ⟨gb104, _, none⟩) NB102_104.out _).trans (((cell_far (p := ⟨gb104, _, none⟩) NB102_104.out _).trans (hHeld.1)))), ((cell_far (p := ⟨gb104, _, none⟩) NB102_104.out _).trans (((cell_far (p := ⟨gb104, _, none⟩) NB102_104.out _).trans (hHeld.2.1)))), ((cell_far (p := ⟨gb104, _, none⟩) NB103_104.out _).trans (((cell_far (p := ⟨gb104, _, none⟩) NB103_104.out _).trans (hHeld.2.2.1)))), ((cell_far (p := ⟨gb104, _, none⟩) NB103_104.out _).trans (((cell_far (p := ⟨gb104, _, none⟩) NB103_104.out _).trans (hHeld.2.2.2))))⟩ (fun hHeld => ?_)
  clear hK K
  refine pure_ (i := 18) (N := some 7) (v := ?_) (a' := ?_) #[true, true, true, true, true, true, true, true, true, true, true, true, true, true, true, true, true, true, true] rfl rfl (any_of HT_.out (by kernel_rfl)) (fun _ _ _ h => h) (Or.inl ⟨by rfl, ?_⟩) ?_ ?_
  rotate_left
  ·intro w'
   go_simp
   with_reducible rfl
  rotate_left
  ·simp only [Act.put, sI_, s0_, sS_, i64_w, i32_w]
   rfl
  refine done_ (done_of HT_.out (by kernel_rfl)) ?_
  try go_wp2
  refine bodyPost_ret (results_ct rfl _ _ gb104 27 #[.slice Ao26 t106.length co26, .slice Ao25 t109.length co25] (0, 0) _ rfl (by (with_reducible repeat first | refine bN_ ?_ _ | refine bD_ ?_ | refine bA_ ?_ _); refine blk_put (cs := #[.slice Ao26 t106.length co26, .slice none 0 0]) ?_ 1 _ rfl; (with_reducible repeat first | refine bN_ ?_ _ | refine bD_ ?_ | refine bA_ ?_ _); refine blk_put (cs := #[.slice none 0 0, .slice none 0 0]) ?_ 0 _ rfl; (with_reducible repeat first | refine bN_ ?_ _ | refine bD_ ?_ | refine bA_ ?_ _); exact BK104.out) Try.underlying27 rfl (by kernel_rfl)) rfl ?_
  exact ⟨_, _, by first | rfl | (simp [errW_none, errW_some] <;> rfl) | (simp [*, errW_none, errW_some] <;> rfl), by (with_reducible repeat (first | apply rA_ | apply rN_ | apply rD_)); exact Kd.R_mono (Kd.R_far (p := ⟨gb104, 1, none⟩) (Kd.R_far (p := ⟨gb104, 0, none⟩) (Kd.R_types HO108.out BK104.out (by decide)) (fun _ hk => hk.2) (.slice Ao26 t106.length co26)) (fun _ hk => hk.2) (.slice Ao25 t109.length co25)) (fun _ hk => hk.1.2), by (with_reducible repeat (first | apply rA_ | apply rN_ | apply rD_)); exact Kd.R_mono (Kd.R_far (p := ⟨gb104, 1, none⟩) (Kd.R_far (p := ⟨gb104, 0, none⟩) (Kd.R_types HO111.out BK104.out (by decide)) (fun _ hk => hk.2) (.slice Ao26 t106.length co26)) (fun _ hk => hk.2) (.slice Ao25 t109.length co25)) (fun _ hk => hk.1.2), by repeat (first | (with_reducible first | exact HB.out | apply lA_ | apply lN_ | apply lD_ | refine below_set ?_ GE101.out | refine below_set ?_ GE102.out | refine below_set ?_ GE103.out | refine below_set ?_ GE104.out) | exact HB.out)⟩
 ·rw [if_neg c5] at H
  have c5b0 : (t105 == 0) = false := beq_eq_false_iff_ne.mpr c5; have c5b1 : (t105 != 0) = true := bne_iff_ne.mpr c5; simp only [Option.some.injEq, Prod.mk.injEq] at H; obtain ⟨rfl, rfl, rfl⟩ := H
  go_enter Try.func44, Try.ntmps44
  go_wp2_with (first | ((with_reducible refine gate_dst (N := 3) rfl ?_); refine box_event ?hg (N := 3) ?hd (cs := #[.slice A0_0 l0_0.length c0_0, .slice A0_1 l0_1.length c0_1]) (t := 25) ?hr ?_; (case hd => rfl); (case hg => rfl); (case hr => first | (go_simp; done) | (go_simp; rfl)); intro gb101 hg w29 hbox hb; have n0_ := Aside0.mk (below_step (by repeat (first | (with_reducible first | exact HB.out | apply lA_ | apply lN_ | apply lD_) | exact HB.out)) hb); have n1_ := Aside0.mk (hbox); have n2_ := Aside0.mk ((by rw [hg]; exact (below_size (by repeat (first | (with_reducible first | exact HB.out | apply lA_ | apply lN_ | apply lD_) | exact HB.out))) : w.heap.size ≤ gb101)); have n3_ := Aside0.mk ((by rw [hg]; exact (below_size (by repeat (first | (with_reducible first | exact HB.out | apply lA_ | apply lN_ | apply lD_) | exact HB.out))) : w.heap.size ≤ gb101)); clear HB; have HB := n0_; have BK101 := n1_; have GW101 := n2_; have GE101 := n3_; clear n0_ n1_ n2_ n3_; clear hb hbox hg) | ((with_reducible refine gate_dst (N := 4) rfl ?_); refine box_event ?hg (N := 4) ?hd (cs := #[.slice A1_0 l1_0.length c1_0, .slice A1_1 l1_1.length c1_1]) (t := 25) ?hr ?_; (case hd => rfl); (case hg => rfl); (case hr => first | (go_simp; done) | (go_simp; rfl)); intro gb102 hg w30 hbox hb; have n0_ := Aside0.mk (blk_below (g := gb101) (o := .cells #[.slice A0_0 l0_0.length c0_0, .slice A0_1 l0_1.length c0_1] 25 (0, 0)) (by (with_reducible repeat first | refine bN_ ?_ _ | refine bD_ ?_ | refine bA_ ?_ _); exact BK101.out) hb); have n1_ := Aside0.mk (below_step (by repeat (first | (with_reducible first | exact HB.out | apply lA_ | apply lN_ | apply lD_ | refine below_set ?_ GE101.out) | exact HB.out)) hb); have n2_ := Aside0.mk (hbox); have n3_ := Aside0.mk ((by rw [hg]; exact (below_size (by repeat (first | (with_reducible first | exact HB.out | apply lA_ | apply lN_ | apply lD_ | refine below_set ?_ GE101.out) | exact HB.out))) : w.heap.size ≤ gb102)); have n4_ := Aside0.mk ((by rw [hg]; exact (below_size (by repeat (first | (with_reducible first | exact HB.out | apply lA_ | apply lN_ | apply lD_ | refine below_set ?_ GE101.out) | exact HB.out))) : w.heap.size ≤ gb102)); have n5_ := Aside0.mk ((by rw [hg]; exact Nat.ne_of_lt (blk_lt (g := gb101) (o := .cells #[.slice A0_0 l0_0.length c0_0, .slice A0_1 l0_1.length c0_1] 25 (0, 0)) (by (with_reducible repeat first | refine bN_ ?_ _ | refine bD_ ?_ | refine bA_ ?_ _); exact BK101.out)) : gb101 ≠ gb102)); have n6_ := Aside0.mk ((by rw [hg]; exact Nat.ne_of_gt (blk_lt (g := gb101) (o := .cells #[.slice A0_0 l0_0.length c0_0, .slice A0_1 l0_1.length c0_1] 25 (0, 0)) (by (with_reducible repeat first | refine bN_ ?_ _ | refine bD_ ?_ | refine bA_ ?_ _); exact BK101.out)) : gb102 ≠ gb101)); clear BK101; clear HB; have BK101 := n0_; have HB := n1_; have BK102 := n2_; have GW102 := n3_; have GE102 := n4_; have NB101_102 := n5_; have NB102_101 := n6_; clear n0_ n1_ n2_ n3_ n4_ n5_ n6_; clear hb hbox hg) | ((with_reducible refine gate_dst (N := 5) rfl ?_); refine box_event ?hg (N := 5) ?hd (cs := #[.slice A2_0 l2_0.length c2_0, .slice A2_1 l2_1.length c2_1]) (t := 51) ?hr ?_; (case hd => rfl); (case hg => rfl); (case hr => first | (go_simp; done) | (go_simp; rfl)); intro gb103 hg w31 hbox hb; have n0_ := Aside0.mk (blk_below (g := gb101) (o := .cells #[.slice A0_0 l0_0.length c0_0, .slice A0_1 l0_1.length c0_1] 25 (0, 0)) (by (with_reducible repeat first | refine bN_ ?_ _ | refine bD_ ?_ | refine bA_ ?_ _); exact BK101.out) hb); have n1_ := Aside0.mk (blk_below (g := gb102) (o := .cells #[.slice A1_0 l1_0.length c1_0, .slice A1_1 l1_1.length c1_1] 25 (0, 0)) (by (with_reducible repeat first | refine bN_ ?_ _ | refine bD_ ?_ | refine bA_ ?_ _); exact BK102.out) hb); have n2_ := Aside0.mk (below_step (by repeat (first | (with_reducible first | exact HB.out | apply lA_ | apply lN_ | apply lD_ | refine below_set ?_ GE101.out | refine below_set ?_ GE102.out) | exact HB.out)) hb); have n3_ := Aside0.mk (hbox); have n4_ := Aside0.mk ((by rw [hg]; exact (below_size (by repeat (first | (with_reducible first | exact HB.out | apply lA_ | apply lN_ | apply lD_ | refine below_set ?_ GE101.out | refine below_set ?_ GE102.out) | exact HB.out))) : w.heap.size ≤ gb103)); have n5_ := Aside0.mk ((by rw [hg]; exact (below_size (by repeat (first | (with_reducible first | exact HB.out | apply lA_ | apply lN_ | apply lD_ | refine below_set ?_ GE101.out | refine below_set ?_ GE102.out) | exact HB.out))) : w.heap.size ≤ gb103)); have n6_ := Aside0.mk ((by rw [hg]; exact Nat.ne_of_lt (blk_lt (g := gb101) (o := .cells #[.slice A0_0 l0_0.length c0_0, .slice A0_1 l0_1.length c0_1] 25 (0, 0)) (by (with_reducible repeat first | refine bN_ ?_ _ | refine bD_ ?_ | refine bA_ ?_ _); exact BK101.out)) : gb101 ≠ gb103)); have n7_ := Aside0.mk ((by rw [hg]; exact Nat.ne_of_gt (blk_lt (g := gb101) (o := .cells #[.slice A0_0 l0_0.length c0_0, .slice A0_1 l0_1.length c0_1] 25 (0, 0)) (by (with_reducible repeat first | refine bN_ ?_ _ | refine bD_ ?_ | refine bA_ ?_ _); exact BK101.out)) : gb103 ≠ gb101)); have n8_ := Aside0.mk ((by rw [hg]; exact Nat.ne_of_lt (blk_lt (g := gb102) (o := .cells #[.slice A1_0 l1_0.length c1_0, .slice A1_1 l1_1.length c1_1] 25 (0, 0)) (by (with_reducible repeat first | refine bN_ ?_ _ | refine bD_ ?_ | refine bA_ ?_ _); exact BK102.out)) : gb102 ≠ gb103)); have n9_ := Aside0.mk ((by rw [hg]; exact Nat.ne_of_gt (blk_lt (g := gb102) (o := .cells #[.slice A1_0 l1_0.length c1_0, .slice A1_1 l1_1.length c1_1] 25 (0, 0)) (by (with_reducible repeat first | refine bN_ ?_ _ | refine bD_ ?_ | refine bA_ ?_ _); exact BK102.out)) : gb103 ≠ gb102)); clear BK101; clear BK102; clear HB; have BK101 := n0_; have BK102 := n1_; have HB := n2_; have BK103 := n3_; have GW103 := n4_; have GE103 := n5_; have NB101_103 := n6_; have NB103_101 := n7_; have NB102_103 := n8_; have NB103_102 := n9_; clear n0_ n1_ n2_ n3_ n4_ n5_ n6_ n7_ n8_ n9_; clear hb hbox hg) | ((with_reducible refine gate_dst (N := 6) rfl ?_); refine box_event ?hg (N := 6) ?hd (cs := #[.slice none 0 0, .slice none 0 0]) (t := 27) ?hr ?_; (case hd => rfl); (case hg => rfl); (case hr => first | (go_simp; done) | (go_simp; rfl)); intro gb104 hg w32 hbox hb; have n0_ := Aside0.mk (blk_below (g := gb101) (o := .cells #[.slice A0_0 l0_0.length c0_0, .slice A0_1 l0_1.length c0_1] 25 (0, 0)) (by (with_reducible repeat first | refine bN_ ?_ _ | refine bD_ ?_ | refine bA_ ?_ _); exact BK101.out) hb); have n1_ := Aside0.mk (blk_below (g := gb102) (o := .cells #[.slice A1_0 l1_0.length c1_0, .slice A1_1 l1_1.length c1_1] 25 (0, 0)) (by (with_reducible repeat first | refine bN_ ?_ _ | refine bD_ ?_ | refine bA_ ?_ _); exact BK102.out) hb); have n2_ := Aside0.mk (blk_below (g := gb103) (o := .cells #[.slice A2_0 l2_0.length c2_0, .slice A2_1 l2_1.length c2_1] 51 (0, 0)) (by (with_reducible repeat first | refine bN_ ?_ _ | refine bD_ ?_ | refine bA_ ?_ _); exact BK103.out) hb); have n3_ := Aside0.mk (below_step (by repeat (first | (with_reducible first | exact HB.out | apply lA_ | apply lN_ | apply lD_ | refine below_set ?_ GE101.out | refine below_set ?_ GE102.out | refine below_set ?_ GE103.out) | exact HB.out)) hb); have n4_ := Aside0.mk (hbox); have n5_ := Aside0.mk ((by rw [hg]; exact (below_size (by repeat (first | (with_reducible first | exact HB.out | apply lA_ | apply lN_ | apply lD_ | refine below_set ?_ GE101.out | refine below_set ?_ GE102.out | refine below_set ?_ GE103.out) | exact HB.out))) : w.heap.size ≤ gb104)); have n6_ := Aside0.mk ((by rw [hg]; exact (below_size (by repeat (first | (with_reducible first | exact HB.out | apply lA_ | apply lN_ | apply lD_ | refine below_set ?_ GE101.out | refine below_set ?_ GE102.out | refine below_set ?_ GE103.out) | exact HB.out))) : w.heap.size ≤ gb104)); have n7_ := Aside0.mk ((by rw [hg]; exact Nat.ne_of_lt (blk_lt (g := gb101) (o := .cells #[.slice A0_0 l0_0.length c0_0, .slice A0_1 l0_1.length c0_1] 25 (0, 0)) (by (with_reducible repeat first | refine bN_ ?_ _ | refine bD_ ?_ | refine bA_ ?_ _); exact BK101.out)) : gb101 ≠ gb104)); have n8_ := Aside0.mk ((by rw [hg]; exact Nat.ne_of_gt (blk_lt (g := gb101) (o := .cells #[.slice A0_0 l0_0.length c0_0, .slice A0_1 l0_1.length c0_1] 25 (0, 0)) (by (with_reducible repeat first | refine bN_ ?_ _ | refine bD_ ?_ | refine bA_ ?_ _); exact BK101.out)) : gb104 ≠ gb101)); have n9_ := Aside0.mk ((by rw [hg]; exact Nat.ne_of_lt (blk_lt (g := gb102) (o := .cells #[.slice A1_0 l1_0.length c1_0, .slice A1_1 l1_1.length c1_1] 25 (0, 0)) (by (with_reducible repeat first | refine bN_ ?_ _ | refine bD_ ?_ | refine bA_ ?_ _); exact BK102.out)) : gb102 ≠ gb104)); have n10_ := Aside0.mk ((by rw [hg]; exact Nat.ne_of_gt (blk_lt (g := gb102) (o := .cells #[.slice A1_0 l1_0.length c1_0, .slice A1_1 l1_1.length c1_1] 25 (0, 0)) (by (with_reducible repeat first | refine bN_ ?_ _ | refine bD_ ?_ | refine bA_ ?_ _); exact BK102.out)) : gb104 ≠ gb102)); have n11_ := Aside0.mk ((by rw [hg]; exact Nat.ne_of_lt (blk_lt (g := gb103) (o := .cells #[.slice A2_0 l2_0.length c2_0, .slice A2_1 l2_1.length c2_1] 51 (0, 0)) (by (with_reducible repeat first | refine bN_ ?_ _ | refine bD_ ?_ | refine bA_ ?_ _); exact BK103.out)) : gb103 ≠ gb104)); have n12_ := Aside0.mk ((by rw [hg]; exact Nat.ne_of_gt (blk_lt (g := gb103) (o := .cells #[.slice A2_0 l2_0.length c2_0, .slice A2_1 l2_1.length c2_1] 51 (0, 0)) (by (with_reducible repeat first | refine bN_ ?_ _ | refine bD_ ?_ | refine bA_ ?_ _); exact BK103.out)) : gb104 ≠ gb103)); clear BK101; clear BK102; clear BK103; clear HB; have BK101 := n0_; have BK102 := n1_; have BK103 := n2_; have HB := n3_; have BK104 := n4_; have GW104 := n5_; have GE104 := n6_; have NB101_104 := n7_; have NB104_101 := n8_; have NB102_104 := n9_; have NB104_102 := n10_; have NB103_104 := n11_; have NB104_103 := n12_; clear n0_ n1_ n2_ n3_ n4_ n5_ n6_ n7_ n8_ n9_ n10_ n11_ n12_; clear hb hbox hg; have hnb33 := NB101_102.out; have hnc33 := NB102_101.out; have hnb34 := NB101_103.out; have hnc34 := NB103_101.out; have hnb35 := NB101_104.out; have hnc35 := NB104_101.out; have hcz36_0 : w32.cell? ⟨gb101, 0, none⟩ = some (.slice A0_0 l0_0.length c0_0) := (blk_cell BK101.out 0).trans rfl; have hcz36_1 : w32.cell? ⟨gb101, 1, none⟩ = some (.slice A0_1 l0_1.length c0_1) := (blk_cell BK101.out 1).trans rfl; have hfz36_0 := blk_frozen BK101.out 0; have hfz36_1 := blk_frozen BK101.out 1; have hnb37 := NB102_103.out; have hnc37 := NB103_102.out; have hnb38 := NB102_104.out; have hnc38 := NB104_102.out; have hcz39_0 : w32.cell? ⟨gb102, 0, none⟩ = some (.slice A1_0 l1_0.length c1_0) := (blk_cell BK102.out 0).trans rfl; have hcz39_1 : w32.cell? ⟨gb102, 1, none⟩ = some (.slice A1_1 l1_1.length c1_1) := (blk_cell BK102.out 1).trans rfl; have hfz39_0 := blk_frozen BK102.out 0; have hfz39_1 := blk_frozen BK102.out 1; have hnb40 := NB103_104.out; have hnc40 := NB104_103.out; have hcz41_0 : w32.cell? ⟨gb103, 0, none⟩ = some (.slice A2_0 l2_0.length c2_0) := (blk_cell BK103.out 0).trans rfl; have hcz41_1 : w32.cell? ⟨gb103, 1, none⟩ = some (.slice A2_1 l2_1.length c2_1) := (blk_cell BK103.out 1).trans rfl; have hfz41_0 := blk_frozen BK103.out 0; have hfz41_1 := blk_frozen BK103.out 1) | ((with_reducible refine gate_callee (f := 47) rfl ?_); refine goesL_ (some 12) rfl rfl Try.func47 (by kernel_rfl) rfl #[.agg #[.slice A0_0 l0_0.length c0_0, .slice A0_1 l0_1.length c0_1], .agg #[.slice A1_0 l1_0.length c1_0, .slice A1_1 l1_1.length c1_1], .agg #[.slice A2_0 l2_0.length c2_0, .slice A2_1 l2_1.length c2_1]] rfl (by (try simp only [List.map_toArray, List.map_cons, List.map_nil]); first | done | rfl | (simp only [List.length_drop, List.length_take]; rfl)) ?_; (with_reducible refine (scarfjointref06_Valid.calls _ _ l0_0 _ _ l0_1 _ _ l1_0 _ _ l1_1 _ _ l2_0 _ _ l2_1 t105 _ ?side1 ?side2 ?side3 ?side4 ?side5 ?side6 ?side7 ?side8 ?side9 ?side10 ?side11 ?side12 A4.out).mono ?_); (case side1 => repeat (first | exact (Kd.C_below HR0_0.out HB.out) | (with_reducible refine Kd.C_alloc ?_ _) | (with_reducible refine Kd.C_drewN ?_ _) | (with_reducible refine Kd.C_drew ?_))); (case side2 => exact HC0_0.out); (case side3 => repeat (first | exact (Kd.C_below HR0_1.out HB.out) | (with_reducible refine Kd.C_alloc ?_ _) | (with_reducible refine Kd.C_drewN ?_ _) | (with_reducible refine Kd.C_drew ?_))); (case side4 => exact HC0_1.out); (case side5 => repeat (first | exact (Kd.C_below HR1_0.out HB.out) | (with_reducible refine Kd.C_alloc ?_ _) | (with_reducible refine Kd.C_drewN ?_ _) | (with_reducible refine Kd.C_drew ?_))); (case side6 => exact HC1_0.out); (case side7 => repeat (first | exact (Kd.C_below HR1_1.out HB.out) | (with_reducible refine Kd.C_alloc ?_ _) | (with_reducible refine Kd.C_drewN ?_ _) | (with_reducible refine Kd.C_drew ?_))); (case side8 => exact HC1_1.out); (case side9 => repeat (first | exact (Kd.C_below HR2_0.out HB.out) | (with_reducible refine Kd.C_alloc ?_ _) | (with_reducible refine Kd.C_drewN ?_ _) | (with_reducible refine Kd.C_drew ?_))); (case side10 => exact HC2_0.out); (case side11 => repeat (first | exact (Kd.C_below HR2_1.out HB.out) | (with_reducible refine Kd.C_alloc ?_ _) | (with_reducible refine Kd.C_drewN ?_ _) | (with_reducible refine Kd.C_drew ?_))); (case side12 => exact HC2_1.out); rintro e w42 ⟨rfl, hb⟩; refine ⟨_, rfl, ?_⟩; have n0_ := Aside0.mk (blk_below (g := gb101) (o := .cells #[.slice A0_0 l0_0.length c0_0, .slice A0_1 l0_1.length c0_1] 25 (0, 0)) (by (with_reducible repeat first | refine bN_ ?_ _ | refine bD_ ?_ | refine bA_ ?_ _); exact BK101.out) hb); have n1_ := Aside0.mk (blk_below (g := gb102) (o := .cells #[.slice A1_0 l1_0.length c1_0, .slice A1_1 l1_1.length c1_1] 25 (0, 0)) (by (with_reducible repeat first | refine bN_ ?_ _ | refine bD_ ?_ | refine bA_ ?_ _); exact BK102.out) hb); have n2_ := Aside0.mk (blk_below (g := gb103) (o := .cells #[.slice A2_0 l2_0.length c2_0, .slice A2_1 l2_1.length c2_1] 51 (0, 0)) (by (with_reducible repeat first | refine bN_ ?_ _ | refine bD_ ?_ | refine bA_ ?_ _); exact BK103.out) hb); have n3_ := Aside0.mk (blk_below (g := gb104) (o := .cells #[.slice none 0 0, .slice none 0 0] 27 (0, 0)) (by (with_reducible repeat first | refine bN_ ?_ _ | refine bD_ ?_ | refine bA_ ?_ _); exact BK104.out) hb); have n4_ := Aside0.mk (below_step (by repeat (first | (with_reducible first | exact HB.out | apply lA_ | apply lN_ | apply lD_ | refine below_set ?_ GE101.out | refine below_set ?_ GE102.out | refine below_set ?_ GE103.out | refine below_set ?_ GE104.out) | exact HB.out)) hb); clear BK101; clear BK102; clear BK103; clear BK104; clear HB; have BK101 := n0_; have BK102 := n1_; have BK103 := n2_; have BK104 := n3_; have HB := n4_; clear n0_ n1_ n2_ n3_ n4_; (try clear hb); (try clear hb2); (try clear hk); (try clear hi); have hcz43_0 : w42.cell? ⟨gb104, 0, none⟩ = some (.slice none 0 0) := (blk_cell BK104.out 0).trans rfl; have hcz43_1 : w42.cell? ⟨gb104, 1, none⟩ = some (.slice none 0 0) := (blk_cell BK104.out 1).trans rfl; have hfz43_0 := blk_frozen BK104.out 0; have hfz43_1 := blk_frozen BK104.out 1))
  refine bodyPost_ret (results_ct rfl _ _ gb104 27 #[.slice none 0 0, .slice none 0 0] (0, 0) _ rfl (by (with_reducible repeat first | refine bN_ ?_ _ | refine bD_ ?_ | refine bA_ ?_ _); refine blk_put (cs := #[.slice none 0 0, .slice none 0 0]) ?_ 1 _ rfl; (with_reducible repeat first | refine bN_ ?_ _ | refine bD_ ?_ | refine bA_ ?_ _); refine blk_put (cs := #[.slice none 0 0, .slice none 0 0]) ?_ 0 _ rfl; (with_reducible repeat first | refine bN_ ?_ _ | refine bD_ ?_ | refine bA_ ?_ _); exact BK104.out) Try.underlying27 rfl (by kernel_rfl)) rfl ?_
  exact ⟨_, _, by first | rfl | (simp [errW_none, errW_some] <;> rfl) | (simp [*, errW_none, errW_some] <;> rfl), by first | exact Kd.R_nil _ _ _ _ _ | exact Kd.N_nil _ _ _ _ _ | exact Kd.V_nil _ _ _ _ _ | exact Kd.Q_nil _ _ _ _ _ | exact Kd.S_nil _ _ _ _ _, by first | exact Kd.R_nil _ _ _ _ _ | exact Kd.N_nil _ _ _ _ _ | exact Kd.V_nil _ _ _ _ _ | exact Kd.Q_nil _ _ _ _ _ | exact Kd.S_nil _ _ _ _ _, by repeat (first | (with_reducible first | exact HB.out | apply lA_ | apply lN_ | apply lD_ | refine below_set ?_ GE101.out | refine below_set ?_ GE102.out | refine below_set ?_ GE103.out | refine below_set ?_ GE104.out) | exact HB.out)⟩
end Go.Proofs.Ytonipihlpbaknaa.Print
namespace Go.Proofs.Ytonipihlpbaknaa.Print
set_option linter.unusedVariables false
set_option linter.unusedSimpArgs false
open Go.RowKit Go.Proofs.YtonipihlpbaknaaW.PrintWords Go.Proofs.YtonipihlpbaknaaW.PrintLast Go.Proofs.YtonipihlpbaknaaW.PrintMore
set_option maxHeartbeats 4000000 in
set_option maxRecDepth 100000 in
theorem scarfjointlaw07_SubgraphImage.ok (k : Nat) (A0 : Option Addr) (c0 : Nat) (l0 : List Int) (A1 : Option Addr) (c1 : Nat) (l1 : List S78) (A2 : Option Addr) (c2 : Nat) (l2 : List Int) (A3 : Option Addr) (c3 : Nat) (l3 : List S78) (A4 : Option Addr) (c4 : Nat) (l4 : List Int) (A5 : Option Addr) (c5 : Nat) (l5 : List Int) (A6 : Option Addr) (c6 : Nat) (l6 : List Int) (A7 : Option Addr) (c7 : Nat) (l7 : List Int) (p0 p1 b0 b1 : List Int) (er eb : Int) (w : World)
  (r0 : Kd.C (Kd.int .i64) w A0 l0.length l0) (m0 : l0.length ≤ c0) (r1 : Kd.C (k78) w A1 l1.length l1) (m1 : l1.length ≤ c1) (r2 : Kd.C (Kd.int .i64) w A2 l2.length l2) (m2 : l2.length ≤ c2) (r3 : Kd.C (k78) w A3 l3.length l3) (m3 : l3.length ≤ c3) (r4 : Kd.C (Kd.int .i64) w A4 l4.length l4) (m4 : l4.length ≤ c4) (r5 : Kd.C (Kd.int .i64) w A5 l5.length l5) (m5 : l5.length ≤ c5) (r6 : Kd.C (Kd.int .i64) w A6 l6.length l6) (m6 : l6.length ≤ c6) (r7 : Kd.C (Kd.int .i64) w A7 l7.length l7) (m7 : l7.length ≤ c7)
  (hsm : scarfjointlaw07_Arrow_small.f l0 l1 l2 l3 l4 l5 = some true) (hfw : scarfjointref07_Few.f l6 l7 150 = some true) (hown : scarfjointlaw07_own.f l6 l7 = some (l6, l7)) (h1 : subgraph_Image.f l0 l1 l2 l3 l4 l5 = some (p0, p1, er)) (h2 : scarfjointref07_Image.f k l0 l1 l2 l3 l4 l5 = some (p0, p1, er))
  (h3 : subgraph_Preimage.f k l0 l1 l2 l3 l4 l5 l6 l7 = some (b0, b1, eb)) (h4 : scarfjointref07_Preimage.f k l0 l1 l2 l3 l4 l5 l6 l7 = some (b0, b1, eb)) (h5 : scarfjointref07_Same.f k p0 p1 p0 p1 = some true) (h6 : scarfjointref07_Same.f k b0 b1 b0 b1 = some true) :
  Calls Try.prog 9 #[.agg #[.slice A0 l0.length c0, .slice A1 l1.length c1, .slice A2 l2.length c2, .slice A3 l3.length c3, .slice A4 l4.length c4, .slice A5 l5.length c5], .agg #[.slice A6 l6.length c6, .slice A7 l7.length c7]] w fun e w' => e = .returned (.bool true) ∧ Below w.heap.size w w' := by
 have hu25 := Try.underlying25; have hu27 := Try.underlying27; have hu51 := Try.underlying51; have hu63 := Try.underlying63; have R0 := Lib.hid r0; have M0 := Lib.hid m0; have R1 := Lib.hid r1; have M1 := Lib.hid m1; have R2 := Lib.hid r2; have M2 := Lib.hid m2; have R3 := Lib.hid r3; have M3 := Lib.hid m3; have R4 := Lib.hid r4; have M4 := Lib.hid m4; have R5 := Lib.hid r5; have M5 := Lib.hid m5; have R6 := Lib.hid r6; have M6 := Lib.hid m6; have R7 := Lib.hid r7; have M7 := Lib.hid m7; clear r0 m0 r1 m1 r2 m2 r3 m3 r4 m4 r5 m5 r6 m6 r7 m7
 go_enter Try.func9, Try.ntmps9
 go_upto_region 1 with (first
  | ((with_reducible refine gate_dst (N := 2) rfl ?_); (try (refine gate_guard (by rfl) ?_; dsimp only)); refine box_event ?hg (N := 2) ?hd (cs := #[.slice A0 l0.length c0, .slice A1 l1.length c1, .slice A2 l2.length c2, .slice A3 l3.length c3, .slice A4 l4.length c4, .slice A5 l5.length c5]) (t := 63) ?hr ?_; (case hd => rfl); (case hg => rfl); (case hr => first | (go_simp; done) | (go_simp; rfl)); intro g hg w_ hbox hb; have HG : w.heap.size ≤ g := (hg ▸ Nat.le_refl _); have BG := Lib.hid hbox; have BL := Lib.hid hb; clear hg hbox hb)
  | ((with_reducible refine gate_dst (N := 3) rfl ?_); (try (refine gate_guard (by rfl) ?_; dsimp only)); refine box_event ?hg (N := 3) ?hd (cs := #[.slice A6 l6.length c6, .slice A7 l7.length c7]) (t := 27) ?hr ?_; (case hd => rfl); (case hg => rfl); (case hr => first | (go_simp; done) | (go_simp; rfl)); intro h hg w_ hbox hb; have HH : g < h := (hg ▸ blk_lt BG.out); replace BG := Lib.hid (blk_below BG.out hb); replace BL := Lib.hid (below_then BL.out BL.out.size hb); have BE := Lib.hid hbox; clear hg hbox hb))
 have zBG_0 : World.cell? _ ⟨g, 0, none⟩ = some (.slice A0 l0.length c0) := (blk_cell BG.out 0).trans rfl
 have zBG_1 : World.cell? _ ⟨g, 1, none⟩ = some (.slice A1 l1.length c1) := (blk_cell BG.out 1).trans rfl
 have zBG_2 : World.cell? _ ⟨g, 2, none⟩ = some (.slice A2 l2.length c2) := (blk_cell BG.out 2).trans rfl
 have zBG_3 : World.cell? _ ⟨g, 3, none⟩ = some (.slice A3 l3.length c3) := (blk_cell BG.out 3).trans rfl
 have zBG_4 : World.cell? _ ⟨g, 4, none⟩ = some (.slice A4 l4.length c4) := (blk_cell BG.out 4).trans rfl
 have zBG_5 : World.cell? _ ⟨g, 5, none⟩ = some (.slice A5 l5.length c5) := (blk_cell BG.out 5).trans rfl
 obtain ⟨zBE_0, zBE_1⟩ := cell2 BE.out
 go_upto_region 3 with (first
  | (go_at_call 11; with_reducible refine (scarfjointlaw07_awake.calls true _ rfl).mono ?_; rintro e w_ ⟨rfl, hb⟩; clear zBG_0 zBG_1 zBG_2 zBG_3 zBG_4 zBG_5 zBE_0 zBE_1; replace BG := Lib.hid (blk_below BG.out hb); replace BL := Lib.hid (below_then BL.out BL.out.size hb); replace BE := Lib.hid (blk_below BE.out hb); clear hb; have zBG_0 : w_.cell? ⟨g, 0, none⟩ = some (.slice A0 l0.length c0) := (blk_cell BG.out 0).trans rfl; have zBG_1 : w_.cell? ⟨g, 1, none⟩ = some (.slice A1 l1.length c1) := (blk_cell BG.out 1).trans rfl; have zBG_2 : w_.cell? ⟨g, 2, none⟩ = some (.slice A2 l2.length c2) := (blk_cell BG.out 2).trans rfl; have zBG_3 : w_.cell? ⟨g, 3, none⟩ = some (.slice A3 l3.length c3) := (blk_cell BG.out 3).trans rfl; have zBG_4 : w_.cell? ⟨g, 4, none⟩ = some (.slice A4 l4.length c4) := (blk_cell BG.out 4).trans rfl; have zBG_5 : w_.cell? ⟨g, 5, none⟩ = some (.slice A5 l5.length c5) := (blk_cell BG.out 5).trans rfl; obtain ⟨zBE_0, zBE_1⟩ := cell2 BE.out)
  | (go_at_call 42; with_reducible refine (scarfjointlaw07_Arrow_small.calls A0 c0 l0 A1 c1 l1 A2 c2 l2 A3 c3 l3 A4 c4 l4 A5 c5 l5 true _ (Kd.C_below R0.out BL.out) M0.out (Kd.C_below R1.out BL.out) M1.out (Kd.C_below R2.out BL.out) M2.out (Kd.C_below R3.out BL.out) M3.out (Kd.C_below R4.out BL.out) M4.out (Kd.C_below R5.out BL.out) M5.out hsm).mono ?_; rintro e w_ ⟨rfl, hb⟩; clear zBG_0 zBG_1 zBG_2 zBG_3 zBG_4 zBG_5 zBE_0 zBE_1; replace BG := Lib.hid (blk_below BG.out hb); replace BL := Lib.hid (below_then BL.out BL.out.size hb); replace BE := Lib.hid (blk_below BE.out hb); clear hb; have zBG_0 : w_.cell? ⟨g, 0, none⟩ = some (.slice A0 l0.length c0) := (blk_cell BG.out 0).trans rfl; have zBG_1 : w_.cell? ⟨g, 1, none⟩ = some (.slice A1 l1.length c1) := (blk_cell BG.out 1).trans rfl; have zBG_2 : w_.cell? ⟨g, 2, none⟩ = some (.slice A2 l2.length c2) := (blk_cell BG.out 2).trans rfl; have zBG_3 : w_.cell? ⟨g, 3, none⟩ = some (.slice A3 l3.length c3) := (blk_cell BG.out 3).trans rfl; have zBG_4 : w_.cell? ⟨g, 4, none⟩ = some (.slice A4 l4.length c4) := (blk_cell BG.out 4).trans rfl; have zBG_5 : w_.cell? ⟨g, 5, none⟩ = some (.slice A5 l5.length c5) := (blk_cell BG.out 5).trans rfl; obtain ⟨zBE_0, zBE_1⟩ := cell2 BE.out)
  | (go_at_call 43; with_reducible refine (scarfjointref07_Few.calls A6 c6 l6 A7 c7 l7 150 true _ (Kd.C_below R6.out BL.out) M6.out (Kd.C_below R7.out BL.out) M7.out hfw).mono ?_; rintro e w_ ⟨rfl, hb⟩; clear zBG_0 zBG_1 zBG_2 zBG_3 zBG_4 zBG_5 zBE_0 zBE_1; replace BG := Lib.hid (blk_below BG.out hb); replace BL := Lib.hid (below_then BL.out BL.out.size hb); replace BE := Lib.hid (blk_below BE.out hb); clear hb; have zBG_0 : w_.cell? ⟨g, 0, none⟩ = some (.slice A0 l0.length c0) := (blk_cell BG.out 0).trans rfl; have zBG_1 : w_.cell? ⟨g, 1, none⟩ = some (.slice A1 l1.length c1) := (blk_cell BG.out 1).trans rfl; have zBG_2 : w_.cell? ⟨g, 2, none⟩ = some (.slice A2 l2.length c2) := (blk_cell BG.out 2).trans rfl; have zBG_3 : w_.cell? ⟨g, 3, none⟩ = some (.slice A3 l3.length c3) := (blk_cell BG.out 3).trans rfl; have zBG_4 : w_.cell? ⟨g, 4, none⟩ = some (.slice A4 l4.length c4) := (blk_cell BG.out 4).trans rfl; have zBG_5 : w_.cell? ⟨g, 5, none⟩ = some (.slice A5 l5.length c5) := (blk_cell BG.out 5).trans rfl; obtain ⟨zBE_0, zBE_1⟩ := cell2 BE.out))
 clear zBG_0 zBG_1 zBG_2 zBG_3 zBG_4 zBG_5 zBE_0 zBE_1
 have zBG_0 : World.cell? _ ⟨g, 0, none⟩ = some (.slice A0 l0.length c0) := (blk_cell BG.out 0).trans rfl
 have zBG_1 : World.cell? _ ⟨g, 1, none⟩ = some (.slice A1 l1.length c1) := (blk_cell BG.out 1).trans rfl
 have zBG_2 : World.cell? _ ⟨g, 2, none⟩ = some (.slice A2 l2.length c2) := (blk_cell BG.out 2).trans rfl
 have zBG_3 : World.cell? _ ⟨g, 3, none⟩ = some (.slice A3 l3.length c3) := (blk_cell BG.out 3).trans rfl
 have zBG_4 : World.cell? _ ⟨g, 4, none⟩ = some (.slice A4 l4.length c4) := (blk_cell BG.out 4).trans rfl
 have zBG_5 : World.cell? _ ⟨g, 5, none⟩ = some (.slice A5 l5.length c5) := (blk_cell BG.out 5).trans rfl
 obtain ⟨zBE_0, zBE_1⟩ := cell2 BE.out
 go_upto_region 4 with (first
  | (go_at_call 40; with_reducible refine (subgraph_Image.calls A0 c0 l0 A1 c1 l1 A2 c2 l2 A3 c3 l3 A4 c4 l4 A5 c5 l5 p0 p1 er _ (Kd.C_below R0.out BL.out) M0.out (Kd.C_below R1.out BL.out) M1.out (Kd.C_below R2.out BL.out) M2.out (Kd.C_below R3.out BL.out) M3.out (Kd.C_below R4.out BL.out) M4.out (Kd.C_below R5.out BL.out) M5.out h1).mono ?_; rintro e w_ ⟨v0, v1, rfl, ho0, ho1, hb⟩; clear zBG_0 zBG_1 zBG_2 zBG_3 zBG_4 zBG_5 zBE_0 zBE_1; obtain ⟨A8, c8, rfl⟩ := Kd.R_slice ho0; obtain ⟨A9, c9, rfl⟩ := Kd.R_slice ho1; replace BG := Lib.hid (blk_below BG.out hb); replace BL := Lib.hid (below_then BL.out BL.out.size hb); replace BE := Lib.hid (blk_below BE.out hb); have R8 := Lib.hid (toR (ho0)); have R9 := Lib.hid (toR (ho1)); clear ho0 ho1 hb; have zBG_0 : World.cell? _ ⟨g, 0, none⟩ = some (.slice A0 l0.length c0) := (blk_cell BG.out 0).trans rfl; have zBG_1 : World.cell? _ ⟨g, 1, none⟩ = some (.slice A1 l1.length c1) := (blk_cell BG.out 1).trans rfl; have zBG_2 : World.cell? _ ⟨g, 2, none⟩ = some (.slice A2 l2.length c2) := (blk_cell BG.out 2).trans rfl; have zBG_3 : World.cell? _ ⟨g, 3, none⟩ = some (.slice A3 l3.length c3) := (blk_cell BG.out 3).trans rfl; have zBG_4 : World.cell? _ ⟨g, 4, none⟩ = some (.slice A4 l4.length c4) := (blk_cell BG.out 4).trans rfl; have zBG_5 : World.cell? _ ⟨g, 5, none⟩ = some (.slice A5 l5.length c5) := (blk_cell BG.out 5).trans rfl; obtain ⟨zBE_0, zBE_1⟩ := cell2 BE.out)
  | ((with_reducible refine gate_dst (N := 5) rfl ?_); (try (refine gate_guard (by rfl) ?_; dsimp only)); refine box_event ?hg (N := 5) ?hd (cs := #[.slice none 0 0, .slice none 0 0]) (t := 27) ?hr ?_; (case hd => rfl); (case hg => rfl); (case hr => first | (go_simp; done) | (go_simp; rfl)); intro x hg w_ hbox hb; clear zBG_0 zBG_1 zBG_2 zBG_3 zBG_4 zBG_5 zBE_0 zBE_1; have Hx : h < x := (hg ▸ blk_lt BE.out); replace BG := Lib.hid (blk_below BG.out hb); replace BL := Lib.hid (below_then BL.out BL.out.size hb); replace BE := Lib.hid (blk_below BE.out hb); replace R8 := Lib.hid (Kd.R_below R8.out hb); replace R9 := Lib.hid (Kd.R_below R9.out hb); have BX := Lib.hid (hbox); clear hg hbox hb; obtain ⟨y0_, y1_⟩ := cell2 BX.out; have f0_ := blk_frozen BX.out 0; have f1_ := blk_frozen BX.out 1))
 clear y0_ y1_ f0_ f1_; replace BG := Lib.hid (blk_far BG.out (p := ⟨x, 0, none⟩) (by show g ≠ x; omega) (.slice A8 p0.length c8)); replace BL := Lib.hid (below_set (g := x) (j := 0) (v := .slice A8 p0.length c8) BL.out (by omega)); replace BE := Lib.hid (blk_far BE.out (p := ⟨x, 0, none⟩) (by show h ≠ x; omega) (.slice A8 p0.length c8)); replace R8 := Lib.hid (Kd.R_set R8.out BX.out int_ne27 0 (.slice A8 p0.length c8)); replace R9 := Lib.hid (Kd.R_set R9.out BX.out int_ne27 0 (.slice A8 p0.length c8)); replace BX := Lib.hid (blk_put (cs' := #[.slice A8 p0.length c8, .slice none 0 0]) BX.out 0 (.slice A8 p0.length c8) rfl); replace BG := Lib.hid (blk_far BG.out (p := ⟨x, 1, none⟩) (by show g ≠ x; omega) (.slice A9 p1.length c9)); replace BL := Lib.hid (below_set (g := x) (j := 1) (v := .slice A9 p1.length c9) BL.out (by omega)); replace BE := Lib.hid (blk_far BE.out (p := ⟨x, 1, none⟩) (by show h ≠ x; omega) (.slice A9 p1.length c9)); replace R8 := Lib.hid (Kd.R_set R8.out BX.out int_ne27 1 (.slice A9 p1.length c9)); replace R9 := Lib.hid (Kd.R_set R9.out BX.out int_ne27 1 (.slice A9 p1.length c9)); replace BX := Lib.hid (blk_put (cs' := #[.slice A8 p0.length c8, .slice A9 p1.length c9]) BX.out 1 (.slice A9 p1.length c9) rfl); generalize hq_ : World.setCell _ _ _ = w5_; replace BG := Lib.hid (at_blk hq_ BG.out); replace BL := Lib.hid (at_bel hq_ BL.out); replace BE := Lib.hid (at_blk hq_ BE.out); replace R8 := Lib.hid (at_R hq_ R8.out); replace R9 := Lib.hid (at_R hq_ R9.out); replace BX := Lib.hid (at_blk hq_ BX.out); clear hq_
 have zBG_0 : World.cell? _ ⟨g, 0, none⟩ = some (.slice A0 l0.length c0) := (blk_cell BG.out 0).trans rfl
 have zBG_1 : World.cell? _ ⟨g, 1, none⟩ = some (.slice A1 l1.length c1) := (blk_cell BG.out 1).trans rfl
 have zBG_2 : World.cell? _ ⟨g, 2, none⟩ = some (.slice A2 l2.length c2) := (blk_cell BG.out 2).trans rfl
 have zBG_3 : World.cell? _ ⟨g, 3, none⟩ = some (.slice A3 l3.length c3) := (blk_cell BG.out 3).trans rfl
 have zBG_4 : World.cell? _ ⟨g, 4, none⟩ = some (.slice A4 l4.length c4) := (blk_cell BG.out 4).trans rfl
 have zBG_5 : World.cell? _ ⟨g, 5, none⟩ = some (.slice A5 l5.length c5) := (blk_cell BG.out 5).trans rfl
 obtain ⟨zBE_0, zBE_1⟩ := cell2 BE.out
 go_upto_region 5 with (first
  | (go_at_call 44; with_reducible refine (scarfjointref07_Image.calls k A0 c0 l0 A1 c1 l1 A2 c2 l2 A3 c3 l3 A4 c4 l4 A5 c5 l5 p0 p1 er _ (Kd.C_below R0.out BL.out) M0.out (Kd.C_below R1.out BL.out) M1.out (Kd.C_below R2.out BL.out) M2.out (Kd.C_below R3.out BL.out) M3.out (Kd.C_below R4.out BL.out) M4.out (Kd.C_below R5.out BL.out) M5.out h2).mono ?_; rintro e w_ ⟨v0, v1, rfl, ho0, ho1, hb⟩; clear zBG_0 zBG_1 zBG_2 zBG_3 zBG_4 zBG_5 zBE_0 zBE_1; obtain ⟨A10, c10, rfl⟩ := Kd.R_slice ho0; obtain ⟨A11, c11, rfl⟩ := Kd.R_slice ho1; replace BG := Lib.hid (blk_below BG.out hb); replace BL := Lib.hid (below_then BL.out BL.out.size hb); replace BE := Lib.hid (blk_below BE.out hb); replace R8 := Lib.hid (Kd.R_below R8.out hb); replace R9 := Lib.hid (Kd.R_below R9.out hb); replace BX := Lib.hid (blk_below BX.out hb); have R10 := Lib.hid (toR (ho0)); have R11 := Lib.hid (toR (ho1)); clear ho0 ho1 hb; have zBG_0 : World.cell? _ ⟨g, 0, none⟩ = some (.slice A0 l0.length c0) := (blk_cell BG.out 0).trans rfl; have zBG_1 : World.cell? _ ⟨g, 1, none⟩ = some (.slice A1 l1.length c1) := (blk_cell BG.out 1).trans rfl; have zBG_2 : World.cell? _ ⟨g, 2, none⟩ = some (.slice A2 l2.length c2) := (blk_cell BG.out 2).trans rfl; have zBG_3 : World.cell? _ ⟨g, 3, none⟩ = some (.slice A3 l3.length c3) := (blk_cell BG.out 3).trans rfl; have zBG_4 : World.cell? _ ⟨g, 4, none⟩ = some (.slice A4 l4.length c4) := (blk_cell BG.out 4).trans rfl; have zBG_5 : World.cell? _ ⟨g, 5, none⟩ = some (.slice A5 l5.length c5) := (blk_cell BG.out 5).trans rfl; obtain ⟨zBE_0, zBE_1⟩ := cell2 BE.out)
  | ((with_reducible refine gate_dst (N := 7) rfl ?_); (try (refine gate_guard (by rfl) ?_; dsimp only)); refine box_event ?hg (N := 7) ?hd (cs := #[.slice none 0 0, .slice none 0 0]) (t := 27) ?hr ?_; (case hd => rfl); (case hg => rfl); (case hr => first | (go_simp; done) | (go_simp; rfl)); intro y hg w_ hbox hb; clear zBG_0 zBG_1 zBG_2 zBG_3 zBG_4 zBG_5 zBE_0 zBE_1; have Hy : x < y := (hg ▸ blk_lt BX.out); replace BG := Lib.hid (blk_below BG.out hb); replace BL := Lib.hid (below_then BL.out BL.out.size hb); replace BE := Lib.hid (blk_below BE.out hb); replace R8 := Lib.hid (Kd.R_below R8.out hb); replace R9 := Lib.hid (Kd.R_below R9.out hb); replace BX := Lib.hid (blk_below BX.out hb); replace R10 := Lib.hid (Kd.R_below R10.out hb); replace R11 := Lib.hid (Kd.R_below R11.out hb); have BY := Lib.hid (hbox); clear hg hbox hb; obtain ⟨y0_, y1_⟩ := cell2 BY.out; have f0_ := blk_frozen BY.out 0; have f1_ := blk_frozen BY.out 1))
 clear y0_ y1_ f0_ f1_; replace BG := Lib.hid (blk_far BG.out (p := ⟨y, 0, none⟩) (by show g ≠ y; omega) (.slice A10 p0.length c10)); replace BL := Lib.hid (below_set (g := y) (j := 0) (v := .slice A10 p0.length c10) BL.out (by omega)); replace BE := Lib.hid (blk_far BE.out (p := ⟨y, 0, none⟩) (by show h ≠ y; omega) (.slice A10 p0.length c10)); replace R8 := Lib.hid (Kd.R_set R8.out BY.out int_ne27 0 (.slice A10 p0.length c10)); replace R9 := Lib.hid (Kd.R_set R9.out BY.out int_ne27 0 (.slice A10 p0.length c10)); replace BX := Lib.hid (blk_far BX.out (p := ⟨y, 0, none⟩) (by show x ≠ y; omega) (.slice A10 p0.length c10)); replace R10 := Lib.hid (Kd.R_set R10.out BY.out int_ne27 0 (.slice A10 p0.length c10)); replace R11 := Lib.hid (Kd.R_set R11.out BY.out int_ne27 0 (.slice A10 p0.length c10)); replace BY := Lib.hid (blk_put (cs' := #[.slice A10 p0.length c10, .slice none 0 0]) BY.out 0 (.slice A10 p0.length c10) rfl); replace BG := Lib.hid (blk_far BG.out (p := ⟨y, 1, none⟩) (by show g ≠ y; omega) (.slice A11 p1.length c11)); replace BL := Lib.hid (below_set (g := y) (j := 1) (v := .slice A11 p1.length c11) BL.out (by omega)); replace BE := Lib.hid (blk_far BE.out (p := ⟨y, 1, none⟩) (by show h ≠ y; omega) (.slice A11 p1.length c11)); replace R8 := Lib.hid (Kd.R_set R8.out BY.out int_ne27 1 (.slice A11 p1.length c11)); replace R9 := Lib.hid (Kd.R_set R9.out BY.out int_ne27 1 (.slice A11 p1.length c11)); replace BX := Lib.hid (blk_far BX.out (p := ⟨y, 1, none⟩) (by show x ≠ y; omega) (.slice A11 p1.length c11)); replace R10 := Lib.hid (Kd.R_set R10.out BY.out int_ne27 1 (.slice A11 p1.length c11)); replace R11 := Lib.hid (Kd.R_set R11.out BY.out int_ne27 1 (.slice A11 p1.length c11)); replace BY := Lib.hid (blk_put (cs' := #[.slice A10 p0.length c10, .slice A11 p1.length c11]) BY.out 1 (.slice A11 p1.length c11) rfl); generalize hq_ : World.setCell _ _ _ = w5_; replace BG := Lib.hid (at_blk hq_ BG.out); replace BL := Lib.hid (at_bel hq_ BL.out); replace BE := Lib.hid (at_blk hq_ BE.out); replace R8 := Lib.hid (at_R hq_ R8.out); replace R9 := Lib.hid (at_R hq_ R9.out); replace BX := Lib.hid (at_blk hq_ BX.out); replace R10 := Lib.hid (at_R hq_ R10.out); replace R11 := Lib.hid (at_R hq_ R11.out); replace BY := Lib.hid (at_blk hq_ BY.out); clear hq_; replace BG := Lib.hid (blk_drew BG.out); replace BL := Lib.hid (below_drew1 BL.out); replace BE := Lib.hid (blk_drew BE.out); replace R8 := Lib.hid (Kd.R_drew R8.out); replace R9 := Lib.hid (Kd.R_drew R9.out); replace BX := Lib.hid (blk_drew BX.out); replace R10 := Lib.hid (Kd.R_drew R10.out); replace R11 := Lib.hid (Kd.R_drew R11.out); replace BY := Lib.hid (blk_drew BY.out)
 refine start_ (n := 15) (S := fun w' => w'.cell? ⟨g, 0, none⟩ = some (.slice A0 l0.length c0) ∧ w'.cell? ⟨g, 1, none⟩ = some (.slice A1 l1.length c1) ∧ w'.cell? ⟨g, 2, none⟩ = some (.slice A2 l2.length c2) ∧ w'.cell? ⟨g, 3, none⟩ = some (.slice A3 l3.length c3) ∧ w'.cell? ⟨g, 4, none⟩ = some (.slice A4 l4.length c4) ∧ w'.cell? ⟨g, 5, none⟩ = some (.slice A5 l5.length c5) ∧ w'.cell? ⟨h, 0, none⟩ = some (.slice A6 l6.length c6) ∧ w'.cell? ⟨h, 1, none⟩ = some (.slice A7 l7.length c7)) (ds := []) #[false, false, false, false, false, false, false, false, false, false, false, false, false, false, false] (by kernel_rfl) rfl rfl ⟨(blk_cell BG.out 0).trans rfl, (blk_cell BG.out 1).trans rfl, (blk_cell BG.out 2).trans rfl, (blk_cell BG.out 3).trans rfl, (blk_cell BG.out 4).trans rfl, (blk_cell BG.out 5).trans rfl, (cell2 BE.out).1, (cell2 BE.out).2⟩ (fun hHeld => ?_)
 refine pure_ (i := 0) (N := some 47) (v := ?_) (a' := ?_) #[true, false, false, false, false, false, false, false, false, false, false, false, false, false, false] rfl rfl (by kernel_rfl) (fun _ _ _ h => h) (Or.inl ⟨by rfl, ?_⟩) ?_ ?_
 rotate_left
 ·intro w'
  go_simp
  with_reducible rfl
 rotate_left
 ·simp only [Act.put, sI_, s0_, sS_, i64_w, i32_w]
  rfl
 refine take_ (i := 1) (N := some 48) (v := ?_) (a' := ?_) #[true, true, false, false, false, false, false, false, false, false, false, false, false, false, false] rfl rfl (by kernel_rfl) (fun _ _ _ h => h) (Or.inl ⟨by rfl, ?_⟩) hHeld ?_ ?_
 rotate_left
 ·rintro w' ⟨s0, s1, s2, s3, s4, s5, s6, s7⟩
  go_simp
  with_reducible rfl
 rotate_left
 ·simp only [Act.put, sI_, s0_, sS_, i64_w, i32_w]
  rfl
 refine pure_ (i := 2) (N := some 49) (v := ?_) (a' := ?_) #[true, true, true, false, false, false, false, false, false, false, false, false, false, false, false] rfl rfl (by kernel_rfl) (fun _ _ _ h => h) (Or.inl ⟨by rfl, ?_⟩) ?_ ?_
 rotate_left
 ·intro w'
  go_simp
  with_reducible rfl
 rotate_left
 ·simp only [Act.put, sI_, s0_, sS_, i64_w, i32_w]
  rfl
 refine take_ (i := 3) (N := some 50) (v := ?_) (a' := ?_) #[true, true, true, true, false, false, false, false, false, false, false, false, false, false, false] rfl rfl (by kernel_rfl) (fun _ _ _ h => h) (Or.inl ⟨by rfl, ?_⟩) hHeld ?_ ?_
 rotate_left
 ·rintro w' ⟨s0, s1, s2, s3, s4, s5, s6, s7⟩
  go_simp
  with_reducible rfl
 rotate_left
 ·simp only [Act.put, sI_, s0_, sS_, i64_w, i32_w]
  rfl
 refine pure_ (i := 4) (N := some 51) (v := ?_) (a' := ?_) #[true, true, true, true, true, false, false, false, false, false, false, false, false, false, false] rfl rfl (by kernel_rfl) (fun _ _ _ h => h) (Or.inl ⟨by rfl, ?_⟩) ?_ ?_
 rotate_left
 ·intro w'
  go_simp
  with_reducible rfl
 rotate_left
 ·simp only [Act.put, sI_, s0_, sS_, i64_w, i32_w]
  rfl
 refine take_ (i := 5) (N := some 52) (v := ?_) (a' := ?_) #[true, true, true, true, true, true, false, false, false, false, false, false, false, false, false] rfl rfl (by kernel_rfl) (fun _ _ _ h => h) (Or.inl ⟨by rfl, ?_⟩) hHeld ?_ ?_
 rotate_left
 ·rintro w' ⟨s0, s1, s2, s3, s4, s5, s6, s7⟩
  go_simp
  with_reducible rfl
 rotate_left
 ·simp only [Act.put, sI_, s0_, sS_, i64_w, i32_w]
  rfl
 refine take_ (i := 6) (N := some 53) (v := ?_) (a' := ?_) #[true, true, true, true, true, true, true, false, false, false, false, false, false, false, false] rfl rfl (by kernel_rfl) (fun _ _ _ h => h) (Or.inl ⟨by rfl, ?_⟩) hHeld ?_ ?_
 rotate_left
 ·rintro w' ⟨s0, s1, s2, s3, s4, s5, s6, s7⟩
  go_simp
  with_reducible rfl
 rotate_left
 ·simp only [Act.put, sI_, s0_, sS_, i64_w, i32_w]
  rfl
 refine join_ (σ := Option Addr × Nat × Option Addr × Nat × Option Addr × Nat × Option Addr × Nat × Nat) 2 #[true, true, true, true, true, true, true, true, true, true, true, true, true, false, false] (fun s_ => [(54, .agg #[.slice s_.1 l6.length s_.2.1, .slice s_.2.2.1 l7.length s_.2.2.2.1]), (55, .tuple #[.agg #[.slice s_.2.2.2.2.1 b0.length s_.2.2.2.2.2.1, .slice s_.2.2.2.2.2.2.1 b1.length s_.2.2.2.2.2.2.2.1], .int .i64 eb]), (46, .tuple #[.agg #[.slice s_.2.2.2.2.1 b0.length s_.2.2.2.2.2.1, .slice s_.2.2.2.2.2.2.1 b1.length s_.2.2.2.2.2.2.2.1], .int .i64 eb]), (56, .agg #[.slice s_.2.2.2.2.1 b0.length s_.2.2.2.2.2.1, .slice s_.2.2.2.2.2.2.1 b1.length s_.2.2.2.2.2.2.2.1]), (57, .int .i64 eb), (9, .pointer (some ⟨s_.2.2.2.2.2.2.2.2, 0, none⟩))]) (fun s_ w' => (w'.cell? ⟨g, 0, none⟩ = some (.slice A0 l0.length c0) ∧ w'.cell? ⟨g, 1, none⟩ = some (.slice A1 l1.length c1) ∧ w'.cell? ⟨g, 2, none⟩ = some (.slice A2 l2.length c2) ∧ w'.cell? ⟨g, 3, none⟩ = some (.slice A3 l3.length c3) ∧ w'.cell? ⟨g, 4, none⟩ = some (.slice A4 l4.length c4) ∧ w'.cell? ⟨g, 5, none⟩ = some (.slice A5 l5.length c5) ∧ w'.cell? ⟨h, 0, none⟩ = some (.slice A6 l6.length c6) ∧ w'.cell? ⟨h, 1, none⟩ = some (.slice A7 l7.length c7)) ∧ (y < s_.2.2.2.2.2.2.2.2) ∧ (w'.heap[g]? = some (.cells #[.slice A0 l0.length c0, .slice A1 l1.length c1, .slice A2 l2.length c2, .slice A3 l3.length c3, .slice A4 l4.length c4, .slice A5 l5.length c5] 63 (0, 0))) ∧ (Below w.heap.size w w') ∧ (w'.heap[h]? = some (.cells #[.slice A6 l6.length c6, .slice A7 l7.length c7] 27 (0, 0))) ∧ (Kd.R (Kd.int .i64) 3 w' 0 (fun _ => True) (.slice A8 p0.length c8) p0) ∧ (Kd.R (Kd.int .i64) 3 w' 0 (fun _ => True) (.slice A9 p1.length c9) p1) ∧ (w'.heap[x]? = some (.cells #[.slice A8 p0.length c8, .slice A9 p1.length c9] 27 (0, 0))) ∧ (Kd.R (Kd.int .i64) 3 w' 0 (fun _ => True) (.slice A10 p0.length c10) p0) ∧ (Kd.R (Kd.int .i64) 3 w' 0 (fun _ => True) (.slice A11 p1.length c11) p1) ∧ (w'.heap[y]? = some (.cells #[.slice A10 p0.length c10, .slice A11 p1.length c11] 27 (0, 0))) ∧ (RI w' s_.1 s_.2.1 l6) ∧ (RI w' s_.2.2.1 s_.2.2.2.1 l7) ∧ (RI w' s_.2.2.2.2.1 s_.2.2.2.2.2.1 b0) ∧ (RI w' s_.2.2.2.2.2.2.1 s_.2.2.2.2.2.2.2.1 b1) ∧ (Bk w' s_.2.2.2.2.2.2.2.2 27 nl nl)) ?_ ?_
 rotate_left
 ·intro J2_1
  refine join_ (σ := Option Addr × Nat × Option Addr × Nat × Option Addr × Nat × Option Addr × Nat) 3 #[true, true, true, true, true, true, true, true, true, true, true, true, false, false, false] (fun s_ => [(54, .agg #[.slice s_.1 l6.length s_.2.1, .slice s_.2.2.1 l7.length s_.2.2.2.1]), (55, .tuple #[.agg #[.slice s_.2.2.2.2.1 b0.length s_.2.2.2.2.2.1, .slice s_.2.2.2.2.2.2.1 b1.length s_.2.2.2.2.2.2.2], .int .i64 eb]), (46, .tuple #[.agg #[.slice s_.2.2.2.2.1 b0.length s_.2.2.2.2.2.1, .slice s_.2.2.2.2.2.2.1 b1.length s_.2.2.2.2.2.2.2], .int .i64 eb]), (56, .agg #[.slice s_.2.2.2.2.1 b0.length s_.2.2.2.2.2.1, .slice s_.2.2.2.2.2.2.1 b1.length s_.2.2.2.2.2.2.2]), (57, .int .i64 eb)]) (fun s_ w' => (w'.cell? ⟨g, 0, none⟩ = some (.slice A0 l0.length c0) ∧ w'.cell? ⟨g, 1, none⟩ = some (.slice A1 l1.length c1) ∧ w'.cell? ⟨g, 2, none⟩ = some (.slice A2 l2.length c2) ∧ w'.cell? ⟨g, 3, none⟩ = some (.slice A3 l3.length c3) ∧ w'.cell? ⟨g, 4, none⟩ = some (.slice A4 l4.length c4) ∧ w'.cell? ⟨g, 5, none⟩ = some (.slice A5 l5.length c5) ∧ w'.cell? ⟨h, 0, none⟩ = some (.slice A6 l6.length c6) ∧ w'.cell? ⟨h, 1, none⟩ = some (.slice A7 l7.length c7)) ∧ (w'.heap[g]? = some (.cells #[.slice A0 l0.length c0, .slice A1 l1.length c1, .slice A2 l2.length c2, .slice A3 l3.length c3, .slice A4 l4.length c4, .slice A5 l5.length c5] 63 (0, 0))) ∧ (Below w.heap.size w w') ∧ (w'.heap[h]? = some (.cells #[.slice A6 l6.length c6, .slice A7 l7.length c7] 27 (0, 0))) ∧ (Kd.R (Kd.int .i64) 3 w' 0 (fun _ => True) (.slice A8 p0.length c8) p0) ∧ (Kd.R (Kd.int .i64) 3 w' 0 (fun _ => True) (.slice A9 p1.length c9) p1) ∧ (w'.heap[x]? = some (.cells #[.slice A8 p0.length c8, .slice A9 p1.length c9] 27 (0, 0))) ∧ (Kd.R (Kd.int .i64) 3 w' 0 (fun _ => True) (.slice A10 p0.length c10) p0) ∧ (Kd.R (Kd.int .i64) 3 w' 0 (fun _ => True) (.slice A11 p1.length c11) p1) ∧ (w'.heap[y]? = some (.cells #[.slice A10 p0.length c10, .slice A11 p1.length c11] 27 (0, 0))) ∧ (RI w' s_.1 s_.2.1 l6) ∧ (RI w' s_.2.2.1 s_.2.2.2.1 l7) ∧ (RI w' s_.2.2.2.2.1 s_.2.2.2.2.2.1 b0) ∧ (RI w' s_.2.2.2.2.2.2.1 s_.2.2.2.2.2.2.2 b1)) ?_ ?_
  rotate_left
  ·intro J2_0
   refine join_ (σ := Option Addr × Nat × Option Addr × Nat × Nat) 6 #[true, true, true, true, true, true, true, true, false, false, false, false, true, false, false] (fun s_ => [(54, .agg #[.slice s_.1 l6.length s_.2.1, .slice s_.2.2.1 l7.length s_.2.2.2.1]), (9, .pointer (some ⟨s_.2.2.2.2, 0, none⟩))]) (fun s_ w' => (w'.cell? ⟨g, 0, none⟩ = some (.slice A0 l0.length c0) ∧ w'.cell? ⟨g, 1, none⟩ = some (.slice A1 l1.length c1) ∧ w'.cell? ⟨g, 2, none⟩ = some (.slice A2 l2.length c2) ∧ w'.cell? ⟨g, 3, none⟩ = some (.slice A3 l3.length c3) ∧ w'.cell? ⟨g, 4, none⟩ = some (.slice A4 l4.length c4) ∧ w'.cell? ⟨g, 5, none⟩ = some (.slice A5 l5.length c5) ∧ w'.cell? ⟨h, 0, none⟩ = some (.slice A6 l6.length c6) ∧ w'.cell? ⟨h, 1, none⟩ = some (.slice A7 l7.length c7)) ∧ (y < s_.2.2.2.2) ∧ (w'.heap[g]? = some (.cells #[.slice A0 l0.length c0, .slice A1 l1.length c1, .slice A2 l2.length c2, .slice A3 l3.length c3, .slice A4 l4.length c4, .slice A5 l5.length c5] 63 (0, 0))) ∧ (Below w.heap.size w w') ∧ (w'.heap[h]? = some (.cells #[.slice A6 l6.length c6, .slice A7 l7.length c7] 27 (0, 0))) ∧ (Kd.R (Kd.int .i64) 3 w' 0 (fun _ => True) (.slice A8 p0.length c8) p0) ∧ (Kd.R (Kd.int .i64) 3 w' 0 (fun _ => True) (.slice A9 p1.length c9) p1) ∧ (w'.heap[x]? = some (.cells #[.slice A8 p0.length c8, .slice A9 p1.length c9] 27 (0, 0))) ∧ (Kd.R (Kd.int .i64) 3 w' 0 (fun _ => True) (.slice A10 p0.length c10) p0) ∧ (Kd.R (Kd.int .i64) 3 w' 0 (fun _ => True) (.slice A11 p1.length c11) p1) ∧ (w'.heap[y]? = some (.cells #[.slice A10 p0.length c10, .slice A11 p1.length c11] 27 (0, 0))) ∧ (RI w' s_.1 s_.2.1 l6) ∧ (RI w' s_.2.2.1 s_.2.2.2.1 l7) ∧ (Bk w' s_.2.2.2.2 27 nl nl)) ?_ ?_
   rotate_left
   ·intro J1_1
    refine join_ (σ := Option Addr × Nat × Option Addr × Nat) 7 #[true, true, true, true, true, true, true, true, false, false, false, false, false, false, false] (fun s_ => [(54, .agg #[.slice s_.1 l6.length s_.2.1, .slice s_.2.2.1 l7.length s_.2.2.2])]) (fun s_ w' => (w'.cell? ⟨g, 0, none⟩ = some (.slice A0 l0.length c0) ∧ w'.cell? ⟨g, 1, none⟩ = some (.slice A1 l1.length c1) ∧ w'.cell? ⟨g, 2, none⟩ = some (.slice A2 l2.length c2) ∧ w'.cell? ⟨g, 3, none⟩ = some (.slice A3 l3.length c3) ∧ w'.cell? ⟨g, 4, none⟩ = some (.slice A4 l4.length c4) ∧ w'.cell? ⟨g, 5, none⟩ = some (.slice A5 l5.length c5) ∧ w'.cell? ⟨h, 0, none⟩ = some (.slice A6 l6.length c6) ∧ w'.cell? ⟨h, 1, none⟩ = some (.slice A7 l7.length c7)) ∧ (w'.heap[g]? = some (.cells #[.slice A0 l0.length c0, .slice A1 l1.length c1, .slice A2 l2.length c2, .slice A3 l3.length c3, .slice A4 l4.length c4, .slice A5 l5.length c5] 63 (0, 0))) ∧ (Below w.heap.size w w') ∧ (w'.heap[h]? = some (.cells #[.slice A6 l6.length c6, .slice A7 l7.length c7] 27 (0, 0))) ∧ (Kd.R (Kd.int .i64) 3 w' 0 (fun _ => True) (.slice A8 p0.length c8) p0) ∧ (Kd.R (Kd.int .i64) 3 w' 0 (fun _ => True) (.slice A9 p1.length c9) p1) ∧ (w'.heap[x]? = some (.cells #[.slice A8 p0.length c8, .slice A9 p1.length c9] 27 (0, 0))) ∧ (Kd.R (Kd.int .i64) 3 w' 0 (fun _ => True) (.slice A10 p0.length c10) p0) ∧ (Kd.R (Kd.int .i64) 3 w' 0 (fun _ => True) (.slice A11 p1.length c11) p1) ∧ (w'.heap[y]? = some (.cells #[.slice A10 p0.length c10, .slice A11 p1.length c11] 27 (0, 0))) ∧ (RI w' s_.1 s_.2.1 l6) ∧ (RI w' s_.2.2.1 s_.2.2.2 l7)) ?_ ?_
    rotate_left
    ·intro J1_0
     refine join_ (σ := Nat) 7 #[true, true, true, true, true, true, true, false, false, false, false, false, true, false, false] (fun s_ => [(9, .pointer (some ⟨s_, 0, none⟩))]) (fun s_ w' => (w'.cell? ⟨g, 0, none⟩ = some (.slice A0 l0.length c0) ∧ w'.cell? ⟨g, 1, none⟩ = some (.slice A1 l1.length c1) ∧ w'.cell? ⟨g, 2, none⟩ = some (.slice A2 l2.length c2) ∧ w'.cell? ⟨g, 3, none⟩ = some (.slice A3 l3.length c3) ∧ w'.cell? ⟨g, 4, none⟩ = some (.slice A4 l4.length c4) ∧ w'.cell? ⟨g, 5, none⟩ = some (.slice A5 l5.length c5) ∧ w'.cell? ⟨h, 0, none⟩ = some (.slice A6 l6.length c6) ∧ w'.cell? ⟨h, 1, none⟩ = some (.slice A7 l7.length c7)) ∧ (y < s_) ∧ (w'.heap[g]? = some (.cells #[.slice A0 l0.length c0, .slice A1 l1.length c1, .slice A2 l2.length c2, .slice A3 l3.length c3, .slice A4 l4.length c4, .slice A5 l5.length c5] 63 (0, 0))) ∧ (Below w.heap.size w w') ∧ (w'.heap[h]? = some (.cells #[.slice A6 l6.length c6, .slice A7 l7.length c7] 27 (0, 0))) ∧ (Kd.R (Kd.int .i64) 3 w' 0 (fun _ => True) (.slice A8 p0.length c8) p0) ∧ (Kd.R (Kd.int .i64) 3 w' 0 (fun _ => True) (.slice A9 p1.length c9) p1) ∧ (w'.heap[x]? = some (.cells #[.slice A8 p0.length c8, .slice A9 p1.length c9] 27 (0, 0))) ∧ (Kd.R (Kd.int .i64) 3 w' 0 (fun _ => True) (.slice A10 p0.length c10) p0) ∧ (Kd.R (Kd.int .i64) 3 w' 0 (fun _ => True) (.slice A11 p1.length c11) p1) ∧ (w'.heap[y]? = some (.cells #[.slice A10 p0.length c10, .slice A11 p1.length c11] 27 (0, 0))) ∧ (Bk w' s_ 27 nl nl)) ?_ ?_
     rotate_left
     ·intro J0_1
      refine two_ (i := 7) (j := 12) (Ni := some 54) (Nj := some 9) #[true, true, true, true, true, true, true, true, false, false, false, false, false, false, false] #[true, true, true, true, true, true, true, false, false, false, false, false, true, false, false] rfl rfl rfl rfl (by kernel_rfl) (by decide) (by decide) (fun K hK => ?_) (fun K hK => ?_)
      ·skip
       refine goes_ Try.func30 (by kernel_rfl) rfl #[.agg #[.slice A6 l6.length c6, .slice A7 l7.length c7]] (by rfl) rfl rfl (by (try simp only [List.map_toArray, List.map_cons, List.map_nil]); first | done | rfl) ?_
       with_reducible refine (scarfjointlaw07_own.calls A6 c6 l6 A7 c7 l7 l6 l7 _ (Kd.C_below R6.out BL.out) M6.out (Kd.C_below R7.out BL.out) M7.out hown).mono ?_
       rintro e w_ ⟨v0, v1, rfl, ho0, ho1, hb⟩
       refine ⟨_, rfl, ?_⟩
       obtain ⟨A12, c12, rfl⟩ := Kd.R_slice ho0; obtain ⟨A13, c13, rfl⟩ := Kd.R_slice ho1; replace BG := Lib.hid (blk_below BG.out hb); replace BL := Lib.hid (below_then BL.out BL.out.size hb); replace BE := Lib.hid (blk_below BE.out hb); replace R8 := Lib.hid (Kd.R_below R8.out hb); replace R9 := Lib.hid (Kd.R_below R9.out hb); replace BX := Lib.hid (blk_below BX.out hb); replace R10 := Lib.hid (Kd.R_below R10.out hb); replace R11 := Lib.hid (Kd.R_below R11.out hb); replace BY := Lib.hid (blk_below BY.out hb); have R12 := Lib.hid (toR ho0); have R13 := Lib.hid (toR ho1); clear ho0 ho1 hb
       refine hK.out _ _ ⟨(blk_cell BG.out 0).trans rfl, (blk_cell BG.out 1).trans rfl, (blk_cell BG.out 2).trans rfl, (blk_cell BG.out 3).trans rfl, (blk_cell BG.out 4).trans rfl, (blk_cell BG.out 5).trans rfl, (cell2 BE.out).1, (cell2 BE.out).2⟩ (fun hHeld => ?_)
       clear hK K
       refine norm_ (a' := ?_) ?_ ?_
       rotate_left
       ·show Act.put _ (some 54) _ = _
        simp only [Act.put, sI_, s0_, sS_, i64_w, i32_w]
        rfl
       exact norm_ (by first | (simp only [putAll, Act.put, sI_, s0_, sS_]; done) | (simp only [putAll, Act.put, sI_, s0_, sS_]; rfl)) (J1_0 (A12, c12, A13, c13) _ ⟨hHeld, BG.out, BL.out, BE.out, R8.out, R9.out, BX.out, R10.out, R11.out, BY.out, R12.out, R13.out⟩)
      ·skip
       refine box_step ?hg (N := 9) ?hd (cs := #[.slice none 0 0, .slice none 0 0]) (t := 27) ?hr ?_; (case hd => rfl); (case hg => rfl); (case hr => first | (go_simp; done) | (go_simp; rfl))
       intro z hg w_ hbox hb
       have Hz : y < z := by rw [hg]; exact blk_lt BY.out
       replace BG := Lib.hid (blk_below BG.out hb); replace BL := Lib.hid (below_then BL.out BL.out.size hb); replace BE := Lib.hid (blk_below BE.out hb); replace R8 := Lib.hid (Kd.R_below R8.out hb); replace R9 := Lib.hid (Kd.R_below R9.out hb); replace BX := Lib.hid (blk_below BX.out hb); replace R10 := Lib.hid (Kd.R_below R10.out hb); replace R11 := Lib.hid (Kd.R_below R11.out hb); replace BY := Lib.hid (blk_below BY.out hb); have BZ := Lib.hid hbox; clear hg hbox hb
       refine hK.out _ _ ⟨(blk_cell BG.out 0).trans rfl, (blk_cell BG.out 1).trans rfl, (blk_cell BG.out 2).trans rfl, (blk_cell BG.out 3).trans rfl, (blk_cell BG.out 4).trans rfl, (blk_cell BG.out 5).trans rfl, (cell2 BE.out).1, (cell2 BE.out).2⟩ (fun hHeld => ?_)
       clear hK K
       refine norm_ (a' := ?_) ?_ ?_
       rotate_left
       ·show Act.put _ (some 9) _ = _
        simp only [Act.put, sI_, s0_, sS_, i64_w, i32_w]
        rfl
       exact norm_ (by first | (simp only [putAll, Act.put, sI_, s0_, sS_]; done) | (simp only [putAll, Act.put, sI_, s0_, sS_]; rfl)) (J0_1 z _ ⟨hHeld, Hz, BG.out, BL.out, BE.out, R8.out, R9.out, BX.out, R10.out, R11.out, BY.out, BZ.out⟩)
     rintro z w_ ⟨hHeld, Hz, qBG, qBL, qBE, qR8, qR9, qBX, qR10, qR11, qBY, qBZ⟩; replace Hz : y < z := Hz
     replace BG : Hid (w_.heap[g]? = some (.cells #[.slice A0 l0.length c0, .slice A1 l1.length c1, .slice A2 l2.length c2, .slice A3 l3.length c3, .slice A4 l4.length c4, .slice A5 l5.length c5] 63 (0, 0))) := Lib.hid qBG; clear qBG
     replace BL : Hid (Below w.heap.size w w_) := Lib.hid qBL; clear qBL
     replace BE : Hid (w_.heap[h]? = some (.cells #[.slice A6 l6.length c6, .slice A7 l7.length c7] 27 (0, 0))) := Lib.hid qBE; clear qBE
     replace R8 : Hid (Kd.R (Kd.int .i64) 3 w_ 0 (fun _ => True) (.slice A8 p0.length c8) p0) := Lib.hid qR8; clear qR8
     replace R9 : Hid (Kd.R (Kd.int .i64) 3 w_ 0 (fun _ => True) (.slice A9 p1.length c9) p1) := Lib.hid qR9; clear qR9
     replace BX : Hid (w_.heap[x]? = some (.cells #[.slice A8 p0.length c8, .slice A9 p1.length c9] 27 (0, 0))) := Lib.hid qBX; clear qBX
     replace R10 : Hid (Kd.R (Kd.int .i64) 3 w_ 0 (fun _ => True) (.slice A10 p0.length c10) p0) := Lib.hid qR10; clear qR10
     replace R11 : Hid (Kd.R (Kd.int .i64) 3 w_ 0 (fun _ => True) (.slice A11 p1.length c11) p1) := Lib.hid qR11; clear qR11
     replace BY : Hid (w_.heap[y]? = some (.cells #[.slice A10 p0.length c10, .slice A11 p1.length c11] 27 (0, 0))) := Lib.hid qBY; clear qBY
     have BZ : Hid (Bk w_ z 27 nl nl) := Lib.hid qBZ; clear qBZ
     refine norm_ (a' := ?_) ?_ ?_
     rotate_left
     ·simp only [putAll, Act.put, sI_, s0_, sS_]
      rfl
     refine one_ (i := 7) (N := some 54) #[true, true, true, true, true, true, true, true, false, false, false, false, true, false, false] rfl rfl (by kernel_rfl) (by decide) (fun K hK => ?_)
     refine goes_ Try.func30 (by kernel_rfl) rfl #[.agg #[.slice A6 l6.length c6, .slice A7 l7.length c7]] (by rfl) rfl rfl (by (try simp only [List.map_toArray, List.map_cons, List.map_nil]); first | done | rfl) ?_
     with_reducible refine (scarfjointlaw07_own.calls A6 c6 l6 A7 c7 l7 l6 l7 _ (Kd.C_below R6.out BL.out) M6.out (Kd.C_below R7.out BL.out) M7.out hown).mono ?_
     rintro e w_ ⟨v0, v1, rfl, ho0, ho1, hb⟩
     refine ⟨_, rfl, ?_⟩
     obtain ⟨A12, c12, rfl⟩ := Kd.R_slice ho0; obtain ⟨A13, c13, rfl⟩ := Kd.R_slice ho1; replace BG := Lib.hid (blk_below BG.out hb); replace BL := Lib.hid (below_then BL.out BL.out.size hb); replace BE := Lib.hid (blk_below BE.out hb); replace R8 := Lib.hid (Kd.R_below R8.out hb); replace R9 := Lib.hid (Kd.R_below R9.out hb); replace BX := Lib.hid (blk_below BX.out hb); replace R10 := Lib.hid (Kd.R_below R10.out hb); replace R11 := Lib.hid (Kd.R_below R11.out hb); replace BY := Lib.hid (blk_below BY.out hb); replace BZ := Lib.hid (blk_below BZ.out hb); have R12 := Lib.hid (toR ho0); have R13 := Lib.hid (toR ho1); clear ho0 ho1 hb
     refine hK.out _ _ ⟨(blk_cell BG.out 0).trans rfl, (blk_cell BG.out 1).trans rfl, (blk_cell BG.out 2).trans rfl, (blk_cell BG.out 3).trans rfl, (blk_cell BG.out 4).trans rfl, (blk_cell BG.out 5).trans rfl, (cell2 BE.out).1, (cell2 BE.out).2⟩ (fun hHeld => ?_)
     clear hK K
     refine norm_ (a' := ?_) ?_ ?_
     rotate_left
     ·show Act.put _ (some 54) _ = _
      simp only [Act.put, sI_, s0_, sS_, i64_w, i32_w]
      rfl
     exact norm_ (by first | (simp only [putAll, Act.put, sI_, s0_, sS_]; done) | (simp only [putAll, Act.put, sI_, s0_, sS_]; rfl)) (J1_1 (A12, c12, A13, c13, z) _ ⟨hHeld, Hz, BG.out, BL.out, BE.out, R8.out, R9.out, BX.out, R10.out, R11.out, BY.out, R12.out, R13.out, BZ.out⟩)
    rintro ⟨A12, c12, A13, c13⟩ w_ ⟨hHeld, qBG, qBL, qBE, qR8, qR9, qBX, qR10, qR11, qBY, qR12, qR13⟩
    replace BG : Hid (w_.heap[g]? = some (.cells #[.slice A0 l0.length c0, .slice A1 l1.length c1, .slice A2 l2.length c2, .slice A3 l3.length c3, .slice A4 l4.length c4, .slice A5 l5.length c5] 63 (0, 0))) := Lib.hid qBG; clear qBG
    replace BL : Hid (Below w.heap.size w w_) := Lib.hid qBL; clear qBL
    replace BE : Hid (w_.heap[h]? = some (.cells #[.slice A6 l6.length c6, .slice A7 l7.length c7] 27 (0, 0))) := Lib.hid qBE; clear qBE
    replace R8 : Hid (Kd.R (Kd.int .i64) 3 w_ 0 (fun _ => True) (.slice A8 p0.length c8) p0) := Lib.hid qR8; clear qR8
    replace R9 : Hid (Kd.R (Kd.int .i64) 3 w_ 0 (fun _ => True) (.slice A9 p1.length c9) p1) := Lib.hid qR9; clear qR9
    replace BX : Hid (w_.heap[x]? = some (.cells #[.slice A8 p0.length c8, .slice A9 p1.length c9] 27 (0, 0))) := Lib.hid qBX; clear qBX
    replace R10 : Hid (Kd.R (Kd.int .i64) 3 w_ 0 (fun _ => True) (.slice A10 p0.length c10) p0) := Lib.hid qR10; clear qR10
    replace R11 : Hid (Kd.R (Kd.int .i64) 3 w_ 0 (fun _ => True) (.slice A11 p1.length c11) p1) := Lib.hid qR11; clear qR11
    replace BY : Hid (w_.heap[y]? = some (.cells #[.slice A10 p0.length c10, .slice A11 p1.length c11] 27 (0, 0))) := Lib.hid qBY; clear qBY
    have R12 : Hid (RI w_ A12 c12 l6) := Lib.hid qR12; clear qR12
    have R13 : Hid (RI w_ A13 c13 l7) := Lib.hid qR13; clear qR13
    refine norm_ (a' := ?_) ?_ ?_
    rotate_left
    ·simp only [putAll, Act.put, sI_, s0_, sS_]
     rfl
    refine two_ (i := 8) (j := 12) (Ni := some 55) (Nj := some 9) #[true, true, true, true, true, true, true, true, true, false, false, false, false, false, false] #[true, true, true, true, true, true, true, true, false, false, false, false, true, false, false] rfl rfl rfl rfl (by kernel_rfl) (by decide) (by decide) (fun K hK => ?_) (fun K hK => ?_)
    ·skip
     refine goes_ Try.func45 (by kernel_rfl) rfl #[.agg #[.slice A0 l0.length c0, .slice A1 l1.length c1], .agg #[.slice A2 l2.length c2, .slice A3 l3.length c3], .agg #[.slice A4 l4.length c4, .slice A5 l5.length c5], .agg #[.slice A12 l6.length c12, .slice A13 l7.length c13]] (by rfl) rfl rfl (by (try simp only [List.map_toArray, List.map_cons, List.map_nil]); first | done | rfl) ?_
     with_reducible refine (subgraph_Preimage.calls k A0 c0 l0 A1 c1 l1 A2 c2 l2 A3 c3 l3 A4 c4 l4 A5 c5 l5 A12 c12 l6 A13 c13 l7 b0 b1 eb _ (Kd.C_below R0.out BL.out) M0.out (Kd.C_below R1.out BL.out) M1.out (Kd.C_below R2.out BL.out) M2.out (Kd.C_below R3.out BL.out) M3.out (Kd.C_below R4.out BL.out) M4.out (Kd.C_below R5.out BL.out) M5.out (Kd.R_reads' R12.out).2.2 (Kd.R_reads' R12.out).2.1 (Kd.R_reads' R13.out).2.2 (Kd.R_reads' R13.out).2.1 h3).mono ?_
     rintro e w_ ⟨v0, v1, rfl, ho0, ho1, hb⟩
     refine ⟨_, rfl, ?_⟩
     obtain ⟨A14, c14, rfl⟩ := Kd.R_slice ho0; obtain ⟨A15, c15, rfl⟩ := Kd.R_slice ho1; replace BG := Lib.hid (blk_below BG.out hb); replace BL := Lib.hid (below_then BL.out BL.out.size hb); replace BE := Lib.hid (blk_below BE.out hb); replace R8 := Lib.hid (Kd.R_below R8.out hb); replace R9 := Lib.hid (Kd.R_below R9.out hb); replace BX := Lib.hid (blk_below BX.out hb); replace R10 := Lib.hid (Kd.R_below R10.out hb); replace R11 := Lib.hid (Kd.R_below R11.out hb); replace BY := Lib.hid (blk_below BY.out hb); replace R12 := Lib.hid (Kd.R_below R12.out hb); replace R13 := Lib.hid (Kd.R_below R13.out hb); have R14 := Lib.hid (toR ho0); have R15 := Lib.hid (toR ho1); clear ho0 ho1 hb
     refine hK.out _ _ ⟨(blk_cell BG.out 0).trans rfl, (blk_cell BG.out 1).trans rfl, (blk_cell BG.out 2).trans rfl, (blk_cell BG.out 3).trans rfl, (blk_cell BG.out 4).trans rfl, (blk_cell BG.out 5).trans rfl, (cell2 BE.out).1, (cell2 BE.out).2⟩ (fun hHeld => ?_)
     clear hK K
     refine norm_ (a' := ?_) ?_ ?_
     rotate_left
     ·show Act.put _ (some 55) _ = _
      simp only [Act.put, sI_, s0_, sS_, i64_w, i32_w]
      rfl
     refine pure_ (i := 9) (N := some 46) (v := ?_) (a' := ?_) #[true, true, true, true, true, true, true, true, true, true, false, false, false, false, false] rfl rfl (by kernel_rfl) (fun _ _ _ h => h) (Or.inl ⟨by rfl, ?_⟩) ?_ ?_
     rotate_left
     ·intro w'
      go_simp
      with_reducible rfl
     rotate_left
     ·simp only [Act.put, sI_, s0_, sS_, i64_w, i32_w]
      rfl
     refine pure_ (i := 10) (N := some 56) (v := ?_) (a' := ?_) #[true, true, true, true, true, true, true, true, true, true, true, false, false, false, false] rfl rfl (by kernel_rfl) (fun _ _ _ h => h) (Or.inl ⟨by rfl, ?_⟩) ?_ ?_
     rotate_left
     ·intro w'
      go_simp
      with_reducible rfl
     rotate_left
     ·simp only [Act.put, sI_, s0_, sS_, i64_w, i32_w]
      rfl
     refine pure_ (i := 11) (N := some 57) (v := ?_) (a' := ?_) #[true, true, true, true, true, true, true, true, true, true, true, true, false, false, false] rfl rfl (by kernel_rfl) (fun _ _ _ h => h) (Or.inl ⟨by rfl, ?_⟩) ?_ ?_
     rotate_left
     ·intro w'
      go_simp
      with_reducible rfl
     rotate_left
     ·simp only [Act.put, sI_, s0_, sS_, i64_w, i32_w]
      rfl
     exact norm_ (by first | (simp only [putAll, Act.put, sI_, s0_, sS_]; done) | (simp only [putAll, Act.put, sI_, s0_, sS_]; rfl)) (J2_0 (A12, c12, A13, c13, A14, c14, A15, c15) _ ⟨hHeld, BG.out, BL.out, BE.out, R8.out, R9.out, BX.out, R10.out, R11.out, BY.out, R12.out, R13.out, R14.out, R15.out⟩)
    ·skip
     refine box_step ?hg (N := 9) ?hd (cs := #[.slice none 0 0, .slice none 0 0]) (t := 27) ?hr ?_; (case hd => rfl); (case hg => rfl); (case hr => first | (go_simp; done) | (go_simp; rfl))
     intro z hg w_ hbox hb
     have Hz : y < z := by rw [hg]; exact blk_lt BY.out
     replace BG := Lib.hid (blk_below BG.out hb); replace BL := Lib.hid (below_then BL.out BL.out.size hb); replace BE := Lib.hid (blk_below BE.out hb); replace R8 := Lib.hid (Kd.R_below R8.out hb); replace R9 := Lib.hid (Kd.R_below R9.out hb); replace BX := Lib.hid (blk_below BX.out hb); replace R10 := Lib.hid (Kd.R_below R10.out hb); replace R11 := Lib.hid (Kd.R_below R11.out hb); replace BY := Lib.hid (blk_below BY.out hb); replace R12 := Lib.hid (Kd.R_below R12.out hb); replace R13 := Lib.hid (Kd.R_below R13.out hb); have BZ := Lib.hid hbox; clear hg hbox hb
     refine hK.out _ _ ⟨(blk_cell BG.out 0).trans rfl, (blk_cell BG.out 1).trans rfl, (blk_cell BG.out 2).trans rfl, (blk_cell BG.out 3).trans rfl, (blk_cell BG.out 4).trans rfl, (blk_cell BG.out 5).trans rfl, (cell2 BE.out).1, (cell2 BE.out).2⟩ (fun hHeld => ?_)
     clear hK K
     refine norm_ (a' := ?_) ?_ ?_
     rotate_left
     ·show Act.put _ (some 9) _ = _
      simp only [Act.put, sI_, s0_, sS_, i64_w, i32_w]
      rfl
     exact norm_ (by first | (simp only [putAll, Act.put, sI_, s0_, sS_]; done) | (simp only [putAll, Act.put, sI_, s0_, sS_]; rfl)) (J1_1 (A12, c12, A13, c13, z) _ ⟨hHeld, Hz, BG.out, BL.out, BE.out, R8.out, R9.out, BX.out, R10.out, R11.out, BY.out, R12.out, R13.out, BZ.out⟩)
   rintro ⟨A12, c12, A13, c13, z⟩ w_ ⟨hHeld, Hz, qBG, qBL, qBE, qR8, qR9, qBX, qR10, qR11, qBY, qR12, qR13, qBZ⟩; replace Hz : y < z := Hz
   replace BG : Hid (w_.heap[g]? = some (.cells #[.slice A0 l0.length c0, .slice A1 l1.length c1, .slice A2 l2.length c2, .slice A3 l3.length c3, .slice A4 l4.length c4, .slice A5 l5.length c5] 63 (0, 0))) := Lib.hid qBG; clear qBG
   replace BL : Hid (Below w.heap.size w w_) := Lib.hid qBL; clear qBL
   replace BE : Hid (w_.heap[h]? = some (.cells #[.slice A6 l6.length c6, .slice A7 l7.length c7] 27 (0, 0))) := Lib.hid qBE; clear qBE
   replace R8 : Hid (Kd.R (Kd.int .i64) 3 w_ 0 (fun _ => True) (.slice A8 p0.length c8) p0) := Lib.hid qR8; clear qR8
   replace R9 : Hid (Kd.R (Kd.int .i64) 3 w_ 0 (fun _ => True) (.slice A9 p1.length c9) p1) := Lib.hid qR9; clear qR9
   replace BX : Hid (w_.heap[x]? = some (.cells #[.slice A8 p0.length c8, .slice A9 p1.length c9] 27 (0, 0))) := Lib.hid qBX; clear qBX
   replace R10 : Hid (Kd.R (Kd.int .i64) 3 w_ 0 (fun _ => True) (.slice A10 p0.length c10) p0) := Lib.hid qR10; clear qR10
   replace R11 : Hid (Kd.R (Kd.int .i64) 3 w_ 0 (fun _ => True) (.slice A11 p1.length c11) p1) := Lib.hid qR11; clear qR11
   replace BY : Hid (w_.heap[y]? = some (.cells #[.slice A10 p0.length c10, .slice A11 p1.length c11] 27 (0, 0))) := Lib.hid qBY; clear qBY
   have R12 : Hid (RI w_ A12 c12 l6) := Lib.hid qR12; clear qR12
   have R13 : Hid (RI w_ A13 c13 l7) := Lib.hid qR13; clear qR13
   have BZ : Hid (Bk w_ z 27 nl nl) := Lib.hid qBZ; clear qBZ
   refine norm_ (a' := ?_) ?_ ?_
   rotate_left
   ·simp only [putAll, Act.put, sI_, s0_, sS_]
    rfl
   refine one_ (i := 8) (N := some 55) #[true, true, true, true, true, true, true, true, true, false, false, false, true, false, false] rfl rfl (by kernel_rfl) (by decide) (fun K hK => ?_)
   refine goes_ Try.func45 (by kernel_rfl) rfl #[.agg #[.slice A0 l0.length c0, .slice A1 l1.length c1], .agg #[.slice A2 l2.length c2, .slice A3 l3.length c3], .agg #[.slice A4 l4.length c4, .slice A5 l5.length c5], .agg #[.slice A12 l6.length c12, .slice A13 l7.length c13]] (by rfl) rfl rfl (by (try simp only [List.map_toArray, List.map_cons, List.map_nil]); first | done | rfl) ?_
   with_reducible refine (subgraph_Preimage.calls k A0 c0 l0 A1 c1 l1 A2 c2 l2 A3 c3 l3 A4 c4 l4 A5 c5 l5 A12 c12 l6 A13 c13 l7 b0 b1 eb _ (Kd.C_below R0.out BL.out) M0.out (Kd.C_below R1.out BL.out) M1.out (Kd.C_below R2.out BL.out) M2.out (Kd.C_below R3.out BL.out) M3.out (Kd.C_below R4.out BL.out) M4.out (Kd.C_below R5.out BL.out) M5.out (Kd.R_reads' R12.out).2.2 (Kd.R_reads' R12.out).2.1 (Kd.R_reads' R13.out).2.2 (Kd.R_reads' R13.out).2.1 h3).mono ?_
   rintro e w_ ⟨v0, v1, rfl, ho0, ho1, hb⟩
   refine ⟨_, rfl, ?_⟩
   obtain ⟨A14, c14, rfl⟩ := Kd.R_slice ho0; obtain ⟨A15, c15, rfl⟩ := Kd.R_slice ho1; replace BG := Lib.hid (blk_below BG.out hb); replace BL := Lib.hid (below_then BL.out BL.out.size hb); replace BE := Lib.hid (blk_below BE.out hb); replace R8 := Lib.hid (Kd.R_below R8.out hb); replace R9 := Lib.hid (Kd.R_below R9.out hb); replace BX := Lib.hid (blk_below BX.out hb); replace R10 := Lib.hid (Kd.R_below R10.out hb); replace R11 := Lib.hid (Kd.R_below R11.out hb); replace BY := Lib.hid (blk_below BY.out hb); replace R12 := Lib.hid (Kd.R_below R12.out hb); replace R13 := Lib.hid (Kd.R_below R13.out hb); replace BZ := Lib.hid (blk_below BZ.out hb); have R14 := Lib.hid (toR ho0); have R15 := Lib.hid (toR ho1); clear ho0 ho1 hb
   refine hK.out _ _ ⟨(blk_cell BG.out 0).trans rfl, (blk_cell BG.out 1).trans rfl, (blk_cell BG.out 2).trans rfl, (blk_cell BG.out 3).trans rfl, (blk_cell BG.out 4).trans rfl, (blk_cell BG.out 5).trans rfl, (cell2 BE.out).1, (cell2 BE.out).2⟩ (fun hHeld => ?_)
   clear hK K
   refine norm_ (a' := ?_) ?_ ?_
   rotate_left
   ·show Act.put _ (some 55) _ = _
    simp only [Act.put, sI_, s0_, sS_, i64_w, i32_w]
    rfl
   refine pure_ (i := 9) (N := some 46) (v := ?_) (a' := ?_) #[true, true, true, true, true, true, true, true, true, true, false, false, true, false, false] rfl rfl (by kernel_rfl) (fun _ _ _ h => h) (Or.inl ⟨by rfl, ?_⟩) ?_ ?_
   rotate_left
   ·intro w'
    go_simp
    with_reducible rfl
   rotate_left
   ·simp only [Act.put, sI_, s0_, sS_, i64_w, i32_w]
    rfl
   refine pure_ (i := 10) (N := some 56) (v := ?_) (a' := ?_) #[true, true, true, true, true, true, true, true, true, true, true, false, true, false, false] rfl rfl (by kernel_rfl) (fun _ _ _ h => h) (Or.inl ⟨by rfl, ?_⟩) ?_ ?_
   rotate_left
   ·intro w'
    go_simp
    with_reducible rfl
   rotate_left
   ·simp only [Act.put, sI_, s0_, sS_, i64_w, i32_w]
    rfl
   refine pure_ (i := 11) (N := some 57) (v := ?_) (a' := ?_) #[true, true, true, true, true, true, true, true, true, true, true, true, true, false, false] rfl rfl (by kernel_rfl) (fun _ _ _ h => h) (Or.inl ⟨by rfl, ?_⟩) ?_ ?_
   rotate_left
   ·intro w'
    go_simp
    with_reducible rfl
   rotate_left
   ·simp only [Act.put, sI_, s0_, sS_, i64_w, i32_w]
    rfl
   exact norm_ (by first | (simp only [putAll, Act.put, sI_, s0_, sS_]; done) | (simp only [putAll, Act.put, sI_, s0_, sS_]; rfl)) (J2_1 (A12, c12, A13, c13, A14, c14, A15, c15, z) _ ⟨hHeld, Hz, BG.out, BL.out, BE.out, R8.out, R9.out, BX.out, R10.out, R11.out, BY.out, R12.out, R13.out, R14.out, R15.out, BZ.out⟩)
  rintro ⟨A12, c12, A13, c13, A14, c14, A15, c15⟩ w_ ⟨hHeld, qBG, qBL, qBE, qR8, qR9, qBX, qR10, qR11, qBY, qR12, qR13, qR14, qR15⟩
  replace BG : Hid (w_.heap[g]? = some (.cells #[.slice A0 l0.length c0, .slice A1 l1.length c1, .slice A2 l2.length c2, .slice A3 l3.length c3, .slice A4 l4.length c4, .slice A5 l5.length c5] 63 (0, 0))) := Lib.hid qBG; clear qBG
  replace BL : Hid (Below w.heap.size w w_) := Lib.hid qBL; clear qBL
  replace BE : Hid (w_.heap[h]? = some (.cells #[.slice A6 l6.length c6, .slice A7 l7.length c7] 27 (0, 0))) := Lib.hid qBE; clear qBE
  replace R8 : Hid (Kd.R (Kd.int .i64) 3 w_ 0 (fun _ => True) (.slice A8 p0.length c8) p0) := Lib.hid qR8; clear qR8
  replace R9 : Hid (Kd.R (Kd.int .i64) 3 w_ 0 (fun _ => True) (.slice A9 p1.length c9) p1) := Lib.hid qR9; clear qR9
  replace BX : Hid (w_.heap[x]? = some (.cells #[.slice A8 p0.length c8, .slice A9 p1.length c9] 27 (0, 0))) := Lib.hid qBX; clear qBX
  replace R10 : Hid (Kd.R (Kd.int .i64) 3 w_ 0 (fun _ => True) (.slice A10 p0.length c10) p0) := Lib.hid qR10; clear qR10
  replace R11 : Hid (Kd.R (Kd.int .i64) 3 w_ 0 (fun _ => True) (.slice A11 p1.length c11) p1) := Lib.hid qR11; clear qR11
  replace BY : Hid (w_.heap[y]? = some (.cells #[.slice A10 p0.length c10, .slice A11 p1.length c11] 27 (0, 0))) := Lib.hid qBY; clear qBY
  have R12 : Hid (RI w_ A12 c12 l6) := Lib.hid qR12; clear qR12
  have R13 : Hid (RI w_ A13 c13 l7) := Lib.hid qR13; clear qR13
  have R14 : Hid (RI w_ A14 c14 b0) := Lib.hid qR14; clear qR14
  have R15 : Hid (RI w_ A15 c15 b1) := Lib.hid qR15; clear qR15
  refine norm_ (a' := ?_) ?_ ?_
  rotate_left
  ·simp only [putAll, Act.put, sI_, s0_, sS_]
   rfl
  refine one_ (i := 12) (N := some 9) #[true, true, true, true, true, true, true, true, true, true, true, true, true, false, false] rfl rfl (by kernel_rfl) (by decide) (fun K hK => ?_)
  refine box_step ?hg (N := 9) ?hd (cs := #[.slice none 0 0, .slice none 0 0]) (t := 27) ?hr ?_; (case hd => rfl); (case hg => rfl); (case hr => first | (go_simp; done) | (go_simp; rfl))
  intro z hg w_ hbox hb
  have Hz : y < z := by rw [hg]; exact blk_lt BY.out
  replace BG := Lib.hid (blk_below BG.out hb); replace BL := Lib.hid (below_then BL.out BL.out.size hb); replace BE := Lib.hid (blk_below BE.out hb); replace R8 := Lib.hid (Kd.R_below R8.out hb); replace R9 := Lib.hid (Kd.R_below R9.out hb); replace BX := Lib.hid (blk_below BX.out hb); replace R10 := Lib.hid (Kd.R_below R10.out hb); replace R11 := Lib.hid (Kd.R_below R11.out hb); replace BY := Lib.hid (blk_below BY.out hb); replace R12 := Lib.hid (Kd.R_below R12.out hb); replace R13 := Lib.hid (Kd.R_below R13.out hb); replace R14 := Lib.hid (Kd.R_below R14.out hb); replace R15 := Lib.hid (Kd.R_below R15.out hb); have BZ := Lib.hid hbox; clear hg hbox hb
  refine hK.out _ _ ⟨(blk_cell BG.out 0).trans rfl, (blk_cell BG.out 1).trans rfl, (blk_cell BG.out 2).trans rfl, (blk_cell BG.out 3).trans rfl, (blk_cell BG.out 4).trans rfl, (blk_cell BG.out 5).trans rfl, (cell2 BE.out).1, (cell2 BE.out).2⟩ (fun hHeld => ?_)
  clear hK K
  refine norm_ (a' := ?_) ?_ ?_
  rotate_left
  ·show Act.put _ (some 9) _ = _
   simp only [Act.put, sI_, s0_, sS_, i64_w, i32_w]
   rfl
  exact norm_ (by first | (simp only [putAll, Act.put, sI_, s0_, sS_]; done) | (simp only [putAll, Act.put, sI_, s0_, sS_]; rfl)) (J2_1 (A12, c12, A13, c13, A14, c14, A15, c15, z) _ ⟨hHeld, Hz, BG.out, BL.out, BE.out, R8.out, R9.out, BX.out, R10.out, R11.out, BY.out, R12.out, R13.out, R14.out, R15.out, BZ.out⟩)
 rintro ⟨A12, c12, A13, c13, A14, c14, A15, c15, z⟩ w_ ⟨hHeld, Hz, qBG, qBL, qBE, qR8, qR9, qBX, qR10, qR11, qBY, qR12, qR13, qR14, qR15, qBZ⟩; replace Hz : y < z := Hz
 replace BG : Hid (w_.heap[g]? = some (.cells #[.slice A0 l0.length c0, .slice A1 l1.length c1, .slice A2 l2.length c2, .slice A3 l3.length c3, .slice A4 l4.length c4, .slice A5 l5.length c5] 63 (0, 0))) := Lib.hid qBG; clear qBG
 replace BL : Hid (Below w.heap.size w w_) := Lib.hid qBL; clear qBL
 replace BE : Hid (w_.heap[h]? = some (.cells #[.slice A6 l6.length c6, .slice A7 l7.length c7] 27 (0, 0))) := Lib.hid qBE; clear qBE
 replace R8 : Hid (Kd.R (Kd.int .i64) 3 w_ 0 (fun _ => True) (.slice A8 p0.length c8) p0) := Lib.hid qR8; clear qR8
 replace R9 : Hid (Kd.R (Kd.int .i64) 3 w_ 0 (fun _ => True) (.slice A9 p1.length c9) p1) := Lib.hid qR9; clear qR9
 replace BX : Hid (w_.heap[x]? = some (.cells #[.slice A8 p0.length c8, .slice A9 p1.length c9] 27 (0, 0))) := Lib.hid qBX; clear qBX
 replace R10 : Hid (Kd.R (Kd.int .i64) 3 w_ 0 (fun _ => True) (.slice A10 p0.length c10) p0) := Lib.hid qR10; clear qR10
 replace R11 : Hid (Kd.R (Kd.int .i64) 3 w_ 0 (fun _ => True) (.slice A11 p1.length c11) p1) := Lib.hid qR11; clear qR11
 replace BY : Hid (w_.heap[y]? = some (.cells #[.slice A10 p0.length c10, .slice A11 p1.length c11] 27 (0, 0))) := Lib.hid qBY; clear qBY
 have R12 : Hid (RI w_ A12 c12 l6) := Lib.hid qR12; clear qR12
 have R13 : Hid (RI w_ A13 c13 l7) := Lib.hid qR13; clear qR13
 have R14 : Hid (RI w_ A14 c14 b0) := Lib.hid qR14; clear qR14
 have R15 : Hid (RI w_ A15 c15 b1) := Lib.hid qR15; clear qR15
 have BZ : Hid (Bk w_ z 27 nl nl) := Lib.hid qBZ; clear qBZ
 refine norm_ (a' := ?_) ?_ ?_
 rotate_left
 ·simp only [putAll, Act.put, sI_, s0_, sS_]
  rfl
 refine one_ (i := 13) (N := none) #[true, true, true, true, true, true, true, true, true, true, true, true, true, true, false] rfl rfl (by kernel_rfl) (by decide) (fun K hK => ?_)
 obtain ⟨y0_, y1_⟩ := cell2 BZ.out; have f0_ := blk_frozen BZ.out 0; have f1_ := blk_frozen BZ.out 1
 refine skip_ (w1 := ?_) (by rfl) rfl ?_ ?_
 rotate_left
 ·go_simp
  rfl
 clear y0_ y1_ f0_ f1_; replace BG := Lib.hid (blk_far BG.out (p := ⟨z, 0, none⟩) (by show g ≠ z; omega) (.slice A14 b0.length c14)); replace BL := Lib.hid (below_set (g := z) (j := 0) (v := .slice A14 b0.length c14) BL.out (by omega)); replace BE := Lib.hid (blk_far BE.out (p := ⟨z, 0, none⟩) (by show h ≠ z; omega) (.slice A14 b0.length c14)); replace R8 := Lib.hid (Kd.R_set R8.out BZ.out int_ne27 0 (.slice A14 b0.length c14)); replace R9 := Lib.hid (Kd.R_set R9.out BZ.out int_ne27 0 (.slice A14 b0.length c14)); replace BX := Lib.hid (blk_far BX.out (p := ⟨z, 0, none⟩) (by show x ≠ z; omega) (.slice A14 b0.length c14)); replace R10 := Lib.hid (Kd.R_set R10.out BZ.out int_ne27 0 (.slice A14 b0.length c14)); replace R11 := Lib.hid (Kd.R_set R11.out BZ.out int_ne27 0 (.slice A14 b0.length c14)); replace BY := Lib.hid (blk_far BY.out (p := ⟨z, 0, none⟩) (by show y ≠ z; omega) (.slice A14 b0.length c14)); replace R12 := Lib.hid (Kd.R_set R12.out BZ.out int_ne27 0 (.slice A14 b0.length c14)); replace R13 := Lib.hid (Kd.R_set R13.out BZ.out int_ne27 0 (.slice A14 b0.length c14)); replace R14 := Lib.hid (Kd.R_set R14.out BZ.out int_ne27 0 (.slice A14 b0.length c14)); replace R15 := Lib.hid (Kd.R_set R15.out BZ.out int_ne27 0 (.slice A14 b0.length c14)); replace BZ := Lib.hid (blk_put (cs' := #[.slice A14 b0.length c14, .slice none 0 0]) BZ.out 0 (.slice A14 b0.length c14) rfl); replace BG := Lib.hid (blk_far BG.out (p := ⟨z, 1, none⟩) (by show g ≠ z; omega) (.slice A15 b1.length c15)); replace BL := Lib.hid (below_set (g := z) (j := 1) (v := .slice A15 b1.length c15) BL.out (by omega)); replace BE := Lib.hid (blk_far BE.out (p := ⟨z, 1, none⟩) (by show h ≠ z; omega) (.slice A15 b1.length c15)); replace R8 := Lib.hid (Kd.R_set R8.out BZ.out int_ne27 1 (.slice A15 b1.length c15)); replace R9 := Lib.hid (Kd.R_set R9.out BZ.out int_ne27 1 (.slice A15 b1.length c15)); replace BX := Lib.hid (blk_far BX.out (p := ⟨z, 1, none⟩) (by show x ≠ z; omega) (.slice A15 b1.length c15)); replace R10 := Lib.hid (Kd.R_set R10.out BZ.out int_ne27 1 (.slice A15 b1.length c15)); replace R11 := Lib.hid (Kd.R_set R11.out BZ.out int_ne27 1 (.slice A15 b1.length c15)); replace BY := Lib.hid (blk_far BY.out (p := ⟨z, 1, none⟩) (by show y ≠ z; omega) (.slice A15 b1.length c15)); replace R12 := Lib.hid (Kd.R_set R12.out BZ.out int_ne27 1 (.slice A15 b1.length c15)); replace R13 := Lib.hid (Kd.R_set R13.out BZ.out int_ne27 1 (.slice A15 b1.length c15)); replace R14 := Lib.hid (Kd.R_set R14.out BZ.out int_ne27 1 (.slice A15 b1.length c15)); replace R15 := Lib.hid (Kd.R_set R15.out BZ.out int_ne27 1 (.slice A15 b1.length c15)); replace BZ := Lib.hid (blk_put (cs' := #[.slice A14 b0.length c14, .slice A15 b1.length c15]) BZ.out 1 (.slice A15 b1.length c15) rfl)
 refine hK.out _ _ ⟨(blk_cell BG.out 0).trans rfl, (blk_cell BG.out 1).trans rfl, (blk_cell BG.out 2).trans rfl, (blk_cell BG.out 3).trans rfl, (blk_cell BG.out 4).trans rfl, (blk_cell BG.out 5).trans rfl, (cell2 BE.out).1, (cell2 BE.out).2⟩ (fun hHeld => ?_)
 clear hK K
 refine pure_ (i := 14) (N := some 10) (v := ?_) (a' := ?_) #[true, true, true, true, true, true, true, true, true, true, true, true, true, true, true] rfl rfl (by kernel_rfl) (fun _ _ _ h => h) (Or.inl ⟨by rfl, ?_⟩) ?_ ?_
 rotate_left
 ·intro w'
  go_simp
  with_reducible rfl
 rotate_left
 ·simp only [Act.put, sI_, s0_, sS_, i64_w, i32_w]
  rfl
 refine done_ (by kernel_rfl) ?_
 generalize hq_ : World.setCell _ _ _ = w6_; replace BG := Lib.hid (at_blk hq_ BG.out); replace BL := Lib.hid (at_bel hq_ BL.out); replace BE := Lib.hid (at_blk hq_ BE.out); replace R8 := Lib.hid (at_R hq_ R8.out); replace R9 := Lib.hid (at_R hq_ R9.out); replace BX := Lib.hid (at_blk hq_ BX.out); replace R10 := Lib.hid (at_R hq_ R10.out); replace R11 := Lib.hid (at_R hq_ R11.out); replace BY := Lib.hid (at_blk hq_ BY.out); replace R12 := Lib.hid (at_R hq_ R12.out); replace R13 := Lib.hid (at_R hq_ R13.out); replace R14 := Lib.hid (at_R hq_ R14.out); replace R15 := Lib.hid (at_R hq_ R15.out); replace BZ := Lib.hid (at_blk hq_ BZ.out); clear hq_; clear R12 R13
 have zBG_0 : World.cell? _ ⟨g, 0, none⟩ = some (.slice A0 l0.length c0) := (blk_cell BG.out 0).trans rfl
 have zBG_1 : World.cell? _ ⟨g, 1, none⟩ = some (.slice A1 l1.length c1) := (blk_cell BG.out 1).trans rfl
 have zBG_2 : World.cell? _ ⟨g, 2, none⟩ = some (.slice A2 l2.length c2) := (blk_cell BG.out 2).trans rfl
 have zBG_3 : World.cell? _ ⟨g, 3, none⟩ = some (.slice A3 l3.length c3) := (blk_cell BG.out 3).trans rfl
 have zBG_4 : World.cell? _ ⟨g, 4, none⟩ = some (.slice A4 l4.length c4) := (blk_cell BG.out 4).trans rfl
 have zBG_5 : World.cell? _ ⟨g, 5, none⟩ = some (.slice A5 l5.length c5) := (blk_cell BG.out 5).trans rfl
 obtain ⟨zBE_0, zBE_1⟩ := cell2 BE.out
 go_upto_region 7 with (first
  | (go_at_call 46; with_reducible refine (scarfjointref07_Preimage.calls k A0 c0 l0 A1 c1 l1 A2 c2 l2 A3 c3 l3 A4 c4 l4 A5 c5 l5 A6 c6 l6 A7 c7 l7 b0 b1 eb _ (Kd.C_below R0.out BL.out) M0.out (Kd.C_below R1.out BL.out) M1.out (Kd.C_below R2.out BL.out) M2.out (Kd.C_below R3.out BL.out) M3.out (Kd.C_below R4.out BL.out) M4.out (Kd.C_below R5.out BL.out) M5.out (Kd.C_below R6.out BL.out) M6.out (Kd.C_below R7.out BL.out) M7.out h4).mono ?_; rintro e w_ ⟨v0, v1, rfl, ho0, ho1, hb⟩; clear zBG_0 zBG_1 zBG_2 zBG_3 zBG_4 zBG_5 zBE_0 zBE_1; obtain ⟨A16, c16, rfl⟩ := Kd.R_slice ho0; obtain ⟨A17, c17, rfl⟩ := Kd.R_slice ho1; replace BG := Lib.hid (blk_below BG.out hb); replace BL := Lib.hid (below_then BL.out BL.out.size hb); replace BE := Lib.hid (blk_below BE.out hb); replace R8 := Lib.hid (Kd.R_below R8.out hb); replace R9 := Lib.hid (Kd.R_below R9.out hb); replace BX := Lib.hid (blk_below BX.out hb); replace R10 := Lib.hid (Kd.R_below R10.out hb); replace R11 := Lib.hid (Kd.R_below R11.out hb); replace BY := Lib.hid (blk_below BY.out hb); replace R14 := Lib.hid (Kd.R_below R14.out hb); replace R15 := Lib.hid (Kd.R_below R15.out hb); replace BZ := Lib.hid (blk_below BZ.out hb); have R16 := Lib.hid (toR (ho0)); have R17 := Lib.hid (toR (ho1)); clear ho0 ho1 hb; have zBG_0 : World.cell? _ ⟨g, 0, none⟩ = some (.slice A0 l0.length c0) := (blk_cell BG.out 0).trans rfl; have zBG_1 : World.cell? _ ⟨g, 1, none⟩ = some (.slice A1 l1.length c1) := (blk_cell BG.out 1).trans rfl; have zBG_2 : World.cell? _ ⟨g, 2, none⟩ = some (.slice A2 l2.length c2) := (blk_cell BG.out 2).trans rfl; have zBG_3 : World.cell? _ ⟨g, 3, none⟩ = some (.slice A3 l3.length c3) := (blk_cell BG.out 3).trans rfl; have zBG_4 : World.cell? _ ⟨g, 4, none⟩ = some (.slice A4 l4.length c4) := (blk_cell BG.out 4).trans rfl; have zBG_5 : World.cell? _ ⟨g, 5, none⟩ = some (.slice A5 l5.length c5) := (blk_cell BG.out 5).trans rfl; obtain ⟨zBE_0, zBE_1⟩ := cell2 BE.out)
  | ((with_reducible refine gate_dst (N := 11) rfl ?_); (try (refine gate_guard (by rfl) ?_; dsimp only)); refine box_event ?hg (N := 11) ?hd (cs := #[.slice none 0 0, .slice none 0 0]) (t := 27) ?hr ?_; (case hd => rfl); (case hg => rfl); (case hr => first | (go_simp; done) | (go_simp; rfl)); intro t hg w_ hbox hb; clear zBG_0 zBG_1 zBG_2 zBG_3 zBG_4 zBG_5 zBE_0 zBE_1; have Ht : z < t := (hg ▸ blk_lt BZ.out); replace BG := Lib.hid (blk_below BG.out hb); replace BL := Lib.hid (below_then BL.out BL.out.size hb); replace BE := Lib.hid (blk_below BE.out hb); replace R8 := Lib.hid (Kd.R_below R8.out hb); replace R9 := Lib.hid (Kd.R_below R9.out hb); replace BX := Lib.hid (blk_below BX.out hb); replace R10 := Lib.hid (Kd.R_below R10.out hb); replace R11 := Lib.hid (Kd.R_below R11.out hb); replace BY := Lib.hid (blk_below BY.out hb); replace R14 := Lib.hid (Kd.R_below R14.out hb); replace R15 := Lib.hid (Kd.R_below R15.out hb); replace BZ := Lib.hid (blk_below BZ.out hb); replace R16 := Lib.hid (Kd.R_below R16.out hb); replace R17 := Lib.hid (Kd.R_below R17.out hb); have BT := Lib.hid (hbox); clear hg hbox hb; obtain ⟨y0_, y1_⟩ := cell2 BT.out; have f0_ := blk_frozen BT.out 0; have f1_ := blk_frozen BT.out 1))
 clear y0_ y1_ f0_ f1_; replace BG := Lib.hid (blk_far BG.out (p := ⟨t, 0, none⟩) (by show g ≠ t; omega) (.slice A16 b0.length c16)); replace BL := Lib.hid (below_set (g := t) (j := 0) (v := .slice A16 b0.length c16) BL.out (by omega)); replace BE := Lib.hid (blk_far BE.out (p := ⟨t, 0, none⟩) (by show h ≠ t; omega) (.slice A16 b0.length c16)); replace R8 := Lib.hid (Kd.R_set R8.out BT.out int_ne27 0 (.slice A16 b0.length c16)); replace R9 := Lib.hid (Kd.R_set R9.out BT.out int_ne27 0 (.slice A16 b0.length c16)); replace BX := Lib.hid (blk_far BX.out (p := ⟨t, 0, none⟩) (by show x ≠ t; omega) (.slice A16 b0.length c16)); replace R10 := Lib.hid (Kd.R_set R10.out BT.out int_ne27 0 (.slice A16 b0.length c16)); replace R11 := Lib.hid (Kd.R_set R11.out BT.out int_ne27 0 (.slice A16 b0.length c16)); replace BY := Lib.hid (blk_far BY.out (p := ⟨t, 0, none⟩) (by show y ≠ t; omega) (.slice A16 b0.length c16)); replace R14 := Lib.hid (Kd.R_set R14.out BT.out int_ne27 0 (.slice A16 b0.length c16)); replace R15 := Lib.hid (Kd.R_set R15.out BT.out int_ne27 0 (.slice A16 b0.length c16)); replace BZ := Lib.hid (blk_far BZ.out (p := ⟨t, 0, none⟩) (by show z ≠ t; omega) (.slice A16 b0.length c16)); replace R16 := Lib.hid (Kd.R_set R16.out BT.out int_ne27 0 (.slice A16 b0.length c16)); replace R17 := Lib.hid (Kd.R_set R17.out BT.out int_ne27 0 (.slice A16 b0.length c16)); replace BT := Lib.hid (blk_put (cs' := #[.slice A16 b0.length c16, .slice none 0 0]) BT.out 0 (.slice A16 b0.length c16) rfl); replace BG := Lib.hid (blk_far BG.out (p := ⟨t, 1, none⟩) (by show g ≠ t; omega) (.slice A17 b1.length c17)); replace BL := Lib.hid (below_set (g := t) (j := 1) (v := .slice A17 b1.length c17) BL.out (by omega)); replace BE := Lib.hid (blk_far BE.out (p := ⟨t, 1, none⟩) (by show h ≠ t; omega) (.slice A17 b1.length c17)); replace R8 := Lib.hid (Kd.R_set R8.out BT.out int_ne27 1 (.slice A17 b1.length c17)); replace R9 := Lib.hid (Kd.R_set R9.out BT.out int_ne27 1 (.slice A17 b1.length c17)); replace BX := Lib.hid (blk_far BX.out (p := ⟨t, 1, none⟩) (by show x ≠ t; omega) (.slice A17 b1.length c17)); replace R10 := Lib.hid (Kd.R_set R10.out BT.out int_ne27 1 (.slice A17 b1.length c17)); replace R11 := Lib.hid (Kd.R_set R11.out BT.out int_ne27 1 (.slice A17 b1.length c17)); replace BY := Lib.hid (blk_far BY.out (p := ⟨t, 1, none⟩) (by show y ≠ t; omega) (.slice A17 b1.length c17)); replace R14 := Lib.hid (Kd.R_set R14.out BT.out int_ne27 1 (.slice A17 b1.length c17)); replace R15 := Lib.hid (Kd.R_set R15.out BT.out int_ne27 1 (.slice A17 b1.length c17)); replace BZ := Lib.hid (blk_far BZ.out (p := ⟨t, 1, none⟩) (by show z ≠ t; omega) (.slice A17 b1.length c17)); replace R16 := Lib.hid (Kd.R_set R16.out BT.out int_ne27 1 (.slice A17 b1.length c17)); replace R17 := Lib.hid (Kd.R_set R17.out BT.out int_ne27 1 (.slice A17 b1.length c17)); replace BT := Lib.hid (blk_put (cs' := #[.slice A16 b0.length c16, .slice A17 b1.length c17]) BT.out 1 (.slice A17 b1.length c17) rfl); generalize hq_ : World.setCell _ _ _ = w5_; replace BG := Lib.hid (at_blk hq_ BG.out); replace BL := Lib.hid (at_bel hq_ BL.out); replace BE := Lib.hid (at_blk hq_ BE.out); replace R8 := Lib.hid (at_R hq_ R8.out); replace R9 := Lib.hid (at_R hq_ R9.out); replace BX := Lib.hid (at_blk hq_ BX.out); replace R10 := Lib.hid (at_R hq_ R10.out); replace R11 := Lib.hid (at_R hq_ R11.out); replace BY := Lib.hid (at_blk hq_ BY.out); replace R14 := Lib.hid (at_R hq_ R14.out); replace R15 := Lib.hid (at_R hq_ R15.out); replace BZ := Lib.hid (at_blk hq_ BZ.out); replace R16 := Lib.hid (at_R hq_ R16.out); replace R17 := Lib.hid (at_R hq_ R17.out); replace BT := Lib.hid (at_blk hq_ BT.out); clear hq_; obtain ⟨zBX_0, zBX_1⟩ := cell2 BX.out; obtain ⟨zBY_0, zBY_1⟩ := cell2 BY.out; obtain ⟨zBZ_0, zBZ_1⟩ := cell2 BZ.out; obtain ⟨zBT_0, zBT_1⟩ := cell2 BT.out
 go_wp2_with (first
  | (go_at_call 17; with_reducible refine (scarfjointref07_Same.calls k A8 c8 p0 A9 c9 p1 A10 c10 p0 A11 c11 p1 true _ (Kd.R_reads' R8.out).2.2 (Kd.R_reads' R8.out).2.1 (Kd.R_reads' R9.out).2.2 (Kd.R_reads' R9.out).2.1 (Kd.R_reads' R10.out).2.2 (Kd.R_reads' R10.out).2.1 (Kd.R_reads' R11.out).2.2 (Kd.R_reads' R11.out).2.1 h5).mono ?_; rintro e w_ ⟨rfl, hb⟩; clear zBX_0 zBX_1 zBY_0 zBY_1 zBZ_0 zBZ_1 zBT_0 zBT_1; replace BG := Lib.hid (blk_below BG.out hb); replace BL := Lib.hid (below_then BL.out BL.out.size hb); replace BE := Lib.hid (blk_below BE.out hb); replace R8 := Lib.hid (Kd.R_below R8.out hb); replace R9 := Lib.hid (Kd.R_below R9.out hb); replace BX := Lib.hid (blk_below BX.out hb); replace R10 := Lib.hid (Kd.R_below R10.out hb); replace R11 := Lib.hid (Kd.R_below R11.out hb); replace BY := Lib.hid (blk_below BY.out hb); replace R14 := Lib.hid (Kd.R_below R14.out hb); replace R15 := Lib.hid (Kd.R_below R15.out hb); replace BZ := Lib.hid (blk_below BZ.out hb); replace R16 := Lib.hid (Kd.R_below R16.out hb); replace R17 := Lib.hid (Kd.R_below R17.out hb); replace BT := Lib.hid (blk_below BT.out hb); clear hb; obtain ⟨zBX_0, zBX_1⟩ := cell2 BX.out; obtain ⟨zBY_0, zBY_1⟩ := cell2 BY.out; obtain ⟨zBZ_0, zBZ_1⟩ := cell2 BZ.out; obtain ⟨zBT_0, zBT_1⟩ := cell2 BT.out)
  | (go_at_call 17; with_reducible refine (scarfjointref07_Same.calls k A14 c14 b0 A15 c15 b1 A16 c16 b0 A17 c17 b1 true _ (Kd.R_reads' R14.out).2.2 (Kd.R_reads' R14.out).2.1 (Kd.R_reads' R15.out).2.2 (Kd.R_reads' R15.out).2.1 (Kd.R_reads' R16.out).2.2 (Kd.R_reads' R16.out).2.1 (Kd.R_reads' R17.out).2.2 (Kd.R_reads' R17.out).2.1 h6).mono ?_; rintro e w_ ⟨rfl, hb⟩; clear zBX_0 zBX_1 zBY_0 zBY_1 zBZ_0 zBZ_1 zBT_0 zBT_1; replace BG := Lib.hid (blk_below BG.out hb); replace BL := Lib.hid (below_then BL.out BL.out.size hb); replace BE := Lib.hid (blk_below BE.out hb); replace R8 := Lib.hid (Kd.R_below R8.out hb); replace R9 := Lib.hid (Kd.R_below R9.out hb); replace BX := Lib.hid (blk_below BX.out hb); replace R10 := Lib.hid (Kd.R_below R10.out hb); replace R11 := Lib.hid (Kd.R_below R11.out hb); replace BY := Lib.hid (blk_below BY.out hb); replace R14 := Lib.hid (Kd.R_below R14.out hb); replace R15 := Lib.hid (Kd.R_below R15.out hb); replace BZ := Lib.hid (blk_below BZ.out hb); replace R16 := Lib.hid (Kd.R_below R16.out hb); replace R17 := Lib.hid (Kd.R_below R17.out hb); replace BT := Lib.hid (blk_below BT.out hb); clear hb; obtain ⟨zBX_0, zBX_1⟩ := cell2 BX.out; obtain ⟨zBY_0, zBY_1⟩ := cell2 BY.out; obtain ⟨zBZ_0, zBZ_1⟩ := cell2 BZ.out; obtain ⟨zBT_0, zBT_1⟩ := cell2 BT.out))
 exact bodyPost_ret (v := .bool true) (by simp [results, Try.f9, go_sem]) rfl ⟨rfl, BL.out⟩
set_option maxHeartbeats 4000000 in
set_option maxRecDepth 100000 in
theorem scarfjointlaw07_SubgraphImage.big (A0 : Option Addr) (c0 : Nat) (l0 : List Int) (A1 : Option Addr) (c1 : Nat) (l1 : List S78) (A2 : Option Addr) (c2 : Nat) (l2 : List Int) (A3 : Option Addr) (c3 : Nat) (l3 : List S78) (A4 : Option Addr) (c4 : Nat) (l4 : List Int) (A5 : Option Addr) (c5 : Nat) (l5 : List Int) (A6 : Option Addr) (c6 : Nat) (l6 : List Int) (A7 : Option Addr) (c7 : Nat) (l7 : List Int) (w : World)
  (r0 : Kd.C (Kd.int .i64) w A0 l0.length l0) (m0 : l0.length ≤ c0) (r1 : Kd.C (k78) w A1 l1.length l1) (m1 : l1.length ≤ c1) (r2 : Kd.C (Kd.int .i64) w A2 l2.length l2) (m2 : l2.length ≤ c2) (r3 : Kd.C (k78) w A3 l3.length l3) (m3 : l3.length ≤ c3) (r4 : Kd.C (Kd.int .i64) w A4 l4.length l4) (m4 : l4.length ≤ c4) (r5 : Kd.C (Kd.int .i64) w A5 l5.length l5) (m5 : l5.length ≤ c5) (r6 : Kd.C (Kd.int .i64) w A6 l6.length l6) (m6 : l6.length ≤ c6) (r7 : Kd.C (Kd.int .i64) w A7 l7.length l7) (m7 : l7.length ≤ c7)
  (hbad : scarfjointlaw07_Arrow_small.f l0 l1 l2 l3 l4 l5 = some false ∨ (scarfjointlaw07_Arrow_small.f l0 l1 l2 l3 l4 l5 = some true ∧ scarfjointref07_Few.f l6 l7 150 = some false)) :
  Calls Try.prog 9 #[.agg #[.slice A0 l0.length c0, .slice A1 l1.length c1, .slice A2 l2.length c2, .slice A3 l3.length c3, .slice A4 l4.length c4, .slice A5 l5.length c5], .agg #[.slice A6 l6.length c6, .slice A7 l7.length c7]] w fun e w' => e = .returned (.bool true) ∧ Below w.heap.size w w' := by
 have hu25 := Try.underlying25; have hu27 := Try.underlying27; have hu51 := Try.underlying51; have hu63 := Try.underlying63; have R0 := Lib.hid r0; have M0 := Lib.hid m0; have R1 := Lib.hid r1; have M1 := Lib.hid m1; have R2 := Lib.hid r2; have M2 := Lib.hid m2; have R3 := Lib.hid r3; have M3 := Lib.hid m3; have R4 := Lib.hid r4; have M4 := Lib.hid m4; have R5 := Lib.hid r5; have M5 := Lib.hid m5; have R6 := Lib.hid r6; have M6 := Lib.hid m6; have R7 := Lib.hid r7; have M7 := Lib.hid m7; clear r0 m0 r1 m1 r2 m2 r3 m3 r4 m4 r5 m5 r6 m6 r7 m7
 go_enter Try.func9, Try.ntmps9
 go_upto_region 1 with (first
  | ((with_reducible refine gate_dst (N := 2) rfl ?_); (try (refine gate_guard (by rfl) ?_; dsimp only)); refine box_event ?hg (N := 2) ?hd (cs := #[.slice A0 l0.length c0, .slice A1 l1.length c1, .slice A2 l2.length c2, .slice A3 l3.length c3, .slice A4 l4.length c4, .slice A5 l5.length c5]) (t := 63) ?hr ?_; (case hd => rfl); (case hg => rfl); (case hr => first | (go_simp; done) | (go_simp; rfl)); intro g hg w_ hbox hb; have HG : w.heap.size ≤ g := (hg ▸ Nat.le_refl _); have BG := Lib.hid hbox; have BL := Lib.hid hb; clear hg hbox hb)
  | ((with_reducible refine gate_dst (N := 3) rfl ?_); (try (refine gate_guard (by rfl) ?_; dsimp only)); refine box_event ?hg (N := 3) ?hd (cs := #[.slice A6 l6.length c6, .slice A7 l7.length c7]) (t := 27) ?hr ?_; (case hd => rfl); (case hg => rfl); (case hr => first | (go_simp; done) | (go_simp; rfl)); intro h hg w_ hbox hb; have HH : g < h := (hg ▸ blk_lt BG.out); replace BG := Lib.hid (blk_below BG.out hb); replace BL := Lib.hid (below_then BL.out BL.out.size hb); have BE := Lib.hid hbox; clear hg hbox hb))
 have zBG_0 : World.cell? _ ⟨g, 0, none⟩ = some (.slice A0 l0.length c0) := (blk_cell BG.out 0).trans rfl
 have zBG_1 : World.cell? _ ⟨g, 1, none⟩ = some (.slice A1 l1.length c1) := (blk_cell BG.out 1).trans rfl
 have zBG_2 : World.cell? _ ⟨g, 2, none⟩ = some (.slice A2 l2.length c2) := (blk_cell BG.out 2).trans rfl
 have zBG_3 : World.cell? _ ⟨g, 3, none⟩ = some (.slice A3 l3.length c3) := (blk_cell BG.out 3).trans rfl
 have zBG_4 : World.cell? _ ⟨g, 4, none⟩ = some (.slice A4 l4.length c4) := (blk_cell BG.out 4).trans rfl
 have zBG_5 : World.cell? _ ⟨g, 5, none⟩ = some (.slice A5 l5.length c5) := (blk_cell BG.out 5).trans rfl
 obtain ⟨zBE_0, zBE_1⟩ := cell2 BE.out
 rcases hbad with hsm | ⟨hsm, hfw⟩
 ·skip
  go_wp2_with (first
   | (go_at_call 11; with_reducible refine (scarfjointlaw07_awake.calls true _ rfl).mono ?_; rintro e w_ ⟨rfl, hb⟩; clear zBG_0 zBG_1 zBG_2 zBG_3 zBG_4 zBG_5 zBE_0 zBE_1; replace BG := Lib.hid (blk_below BG.out hb); replace BL := Lib.hid (below_then BL.out BL.out.size hb); replace BE := Lib.hid (blk_below BE.out hb); clear hb; have zBG_0 : w_.cell? ⟨g, 0, none⟩ = some (.slice A0 l0.length c0) := (blk_cell BG.out 0).trans rfl; have zBG_1 : w_.cell? ⟨g, 1, none⟩ = some (.slice A1 l1.length c1) := (blk_cell BG.out 1).trans rfl; have zBG_2 : w_.cell? ⟨g, 2, none⟩ = some (.slice A2 l2.length c2) := (blk_cell BG.out 2).trans rfl; have zBG_3 : w_.cell? ⟨g, 3, none⟩ = some (.slice A3 l3.length c3) := (blk_cell BG.out 3).trans rfl; have zBG_4 : w_.cell? ⟨g, 4, none⟩ = some (.slice A4 l4.length c4) := (blk_cell BG.out 4).trans rfl; have zBG_5 : w_.cell? ⟨g, 5, none⟩ = some (.slice A5 l5.length c5) := (blk_cell BG.out 5).trans rfl; obtain ⟨zBE_0, zBE_1⟩ := cell2 BE.out)
   | (go_at_call 42; with_reducible refine (scarfjointlaw07_Arrow_small.calls A0 c0 l0 A1 c1 l1 A2 c2 l2 A3 c3 l3 A4 c4 l4 A5 c5 l5 false _ (Kd.C_below R0.out BL.out) M0.out (Kd.C_below R1.out BL.out) M1.out (Kd.C_below R2.out BL.out) M2.out (Kd.C_below R3.out BL.out) M3.out (Kd.C_below R4.out BL.out) M4.out (Kd.C_below R5.out BL.out) M5.out hsm).mono ?_; rintro e w_ ⟨rfl, hb⟩; clear zBG_0 zBG_1 zBG_2 zBG_3 zBG_4 zBG_5 zBE_0 zBE_1; replace BG := Lib.hid (blk_below BG.out hb); replace BL := Lib.hid (below_then BL.out BL.out.size hb); replace BE := Lib.hid (blk_below BE.out hb); clear hb; have zBG_0 : w_.cell? ⟨g, 0, none⟩ = some (.slice A0 l0.length c0) := (blk_cell BG.out 0).trans rfl; have zBG_1 : w_.cell? ⟨g, 1, none⟩ = some (.slice A1 l1.length c1) := (blk_cell BG.out 1).trans rfl; have zBG_2 : w_.cell? ⟨g, 2, none⟩ = some (.slice A2 l2.length c2) := (blk_cell BG.out 2).trans rfl; have zBG_3 : w_.cell? ⟨g, 3, none⟩ = some (.slice A3 l3.length c3) := (blk_cell BG.out 3).trans rfl; have zBG_4 : w_.cell? ⟨g, 4, none⟩ = some (.slice A4 l4.length c4) := (blk_cell BG.out 4).trans rfl; have zBG_5 : w_.cell? ⟨g, 5, none⟩ = some (.slice A5 l5.length c5) := (blk_cell BG.out 5).trans rfl; obtain ⟨zBE_0, zBE_1⟩ := cell2 BE.out))
  exact bodyPost_ret (v := .bool true) (by simp [results, Try.f9, go_sem]) rfl ⟨rfl, BL.out⟩
 ·skip
  go_wp2_with (first
   | (go_at_call 11; with_reducible refine (scarfjointlaw07_awake.calls true _ rfl).mono ?_; rintro e w_ ⟨rfl, hb⟩; clear zBG_0 zBG_1 zBG_2 zBG_3 zBG_4 zBG_5 zBE_0 zBE_1; replace BG := Lib.hid (blk_below BG.out hb); replace BL := Lib.hid (below_then BL.out BL.out.size hb); replace BE := Lib.hid (blk_below BE.out hb); clear hb; have zBG_0 : w_.cell? ⟨g, 0, none⟩ = some (.slice A0 l0.length c0) := (blk_cell BG.out 0).trans rfl; have zBG_1 : w_.cell? ⟨g, 1, none⟩ = some (.slice A1 l1.length c1) := (blk_cell BG.out 1).trans rfl; have zBG_2 : w_.cell? ⟨g, 2, none⟩ = some (.slice A2 l2.length c2) := (blk_cell BG.out 2).trans rfl; have zBG_3 : w_.cell? ⟨g, 3, none⟩ = some (.slice A3 l3.length c3) := (blk_cell BG.out 3).trans rfl; have zBG_4 : w_.cell? ⟨g, 4, none⟩ = some (.slice A4 l4.length c4) := (blk_cell BG.out 4).trans rfl; have zBG_5 : w_.cell? ⟨g, 5, none⟩ = some (.slice A5 l5.length c5) := (blk_cell BG.out 5).trans rfl; obtain ⟨zBE_0, zBE_1⟩ := cell2 BE.out)
   | (go_at_call 42; with_reducible refine (scarfjointlaw07_Arrow_small.calls A0 c0 l0 A1 c1 l1 A2 c2 l2 A3 c3 l3 A4 c4 l4 A5 c5 l5 true _ (Kd.C_below R0.out BL.out) M0.out (Kd.C_below R1.out BL.out) M1.out (Kd.C_below R2.out BL.out) M2.out (Kd.C_below R3.out BL.out) M3.out (Kd.C_below R4.out BL.out) M4.out (Kd.C_below R5.out BL.out) M5.out hsm).mono ?_; rintro e w_ ⟨rfl, hb⟩; clear zBG_0 zBG_1 zBG_2 zBG_3 zBG_4 zBG_5 zBE_0 zBE_1; replace BG := Lib.hid (blk_below BG.out hb); replace BL := Lib.hid (below_then BL.out BL.out.size hb); replace BE := Lib.hid (blk_below BE.out hb); clear hb; have zBG_0 : w_.cell? ⟨g, 0, none⟩ = some (.slice A0 l0.length c0) := (blk_cell BG.out 0).trans rfl; have zBG_1 : w_.cell? ⟨g, 1, none⟩ = some (.slice A1 l1.length c1) := (blk_cell BG.out 1).trans rfl; have zBG_2 : w_.cell? ⟨g, 2, none⟩ = some (.slice A2 l2.length c2) := (blk_cell BG.out 2).trans rfl; have zBG_3 : w_.cell? ⟨g, 3, none⟩ = some (.slice A3 l3.length c3) := (blk_cell BG.out 3).trans rfl; have zBG_4 : w_.cell? ⟨g, 4, none⟩ = some (.slice A4 l4.length c4) := (blk_cell BG.out 4).trans rfl; have zBG_5 : w_.cell? ⟨g, 5, none⟩ = some (.slice A5 l5.length c5) := (blk_cell BG.out 5).trans rfl; obtain ⟨zBE_0, zBE_1⟩ := cell2 BE.out)
   | (go_at_call 43; with_reducible refine (scarfjointref07_Few.calls A6 c6 l6 A7 c7 l7 150 false _ (Kd.C_below R6.out BL.out) M6.out (Kd.C_below R7.out BL.out) M7.out hfw).mono ?_; rintro e w_ ⟨rfl, hb⟩; clear zBG_0 zBG_1 zBG_2 zBG_3 zBG_4 zBG_5 zBE_0 zBE_1; replace BG := Lib.hid (blk_below BG.out hb); replace BL := Lib.hid (below_then BL.out BL.out.size hb); replace BE := Lib.hid (blk_below BE.out hb); clear hb; have zBG_0 : w_.cell? ⟨g, 0, none⟩ = some (.slice A0 l0.length c0) := (blk_cell BG.out 0).trans rfl; have zBG_1 : w_.cell? ⟨g, 1, none⟩ = some (.slice A1 l1.length c1) := (blk_cell BG.out 1).trans rfl; have zBG_2 : w_.cell? ⟨g, 2, none⟩ = some (.slice A2 l2.length c2) := (blk_cell BG.out 2).trans rfl; have zBG_3 : w_.cell? ⟨g, 3, none⟩ = some (.slice A3 l3.length c3) := (blk_cell BG.out 3).trans rfl; have zBG_4 : w_.cell? ⟨g, 4, none⟩ = some (.slice A4 l4.length c4) := (blk_cell BG.out 4).trans rfl; have zBG_5 : w_.cell? ⟨g, 5, none⟩ = some (.slice A5 l5.length c5) := (blk_cell BG.out 5).trans rfl; obtain ⟨zBE_0, zBE_1⟩ := cell2 BE.out))
  exact bodyPost_ret (v := .bool true) (by simp [results, Try.f9, go_sem]) rfl ⟨rfl, BL.out⟩
end Go.Proofs.Ytonipihlpbaknaa.Print
namespace Go.Proofs.Ytonipihlpbaknaa.Print
set_option linter.unusedVariables false
set_option linter.unusedSimpArgs false
open Go.RowKit Go.Proofs.YtonipihlpbaknaaW.PrintWords Go.Proofs.YtonipihlpbaknaaW.PrintLast Go.Proofs.YtonipihlpbaknaaW.PrintMore
variable (l0 : List Int) (l1 : List S78) (l2 : List Int) (l3 : List S78) (l4 l5 : List Int)
/-- What both images are. -/
def imgR : List Int × List Int × Int := if morphE l0 l1 l2 l3 l4 l5 = 0 then (Lib.compact (sortI l4), Lib.compact (sortI l5), 0) else ([], [], morphE l0 l1 l2 l3 l4 l5)
theorem img_all (h : morphE l0 l1 l2 l3 l4 l5 = 0 → l4.length ≤ 1000 ∧ l5.length ≤ 1000) : subgraph_Image.f l0 l1 l2 l3 l4 l5 = some (imgR l0 l1 l2 l3 l4 l5) := by
  by_cases e : morphE l0 l1 l2 l3 l4 l5 = 0
  · exact img_ok _ _ _ _ _ _ (h e).1 (h e).2
  · unfold subgraph_Image.f imgR
    rw [morphism_Valid.f, Option.bind_some, if_neg e, if_neg e]
theorem comp_uni {a : List Int} {n : Nat} (h : ∀ x ∈ a, 0 ≤ x ∧ x < n) : uniUpto a a n = Lib.compact (sortI a) := by
  rw [← uni_eq h h]
  exact asc_ext (comp_asc _) (comp_asc _) fun x => by rw [mem_comp, mem_comp, List.mem_append, or_self]
theorem rimg_ok (k : Nat) (hk : 10000 < k) : scarfjointref07_Image.f k l0 l1 l2 l3 l4 l5 = some (imgR l0 l1 l2 l3 l4 l5) := by
  unfold scarfjointref07_Image.f imgR; rw [scarfjointref06_Valid.f, Option.bind_some]
  by_cases e : morphE l0 l1 l2 l3 l4 l5 = 0
  · obtain ⟨v0, v1, s0, s1, hn, he⟩ := morph_facts e
    obtain ⟨z0, z1, _, _⟩ := validB_facts v0; obtain ⟨z2, z3, _, _⟩ := validB_facts v1
    rw [if_pos e, if_pos e, mergedU_ok _ _ _ (by omega) (by omega) (by omega) _ (by omega), Option.bind_some, mergedU_ok _ _ _ (by omega) (by omega) (by omega) _ (by omega), Option.bind_some,
      comp_uni (fun x hx => by obtain ⟨i, hi, rfl⟩ := List.getElem_of_mem hx; exact ⟨(hn i hi).1, (hn i hi).2.1⟩), comp_uni (fun x hx => by obtain ⟨i, hi, rfl⟩ := List.getElem_of_mem hx; exact ⟨(he i hi).1, (he i hi).2.1⟩)]
  · rw [if_neg e, if_neg e]
theorem fewP (a b : List Int) : scarfjointref07_Few.f a b 150 = some (fewB ⟨a, b⟩) := rfl
theorem own_is (a b : List Int) (ha : a.length < 17592186044416) (hb : b.length < 17592186044416) : scarfjointlaw07_own.f a b = some (a, b) := by
  unfold scarfjointlaw07_own.f; rw [clone_is _ ha, Option.bind_some, clone_is _ hb, Option.bind_some]
theorem small_some : ∃ b, scarfjointlaw07_Arrow_small.f l0 l1 l2 l3 l4 l5 = some b := by
  unfold scarfjointlaw07_Arrow_small.f scarfjointref05_Few.f scarfjointref06_Few.f
  repeat' (first | split | exact ⟨_, rfl⟩ | simp only [Option.bind_some])
theorem scarfjointlaw07_SubgraphImage.whole (A0 : Option Addr) (c0 : Nat) (l0 : List Int) (A1 : Option Addr) (c1 : Nat) (l1 : List S78) (A2 : Option Addr) (c2 : Nat) (l2 : List Int) (A3 : Option Addr) (c3 : Nat) (l3 : List S78) (A4 : Option Addr) (c4 : Nat) (l4 : List Int) (A5 : Option Addr) (c5 : Nat) (l5 : List Int) (A6 : Option Addr) (c6 : Nat) (l6 : List Int) (A7 : Option Addr) (c7 : Nat) (l7 : List Int) (w : World)
  (r0 : Kd.C (Kd.int .i64) w A0 l0.length l0) (m0 : l0.length ≤ c0) (r1 : Kd.C k78 w A1 l1.length l1) (m1 : l1.length ≤ c1) (r2 : Kd.C (Kd.int .i64) w A2 l2.length l2) (m2 : l2.length ≤ c2) (r3 : Kd.C k78 w A3 l3.length l3) (m3 : l3.length ≤ c3) (r4 : Kd.C (Kd.int .i64) w A4 l4.length l4) (m4 : l4.length ≤ c4) (r5 : Kd.C (Kd.int .i64) w A5 l5.length l5) (m5 : l5.length ≤ c5) (r6 : Kd.C (Kd.int .i64) w A6 l6.length l6) (m6 : l6.length ≤ c6) (r7 : Kd.C (Kd.int .i64) w A7 l7.length l7) (m7 : l7.length ≤ c7)
  (z6 : l6.length ≤ 17592186044416) (z7 : l7.length ≤ 17592186044416) :
  Calls Try.prog 9 #[.agg #[.slice A0 l0.length c0, .slice A1 l1.length c1, .slice A2 l2.length c2, .slice A3 l3.length c3, .slice A4 l4.length c4, .slice A5 l5.length c5], .agg #[.slice A6 l6.length c6, .slice A7 l7.length c7]] w fun e w' => e = .returned (.bool true) ∧ Below w.heap.size w w' := by
 obtain ⟨b, hb⟩ := small_some l0 l1 l2 l3 l4 l5
 cases b with
 | false => exact scarfjointlaw07_SubgraphImage.big A0 c0 l0 A1 c1 l1 A2 c2 l2 A3 c3 l3 A4 c4 l4 A5 c5 l5 A6 c6 l6 A7 c7 l7 w r0 m0 r1 m1 r2 m2 r3 m3 r4 m4 r5 m5 r6 m6 r7 m7 (.inl hb)
 | true =>
  by_cases hf : fewB ⟨l6, l7⟩ = true
  ·have q := fewB_len hf z6 z7
   have hs : morphE l0 l1 l2 l3 l4 l5 = 0 → l4.length ≤ 1000 ∧ l5.length ≤ 1000 := fun e => by
    obtain ⟨v0, v1, s0, s1, hn, he⟩ := morph_facts e; obtain ⟨z0, z1, _, _⟩ := validB_facts v0
    omega
   have h1 := img_all l0 l1 l2 l3 l4 l5 hs; have h2 := rimg_ok l0 l1 l2 l3 l4 l5 99999 (by omega); have h3 := pre_ok l0 l1 l2 l3 l4 l5 l6 l7 (by omega) (by omega) 99999 (by omega); have h4 := rpre_ok l0 l1 l2 l3 l4 l5 l6 l7 (by omega) (by omega) 99999 (by omega)
   have g1 : (imgR l0 l1 l2 l3 l4 l5).1.length ≤ 1000 ∧ (imgR l0 l1 l2 l3 l4 l5).2.1.length ≤ 1000 := by
    unfold imgR
    split
    ·rename_i e
     have q4 := Lib.compact_length_le (sortI l4); have q5 := Lib.compact_length_le (sortI l5); have e4 : (sortI l4).length = l4.length := List.length_mergeSort _; have e5 : (sortI l5).length = l5.length := List.length_mergeSort _; have := hs e
     simp only
     omega
    ·exact ⟨by simp, by simp⟩
   have g2 : (preR l0 l1 l2 l3 l4 l5 l6 l7).1.length ≤ 1000 ∧ (preR l0 l1 l2 l3 l4 l5 l6 l7).2.1.length ≤ 1000 := by
    unfold preR
    split
    ·rename_i e
     have := hs e
     split
     ·have := posL_len l6 l4 0
      have := posL_len l7 l5 0
      simp only
      omega
     ·exact ⟨by simp, by simp⟩
    ·exact ⟨by simp, by simp⟩
   generalize imgR l0 l1 l2 l3 l4 l5 = X at h1 h2 g1; generalize preR l0 l1 l2 l3 l4 l5 l6 l7 = Y at h3 h4 g2; obtain ⟨p0, p1, er⟩ := X; obtain ⟨b0, b1, eb⟩ := Y; simp only at g1 g2; exact scarfjointlaw07_SubgraphImage.ok 99999 A0 c0 l0 A1 c1 l1 A2 c2 l2 A3 c3 l3 A4 c4 l4 A5 c5 l5 A6 c6 l6 A7 c7 l7 p0 p1 b0 b1 er eb w r0 m0 r1 m1 r2 m2 r3 m3 r4 m4 r5 m5 r6 m6 r7 m7
    hb (by rw [fewP, hf]) (own_is _ _ (by omega) (by omega)) h1 h2 h3 h4 (by rw [same_ok _ _ _ _ _ (by omega) (by omega) (by omega)]; simp) (by rw [same_ok _ _ _ _ _ (by omega) (by omega) (by omega)]; simp)
  ·simp only [Bool.not_eq_true] at hf
   exact scarfjointlaw07_SubgraphImage.big A0 c0 l0 A1 c1 l1 A2 c2 l2 A3 c3 l3 A4 c4 l4 A5 c5 l5 A6 c6 l6 A7 c7 l7 w r0 m0 r1 m1 r2 m2 r3 m3 r4 m4 r5 m5 r6 m6 r7 m7 (.inr ⟨hb, by rw [fewP, hf]⟩)
end Go.Proofs.Ytonipihlpbaknaa.Print
namespace Go.Proofs.Ytonipihlpbaknaa.subgraphImage
open Go.ChangeShapes Go.WideShapes Go.ChangeAt Go.RowKit Go.Proofs.Ytonipihlpbaknaa.Print
set_option linter.unusedVariables false
theorem own : ownKnob Try.prog.godebug = none := by kernel_rfl
theorem laidOut : laidOutB Try.prog = true := by kernel_rfl
set_option maxRecDepth 100000 in
theorem lifted (os : Os) (started : os.Started) (H : Type) (enc : TypeId × Value → H) :
  ReturnsInHanded {} Try.checked os 9 .any (Rows.subgraphImageSpec.pre6 enc Try.prog Try.f9 Rows.subgraphImageRow.domain false) (Rows.subgraphImageSpec.post enc Try.prog Try.f9 false true false false) := by
 refine returnsInHanded_of_change_sized (C := Try.checked) own started (by kernel_rfl) Try.func9
  (ChangeSpec.witness6 (enc := enc) (C := Try.checked) false ⟨#[], #[.agg #[.slice none 0 0, .slice none 0 0, .slice none 0 0, .slice none 0 0, .slice none 0 0, .slice none 0 0], .agg #[.slice none 0 0, .slice none 0 0]], []⟩ 8 (by kernel_rfl) (by kernel_rfl) (by kernel_rfl) (by kernel_rfl)) ?_
 intro W base args ds gs before hval0 hW hcnd hsz0 _
 have hval : ∀ (j : Nat) t v, Try.f9.params[j]? = some t → args[j]? = some v → Value.okWide Try.prog W .any base t v := hval0
 have hW' := hW; obtain ⟨p, q, hA0, hV, rfl, hfz, hnd⟩ := hW; have hA : DataW.TrodAll enc Try.prog W 0 (fun _ => true) true Try.f9.params.toList args.toList ds p := hA0; rw [Try.params9] at hA hval; obtain ⟨v0, vs0, d0, ds0, p0, q0, hargs, rfl, rfl, h0, r0⟩ := trodAll_cons hA; obtain ⟨v1, vs1, d1, ds1, p1, q1, rfl, rfl, rfl, h1, r1⟩ := trodAll_cons r0; obtain ⟨rfl, rfl, rfl⟩ := trodAll_nil r1
 obtain rfl : args = #[v0, v1] := by cases args; simp_all
 obtain ⟨rfl, rfl⟩ := trodVars_none hV; have k0 := h0
 have lt0 : ∀ x ∈ p0, x.block < W.heap.size := by obtain ⟨m, hm⟩ := k0; exact DataW.trod_lt m _ _ _ hm
 obtain ⟨A0a, c0a, l0a, A0b, c0b, l0b, A0c, c0c, l0c, A0d, c0d, l0d, A0e, c0e, l0e, A0f, c0f, l0f, rfl, ra0, ma0, rb0, mb0, rc0, mc0, rd0, md0, re0, me0, rf0, mf0⟩ := open_arrow (hval 0 63 v0 rfl rfl) h0; have k1 := h1
 have lt1 : ∀ x ∈ p1, x.block < W.heap.size := by obtain ⟨m, hm⟩ := k1; exact DataW.trod_lt m _ _ _ hm
 have hz1 : ∀ n ∈ d1.weights Try.prog 27, n ≤ reachBytes := fun n hn => of_decide_eq_true (List.all_eq_true.1 hsz0 n (DataW.weights_mem_each (j := 1) (t := 27) (d := d1) (by rw [Try.params9]; rfl) rfl n hn))
 obtain ⟨A1a, c1a, l1a, A1b, c1b, l1b, rfl, ra1, ma1, rb1, mb1, za1, zb1⟩ := open_partS (hval 1 27 v1 rfl rfl) h1 hz1; clear hA0 hval0 hsz0
 refine (scarfjointlaw07_SubgraphImage.whole A0a c0a l0a A0b c0b l0b A0c c0c l0c A0d c0d l0d A0e c0e l0e A0f c0f l0f A1a c1a l1a A1b c1b l1b W ra0 ma0 rb0 mb0 rc0 mc0 rd0 md0 re0 me0 rf0 mf0 ra1 ma1 rb1 mb1 za1 zb1).mono fun e W' ⟨he, bel⟩ => ?_
 subst he; exact ⟨_, rfl, _, _, _, [], _, [], hW', trodAll_mk1 (shut_bool Try.underlying4 _), (trodAll_cons_mk (Below.trod laidOut (by kernel_rfl) (of_decide_eq_true (by kernel_rfl)) k0 bel lt0) (trodAll_cons_mk (Below.trod laidOut (by kernel_rfl) (of_decide_eq_true (by kernel_rfl)) k1 bel lt1) trodAll_mk0)), rfl, bel.frame _, fun h => by cases h⟩
theorem over : Rows.subgraphImageRow.holds Try.pinned (OpenSpec.ofChange Rows.subgraphImageSpec) :=
  OpenClaim.holds_of_wide 9 Try.f9 rfl rfl rfl rfl rfl rfl rfl ⟨rfl, rfl, rfl, rfl, rfl⟩ rfl rfl rfl rfl rfl (by kernel_rfl) Try.func9 (by kernel_rfl)
    (of_decide_eq_true (by kernel_rfl)) (by unfold Func.isWrapper; first | (rw [if_pos (by decide +kernel)]; kernel_rfl) | (rw [if_neg (by decide +kernel)]; exact ⟨rfl, rfl⟩))
    (fun os started H enc _ => lifted os started H enc)
theorem proved : Rows.SubgraphImageSaid := over
#print axioms proved
end Go.Proofs.Ytonipihlpbaknaa.subgraphImage
namespace Go.Proofs.Ytonipihlpbaknaa
/-- The row, under a short name, for the claim. -/
theorem subgraphImage_holds : Rows.SubgraphImageSaid := subgraphImage.proved
end Go.Proofs.Ytonipihlpbaknaa

/- A part of the proof that the law returns true at every input; what the walked functions compute. -/
import Derived.Test.YtonipihlpbaknaaZJn0
import Derived.Test.YtonipihlpbaknaaZJn1
import Derived.Test.YtonipihlpbaknaaZJn2
import Derived.Test.YtonipihlpbaknaaZJn3
import Derived.Test.YtonipihlpbaknaaZJn4
import Derived.Test.YtonipihlpbaknaaZJn5
import Derived.Test.YtonipihlpbaknaaZJn6
namespace Go.Proofs.Ytonipihlpbaknaa.Print
set_option linter.unusedVariables false
open Go.RowKit Go.Proofs.YtonipihlpbaknaaW.PrintWords Go.Proofs.YtonipihlpbaknaaW.PrintLast Go.Proofs.YtonipihlpbaknaaW.PrintMore
/-- The length of the first k of two lists; the first k of them joined. -/
def szC (a b : List Int) : Nat → Nat
  | 0 => 0
  | 1 => a.length
  | _ => a.length + b.length
def catC (a b : List Int) : Nat → List Int
  | 0 => []
  | 1 => a
  | _ => a ++ b
set_option maxHeartbeats 2000000 in
/-- slices.Concat of two lists that came in. -/
theorem slices_Concat2.calls (b : Nat) (A2 : Option Addr) (c2 : Nat) (l2 : List Int) (A3 : Option Addr) (c3 : Nat) (l3 : List Int) (w : World) (hb : w.heap[b]? = some (.cells #[.slice A2 l2.length c2, .slice A3 l3.length c3] 22 (0, 0)))
  (r2 : Kd.C (Kd.int .i64) w A2 l2.length l2) (r3 : Kd.C (Kd.int .i64) w A3 l3.length l3) (h2 : l2.length ≤ 1000000) (h3 : l3.length ≤ 1000000) :
  Calls Try.prog 79 #[.slice (some ⟨b, 0, none⟩) 2 2] w fun e w' => ∃ v0_ : Value, e = .returned v0_ ∧ Kd.R (Kd.int .i64) 3 w' w.heap.size (fun _ => True) v0_ (l2 ++ l3) ∧ Below w.heap.size w w' := by
 have HB := Lib.hid hb; have R2 := Lib.hid r2; have R3 := Lib.hid r3; have H2 := Lib.hid h2; have H3 := Lib.hid h3; clear hb r2 r3 h2 h3
 go_enter Try.func79, Try.ntmps79
 go_wp2
 go_loopg [3, 11] 2 (fun gg v3 v11 wr => ∃ k : Nat, k ≤ 2 ∧ 2 - k ≤ gg ∧ v3 = .int .i64 (szC l2 l3 k : Nat) ∧ v11 = .int .i64 (k : Nat) ∧ Aside0 (Below w.heap.size w wr))
 case atStart => exact ⟨0, by omega, by omega, rfl, rfl, ⟨by first | exact Below.refl _ _ | exact below_drew1 (Below.refl _ _)⟩⟩
 case round =>
  obtain ⟨k, hk, hg, rfl, rfl, BW⟩ := hrel; obtain ⟨z0, z1⟩ := cell2 (blk_below HB.out BW.out)
  match k, hk with
  | 0, hk =>
   simp only [szC]; have := H2.out
   go_wp2
   go_roundg 1
   case measure => omega
   case rel => exact ⟨1, by omega, by omega, by first | (simp [szC]; unfold wrap64; omega) | (simp [szC]; done), by first | rfl | (simp; done), ⟨BW.out⟩⟩
  | 1, hk =>
   simp only [szC]; have := H2.out; have := H3.out
   go_wp2
   go_roundg 0
   case measure => omega
   case rel => exact ⟨2, by omega, by omega, by first | (simp [szC]; unfold wrap64; omega) | (simp [szC]; done), by first | rfl | (simp; done), ⟨BW.out⟩⟩
  | 2, hk =>
   obtain ⟨n, hn⟩ : ∃ n, n = szC l2 l3 2 := ⟨_, rfl⟩
   have hn' : n ≤ 17592186044416 := by
    have := H2.out; have := H3.out; simp only [szC] at hn
    omega
   rw [← hn]; clear hn z0 z1; have BL := Lib.hid BW.out; clear BW
   go_wp2_with (first | (go_at_call 106; refine (slices_Grow_nil.calls n hn' _).mono ?_; rintro e w1 ⟨v0, rfl, ho, hb'⟩; have N0 := Lib.hid (Kd.R_lower ho BL.out.size); replace BL := Lib.hid (below_then BL.out BL.out.size hb'); clear ho hb'))
   go_loopg [6, 27] 2 (fun gg v6 v27 wr => ∃ k : Nat, k ≤ 2 ∧ 2 - k ≤ gg ∧ v27 = .int .i64 (k : Nat) ∧ Aside0 (Kd.R (Kd.int .i64) 3 wr w.heap.size (fun _ => True) v6 (catC l2 l3 k)) ∧ Aside0 (Below w.heap.size w wr))
   case atStart => exact ⟨0, by omega, by omega, rfl, ⟨by first | exact N0.out | exact Kd.R_drew N0.out⟩, ⟨by first | exact BL.out | exact below_drew1 BL.out⟩⟩
   case round =>
    clear BL N0; obtain ⟨k, hk, hg, rfl, N1, BL⟩ := hrel; obtain ⟨z0, z1⟩ := cell2 (blk_below HB.out BL.out)
    match k, hk with
    | 0, hk =>
     go_wp2_with (first | ((with_reducible refine gate_builtin (b := .append) (xs := #[.tmp 31, .tmp 32]) rfl ?_); at_builtin; refine Kd.R_append_rows (Kd.int .i64) (w0 := w) w.heap.size rfl (.tmp 31) (.tmp 32) 22 3 (.int .i64 0) 8 rfl Try.underlying22 info3 rfl (by decide) (by omega) _ (catC l2 l3 0) l2 _ _ _ (fun _ => True) (fun _ => False) rfl rfl ?aO ?aR (fun _ _ h => h) (fun _ h => h.elim) ?aF ?aB ?aS ?aL ?_; (case aR => exact Kd.C_below R2.out BL.out); (case aB => exact BL.out); (case aF => exact (fun _ _ => trivial)); (case aO => exact N1.out); (case aS => exact BL.out.size); (case aL => have := H2.out; simp [catC]; omega); intro v2 w2 ho hb hg' hat; have HO2 := Lib.hid ho; have HB2 := Lib.hid hb; clear ho hb hg' hat))
     go_roundg 1
     case measure => omega
     case rel => exact ⟨1, by omega, by omega, by first | rfl | (simp; done), ⟨by simpa [catC] using HO2.out⟩, ⟨HB2.out⟩⟩
    | 1, hk =>
     go_wp2_with (first | ((with_reducible refine gate_builtin (b := .append) (xs := #[.tmp 31, .tmp 32]) rfl ?_); at_builtin; refine Kd.R_append_rows (Kd.int .i64) (w0 := w) w.heap.size rfl (.tmp 31) (.tmp 32) 22 3 (.int .i64 0) 8 rfl Try.underlying22 info3 rfl (by decide) (by omega) _ (catC l2 l3 1) l3 _ _ _ (fun _ => True) (fun _ => False) rfl rfl ?aO ?aR (fun _ _ h => h) (fun _ h => h.elim) ?aF ?aB ?aS ?aL ?_; (case aR => exact Kd.C_below R3.out BL.out); (case aB => exact BL.out); (case aF => exact (fun _ _ => trivial)); (case aO => exact N1.out); (case aS => exact BL.out.size); (case aL => have := H2.out; have := H3.out; simp [catC]; omega); intro v2 w2 ho hb hg' hat; have HO2 := Lib.hid ho; have HB2 := Lib.hid hb; clear ho hb hg' hat))
     go_roundg 0
     case measure => omega
     case rel => exact ⟨2, by omega, by omega, by first | rfl | (simp; done), ⟨by simpa [catC] using HO2.out⟩, ⟨HB2.out⟩⟩
    | 2, hk =>
     go_wp2
     go_ret
     exact ⟨_, rfl, N1.out, BL.out⟩
end Go.Proofs.Ytonipihlpbaknaa.Print
namespace Go.Proofs.Ytonipihlpbaknaa.Print
set_option linter.unusedVariables false
open Go.RowKit Go.Proofs.YtonipihlpbaknaaW.PrintWords Go.Proofs.YtonipihlpbaknaaW.PrintLast Go.Proofs.YtonipihlpbaknaaW.PrintMore
/-- A slice of given elements, as one step of a region that draws. -/
theorem lit_step {P : Program} {ops : Array Oper} {o : Oper} {a : Act} {Kc : Act → World → Prop} {Q : Exit → Act → World → Prop} {W : World} (hw : Region.wanted o (yielded ops a.tmps) = true) {N : Tmp} (_hd : o.dst = some N) {cs : Array Value} {t : TypeId} {m : Nat}
    (hrun : (execOp a.eval o).run P W = .ok (.value (.slice (some ⟨W.heap.size, 0, none⟩) m m)) (W.alloc (.cells cs t (0, 0))))
    (h : ∀ g, g = W.heap.size → ∀ w1, w1.heap[g]? = some (.cells cs t (0, 0)) → Below W.heap.size W w1 → Kc (a.put o.dst (.slice (some ⟨g, 0, none⟩) m m)) w1) :
    if Region.wanted o (yielded ops a.tmps) = true then Oper.wp P o a W Kc Q else Kc (a.put o.dst undef) W :=
  event_step hw hrun (h _ rfl _ (blk_new W _) (below_alloc (Below.refl _ _) _))
/-- sorted of a row of one's own: all else is kept. -/
theorem sorted_kept (w0 w : World) (v : Value) (l : List Int) (hB : Below w0.heap.size w0 w) (ho : Kd.R (Kd.int .i64) 3 w w0.heap.size (fun _ => True) v l) (hl : l.length < 17592186044416) :
    Calls Try.prog 57 #[v] w fun e w' => ∃ v0_ : Value, e = .returned v0_ ∧ Kd.R (Kd.int .i64) 3 w' w0.heap.size (fun k_ => some k_ = v.ownBlock ∨ w.heap.size ≤ k_) v0_ (Lib.compact (sortI l)) ∧ Below w0.heap.size w0 w' ∧ Kept w w' (fun k_ => some k_ = v.ownBlock) :=
  subgraph_sorted.calls (fun k_ => some k_ = v.ownBlock) v l _ w0 w hB (Kd.R_of_own (Kd.own_of_R ho) (fun k hk => hk.symm)) (if_pos hl)
end Go.Proofs.Ytonipihlpbaknaa.Print
namespace Go.Proofs.Ytonipihlpbaknaa.Print
open Go.RowKit Go.Proofs.YtonipihlpbaknaaW.PrintWords Go.Proofs.YtonipihlpbaknaaW.PrintLast Go.Proofs.YtonipihlpbaknaaW.PrintMore
attribute [local go_sem] max2_int min2_int max_two min_two max_three min_three max_four min_four   -- for this text's walks alone
set_option linter.unusedVariables false
set_option linter.unusedSimpArgs false
def subgraph_both.f (k : Nat) (l0_0 : List Int) (l0_1 : List (S78)) (l1_0 : List Int) (l1_1 : List Int) (l2_0 : List Int) (l2_1 : List Int) : Option (Int) := (subgraph_Valid.f k l0_0 l0_1 l1_0 l1_1).bind fun t104 => (if t104 = 0 then ((subgraph_part.f k l0_0 l0_1 l2_0 l2_1).bind fun t105 => (some t105)) else (some t104))
set_option maxHeartbeats 8000000 in
set_option maxRecDepth 100000 in
theorem subgraph_both.calls (k : Nat) (A0_0 : Option Addr) (c0_0 : Nat) (l0_0 : List Int) (A0_1 : Option Addr) (c0_1 : Nat) (l0_1 : List (S78)) (A1_0 : Option Addr) (c1_0 : Nat) (l1_0 : List Int) (A1_1 : Option Addr) (c1_1 : Nat) (l1_1 : List Int) (A2_0 : Option Addr) (c2_0 : Nat) (l2_0 : List Int) (A2_1 : Option Addr) (c2_1 : Nat) (l2_1 : List Int) (r : Int) (w : World) (hr0_0 : Kd.C (Kd.int .i64) w A0_0 l0_0.length l0_0) (hc0_0 : l0_0.length ≤ c0_0) (hr0_1 : Kd.C k78 w A0_1 l0_1.length l0_1) (hc0_1 : l0_1.length ≤ c0_1) (hr1_0 : Kd.C (Kd.int .i64) w A1_0 l1_0.length l1_0) (hc1_0 : l1_0.length ≤ c1_0) (hr1_1 : Kd.C (Kd.int .i64) w A1_1 l1_1.length l1_1) (hc1_1 : l1_1.length ≤ c1_1) (hr2_0 : Kd.C (Kd.int .i64) w A2_0 l2_0.length l2_0) (hc2_0 : l2_0.length ≤ c2_0) (hr2_1 : Kd.C (Kd.int .i64) w A2_1 l2_1.length l2_1) (hc2_1 : l2_1.length ≤ c2_1) (h : subgraph_both.f k l0_0 l0_1 l1_0 l1_1 l2_0 l2_1 = some r) :
  Calls Try.prog 78 #[.agg #[.slice A0_0 l0_0.length c0_0, .slice A0_1 l0_1.length c0_1], .agg #[.slice A1_0 l1_0.length c1_0, .slice A1_1 l1_1.length c1_1], .agg #[.slice A2_0 l2_0.length c2_0, .slice A2_1 l2_1.length c2_1]] w fun e w' => e = .returned (.int .i64 r) ∧ Below w.heap.size w w' := by
 have hu25 := Try.underlying25; have hu27 := Try.underlying27; have HR0_0 := Aside0.mk hr0_0; have HC0_0 := Aside0.mk hc0_0; clear hr0_0 hc0_0; have HR0_1 := Aside0.mk hr0_1; have HC0_1 := Aside0.mk hc0_1; clear hr0_1 hc0_1; have HR1_0 := Aside0.mk hr1_0; have HC1_0 := Aside0.mk hc1_0; clear hr1_0 hc1_0; have HR1_1 := Aside0.mk hr1_1; have HC1_1 := Aside0.mk hc1_1; clear hr1_1 hc1_1; have HR2_0 := Aside0.mk hr2_0; have HC2_0 := Aside0.mk hc2_0; clear hr2_0 hc2_0; have HR2_1 := Aside0.mk hr2_1; have HC2_1 := Aside0.mk hc2_1; clear hr2_1 hc2_1; have HB := Aside0.mk (Below.refl w.heap.size w); have H : ((subgraph_Valid.f k l0_0 l0_1 l1_0 l1_1).bind fun t104 => (if t104 = 0 then ((subgraph_part.f k l0_0 l0_1 l2_0 l2_1).bind fun t105 => (some t105)) else (some t104))) = some r := h; clear h; replace H := Option.bind_eq_some_iff.mp H; obtain ⟨t104, A40, H⟩ := H; replace H : (if t104 = 0 then ((subgraph_part.f k l0_0 l0_1 l2_0 l2_1).bind fun t105 => (some t105)) else (some t104)) = some r := H; have A4 := Aside0.mk A40; clear A40
 by_cases c5 : t104 = 0
 ·rw [if_pos c5] at H
  have c5b0 : (t104 == 0) = true := beq_iff_eq.mpr c5; have c5b1 : (t104 != 0) = false := bne_eq_false_iff_eq.mpr c5; clear c5; replace H := Option.bind_eq_some_iff.mp H; obtain ⟨t105, A60, H⟩ := H; replace H : (some t105) = some r := H; have A6 := Aside0.mk A60; clear A60; obtain rfl := Option.some.inj H
  go_enter Try.func78, Try.ntmps78
  go_wp2_with (first | ((with_reducible refine gate_dst (N := 3) rfl ?_); refine box_event ?hg (N := 3) ?hd (cs := #[.slice A0_0 l0_0.length c0_0, .slice A0_1 l0_1.length c0_1]) (t := 25) ?hr ?_; (case hd => rfl); (case hg => rfl); (case hr => first | (go_simp; done) | (go_simp; rfl)); intro gb101 hg w7 hbox hb; have n0_ := Aside0.mk (below_step (by repeat (first | (with_reducible first | exact HB.out | apply lA_ | apply lN_ | apply lD_) | exact HB.out)) hb); have n1_ := Aside0.mk (hbox); have n2_ := Aside0.mk ((by rw [hg]; exact (below_size (by repeat (first | (with_reducible first | exact HB.out | apply lA_ | apply lN_ | apply lD_) | exact HB.out))) : w.heap.size ≤ gb101)); have n3_ := Aside0.mk ((by rw [hg]; exact (below_size (by repeat (first | (with_reducible first | exact HB.out | apply lA_ | apply lN_ | apply lD_) | exact HB.out))) : w.heap.size ≤ gb101)); clear HB; have HB := n0_; have BK101 := n1_; have GW101 := n2_; have GE101 := n3_; clear n0_ n1_ n2_ n3_; clear hb hbox hg) | ((with_reducible refine gate_dst (N := 4) rfl ?_); refine box_event ?hg (N := 4) ?hd (cs := #[.slice A1_0 l1_0.length c1_0, .slice A1_1 l1_1.length c1_1]) (t := 27) ?hr ?_; (case hd => rfl); (case hg => rfl); (case hr => first | (go_simp; done) | (go_simp; rfl)); intro gb102 hg w8 hbox hb; have n0_ := Aside0.mk (blk_below (g := gb101) (o := .cells #[.slice A0_0 l0_0.length c0_0, .slice A0_1 l0_1.length c0_1] 25 (0, 0)) (by (with_reducible repeat first | refine bN_ ?_ _ | refine bD_ ?_ | refine bA_ ?_ _); exact BK101.out) hb); have n1_ := Aside0.mk (below_step (by repeat (first | (with_reducible first | exact HB.out | apply lA_ | apply lN_ | apply lD_ | refine below_set ?_ GE101.out) | exact HB.out)) hb); have n2_ := Aside0.mk (hbox); have n3_ := Aside0.mk ((by rw [hg]; exact (below_size (by repeat (first | (with_reducible first | exact HB.out | apply lA_ | apply lN_ | apply lD_ | refine below_set ?_ GE101.out) | exact HB.out))) : w.heap.size ≤ gb102)); have n4_ := Aside0.mk ((by rw [hg]; exact (below_size (by repeat (first | (with_reducible first | exact HB.out | apply lA_ | apply lN_ | apply lD_ | refine below_set ?_ GE101.out) | exact HB.out))) : w.heap.size ≤ gb102)); have n5_ := Aside0.mk ((by rw [hg]; exact Nat.ne_of_lt (blk_lt (g := gb101) (o := .cells #[.slice A0_0 l0_0.length c0_0, .slice A0_1 l0_1.length c0_1] 25 (0, 0)) (by (with_reducible repeat first | refine bN_ ?_ _ | refine bD_ ?_ | refine bA_ ?_ _); exact BK101.out)) : gb101 ≠ gb102)); have n6_ := Aside0.mk ((by rw [hg]; exact Nat.ne_of_gt (blk_lt (g := gb101) (o := .cells #[.slice A0_0 l0_0.length c0_0, .slice A0_1 l0_1.length c0_1] 25 (0, 0)) (by (with_reducible repeat first | refine bN_ ?_ _ | refine bD_ ?_ | refine bA_ ?_ _); exact BK101.out)) : gb102 ≠ gb101)); clear BK101; clear HB; have BK101 := n0_; have HB := n1_; have BK102 := n2_; have GW102 := n3_; have GE102 := n4_; have NB101_102 := n5_; have NB102_101 := n6_; clear n0_ n1_ n2_ n3_ n4_ n5_ n6_; clear hb hbox hg) | ((with_reducible refine gate_dst (N := 5) rfl ?_); refine box_event ?hg (N := 5) ?hd (cs := #[.slice A2_0 l2_0.length c2_0, .slice A2_1 l2_1.length c2_1]) (t := 27) ?hr ?_; (case hd => rfl); (case hg => rfl); (case hr => first | (go_simp; done) | (go_simp; rfl)); intro gb103 hg w9 hbox hb; have n0_ := Aside0.mk (blk_below (g := gb101) (o := .cells #[.slice A0_0 l0_0.length c0_0, .slice A0_1 l0_1.length c0_1] 25 (0, 0)) (by (with_reducible repeat first | refine bN_ ?_ _ | refine bD_ ?_ | refine bA_ ?_ _); exact BK101.out) hb); have n1_ := Aside0.mk (blk_below (g := gb102) (o := .cells #[.slice A1_0 l1_0.length c1_0, .slice A1_1 l1_1.length c1_1] 27 (0, 0)) (by (with_reducible repeat first | refine bN_ ?_ _ | refine bD_ ?_ | refine bA_ ?_ _); exact BK102.out) hb); have n2_ := Aside0.mk (below_step (by repeat (first | (with_reducible first | exact HB.out | apply lA_ | apply lN_ | apply lD_ | refine below_set ?_ GE101.out | refine below_set ?_ GE102.out) | exact HB.out)) hb); have n3_ := Aside0.mk (hbox); have n4_ := Aside0.mk ((by rw [hg]; exact (below_size (by repeat (first | (with_reducible first | exact HB.out | apply lA_ | apply lN_ | apply lD_ | refine below_set ?_ GE101.out | refine below_set ?_ GE102.out) | exact HB.out))) : w.heap.size ≤ gb103)); have n5_ := Aside0.mk ((by rw [hg]; exact (below_size (by repeat (first | (with_reducible first | exact HB.out | apply lA_ | apply lN_ | apply lD_ | refine below_set ?_ GE101.out | refine below_set ?_ GE102.out) | exact HB.out))) : w.heap.size ≤ gb103)); have n6_ := Aside0.mk ((by rw [hg]; exact Nat.ne_of_lt (blk_lt (g := gb101) (o := .cells #[.slice A0_0 l0_0.length c0_0, .slice A0_1 l0_1.length c0_1] 25 (0, 0)) (by (with_reducible repeat first | refine bN_ ?_ _ | refine bD_ ?_ | refine bA_ ?_ _); exact BK101.out)) : gb101 ≠ gb103)); have n7_ := Aside0.mk ((by rw [hg]; exact Nat.ne_of_gt (blk_lt (g := gb101) (o := .cells #[.slice A0_0 l0_0.length c0_0, .slice A0_1 l0_1.length c0_1] 25 (0, 0)) (by (with_reducible repeat first | refine bN_ ?_ _ | refine bD_ ?_ | refine bA_ ?_ _); exact BK101.out)) : gb103 ≠ gb101)); have n8_ := Aside0.mk ((by rw [hg]; exact Nat.ne_of_lt (blk_lt (g := gb102) (o := .cells #[.slice A1_0 l1_0.length c1_0, .slice A1_1 l1_1.length c1_1] 27 (0, 0)) (by (with_reducible repeat first | refine bN_ ?_ _ | refine bD_ ?_ | refine bA_ ?_ _); exact BK102.out)) : gb102 ≠ gb103)); have n9_ := Aside0.mk ((by rw [hg]; exact Nat.ne_of_gt (blk_lt (g := gb102) (o := .cells #[.slice A1_0 l1_0.length c1_0, .slice A1_1 l1_1.length c1_1] 27 (0, 0)) (by (with_reducible repeat first | refine bN_ ?_ _ | refine bD_ ?_ | refine bA_ ?_ _); exact BK102.out)) : gb103 ≠ gb102)); clear BK101; clear BK102; clear HB; have BK101 := n0_; have BK102 := n1_; have HB := n2_; have BK103 := n3_; have GW103 := n4_; have GE103 := n5_; have NB101_103 := n6_; have NB103_101 := n7_; have NB102_103 := n8_; have NB103_102 := n9_; clear n0_ n1_ n2_ n3_ n4_ n5_ n6_ n7_ n8_ n9_; clear hb hbox hg; have hnb10 := NB101_102.out; have hnc10 := NB102_101.out; have hnb11 := NB101_103.out; have hnc11 := NB103_101.out; have hcz12_0 : w9.cell? ⟨gb101, 0, none⟩ = some (.slice A0_0 l0_0.length c0_0) := (blk_cell BK101.out 0).trans rfl; have hcz12_1 : w9.cell? ⟨gb101, 1, none⟩ = some (.slice A0_1 l0_1.length c0_1) := (blk_cell BK101.out 1).trans rfl; have hfz12_0 := blk_frozen BK101.out 0; have hfz12_1 := blk_frozen BK101.out 1; have hnb13 := NB102_103.out; have hnc13 := NB103_102.out; have hcz14_0 : w9.cell? ⟨gb102, 0, none⟩ = some (.slice A1_0 l1_0.length c1_0) := (blk_cell BK102.out 0).trans rfl; have hcz14_1 : w9.cell? ⟨gb102, 1, none⟩ = some (.slice A1_1 l1_1.length c1_1) := (blk_cell BK102.out 1).trans rfl; have hfz14_0 := blk_frozen BK102.out 0; have hfz14_1 := blk_frozen BK102.out 1) | ((with_reducible refine gate_callee (f := 27) rfl ?_); refine goesL_ (some 10) rfl rfl Try.func27 (by kernel_rfl) rfl #[.agg #[.slice A0_0 l0_0.length c0_0, .slice A0_1 l0_1.length c0_1], .agg #[.slice A1_0 l1_0.length c1_0, .slice A1_1 l1_1.length c1_1]] rfl (by (try simp only [List.map_toArray, List.map_cons, List.map_nil]); first | done | rfl | (simp only [List.length_drop, List.length_take]; rfl)) ?_; (with_reducible refine (subgraph_Valid.calls k _ _ l0_0 _ _ l0_1 _ _ l1_0 _ _ l1_1 t104 _ ?side1 ?side2 ?side3 ?side4 ?side5 ?side6 ?side7 ?side8 A4.out).mono ?_); (case side1 => repeat (first | exact (Kd.C_below HR0_0.out HB.out) | (with_reducible refine Kd.C_alloc ?_ _) | (with_reducible refine Kd.C_drewN ?_ _) | (with_reducible refine Kd.C_drew ?_))); (case side2 => exact HC0_0.out); (case side3 => repeat (first | exact (Kd.C_below HR0_1.out HB.out) | (with_reducible refine Kd.C_alloc ?_ _) | (with_reducible refine Kd.C_drewN ?_ _) | (with_reducible refine Kd.C_drew ?_))); (case side4 => exact HC0_1.out); (case side5 => repeat (first | exact (Kd.C_below HR1_0.out HB.out) | (with_reducible refine Kd.C_alloc ?_ _) | (with_reducible refine Kd.C_drewN ?_ _) | (with_reducible refine Kd.C_drew ?_))); (case side6 => exact HC1_0.out); (case side7 => repeat (first | exact (Kd.C_below HR1_1.out HB.out) | (with_reducible refine Kd.C_alloc ?_ _) | (with_reducible refine Kd.C_drewN ?_ _) | (with_reducible refine Kd.C_drew ?_))); (case side8 => exact HC1_1.out); rintro e w15 ⟨rfl, hb⟩; refine ⟨_, rfl, ?_⟩; have n0_ := Aside0.mk (blk_below (g := gb101) (o := .cells #[.slice A0_0 l0_0.length c0_0, .slice A0_1 l0_1.length c0_1] 25 (0, 0)) (by (with_reducible repeat first | refine bN_ ?_ _ | refine bD_ ?_ | refine bA_ ?_ _); exact BK101.out) hb); have n1_ := Aside0.mk (blk_below (g := gb102) (o := .cells #[.slice A1_0 l1_0.length c1_0, .slice A1_1 l1_1.length c1_1] 27 (0, 0)) (by (with_reducible repeat first | refine bN_ ?_ _ | refine bD_ ?_ | refine bA_ ?_ _); exact BK102.out) hb); have n2_ := Aside0.mk (blk_below (g := gb103) (o := .cells #[.slice A2_0 l2_0.length c2_0, .slice A2_1 l2_1.length c2_1] 27 (0, 0)) (by (with_reducible repeat first | refine bN_ ?_ _ | refine bD_ ?_ | refine bA_ ?_ _); exact BK103.out) hb); have n3_ := Aside0.mk (below_step (by repeat (first | (with_reducible first | exact HB.out | apply lA_ | apply lN_ | apply lD_ | refine below_set ?_ GE101.out | refine below_set ?_ GE102.out | refine below_set ?_ GE103.out) | exact HB.out)) hb); clear BK101; clear BK102; clear BK103; clear HB; have BK101 := n0_; have BK102 := n1_; have BK103 := n2_; have HB := n3_; clear n0_ n1_ n2_ n3_; (try clear hb); (try clear hb2); (try clear hk); (try clear hi); have hcz16_0 : w15.cell? ⟨gb101, 0, none⟩ = some (.slice A0_0 l0_0.length c0_0) := (blk_cell BK101.out 0).trans rfl; have hcz16_1 : w15.cell? ⟨gb101, 1, none⟩ = some (.slice A0_1 l0_1.length c0_1) := (blk_cell BK101.out 1).trans rfl; have hfz16_0 := blk_frozen BK101.out 0; have hfz16_1 := blk_frozen BK101.out 1; have hcz17_0 : w15.cell? ⟨gb103, 0, none⟩ = some (.slice A2_0 l2_0.length c2_0) := (blk_cell BK103.out 0).trans rfl; have hcz17_1 : w15.cell? ⟨gb103, 1, none⟩ = some (.slice A2_1 l2_1.length c2_1) := (blk_cell BK103.out 1).trans rfl; have hfz17_0 := blk_frozen BK103.out 0; have hfz17_1 := blk_frozen BK103.out 1) | ((with_reducible refine gate_callee (f := 68) rfl ?_); refine goesL_ (some 16) rfl rfl Try.func68 (by kernel_rfl) rfl #[.agg #[.slice A0_0 l0_0.length c0_0, .slice A0_1 l0_1.length c0_1], .agg #[.slice A2_0 l2_0.length c2_0, .slice A2_1 l2_1.length c2_1]] rfl (by (try simp only [List.map_toArray, List.map_cons, List.map_nil]); first | done | rfl | (simp only [List.length_drop, List.length_take]; rfl)) ?_; (with_reducible refine (subgraph_part.calls k _ _ l0_0 _ _ l0_1 _ _ l2_0 _ _ l2_1 t105 _ ?side1 ?side2 ?side3 ?side4 ?side5 ?side6 ?side7 ?side8 A6.out).mono ?_); (case side1 => repeat (first | exact (Kd.C_below HR0_0.out HB.out) | (with_reducible refine Kd.C_alloc ?_ _) | (with_reducible refine Kd.C_drewN ?_ _) | (with_reducible refine Kd.C_drew ?_))); (case side2 => exact HC0_0.out); (case side3 => repeat (first | exact (Kd.C_below HR0_1.out HB.out) | (with_reducible refine Kd.C_alloc ?_ _) | (with_reducible refine Kd.C_drewN ?_ _) | (with_reducible refine Kd.C_drew ?_))); (case side4 => exact HC0_1.out); (case side5 => repeat (first | exact (Kd.C_below HR2_0.out HB.out) | (with_reducible refine Kd.C_alloc ?_ _) | (with_reducible refine Kd.C_drewN ?_ _) | (with_reducible refine Kd.C_drew ?_))); (case side6 => exact HC2_0.out); (case side7 => repeat (first | exact (Kd.C_below HR2_1.out HB.out) | (with_reducible refine Kd.C_alloc ?_ _) | (with_reducible refine Kd.C_drewN ?_ _) | (with_reducible refine Kd.C_drew ?_))); (case side8 => exact HC2_1.out); rintro e w18 ⟨rfl, hb⟩; refine ⟨_, rfl, ?_⟩; have n0_ := Aside0.mk (blk_below (g := gb101) (o := .cells #[.slice A0_0 l0_0.length c0_0, .slice A0_1 l0_1.length c0_1] 25 (0, 0)) (by (with_reducible repeat first | refine bN_ ?_ _ | refine bD_ ?_ | refine bA_ ?_ _); exact BK101.out) hb); have n1_ := Aside0.mk (blk_below (g := gb102) (o := .cells #[.slice A1_0 l1_0.length c1_0, .slice A1_1 l1_1.length c1_1] 27 (0, 0)) (by (with_reducible repeat first | refine bN_ ?_ _ | refine bD_ ?_ | refine bA_ ?_ _); exact BK102.out) hb); have n2_ := Aside0.mk (blk_below (g := gb103) (o := .cells #[.slice A2_0 l2_0.length c2_0, .slice A2_1 l2_1.length c2_1] 27 (0, 0)) (by (with_reducible repeat first | refine bN_ ?_ _ | refine bD_ ?_ | refine bA_ ?_ _); exact BK103.out) hb); have n3_ := Aside0.mk (below_step (by repeat (first | (with_reducible first | exact HB.out | apply lA_ | apply lN_ | apply lD_ | refine below_set ?_ GE101.out | refine below_set ?_ GE102.out | refine below_set ?_ GE103.out) | exact HB.out)) hb); clear BK101; clear BK102; clear BK103; clear HB; have BK101 := n0_; have BK102 := n1_; have BK103 := n2_; have HB := n3_; clear n0_ n1_ n2_ n3_; (try clear hb); (try clear hb2); (try clear hk); (try clear hi)))
  go_ret
  exact ⟨by first | rfl | (simp [errW_none, errW_some] <;> rfl) | (simp [*, errW_none, errW_some] <;> rfl), by repeat (first | (with_reducible first | exact HB.out | apply lA_ | apply lN_ | apply lD_ | refine below_set ?_ GE101.out | refine below_set ?_ GE102.out | refine below_set ?_ GE103.out) | exact HB.out)⟩
 ·rw [if_neg c5] at H
  have c5b0 : (t104 == 0) = false := beq_eq_false_iff_ne.mpr c5; have c5b1 : (t104 != 0) = true := bne_iff_ne.mpr c5; obtain rfl := Option.some.inj H
  go_enter Try.func78, Try.ntmps78
  go_wp2_with (first | ((with_reducible refine gate_dst (N := 3) rfl ?_); refine box_event ?hg (N := 3) ?hd (cs := #[.slice A0_0 l0_0.length c0_0, .slice A0_1 l0_1.length c0_1]) (t := 25) ?hr ?_; (case hd => rfl); (case hg => rfl); (case hr => first | (go_simp; done) | (go_simp; rfl)); intro gb101 hg w19 hbox hb; have n0_ := Aside0.mk (below_step (by repeat (first | (with_reducible first | exact HB.out | apply lA_ | apply lN_ | apply lD_) | exact HB.out)) hb); have n1_ := Aside0.mk (hbox); have n2_ := Aside0.mk ((by rw [hg]; exact (below_size (by repeat (first | (with_reducible first | exact HB.out | apply lA_ | apply lN_ | apply lD_) | exact HB.out))) : w.heap.size ≤ gb101)); have n3_ := Aside0.mk ((by rw [hg]; exact (below_size (by repeat (first | (with_reducible first | exact HB.out | apply lA_ | apply lN_ | apply lD_) | exact HB.out))) : w.heap.size ≤ gb101)); clear HB; have HB := n0_; have BK101 := n1_; have GW101 := n2_; have GE101 := n3_; clear n0_ n1_ n2_ n3_; clear hb hbox hg) | ((with_reducible refine gate_dst (N := 4) rfl ?_); refine box_event ?hg (N := 4) ?hd (cs := #[.slice A1_0 l1_0.length c1_0, .slice A1_1 l1_1.length c1_1]) (t := 27) ?hr ?_; (case hd => rfl); (case hg => rfl); (case hr => first | (go_simp; done) | (go_simp; rfl)); intro gb102 hg w20 hbox hb; have n0_ := Aside0.mk (blk_below (g := gb101) (o := .cells #[.slice A0_0 l0_0.length c0_0, .slice A0_1 l0_1.length c0_1] 25 (0, 0)) (by (with_reducible repeat first | refine bN_ ?_ _ | refine bD_ ?_ | refine bA_ ?_ _); exact BK101.out) hb); have n1_ := Aside0.mk (below_step (by repeat (first | (with_reducible first | exact HB.out | apply lA_ | apply lN_ | apply lD_ | refine below_set ?_ GE101.out) | exact HB.out)) hb); have n2_ := Aside0.mk (hbox); have n3_ := Aside0.mk ((by rw [hg]; exact (below_size (by repeat (first | (with_reducible first | exact HB.out | apply lA_ | apply lN_ | apply lD_ | refine below_set ?_ GE101.out) | exact HB.out))) : w.heap.size ≤ gb102)); have n4_ := Aside0.mk ((by rw [hg]; exact (below_size (by repeat (first | (with_reducible first | exact HB.out | apply lA_ | apply lN_ | apply lD_ | refine below_set ?_ GE101.out) | exact HB.out))) : w.heap.size ≤ gb102)); have n5_ := Aside0.mk ((by rw [hg]; exact Nat.ne_of_lt (blk_lt (g := gb101) (o := .cells #[.slice A0_0 l0_0.length c0_0, .slice A0_1 l0_1.length c0_1] 25 (0, 0)) (by (with_reducible repeat first | refine bN_ ?_ _ | refine bD_ ?_ | refine bA_ ?_ _); exact BK101.out)) : gb101 ≠ gb102)); have n6_ := Aside0.mk ((by rw [hg]; exact Nat.ne_of_gt (blk_lt (g := gb101) (o := .cells #[.slice A0_0 l0_0.length c0_0, .slice A0_1 l0_1.length c0_1] 25 (0, 0)) (by (with_reducible repeat first | refine bN_ ?_ _ | refine bD_ ?_ | refine bA_ ?_ _); exact BK101.out)) : gb102 ≠ gb101)); clear BK101; clear HB; have BK101 := n0_; have HB := n1_; have BK102 := n2_; have GW102 := n3_; have GE102 := n4_; have NB101_102 := n5_; have NB102_101 := n6_; clear n0_ n1_ n2_ n3_ n4_ n5_ n6_; clear hb hbox hg) | ((with_reducible refine gate_dst (N := 5) rfl ?_); refine box_event ?hg (N := 5) ?hd (cs := #[.slice A2_0 l2_0.length c2_0, .slice A2_1 l2_1.length c2_1]) (t := 27) ?hr ?_; (case hd => rfl); (case hg => rfl); (case hr => first | (go_simp; done) | (go_simp; rfl)); intro gb103 hg w21 hbox hb; have n0_ := Aside0.mk (blk_below (g := gb101) (o := .cells #[.slice A0_0 l0_0.length c0_0, .slice A0_1 l0_1.length c0_1] 25 (0, 0)) (by (with_reducible repeat first | refine bN_ ?_ _ | refine bD_ ?_ | refine bA_ ?_ _); exact BK101.out) hb); have n1_ := Aside0.mk (blk_below (g := gb102) (o := .cells #[.slice A1_0 l1_0.length c1_0, .slice A1_1 l1_1.length c1_1] 27 (0, 0)) (by (with_reducible repeat first | refine bN_ ?_ _ | refine bD_ ?_ | refine bA_ ?_ _); exact BK102.out) hb); have n2_ := Aside0.mk (below_step (by repeat (first | (with_reducible first | exact HB.out | apply lA_ | apply lN_ | apply lD_ | refine below_set ?_ GE101.out | refine below_set ?_ GE102.out) | exact HB.out)) hb); have n3_ := Aside0.mk (hbox); have n4_ := Aside0.mk ((by rw [hg]; exact (below_size (by repeat (first | (with_reducible first | exact HB.out | apply lA_ | apply lN_ | apply lD_ | refine below_set ?_ GE101.out | refine below_set ?_ GE102.out) | exact HB.out))) : w.heap.size ≤ gb103)); have n5_ := Aside0.mk ((by rw [hg]; exact (below_size (by repeat (first | (with_reducible first | exact HB.out | apply lA_ | apply lN_ | apply lD_ | refine below_set ?_ GE101.out | refine below_set ?_ GE102.out) | exact HB.out))) : w.heap.size ≤ gb103)); have n6_ := Aside0.mk ((by rw [hg]; exact Nat.ne_of_lt (blk_lt (g := gb101) (o := .cells #[.slice A0_0 l0_0.length c0_0, .slice A0_1 l0_1.length c0_1] 25 (0, 0)) (by (with_reducible repeat first | refine bN_ ?_ _ | refine bD_ ?_ | refine bA_ ?_ _); exact BK101.out)) : gb101 ≠ gb103)); have n7_ := Aside0.mk ((by rw [hg]; exact Nat.ne_of_gt (blk_lt (g := gb101) (o := .cells #[.slice A0_0 l0_0.length c0_0, .slice A0_1 l0_1.length c0_1] 25 (0, 0)) (by (with_reducible repeat first | refine bN_ ?_ _ | refine bD_ ?_ | refine bA_ ?_ _); exact BK101.out)) : gb103 ≠ gb101)); have n8_ := Aside0.mk ((by rw [hg]; exact Nat.ne_of_lt (blk_lt (g := gb102) (o := .cells #[.slice A1_0 l1_0.length c1_0, .slice A1_1 l1_1.length c1_1] 27 (0, 0)) (by (with_reducible repeat first | refine bN_ ?_ _ | refine bD_ ?_ | refine bA_ ?_ _); exact BK102.out)) : gb102 ≠ gb103)); have n9_ := Aside0.mk ((by rw [hg]; exact Nat.ne_of_gt (blk_lt (g := gb102) (o := .cells #[.slice A1_0 l1_0.length c1_0, .slice A1_1 l1_1.length c1_1] 27 (0, 0)) (by (with_reducible repeat first | refine bN_ ?_ _ | refine bD_ ?_ | refine bA_ ?_ _); exact BK102.out)) : gb103 ≠ gb102)); clear BK101; clear BK102; clear HB; have BK101 := n0_; have BK102 := n1_; have HB := n2_; have BK103 := n3_; have GW103 := n4_; have GE103 := n5_; have NB101_103 := n6_; have NB103_101 := n7_; have NB102_103 := n8_; have NB103_102 := n9_; clear n0_ n1_ n2_ n3_ n4_ n5_ n6_ n7_ n8_ n9_; clear hb hbox hg; have hnb22 := NB101_102.out; have hnc22 := NB102_101.out; have hnb23 := NB101_103.out; have hnc23 := NB103_101.out; have hcz24_0 : w21.cell? ⟨gb101, 0, none⟩ = some (.slice A0_0 l0_0.length c0_0) := (blk_cell BK101.out 0).trans rfl; have hcz24_1 : w21.cell? ⟨gb101, 1, none⟩ = some (.slice A0_1 l0_1.length c0_1) := (blk_cell BK101.out 1).trans rfl; have hfz24_0 := blk_frozen BK101.out 0; have hfz24_1 := blk_frozen BK101.out 1; have hnb25 := NB102_103.out; have hnc25 := NB103_102.out; have hcz26_0 : w21.cell? ⟨gb102, 0, none⟩ = some (.slice A1_0 l1_0.length c1_0) := (blk_cell BK102.out 0).trans rfl; have hcz26_1 : w21.cell? ⟨gb102, 1, none⟩ = some (.slice A1_1 l1_1.length c1_1) := (blk_cell BK102.out 1).trans rfl; have hfz26_0 := blk_frozen BK102.out 0; have hfz26_1 := blk_frozen BK102.out 1) | ((with_reducible refine gate_callee (f := 27) rfl ?_); refine goesL_ (some 10) rfl rfl Try.func27 (by kernel_rfl) rfl #[.agg #[.slice A0_0 l0_0.length c0_0, .slice A0_1 l0_1.length c0_1], .agg #[.slice A1_0 l1_0.length c1_0, .slice A1_1 l1_1.length c1_1]] rfl (by (try simp only [List.map_toArray, List.map_cons, List.map_nil]); first | done | rfl | (simp only [List.length_drop, List.length_take]; rfl)) ?_; (with_reducible refine (subgraph_Valid.calls k _ _ l0_0 _ _ l0_1 _ _ l1_0 _ _ l1_1 t104 _ ?side1 ?side2 ?side3 ?side4 ?side5 ?side6 ?side7 ?side8 A4.out).mono ?_); (case side1 => repeat (first | exact (Kd.C_below HR0_0.out HB.out) | (with_reducible refine Kd.C_alloc ?_ _) | (with_reducible refine Kd.C_drewN ?_ _) | (with_reducible refine Kd.C_drew ?_))); (case side2 => exact HC0_0.out); (case side3 => repeat (first | exact (Kd.C_below HR0_1.out HB.out) | (with_reducible refine Kd.C_alloc ?_ _) | (with_reducible refine Kd.C_drewN ?_ _) | (with_reducible refine Kd.C_drew ?_))); (case side4 => exact HC0_1.out); (case side5 => repeat (first | exact (Kd.C_below HR1_0.out HB.out) | (with_reducible refine Kd.C_alloc ?_ _) | (with_reducible refine Kd.C_drewN ?_ _) | (with_reducible refine Kd.C_drew ?_))); (case side6 => exact HC1_0.out); (case side7 => repeat (first | exact (Kd.C_below HR1_1.out HB.out) | (with_reducible refine Kd.C_alloc ?_ _) | (with_reducible refine Kd.C_drewN ?_ _) | (with_reducible refine Kd.C_drew ?_))); (case side8 => exact HC1_1.out); rintro e w27 ⟨rfl, hb⟩; refine ⟨_, rfl, ?_⟩; have n0_ := Aside0.mk (blk_below (g := gb101) (o := .cells #[.slice A0_0 l0_0.length c0_0, .slice A0_1 l0_1.length c0_1] 25 (0, 0)) (by (with_reducible repeat first | refine bN_ ?_ _ | refine bD_ ?_ | refine bA_ ?_ _); exact BK101.out) hb); have n1_ := Aside0.mk (blk_below (g := gb102) (o := .cells #[.slice A1_0 l1_0.length c1_0, .slice A1_1 l1_1.length c1_1] 27 (0, 0)) (by (with_reducible repeat first | refine bN_ ?_ _ | refine bD_ ?_ | refine bA_ ?_ _); exact BK102.out) hb); have n2_ := Aside0.mk (blk_below (g := gb103) (o := .cells #[.slice A2_0 l2_0.length c2_0, .slice A2_1 l2_1.length c2_1] 27 (0, 0)) (by (with_reducible repeat first | refine bN_ ?_ _ | refine bD_ ?_ | refine bA_ ?_ _); exact BK103.out) hb); have n3_ := Aside0.mk (below_step (by repeat (first | (with_reducible first | exact HB.out | apply lA_ | apply lN_ | apply lD_ | refine below_set ?_ GE101.out | refine below_set ?_ GE102.out | refine below_set ?_ GE103.out) | exact HB.out)) hb); clear BK101; clear BK102; clear BK103; clear HB; have BK101 := n0_; have BK102 := n1_; have BK103 := n2_; have HB := n3_; clear n0_ n1_ n2_ n3_; (try clear hb); (try clear hb2); (try clear hk); (try clear hi)))
  go_ret
  exact ⟨by first | rfl | (simp [errW_none, errW_some] <;> rfl) | (simp [*, errW_none, errW_some] <;> rfl), by repeat (first | (with_reducible first | exact HB.out | apply lA_ | apply lN_ | apply lD_ | refine below_set ?_ GE101.out | refine below_set ?_ GE102.out | refine below_set ?_ GE103.out) | exact HB.out)⟩
end Go.Proofs.Ytonipihlpbaknaa.Print
namespace Go.Proofs.Ytonipihlpbaknaa.Print
set_option linter.unusedVariables false
set_option linter.unusedSimpArgs false
open Go.RowKit Go.Proofs.YtonipihlpbaknaaW.PrintWords Go.Proofs.YtonipihlpbaknaaW.PrintLast Go.Proofs.YtonipihlpbaknaaW.PrintMore
set_option maxHeartbeats 4000000 in
set_option maxRecDepth 100000 in
/-- Join of two parts without error. -/
theorem subgraph_Join.ok (k : Nat) (A0 : Option Addr) (c0 : Nat) (l0 : List Int) (A1 : Option Addr) (c1 : Nat) (l1 : List S78) (A2 : Option Addr) (c2 : Nat) (l2 : List Int) (A3 : Option Addr) (c3 : Nat) (l3 : List Int) (A4 : Option Addr) (c4 : Nat) (l4 : List Int) (A5 : Option Addr) (c5 : Nat) (l5 : List Int) (w : World)
  (r0 : Kd.C (Kd.int .i64) w A0 l0.length l0) (m0 : l0.length ≤ c0) (r1 : Kd.C k78 w A1 l1.length l1) (m1 : l1.length ≤ c1) (r2 : Kd.C (Kd.int .i64) w A2 l2.length l2) (m2 : l2.length ≤ c2) (r3 : Kd.C (Kd.int .i64) w A3 l3.length l3) (m3 : l3.length ≤ c3) (r4 : Kd.C (Kd.int .i64) w A4 l4.length l4) (m4 : l4.length ≤ c4) (r5 : Kd.C (Kd.int .i64) w A5 l5.length l5) (m5 : l5.length ≤ c5)
  (n2 : l2.length ≤ 1000000) (n3 : l3.length ≤ 1000000) (n4 : l4.length ≤ 1000000) (n5 : l5.length ≤ 1000000) (h0 : subgraph_both.f k l0 l1 l2 l3 l4 l5 = some 0) :
  Calls Try.prog 37 #[.agg #[.slice A0 l0.length c0, .slice A1 l1.length c1], .agg #[.slice A2 l2.length c2, .slice A3 l3.length c3], .agg #[.slice A4 l4.length c4, .slice A5 l5.length c5]] w fun e w' => ∃ A9 c9 A11 c11, e = .returned (.tuple #[.agg #[.slice A9 (Lib.compact (sortI (l2 ++ l4))).length c9, .slice A11 (Lib.compact (sortI (l3 ++ l5))).length c11], .int .i64 0]) ∧
   RI w' A9 c9 (Lib.compact (sortI (l2 ++ l4))) ∧ RI w' A11 c11 (Lib.compact (sortI (l3 ++ l5))) ∧ Below w.heap.size w w' := by
 obtain ⟨er, he⟩ : ∃ er : Int, er = 0 := ⟨0, rfl⟩
 rw [← he] at h0; have hu25 := Try.underlying25; have hu27 := Try.underlying27; have R0 := Lib.hid r0; have R1 := Lib.hid r1; have R2 := Lib.hid r2; have R3 := Lib.hid r3; have R4 := Lib.hid r4; have R5 := Lib.hid r5; have M0 := Lib.hid m0; have M1 := Lib.hid m1; have M2 := Lib.hid m2; have M3 := Lib.hid m3; have M4 := Lib.hid m4; have M5 := Lib.hid m5; have L2 := Lib.hid n2; have L3 := Lib.hid n3; have L4 := Lib.hid n4; have L5 := Lib.hid n5; clear r0 r1 r2 r3 r4 r5 m0 m1 m2 m3 m4 m5 n2 n3 n4 n5
 have e1 : (er != 0) = false := by simpa using he
 have e2 : decide (er = 0) = true := decide_eq_true he
 go_enter Try.func37, Try.ntmps37
 go_upto_region 1 with (first
  | ((with_reducible refine gate_dst (N := 3) rfl ?_); (try (refine gate_guard (by rfl) ?_; dsimp only)); refine box_event ?hg (N := 3) ?hd (cs := #[.slice A0 l0.length c0, .slice A1 l1.length c1]) (t := 25) ?hr ?_; (case hd => rfl); (case hg => rfl); (case hr => first | (go_simp; done) | (go_simp; rfl)); intro g hg w_ hbox hb; have HG : w.heap.size ≤ g := (hg ▸ Nat.le_refl _); have BG := Lib.hid hbox; have BL := Lib.hid hb; clear hg hbox hb)
  | ((with_reducible refine gate_dst (N := 4) rfl ?_); (try (refine gate_guard (by rfl) ?_; dsimp only)); refine box_event ?hg (N := 4) ?hd (cs := #[.slice A2 l2.length c2, .slice A3 l3.length c3]) (t := 27) ?hr ?_; (case hd => rfl); (case hg => rfl); (case hr => first | (go_simp; done) | (go_simp; rfl)); intro p hg w_ hbox hb; have HP : g < p := (hg ▸ blk_lt BG.out); replace BG := Lib.hid (blk_below BG.out hb); replace BL := Lib.hid (below_then BL.out BL.out.size hb); have BP := Lib.hid hbox; clear hg hbox hb)
  | ((with_reducible refine gate_dst (N := 5) rfl ?_); (try (refine gate_guard (by rfl) ?_; dsimp only)); refine box_event ?hg (N := 5) ?hd (cs := #[.slice A4 l4.length c4, .slice A5 l5.length c5]) (t := 27) ?hr ?_; (case hd => rfl); (case hg => rfl); (case hr => first | (go_simp; done) | (go_simp; rfl)); intro q hg w_ hbox hb; have HQ : p < q := (hg ▸ blk_lt BP.out); replace BG := Lib.hid (blk_below BG.out hb); replace BL := Lib.hid (below_then BL.out BL.out.size hb); replace BP := Lib.hid (blk_below BP.out hb); have BQ := Lib.hid hbox; clear hg hbox hb)
  | ((with_reducible refine gate_dst (N := 6) rfl ?_); (try (refine gate_guard (by rfl) ?_; dsimp only)); refine box_event ?hg (N := 6) ?hd (cs := #[.slice none 0 0, .slice none 0 0]) (t := 27) ?hr ?_; (case hd => rfl); (case hg => rfl); (case hr => first | (go_simp; done) | (go_simp; rfl)); intro r hg w_ hbox hb; have HR : q < r := (hg ▸ blk_lt BQ.out); replace BG := Lib.hid (blk_below BG.out hb); replace BL := Lib.hid (below_then BL.out BL.out.size hb); replace BP := Lib.hid (blk_below BP.out hb); replace BQ := Lib.hid (blk_below BQ.out hb); have BR := Lib.hid hbox; clear hg hbox hb))
 obtain ⟨zBG_0, zBG_1⟩ := cell2 BG.out; obtain ⟨zBP_0, zBP_1⟩ := cell2 BP.out; obtain ⟨zBQ_0, zBQ_1⟩ := cell2 BQ.out
 go_upto_region 4 with (first
  | (go_at_call 78; with_reducible refine (subgraph_both.calls k A0 c0 l0 A1 c1 l1 A2 c2 l2 A3 c3 l3 A4 c4 l4 A5 c5 l5 er _ (Kd.C_below R0.out BL.out) M0.out (Kd.C_below R1.out BL.out) M1.out (Kd.C_below R2.out BL.out) M2.out (Kd.C_below R3.out BL.out) M3.out (Kd.C_below R4.out BL.out) M4.out (Kd.C_below R5.out BL.out) M5.out h0).mono ?_; rintro e w_ ⟨rfl, hb⟩; clear zBG_0 zBG_1 zBP_0 zBP_1 zBQ_0 zBQ_1; replace BG := Lib.hid (blk_below BG.out hb); replace BL := Lib.hid (below_then BL.out BL.out.size hb); replace BP := Lib.hid (blk_below BP.out hb); replace BQ := Lib.hid (blk_below BQ.out hb); replace BR := Lib.hid (blk_below BR.out hb); clear hb; obtain ⟨zBG_0, zBG_1⟩ := cell2 BG.out; obtain ⟨zBP_0, zBP_1⟩ := cell2 BP.out; obtain ⟨zBQ_0, zBQ_1⟩ := cell2 BQ.out))
 clear zBG_0 zBG_1 zBP_0 zBP_1 zBQ_0 zBQ_1; replace BG := Lib.hid (blk_drew BG.out); replace BL := Lib.hid (below_drew1 BL.out); replace BP := Lib.hid (blk_drew BP.out); replace BQ := Lib.hid (blk_drew BQ.out); replace BR := Lib.hid (blk_drew BR.out)
 refine start_ (n := 17) (S := fun w' => C2 w' p (.slice A2 l2.length c2) (.slice A3 l3.length c3) ∧ C2 w' q (.slice A4 l4.length c4) (.slice A5 l5.length c5)) (ds := []) #[false, false, false, false, false, false, false, false, false, false, false, false, false, false, false, false, false] (by kernel_rfl) rfl rfl ⟨cell2 BP.out, cell2 BQ.out⟩ (fun hHeld => ?_)
 refine pure_ (i := 0) (N := some 17) (v := ?_) (a' := ?_) #[true, false, false, false, false, false, false, false, false, false, false, false, false, false, false, false, false] rfl rfl (by kernel_rfl) (fun _ _ _ h => h) (Or.inl ⟨by rfl, ?_⟩) ?_ ?_
 rotate_left
 ·intro w'
  go_simp
  with_reducible rfl
 rotate_left
 ·simp only [Act.put, sI_, s0_, sS_, i64_w, i32_w]
  rfl
 refine pure_ (i := 2) (N := some 19) (v := ?_) (a' := ?_) #[true, false, true, false, false, false, false, false, false, false, false, false, false, false, false, false, false] rfl rfl (by kernel_rfl) (fun _ _ _ h => h) (Or.inl ⟨by rfl, ?_⟩) ?_ ?_
 rotate_left
 ·intro w'
  go_simp
  with_reducible rfl
 rotate_left
 ·simp only [Act.put, sI_, s0_, sS_, i64_w, i32_w]
  rfl
 refine pure_ (i := 7) (N := some 24) (v := ?_) (a' := ?_) #[true, false, true, false, false, false, false, true, false, false, false, false, false, false, false, false, false] rfl rfl (by kernel_rfl) (fun _ _ _ h => h) (Or.inl ⟨by rfl, ?_⟩) ?_ ?_
 rotate_left
 ·intro w'
  go_simp
  with_reducible rfl
 rotate_left
 ·simp only [Act.put, sI_, s0_, sS_, i64_w, i32_w]
  rfl
 refine pure_ (i := 9) (N := some 26) (v := ?_) (a' := ?_) #[true, false, true, false, false, false, false, true, false, true, false, false, false, false, false, false, false] rfl rfl (by kernel_rfl) (fun _ _ _ h => h) (Or.inl ⟨by rfl, ?_⟩) ?_ ?_
 rotate_left
 ·intro w'
  go_simp
  with_reducible rfl
 rotate_left
 ·simp only [Act.put, sI_, s0_, sS_, i64_w, i32_w]
  rfl
 refine take_ (i := 1) (N := some 18) (v := ?_) (a' := ?_) #[true, true, true, false, false, false, false, true, false, true, false, false, false, false, false, false, false] rfl rfl (by kernel_rfl) (fun _ _ _ h => h) (Or.inl ⟨by rfl, ?_⟩) hHeld ?_ ?_
 rotate_left
 ·rintro w' ⟨⟨s0, s1⟩, ⟨s2, s3⟩⟩
  go_simp
  with_reducible rfl
 rotate_left
 ·simp only [Act.put, sI_, s0_, sS_, i64_w, i32_w]
  rfl
 refine take_ (i := 3) (N := some 20) (v := ?_) (a' := ?_) #[true, true, true, true, false, false, false, true, false, true, false, false, false, false, false, false, false] rfl rfl (by kernel_rfl) (fun _ _ _ h => h) (Or.inl ⟨by rfl, ?_⟩) hHeld ?_ ?_
 rotate_left
 ·rintro w' ⟨⟨s0, s1⟩, ⟨s2, s3⟩⟩
  go_simp
  with_reducible rfl
 rotate_left
 ·simp only [Act.put, sI_, s0_, sS_, i64_w, i32_w]
  rfl
 refine take_ (i := 8) (N := some 25) (v := ?_) (a' := ?_) #[true, true, true, true, false, false, false, true, true, true, false, false, false, false, false, false, false] rfl rfl (by kernel_rfl) (fun _ _ _ h => h) (Or.inl ⟨by rfl, ?_⟩) hHeld ?_ ?_
 rotate_left
 ·rintro w' ⟨⟨s0, s1⟩, ⟨s2, s3⟩⟩
  go_simp
  with_reducible rfl
 rotate_left
 ·simp only [Act.put, sI_, s0_, sS_, i64_w, i32_w]
  rfl
 refine take_ (i := 10) (N := some 27) (v := ?_) (a' := ?_) #[true, true, true, true, false, false, false, true, true, true, true, false, false, false, false, false, false] rfl rfl (by kernel_rfl) (fun _ _ _ h => h) (Or.inl ⟨by rfl, ?_⟩) hHeld ?_ ?_
 rotate_left
 ·rintro w' ⟨⟨s0, s1⟩, ⟨s2, s3⟩⟩
  go_simp
  with_reducible rfl
 rotate_left
 ·simp only [Act.put, sI_, s0_, sS_, i64_w, i32_w]
  rfl
 refine join_ (σ := Nat × Option Addr × Nat × Option Addr × Nat × Option Addr × Nat × Option Addr × Nat × Nat) 3 #[true, true, true, true, true, true, true, true, true, true, true, true, true, true, false, false, false] (fun s_ => [(21, .slice (some ⟨s_.1, 0, none⟩) 2 2), (22, .slice s_.2.1 (l2 ++ l4).length s_.2.2.1), (23, .slice s_.2.2.2.1 (Lib.compact (sortI (l2 ++ l4))).length s_.2.2.2.2.1), (29, .slice s_.2.2.2.2.2.1 (l3 ++ l5).length s_.2.2.2.2.2.2.1), (30, .slice s_.2.2.2.2.2.2.2.1 (Lib.compact (sortI (l3 ++ l5))).length s_.2.2.2.2.2.2.2.2.1), (28, .slice (some ⟨s_.2.2.2.2.2.2.2.2.2, 0, none⟩) 2 2)]) (fun s_ w' => (C2 w' p (.slice A2 l2.length c2) (.slice A3 l3.length c3) ∧ C2 w' q (.slice A4 l4.length c4) (.slice A5 l5.length c5)) ∧ (w'.heap[g]? = some (.cells #[.slice A0 l0.length c0, .slice A1 l1.length c1] 25 (0, 0))) ∧ (Below w.heap.size w w') ∧ (w'.heap[p]? = some (.cells #[.slice A2 l2.length c2, .slice A3 l3.length c3] 27 (0, 0))) ∧ (w'.heap[q]? = some (.cells #[.slice A4 l4.length c4, .slice A5 l5.length c5] 27 (0, 0))) ∧ (w'.heap[r]? = some (.cells #[.slice none 0 0, .slice none 0 0] 27 (0, 0))) ∧ (Kd.R (Kd.int .i64) 3 w' w.heap.size (fun _ => True) (.slice s_.2.2.2.1 (Lib.compact (sortI (l2 ++ l4))).length s_.2.2.2.2.1) (Lib.compact (sortI (l2 ++ l4)))) ∧ (Kd.R (Kd.int .i64) 3 w' w.heap.size (fun _ => True) (.slice s_.2.2.2.2.2.2.2.1 (Lib.compact (sortI (l3 ++ l5))).length s_.2.2.2.2.2.2.2.2.1) (Lib.compact (sortI (l3 ++ l5)))) ∧ (Bk w' s_.2.2.2.2.2.2.2.2.2 22 (.slice A3 l3.length c3) (.slice A5 l5.length c5))) ?_ ?_
 rotate_left
 ·intro J5_1
  refine join_ (σ := Nat × Option Addr × Nat × Option Addr × Nat × Option Addr × Nat × Nat) 4 #[true, true, true, true, true, true, true, true, true, true, true, true, true, false, false, false, false] (fun s_ => [(21, .slice (some ⟨s_.1, 0, none⟩) 2 2), (22, .slice s_.2.1 (l2 ++ l4).length s_.2.2.1), (23, .slice s_.2.2.2.1 (Lib.compact (sortI (l2 ++ l4))).length s_.2.2.2.2.1), (29, .slice s_.2.2.2.2.2.1 (l3 ++ l5).length s_.2.2.2.2.2.2.1), (28, .slice (some ⟨s_.2.2.2.2.2.2.2, 0, none⟩) 2 2)]) (fun s_ w' => (C2 w' p (.slice A2 l2.length c2) (.slice A3 l3.length c3) ∧ C2 w' q (.slice A4 l4.length c4) (.slice A5 l5.length c5)) ∧ (w'.heap[g]? = some (.cells #[.slice A0 l0.length c0, .slice A1 l1.length c1] 25 (0, 0))) ∧ (Below w.heap.size w w') ∧ (w'.heap[p]? = some (.cells #[.slice A2 l2.length c2, .slice A3 l3.length c3] 27 (0, 0))) ∧ (w'.heap[q]? = some (.cells #[.slice A4 l4.length c4, .slice A5 l5.length c5] 27 (0, 0))) ∧ (w'.heap[r]? = some (.cells #[.slice none 0 0, .slice none 0 0] 27 (0, 0))) ∧ (Kd.R (Kd.int .i64) 3 w' w.heap.size (fun k_ => some k_ ≠ (Value.slice s_.2.2.2.2.2.1 (l3 ++ l5).length s_.2.2.2.2.2.2.1).ownBlock) (.slice s_.2.2.2.1 (Lib.compact (sortI (l2 ++ l4))).length s_.2.2.2.2.1) (Lib.compact (sortI (l2 ++ l4)))) ∧ (Kd.R (Kd.int .i64) 3 w' w.heap.size (fun _ => True) (.slice s_.2.2.2.2.2.1 (l3 ++ l5).length s_.2.2.2.2.2.2.1) (l3 ++ l5)) ∧ (Bk w' s_.2.2.2.2.2.2.2 22 (.slice A3 l3.length c3) (.slice A5 l5.length c5))) ?_ ?_
  rotate_left
  ·intro J4_1
   refine join_ (σ := Nat × Option Addr × Nat × Option Addr × Nat × Nat) 5 #[true, true, true, true, true, true, true, true, true, true, true, true, false, false, false, false, false] (fun s_ => [(21, .slice (some ⟨s_.1, 0, none⟩) 2 2), (22, .slice s_.2.1 (l2 ++ l4).length s_.2.2.1), (23, .slice s_.2.2.2.1 (Lib.compact (sortI (l2 ++ l4))).length s_.2.2.2.2.1), (28, .slice (some ⟨s_.2.2.2.2.2, 0, none⟩) 2 2)]) (fun s_ w' => (C2 w' p (.slice A2 l2.length c2) (.slice A3 l3.length c3) ∧ C2 w' q (.slice A4 l4.length c4) (.slice A5 l5.length c5)) ∧ (w'.heap[g]? = some (.cells #[.slice A0 l0.length c0, .slice A1 l1.length c1] 25 (0, 0))) ∧ (Below w.heap.size w w') ∧ (w'.heap[p]? = some (.cells #[.slice A2 l2.length c2, .slice A3 l3.length c3] 27 (0, 0))) ∧ (w'.heap[q]? = some (.cells #[.slice A4 l4.length c4, .slice A5 l5.length c5] 27 (0, 0))) ∧ (w'.heap[r]? = some (.cells #[.slice none 0 0, .slice none 0 0] 27 (0, 0))) ∧ (Kd.R (Kd.int .i64) 3 w' w.heap.size (fun _ => True) (.slice s_.2.2.2.1 (Lib.compact (sortI (l2 ++ l4))).length s_.2.2.2.2.1) (Lib.compact (sortI (l2 ++ l4)))) ∧ (Bk w' s_.2.2.2.2.2 22 (.slice A3 l3.length c3) (.slice A5 l5.length c5))) ?_ ?_
   rotate_left
   ·intro J3_1
    refine join_ (σ := Nat × Option Addr × Nat × Option Addr × Nat) 6 #[true, true, true, true, true, true, true, true, true, true, true, false, false, false, false, false, false] (fun s_ => [(21, .slice (some ⟨s_.1, 0, none⟩) 2 2), (22, .slice s_.2.1 (l2 ++ l4).length s_.2.2.1), (23, .slice s_.2.2.2.1 (Lib.compact (sortI (l2 ++ l4))).length s_.2.2.2.2)]) (fun s_ w' => (C2 w' p (.slice A2 l2.length c2) (.slice A3 l3.length c3) ∧ C2 w' q (.slice A4 l4.length c4) (.slice A5 l5.length c5)) ∧ (w'.heap[g]? = some (.cells #[.slice A0 l0.length c0, .slice A1 l1.length c1] 25 (0, 0))) ∧ (Below w.heap.size w w') ∧ (w'.heap[p]? = some (.cells #[.slice A2 l2.length c2, .slice A3 l3.length c3] 27 (0, 0))) ∧ (w'.heap[q]? = some (.cells #[.slice A4 l4.length c4, .slice A5 l5.length c5] 27 (0, 0))) ∧ (w'.heap[r]? = some (.cells #[.slice none 0 0, .slice none 0 0] 27 (0, 0))) ∧ (Kd.R (Kd.int .i64) 3 w' w.heap.size (fun _ => True) (.slice s_.2.2.2.1 (Lib.compact (sortI (l2 ++ l4))).length s_.2.2.2.2) (Lib.compact (sortI (l2 ++ l4))))) ?_ ?_
    rotate_left
    ·intro J3_0
     refine join_ (σ := Nat × Option Addr × Nat × Nat) 6 #[true, true, true, true, true, true, false, true, true, true, true, true, false, false, false, false, false] (fun s_ => [(21, .slice (some ⟨s_.1, 0, none⟩) 2 2), (22, .slice s_.2.1 (l2 ++ l4).length s_.2.2.1), (28, .slice (some ⟨s_.2.2.2, 0, none⟩) 2 2)]) (fun s_ w' => (C2 w' p (.slice A2 l2.length c2) (.slice A3 l3.length c3) ∧ C2 w' q (.slice A4 l4.length c4) (.slice A5 l5.length c5)) ∧ (w'.heap[g]? = some (.cells #[.slice A0 l0.length c0, .slice A1 l1.length c1] 25 (0, 0))) ∧ (Below w.heap.size w w') ∧ (w'.heap[p]? = some (.cells #[.slice A2 l2.length c2, .slice A3 l3.length c3] 27 (0, 0))) ∧ (w'.heap[q]? = some (.cells #[.slice A4 l4.length c4, .slice A5 l5.length c5] 27 (0, 0))) ∧ (w'.heap[r]? = some (.cells #[.slice none 0 0, .slice none 0 0] 27 (0, 0))) ∧ (Kd.R (Kd.int .i64) 3 w' w.heap.size (fun _ => True) (.slice s_.2.1 (l2 ++ l4).length s_.2.2.1) (l2 ++ l4)) ∧ (Bk w' s_.2.2.2 22 (.slice A3 l3.length c3) (.slice A5 l5.length c5))) ?_ ?_
     rotate_left
     ·intro J2_1
      refine join_ (σ := Nat × Option Addr × Nat) 7 #[true, true, true, true, true, true, false, true, true, true, true, false, false, false, false, false, false] (fun s_ => [(21, .slice (some ⟨s_.1, 0, none⟩) 2 2), (22, .slice s_.2.1 (l2 ++ l4).length s_.2.2)]) (fun s_ w' => (C2 w' p (.slice A2 l2.length c2) (.slice A3 l3.length c3) ∧ C2 w' q (.slice A4 l4.length c4) (.slice A5 l5.length c5)) ∧ (w'.heap[g]? = some (.cells #[.slice A0 l0.length c0, .slice A1 l1.length c1] 25 (0, 0))) ∧ (Below w.heap.size w w') ∧ (w'.heap[p]? = some (.cells #[.slice A2 l2.length c2, .slice A3 l3.length c3] 27 (0, 0))) ∧ (w'.heap[q]? = some (.cells #[.slice A4 l4.length c4, .slice A5 l5.length c5] 27 (0, 0))) ∧ (w'.heap[r]? = some (.cells #[.slice none 0 0, .slice none 0 0] 27 (0, 0))) ∧ (Kd.R (Kd.int .i64) 3 w' w.heap.size (fun _ => True) (.slice s_.2.1 (l2 ++ l4).length s_.2.2) (l2 ++ l4))) ?_ ?_
      rotate_left
      ·intro J2_0
       refine join_ (σ := Nat × Nat) 7 #[true, true, true, true, true, false, false, true, true, true, true, true, false, false, false, false, false] (fun s_ => [(21, .slice (some ⟨s_.1, 0, none⟩) 2 2), (28, .slice (some ⟨s_.2, 0, none⟩) 2 2)]) (fun s_ w' => (C2 w' p (.slice A2 l2.length c2) (.slice A3 l3.length c3) ∧ C2 w' q (.slice A4 l4.length c4) (.slice A5 l5.length c5)) ∧ (w'.heap[g]? = some (.cells #[.slice A0 l0.length c0, .slice A1 l1.length c1] 25 (0, 0))) ∧ (Below w.heap.size w w') ∧ (w'.heap[p]? = some (.cells #[.slice A2 l2.length c2, .slice A3 l3.length c3] 27 (0, 0))) ∧ (w'.heap[q]? = some (.cells #[.slice A4 l4.length c4, .slice A5 l5.length c5] 27 (0, 0))) ∧ (w'.heap[r]? = some (.cells #[.slice none 0 0, .slice none 0 0] 27 (0, 0))) ∧ (Bk w' s_.1 22 (.slice A2 l2.length c2) (.slice A4 l4.length c4)) ∧ (Bk w' s_.2 22 (.slice A3 l3.length c3) (.slice A5 l5.length c5))) ?_ ?_
       rotate_left
       ·intro J1_1
        refine join_ (σ := Nat) 8 #[true, true, true, true, true, false, false, true, true, true, true, false, false, false, false, false, false] (fun s_ => [(21, .slice (some ⟨s_, 0, none⟩) 2 2)]) (fun s_ w' => (C2 w' p (.slice A2 l2.length c2) (.slice A3 l3.length c3) ∧ C2 w' q (.slice A4 l4.length c4) (.slice A5 l5.length c5)) ∧ (w'.heap[g]? = some (.cells #[.slice A0 l0.length c0, .slice A1 l1.length c1] 25 (0, 0))) ∧ (Below w.heap.size w w') ∧ (w'.heap[p]? = some (.cells #[.slice A2 l2.length c2, .slice A3 l3.length c3] 27 (0, 0))) ∧ (w'.heap[q]? = some (.cells #[.slice A4 l4.length c4, .slice A5 l5.length c5] 27 (0, 0))) ∧ (w'.heap[r]? = some (.cells #[.slice none 0 0, .slice none 0 0] 27 (0, 0))) ∧ (Bk w' s_ 22 (.slice A2 l2.length c2) (.slice A4 l4.length c4))) ?_ ?_
        rotate_left
        ·intro J1_0
         refine join_ (σ := Nat) 8 #[true, true, true, true, false, false, false, true, true, true, true, true, false, false, false, false, false] (fun s_ => [(28, .slice (some ⟨s_, 0, none⟩) 2 2)]) (fun s_ w' => (C2 w' p (.slice A2 l2.length c2) (.slice A3 l3.length c3) ∧ C2 w' q (.slice A4 l4.length c4) (.slice A5 l5.length c5)) ∧ (w'.heap[g]? = some (.cells #[.slice A0 l0.length c0, .slice A1 l1.length c1] 25 (0, 0))) ∧ (Below w.heap.size w w') ∧ (w'.heap[p]? = some (.cells #[.slice A2 l2.length c2, .slice A3 l3.length c3] 27 (0, 0))) ∧ (w'.heap[q]? = some (.cells #[.slice A4 l4.length c4, .slice A5 l5.length c5] 27 (0, 0))) ∧ (w'.heap[r]? = some (.cells #[.slice none 0 0, .slice none 0 0] 27 (0, 0))) ∧ (Bk w' s_ 22 (.slice A3 l3.length c3) (.slice A5 l5.length c5))) ?_ ?_
         rotate_left
         ·intro J0_1
          refine two_ (i := 4) (j := 11) (Ni := some 21) (Nj := some 28) #[true, true, true, true, true, false, false, true, true, true, true, false, false, false, false, false, false] #[true, true, true, true, false, false, false, true, true, true, true, true, false, false, false, false, false] rfl rfl rfl rfl (by kernel_rfl) (by decide) (by decide) (fun K hK => ?_) (fun K hK => ?_)
          ·skip
           refine lit_step ?hg (N := 21) ?hd (cs := #[.slice A2 l2.length c2, .slice A4 l4.length c4]) (t := 22) (m := 2) ?hr ?_; (case hd => rfl); (case hg => rfl); (case hr => first | (go_simp; done) | (go_simp; rfl))
           intro a hg w_ hbox hb; replace BG := Lib.hid (blk_below BG.out hb); replace BL := Lib.hid (below_then BL.out BL.out.size hb); replace BP := Lib.hid (blk_below BP.out hb); replace BQ := Lib.hid (blk_below BQ.out hb); replace BR := Lib.hid (blk_below BR.out hb); have BA := Lib.hid hbox; clear hg hbox hb
           refine hK.out _ _ ⟨cell2 BP.out, cell2 BQ.out⟩ (fun hHeld => ?_)
           clear hK K
           refine norm_ (a' := ?_) ?_ ?_
           rotate_left
           ·show Act.put _ (some 21) _ = _
            simp only [Act.put, sI_, s0_, sS_, i64_w, i32_w]
            rfl
           exact norm_ (by first | (simp only [putAll, Act.put, sI_, s0_, sS_]; done) | (simp only [putAll, Act.put, sI_, s0_, sS_]; rfl)) (J1_0 a _ ⟨hHeld, BG.out, BL.out, BP.out, BQ.out, BR.out, BA.out⟩)
          ·skip
           refine lit_step ?hg (N := 28) ?hd (cs := #[.slice A3 l3.length c3, .slice A5 l5.length c5]) (t := 22) (m := 2) ?hr ?_; (case hd => rfl); (case hg => rfl); (case hr => first | (go_simp; done) | (go_simp; rfl))
           intro b hg w_ hbox hb; replace BG := Lib.hid (blk_below BG.out hb); replace BL := Lib.hid (below_then BL.out BL.out.size hb); replace BP := Lib.hid (blk_below BP.out hb); replace BQ := Lib.hid (blk_below BQ.out hb); replace BR := Lib.hid (blk_below BR.out hb); have BB := Lib.hid hbox; clear hg hbox hb
           refine hK.out _ _ ⟨cell2 BP.out, cell2 BQ.out⟩ (fun hHeld => ?_)
           clear hK K
           refine norm_ (a' := ?_) ?_ ?_
           rotate_left
           ·show Act.put _ (some 28) _ = _
            simp only [Act.put, sI_, s0_, sS_, i64_w, i32_w]
            rfl
           exact norm_ (by first | (simp only [putAll, Act.put, sI_, s0_, sS_]; done) | (simp only [putAll, Act.put, sI_, s0_, sS_]; rfl)) (J0_1 b _ ⟨hHeld, BG.out, BL.out, BP.out, BQ.out, BR.out, BB.out⟩)
         rintro b w_ ⟨hHeld, qBG, qBL, qBP, qBQ, qBR, qBB⟩
         replace BG : Hid (w_.heap[g]? = some (.cells #[.slice A0 l0.length c0, .slice A1 l1.length c1] 25 (0, 0))) := Lib.hid qBG; clear qBG
         replace BL : Hid (Below w.heap.size w w_) := Lib.hid qBL; clear qBL
         replace BP : Hid (w_.heap[p]? = some (.cells #[.slice A2 l2.length c2, .slice A3 l3.length c3] 27 (0, 0))) := Lib.hid qBP; clear qBP
         replace BQ : Hid (w_.heap[q]? = some (.cells #[.slice A4 l4.length c4, .slice A5 l5.length c5] 27 (0, 0))) := Lib.hid qBQ; clear qBQ
         replace BR : Hid (w_.heap[r]? = some (.cells #[.slice none 0 0, .slice none 0 0] 27 (0, 0))) := Lib.hid qBR; clear qBR
         have BB : Hid (Bk w_ b 22 (.slice A3 l3.length c3) (.slice A5 l5.length c5)) := Lib.hid qBB; clear qBB
         refine norm_ (a' := ?_) ?_ ?_
         rotate_left
         ·simp only [putAll, Act.put, sI_, s0_, sS_]
          rfl
         refine one_ (i := 4) (N := some 21) #[true, true, true, true, true, false, false, true, true, true, true, true, false, false, false, false, false] rfl rfl (by kernel_rfl) (by decide) (fun K hK => ?_)
         refine lit_step ?hg (N := 21) ?hd (cs := #[.slice A2 l2.length c2, .slice A4 l4.length c4]) (t := 22) (m := 2) ?hr ?_; (case hd => rfl); (case hg => rfl); (case hr => first | (go_simp; done) | (go_simp; rfl))
         intro a hg w_ hbox hb; replace BG := Lib.hid (blk_below BG.out hb); replace BL := Lib.hid (below_then BL.out BL.out.size hb); replace BP := Lib.hid (blk_below BP.out hb); replace BQ := Lib.hid (blk_below BQ.out hb); replace BR := Lib.hid (blk_below BR.out hb); replace BB := Lib.hid (blk_below BB.out hb); have BA := Lib.hid hbox; clear hg hbox hb
         refine hK.out _ _ ⟨cell2 BP.out, cell2 BQ.out⟩ (fun hHeld => ?_)
         clear hK K
         refine norm_ (a' := ?_) ?_ ?_
         rotate_left
         ·show Act.put _ (some 21) _ = _
          simp only [Act.put, sI_, s0_, sS_, i64_w, i32_w]
          rfl
         exact norm_ (by first | (simp only [putAll, Act.put, sI_, s0_, sS_]; done) | (simp only [putAll, Act.put, sI_, s0_, sS_]; rfl)) (J1_1 (a, b) _ ⟨hHeld, BG.out, BL.out, BP.out, BQ.out, BR.out, BA.out, BB.out⟩)
        rintro a w_ ⟨hHeld, qBG, qBL, qBP, qBQ, qBR, qBA⟩
        replace BG : Hid (w_.heap[g]? = some (.cells #[.slice A0 l0.length c0, .slice A1 l1.length c1] 25 (0, 0))) := Lib.hid qBG; clear qBG
        replace BL : Hid (Below w.heap.size w w_) := Lib.hid qBL; clear qBL
        replace BP : Hid (w_.heap[p]? = some (.cells #[.slice A2 l2.length c2, .slice A3 l3.length c3] 27 (0, 0))) := Lib.hid qBP; clear qBP
        replace BQ : Hid (w_.heap[q]? = some (.cells #[.slice A4 l4.length c4, .slice A5 l5.length c5] 27 (0, 0))) := Lib.hid qBQ; clear qBQ
        replace BR : Hid (w_.heap[r]? = some (.cells #[.slice none 0 0, .slice none 0 0] 27 (0, 0))) := Lib.hid qBR; clear qBR
        have BA : Hid (Bk w_ a 22 (.slice A2 l2.length c2) (.slice A4 l4.length c4)) := Lib.hid qBA; clear qBA
        refine norm_ (a' := ?_) ?_ ?_
        rotate_left
        ·simp only [putAll, Act.put, sI_, s0_, sS_]
         rfl
        refine two_ (i := 5) (j := 11) (Ni := some 22) (Nj := some 28) #[true, true, true, true, true, true, false, true, true, true, true, false, false, false, false, false, false] #[true, true, true, true, true, false, false, true, true, true, true, true, false, false, false, false, false] rfl rfl rfl rfl (by kernel_rfl) (by decide) (by decide) (fun K hK => ?_) (fun K hK => ?_)
        ·skip
         refine goes_ Try.func79 (by kernel_rfl) rfl #[.slice (some ⟨a, 0, none⟩) 2 2] (by rfl) rfl rfl (by (try simp only [List.map_toArray, List.map_cons, List.map_nil]); first | done | rfl | rfl) ?_
         refine (slices_Concat2.calls a A2 c2 l2 A4 c4 l4 _ BA.out (Kd.C_below R2.out BL.out) (Kd.C_below R4.out BL.out) L2.out L4.out).mono ?_
         rintro e w_ ⟨v0, rfl, ho0, hb⟩
         refine ⟨_, rfl, ?_⟩
         obtain ⟨A8, c8, rfl⟩ := Kd.R_slice ho0; have R8 := Lib.hid (Kd.R_lower ho0 BL.out.size); replace BG := Lib.hid (blk_below BG.out hb); replace BL := Lib.hid (below_then BL.out BL.out.size hb); replace BP := Lib.hid (blk_below BP.out hb); replace BQ := Lib.hid (blk_below BQ.out hb); replace BR := Lib.hid (blk_below BR.out hb); replace BA := Lib.hid (blk_below BA.out hb); clear ho0 hb
         refine hK.out _ _ ⟨cell2 BP.out, cell2 BQ.out⟩ (fun hHeld => ?_)
         clear hK K
         refine norm_ (a' := ?_) ?_ ?_
         rotate_left
         ·show Act.put _ (some 22) _ = _
          simp only [Act.put, sI_, s0_, sS_, i64_w, i32_w]
          rfl
         exact norm_ (by first | (simp only [putAll, Act.put, sI_, s0_, sS_]; done) | (simp only [putAll, Act.put, sI_, s0_, sS_]; rfl)) (J2_0 (a, A8, c8) _ ⟨hHeld, BG.out, BL.out, BP.out, BQ.out, BR.out, R8.out⟩)
        ·skip
         refine lit_step ?hg (N := 28) ?hd (cs := #[.slice A3 l3.length c3, .slice A5 l5.length c5]) (t := 22) (m := 2) ?hr ?_; (case hd => rfl); (case hg => rfl); (case hr => first | (go_simp; done) | (go_simp; rfl))
         intro b hg w_ hbox hb; replace BG := Lib.hid (blk_below BG.out hb); replace BL := Lib.hid (below_then BL.out BL.out.size hb); replace BP := Lib.hid (blk_below BP.out hb); replace BQ := Lib.hid (blk_below BQ.out hb); replace BR := Lib.hid (blk_below BR.out hb); replace BA := Lib.hid (blk_below BA.out hb); have BB := Lib.hid hbox; clear hg hbox hb
         refine hK.out _ _ ⟨cell2 BP.out, cell2 BQ.out⟩ (fun hHeld => ?_)
         clear hK K
         refine norm_ (a' := ?_) ?_ ?_
         rotate_left
         ·show Act.put _ (some 28) _ = _
          simp only [Act.put, sI_, s0_, sS_, i64_w, i32_w]
          rfl
         exact norm_ (by first | (simp only [putAll, Act.put, sI_, s0_, sS_]; done) | (simp only [putAll, Act.put, sI_, s0_, sS_]; rfl)) (J1_1 (a, b) _ ⟨hHeld, BG.out, BL.out, BP.out, BQ.out, BR.out, BA.out, BB.out⟩)
       rintro ⟨a, b⟩ w_ ⟨hHeld, qBG, qBL, qBP, qBQ, qBR, qBA, qBB⟩
       replace BG : Hid (w_.heap[g]? = some (.cells #[.slice A0 l0.length c0, .slice A1 l1.length c1] 25 (0, 0))) := Lib.hid qBG; clear qBG
       replace BL : Hid (Below w.heap.size w w_) := Lib.hid qBL; clear qBL
       replace BP : Hid (w_.heap[p]? = some (.cells #[.slice A2 l2.length c2, .slice A3 l3.length c3] 27 (0, 0))) := Lib.hid qBP; clear qBP
       replace BQ : Hid (w_.heap[q]? = some (.cells #[.slice A4 l4.length c4, .slice A5 l5.length c5] 27 (0, 0))) := Lib.hid qBQ; clear qBQ
       replace BR : Hid (w_.heap[r]? = some (.cells #[.slice none 0 0, .slice none 0 0] 27 (0, 0))) := Lib.hid qBR; clear qBR
       have BA : Hid (Bk w_ a 22 (.slice A2 l2.length c2) (.slice A4 l4.length c4)) := Lib.hid qBA; clear qBA
       have BB : Hid (Bk w_ b 22 (.slice A3 l3.length c3) (.slice A5 l5.length c5)) := Lib.hid qBB; clear qBB
       refine norm_ (a' := ?_) ?_ ?_
       rotate_left
       ·simp only [putAll, Act.put, sI_, s0_, sS_]
        rfl
       refine one_ (i := 5) (N := some 22) #[true, true, true, true, true, true, false, true, true, true, true, true, false, false, false, false, false] rfl rfl (by kernel_rfl) (by decide) (fun K hK => ?_)
       refine goes_ Try.func79 (by kernel_rfl) rfl #[.slice (some ⟨a, 0, none⟩) 2 2] (by rfl) rfl rfl (by (try simp only [List.map_toArray, List.map_cons, List.map_nil]); first | done | rfl | rfl) ?_
       refine (slices_Concat2.calls a A2 c2 l2 A4 c4 l4 _ BA.out (Kd.C_below R2.out BL.out) (Kd.C_below R4.out BL.out) L2.out L4.out).mono ?_
       rintro e w_ ⟨v0, rfl, ho0, hb⟩
       refine ⟨_, rfl, ?_⟩
       obtain ⟨A8, c8, rfl⟩ := Kd.R_slice ho0; have R8 := Lib.hid (Kd.R_lower ho0 BL.out.size); replace BG := Lib.hid (blk_below BG.out hb); replace BL := Lib.hid (below_then BL.out BL.out.size hb); replace BP := Lib.hid (blk_below BP.out hb); replace BQ := Lib.hid (blk_below BQ.out hb); replace BR := Lib.hid (blk_below BR.out hb); replace BA := Lib.hid (blk_below BA.out hb); replace BB := Lib.hid (blk_below BB.out hb); clear ho0 hb
       refine hK.out _ _ ⟨cell2 BP.out, cell2 BQ.out⟩ (fun hHeld => ?_)
       clear hK K
       refine norm_ (a' := ?_) ?_ ?_
       rotate_left
       ·show Act.put _ (some 22) _ = _
        simp only [Act.put, sI_, s0_, sS_, i64_w, i32_w]
        rfl
       exact norm_ (by first | (simp only [putAll, Act.put, sI_, s0_, sS_]; done) | (simp only [putAll, Act.put, sI_, s0_, sS_]; rfl)) (J2_1 (a, A8, c8, b) _ ⟨hHeld, BG.out, BL.out, BP.out, BQ.out, BR.out, R8.out, BB.out⟩)
      rintro ⟨a, A8, c8⟩ w_ ⟨hHeld, qBG, qBL, qBP, qBQ, qBR, qR8⟩
      replace BG : Hid (w_.heap[g]? = some (.cells #[.slice A0 l0.length c0, .slice A1 l1.length c1] 25 (0, 0))) := Lib.hid qBG; clear qBG
      replace BL : Hid (Below w.heap.size w w_) := Lib.hid qBL; clear qBL
      replace BP : Hid (w_.heap[p]? = some (.cells #[.slice A2 l2.length c2, .slice A3 l3.length c3] 27 (0, 0))) := Lib.hid qBP; clear qBP
      replace BQ : Hid (w_.heap[q]? = some (.cells #[.slice A4 l4.length c4, .slice A5 l5.length c5] 27 (0, 0))) := Lib.hid qBQ; clear qBQ
      replace BR : Hid (w_.heap[r]? = some (.cells #[.slice none 0 0, .slice none 0 0] 27 (0, 0))) := Lib.hid qBR; clear qBR
      have R8 : Hid (Kd.R (Kd.int .i64) 3 w_ w.heap.size (fun _ => True) (.slice A8 (l2 ++ l4).length c8) (l2 ++ l4)) := Lib.hid qR8; clear qR8
      refine norm_ (a' := ?_) ?_ ?_
      rotate_left
      ·simp only [putAll, Act.put, sI_, s0_, sS_]
       rfl
      refine two_ (i := 6) (j := 11) (Ni := some 23) (Nj := some 28) #[true, true, true, true, true, true, true, true, true, true, true, false, false, false, false, false, false] #[true, true, true, true, true, true, false, true, true, true, true, true, false, false, false, false, false] rfl rfl rfl rfl (by kernel_rfl) (by decide) (by decide) (fun K hK => ?_) (fun K hK => ?_)
      ·skip
       refine goes_ Try.func57 (by kernel_rfl) rfl #[.slice A8 (l2 ++ l4).length c8] (by rfl) rfl rfl (by (try simp only [List.map_toArray, List.map_cons, List.map_nil]); first | done | rfl | rfl) ?_
       refine (sorted_kept w _ _ (l2 ++ l4) BL.out R8.out (by have := L2.out; have := L3.out; have := L4.out; have := L5.out; simp; omega)).mono ?_
       rintro e w_ ⟨v0, rfl, ho0, hb, hk⟩
       refine ⟨_, rfl, ?_⟩
       obtain ⟨A9, c9, rfl⟩ := Kd.R_slice ho0; have R9 := Lib.hid (Kd.R_mono ho0 (fun _ _ => trivial)); replace BG := Lib.hid (blk_kept BG.out hk (Kd.R_ne R8.out BG.out (by decide))); replace BL := Lib.hid hb; replace BP := Lib.hid (blk_kept BP.out hk (Kd.R_ne R8.out BP.out (by decide))); replace BQ := Lib.hid (blk_kept BQ.out hk (Kd.R_ne R8.out BQ.out (by decide))); replace BR := Lib.hid (blk_kept BR.out hk (Kd.R_ne R8.out BR.out (by decide))); clear ho0 hb hk R8
       refine hK.out _ _ ⟨cell2 BP.out, cell2 BQ.out⟩ (fun hHeld => ?_)
       clear hK K
       refine norm_ (a' := ?_) ?_ ?_
       rotate_left
       ·show Act.put _ (some 23) _ = _
        simp only [Act.put, sI_, s0_, sS_, i64_w, i32_w]
        rfl
       exact norm_ (by first | (simp only [putAll, Act.put, sI_, s0_, sS_]; done) | (simp only [putAll, Act.put, sI_, s0_, sS_]; rfl)) (J3_0 (a, A8, c8, A9, c9) _ ⟨hHeld, BG.out, BL.out, BP.out, BQ.out, BR.out, R9.out⟩)
      ·skip
       refine lit_step ?hg (N := 28) ?hd (cs := #[.slice A3 l3.length c3, .slice A5 l5.length c5]) (t := 22) (m := 2) ?hr ?_; (case hd => rfl); (case hg => rfl); (case hr => first | (go_simp; done) | (go_simp; rfl))
       intro b hg w_ hbox hb; replace BG := Lib.hid (blk_below BG.out hb); replace BL := Lib.hid (below_then BL.out BL.out.size hb); replace BP := Lib.hid (blk_below BP.out hb); replace BQ := Lib.hid (blk_below BQ.out hb); replace BR := Lib.hid (blk_below BR.out hb); replace R8 := Lib.hid (Kd.R_below R8.out hb); have BB := Lib.hid hbox; clear hg hbox hb
       refine hK.out _ _ ⟨cell2 BP.out, cell2 BQ.out⟩ (fun hHeld => ?_)
       clear hK K
       refine norm_ (a' := ?_) ?_ ?_
       rotate_left
       ·show Act.put _ (some 28) _ = _
        simp only [Act.put, sI_, s0_, sS_, i64_w, i32_w]
        rfl
       exact norm_ (by first | (simp only [putAll, Act.put, sI_, s0_, sS_]; done) | (simp only [putAll, Act.put, sI_, s0_, sS_]; rfl)) (J2_1 (a, A8, c8, b) _ ⟨hHeld, BG.out, BL.out, BP.out, BQ.out, BR.out, R8.out, BB.out⟩)
     rintro ⟨a, A8, c8, b⟩ w_ ⟨hHeld, qBG, qBL, qBP, qBQ, qBR, qR8, qBB⟩
     replace BG : Hid (w_.heap[g]? = some (.cells #[.slice A0 l0.length c0, .slice A1 l1.length c1] 25 (0, 0))) := Lib.hid qBG; clear qBG
     replace BL : Hid (Below w.heap.size w w_) := Lib.hid qBL; clear qBL
     replace BP : Hid (w_.heap[p]? = some (.cells #[.slice A2 l2.length c2, .slice A3 l3.length c3] 27 (0, 0))) := Lib.hid qBP; clear qBP
     replace BQ : Hid (w_.heap[q]? = some (.cells #[.slice A4 l4.length c4, .slice A5 l5.length c5] 27 (0, 0))) := Lib.hid qBQ; clear qBQ
     replace BR : Hid (w_.heap[r]? = some (.cells #[.slice none 0 0, .slice none 0 0] 27 (0, 0))) := Lib.hid qBR; clear qBR
     have R8 : Hid (Kd.R (Kd.int .i64) 3 w_ w.heap.size (fun _ => True) (.slice A8 (l2 ++ l4).length c8) (l2 ++ l4)) := Lib.hid qR8; clear qR8
     have BB : Hid (Bk w_ b 22 (.slice A3 l3.length c3) (.slice A5 l5.length c5)) := Lib.hid qBB; clear qBB
     refine norm_ (a' := ?_) ?_ ?_
     rotate_left
     ·simp only [putAll, Act.put, sI_, s0_, sS_]
      rfl
     refine one_ (i := 6) (N := some 23) #[true, true, true, true, true, true, true, true, true, true, true, true, false, false, false, false, false] rfl rfl (by kernel_rfl) (by decide) (fun K hK => ?_)
     refine goes_ Try.func57 (by kernel_rfl) rfl #[.slice A8 (l2 ++ l4).length c8] (by rfl) rfl rfl (by (try simp only [List.map_toArray, List.map_cons, List.map_nil]); first | done | rfl | rfl) ?_
     refine (sorted_kept w _ _ (l2 ++ l4) BL.out R8.out (by have := L2.out; have := L3.out; have := L4.out; have := L5.out; simp; omega)).mono ?_
     rintro e w_ ⟨v0, rfl, ho0, hb, hk⟩
     refine ⟨_, rfl, ?_⟩
     obtain ⟨A9, c9, rfl⟩ := Kd.R_slice ho0; have R9 := Lib.hid (Kd.R_mono ho0 (fun _ _ => trivial)); replace BG := Lib.hid (blk_kept BG.out hk (Kd.R_ne R8.out BG.out (by decide))); replace BL := Lib.hid hb; replace BP := Lib.hid (blk_kept BP.out hk (Kd.R_ne R8.out BP.out (by decide))); replace BQ := Lib.hid (blk_kept BQ.out hk (Kd.R_ne R8.out BQ.out (by decide))); replace BR := Lib.hid (blk_kept BR.out hk (Kd.R_ne R8.out BR.out (by decide))); replace BB := Lib.hid (blk_kept BB.out hk (Kd.R_ne R8.out BB.out (by decide))); clear ho0 hb hk R8
     refine hK.out _ _ ⟨cell2 BP.out, cell2 BQ.out⟩ (fun hHeld => ?_)
     clear hK K
     refine norm_ (a' := ?_) ?_ ?_
     rotate_left
     ·show Act.put _ (some 23) _ = _
      simp only [Act.put, sI_, s0_, sS_, i64_w, i32_w]
      rfl
     exact norm_ (by first | (simp only [putAll, Act.put, sI_, s0_, sS_]; done) | (simp only [putAll, Act.put, sI_, s0_, sS_]; rfl)) (J3_1 (a, A8, c8, A9, c9, b) _ ⟨hHeld, BG.out, BL.out, BP.out, BQ.out, BR.out, R9.out, BB.out⟩)
    rintro ⟨a, A8, c8, A9, c9⟩ w_ ⟨hHeld, qBG, qBL, qBP, qBQ, qBR, qR9⟩
    replace BG : Hid (w_.heap[g]? = some (.cells #[.slice A0 l0.length c0, .slice A1 l1.length c1] 25 (0, 0))) := Lib.hid qBG; clear qBG
    replace BL : Hid (Below w.heap.size w w_) := Lib.hid qBL; clear qBL
    replace BP : Hid (w_.heap[p]? = some (.cells #[.slice A2 l2.length c2, .slice A3 l3.length c3] 27 (0, 0))) := Lib.hid qBP; clear qBP
    replace BQ : Hid (w_.heap[q]? = some (.cells #[.slice A4 l4.length c4, .slice A5 l5.length c5] 27 (0, 0))) := Lib.hid qBQ; clear qBQ
    replace BR : Hid (w_.heap[r]? = some (.cells #[.slice none 0 0, .slice none 0 0] 27 (0, 0))) := Lib.hid qBR; clear qBR
    have R9 : Hid (Kd.R (Kd.int .i64) 3 w_ w.heap.size (fun _ => True) (.slice A9 (Lib.compact (sortI (l2 ++ l4))).length c9) (Lib.compact (sortI (l2 ++ l4)))) := Lib.hid qR9; clear qR9
    refine norm_ (a' := ?_) ?_ ?_
    rotate_left
    ·simp only [putAll, Act.put, sI_, s0_, sS_]
     rfl
    refine one_ (i := 11) (N := some 28) #[true, true, true, true, true, true, true, true, true, true, true, true, false, false, false, false, false] rfl rfl (by kernel_rfl) (by decide) (fun K hK => ?_)
    refine lit_step ?hg (N := 28) ?hd (cs := #[.slice A3 l3.length c3, .slice A5 l5.length c5]) (t := 22) (m := 2) ?hr ?_; (case hd => rfl); (case hg => rfl); (case hr => first | (go_simp; done) | (go_simp; rfl))
    intro b hg w_ hbox hb; replace BG := Lib.hid (blk_below BG.out hb); replace BL := Lib.hid (below_then BL.out BL.out.size hb); replace BP := Lib.hid (blk_below BP.out hb); replace BQ := Lib.hid (blk_below BQ.out hb); replace BR := Lib.hid (blk_below BR.out hb); replace R9 := Lib.hid (Kd.R_below R9.out hb); have BB := Lib.hid hbox; clear hg hbox hb
    refine hK.out _ _ ⟨cell2 BP.out, cell2 BQ.out⟩ (fun hHeld => ?_)
    clear hK K
    refine norm_ (a' := ?_) ?_ ?_
    rotate_left
    ·show Act.put _ (some 28) _ = _
     simp only [Act.put, sI_, s0_, sS_, i64_w, i32_w]
     rfl
    exact norm_ (by first | (simp only [putAll, Act.put, sI_, s0_, sS_]; done) | (simp only [putAll, Act.put, sI_, s0_, sS_]; rfl)) (J3_1 (a, A8, c8, A9, c9, b) _ ⟨hHeld, BG.out, BL.out, BP.out, BQ.out, BR.out, R9.out, BB.out⟩)
   rintro ⟨a, A8, c8, A9, c9, b⟩ w_ ⟨hHeld, qBG, qBL, qBP, qBQ, qBR, qR9, qBB⟩
   replace BG : Hid (w_.heap[g]? = some (.cells #[.slice A0 l0.length c0, .slice A1 l1.length c1] 25 (0, 0))) := Lib.hid qBG; clear qBG
   replace BL : Hid (Below w.heap.size w w_) := Lib.hid qBL; clear qBL
   replace BP : Hid (w_.heap[p]? = some (.cells #[.slice A2 l2.length c2, .slice A3 l3.length c3] 27 (0, 0))) := Lib.hid qBP; clear qBP
   replace BQ : Hid (w_.heap[q]? = some (.cells #[.slice A4 l4.length c4, .slice A5 l5.length c5] 27 (0, 0))) := Lib.hid qBQ; clear qBQ
   replace BR : Hid (w_.heap[r]? = some (.cells #[.slice none 0 0, .slice none 0 0] 27 (0, 0))) := Lib.hid qBR; clear qBR
   have R9 : Hid (Kd.R (Kd.int .i64) 3 w_ w.heap.size (fun _ => True) (.slice A9 (Lib.compact (sortI (l2 ++ l4))).length c9) (Lib.compact (sortI (l2 ++ l4)))) := Lib.hid qR9; clear qR9
   have BB : Hid (Bk w_ b 22 (.slice A3 l3.length c3) (.slice A5 l5.length c5)) := Lib.hid qBB; clear qBB
   refine norm_ (a' := ?_) ?_ ?_
   rotate_left
   ·simp only [putAll, Act.put, sI_, s0_, sS_]
    rfl
   refine one_ (i := 12) (N := some 29) #[true, true, true, true, true, true, true, true, true, true, true, true, true, false, false, false, false] rfl rfl (by kernel_rfl) (by decide) (fun K hK => ?_)
   refine goes_ Try.func79 (by kernel_rfl) rfl #[.slice (some ⟨b, 0, none⟩) 2 2] (by rfl) rfl rfl (by (try simp only [List.map_toArray, List.map_cons, List.map_nil]); first | done | rfl | rfl) ?_
   refine (slices_Concat2.calls b A3 c3 l3 A5 c5 l5 _ BB.out (Kd.C_below R3.out BL.out) (Kd.C_below R5.out BL.out) L3.out L5.out).mono ?_
   rintro e w_ ⟨v0, rfl, ho0, hb⟩
   refine ⟨_, rfl, ?_⟩
   obtain ⟨A10, c10, rfl⟩ := Kd.R_slice ho0; have el_ := Kd.R_elder R9.out ho0 hb; have R10 := Lib.hid (Kd.R_lower ho0 BL.out.size); replace BG := Lib.hid (blk_below BG.out hb); replace BL := Lib.hid (below_then BL.out BL.out.size hb); replace BP := Lib.hid (blk_below BP.out hb); replace BQ := Lib.hid (blk_below BQ.out hb); replace BR := Lib.hid (blk_below BR.out hb); replace BB := Lib.hid (blk_below BB.out hb); replace R9 := Lib.hid (Kd.R_mono el_ (fun _ hk => hk.2)); clear el_; clear ho0 hb
   refine hK.out _ _ ⟨cell2 BP.out, cell2 BQ.out⟩ (fun hHeld => ?_)
   clear hK K
   refine norm_ (a' := ?_) ?_ ?_
   rotate_left
   ·show Act.put _ (some 29) _ = _
    simp only [Act.put, sI_, s0_, sS_, i64_w, i32_w]
    rfl
   exact norm_ (by first | (simp only [putAll, Act.put, sI_, s0_, sS_]; done) | (simp only [putAll, Act.put, sI_, s0_, sS_]; rfl)) (J4_1 (a, A8, c8, A9, c9, A10, c10, b) _ ⟨hHeld, BG.out, BL.out, BP.out, BQ.out, BR.out, R9.out, R10.out, BB.out⟩)
  rintro ⟨a, A8, c8, A9, c9, A10, c10, b⟩ w_ ⟨hHeld, qBG, qBL, qBP, qBQ, qBR, qR9, qR10, qBB⟩
  replace BG : Hid (w_.heap[g]? = some (.cells #[.slice A0 l0.length c0, .slice A1 l1.length c1] 25 (0, 0))) := Lib.hid qBG; clear qBG
  replace BL : Hid (Below w.heap.size w w_) := Lib.hid qBL; clear qBL
  replace BP : Hid (w_.heap[p]? = some (.cells #[.slice A2 l2.length c2, .slice A3 l3.length c3] 27 (0, 0))) := Lib.hid qBP; clear qBP
  replace BQ : Hid (w_.heap[q]? = some (.cells #[.slice A4 l4.length c4, .slice A5 l5.length c5] 27 (0, 0))) := Lib.hid qBQ; clear qBQ
  replace BR : Hid (w_.heap[r]? = some (.cells #[.slice none 0 0, .slice none 0 0] 27 (0, 0))) := Lib.hid qBR; clear qBR
  have R9 : Hid (Kd.R (Kd.int .i64) 3 w_ w.heap.size (fun k_ => some k_ ≠ (Value.slice A10 (l3 ++ l5).length c10).ownBlock) (.slice A9 (Lib.compact (sortI (l2 ++ l4))).length c9) (Lib.compact (sortI (l2 ++ l4)))) := Lib.hid qR9; clear qR9
  have R10 : Hid (Kd.R (Kd.int .i64) 3 w_ w.heap.size (fun _ => True) (.slice A10 (l3 ++ l5).length c10) (l3 ++ l5)) := Lib.hid qR10; clear qR10
  have BB : Hid (Bk w_ b 22 (.slice A3 l3.length c3) (.slice A5 l5.length c5)) := Lib.hid qBB; clear qBB
  refine norm_ (a' := ?_) ?_ ?_
  rotate_left
  ·simp only [putAll, Act.put, sI_, s0_, sS_]
   rfl
  refine one_ (i := 13) (N := some 30) #[true, true, true, true, true, true, true, true, true, true, true, true, true, true, false, false, false] rfl rfl (by kernel_rfl) (by decide) (fun K hK => ?_)
  refine goes_ Try.func57 (by kernel_rfl) rfl #[.slice A10 (l3 ++ l5).length c10] (by rfl) rfl rfl (by (try simp only [List.map_toArray, List.map_cons, List.map_nil]); first | done | rfl | rfl) ?_
  refine (sorted_kept w _ _ (l3 ++ l5) BL.out R10.out (by have := L2.out; have := L3.out; have := L4.out; have := L5.out; simp; omega)).mono ?_
  rintro e w_ ⟨v0, rfl, ho0, hb, hk⟩
  refine ⟨_, rfl, ?_⟩
  obtain ⟨A11, c11, rfl⟩ := Kd.R_slice ho0; have R11 := Lib.hid (Kd.R_mono ho0 (fun _ _ => trivial)); replace BG := Lib.hid (blk_kept BG.out hk (Kd.R_ne R10.out BG.out (by decide))); replace BL := Lib.hid hb; replace BP := Lib.hid (blk_kept BP.out hk (Kd.R_ne R10.out BP.out (by decide))); replace BQ := Lib.hid (blk_kept BQ.out hk (Kd.R_ne R10.out BQ.out (by decide))); replace BR := Lib.hid (blk_kept BR.out hk (Kd.R_ne R10.out BR.out (by decide))); replace R9 := Lib.hid (Kd.R_mono (Kd.R_kept R9.out hk (fun _ hn => hn)) (fun _ _ => trivial)); replace BB := Lib.hid (blk_kept BB.out hk (Kd.R_ne R10.out BB.out (by decide))); clear ho0 hb hk R10
  refine hK.out _ _ ⟨cell2 BP.out, cell2 BQ.out⟩ (fun hHeld => ?_)
  clear hK K
  refine norm_ (a' := ?_) ?_ ?_
  rotate_left
  ·show Act.put _ (some 30) _ = _
   simp only [Act.put, sI_, s0_, sS_, i64_w, i32_w]
   rfl
  exact norm_ (by first | (simp only [putAll, Act.put, sI_, s0_, sS_]; done) | (simp only [putAll, Act.put, sI_, s0_, sS_]; rfl)) (J5_1 (a, A8, c8, A9, c9, A10, c10, A11, c11, b) _ ⟨hHeld, BG.out, BL.out, BP.out, BQ.out, BR.out, R9.out, R11.out, BB.out⟩)
 rintro ⟨a, A8, c8, A9, c9, A10, c10, A11, c11, b⟩ w_ ⟨hHeld, qBG, qBL, qBP, qBQ, qBR, qR9, qR11, qBB⟩
 replace BG : Hid (w_.heap[g]? = some (.cells #[.slice A0 l0.length c0, .slice A1 l1.length c1] 25 (0, 0))) := Lib.hid qBG; clear qBG
 replace BL : Hid (Below w.heap.size w w_) := Lib.hid qBL; clear qBL
 replace BP : Hid (w_.heap[p]? = some (.cells #[.slice A2 l2.length c2, .slice A3 l3.length c3] 27 (0, 0))) := Lib.hid qBP; clear qBP
 replace BQ : Hid (w_.heap[q]? = some (.cells #[.slice A4 l4.length c4, .slice A5 l5.length c5] 27 (0, 0))) := Lib.hid qBQ; clear qBQ
 replace BR : Hid (w_.heap[r]? = some (.cells #[.slice none 0 0, .slice none 0 0] 27 (0, 0))) := Lib.hid qBR; clear qBR
 have R9 : Hid (Kd.R (Kd.int .i64) 3 w_ w.heap.size (fun _ => True) (.slice A9 (Lib.compact (sortI (l2 ++ l4))).length c9) (Lib.compact (sortI (l2 ++ l4)))) := Lib.hid qR9; clear qR9
 have R11 : Hid (Kd.R (Kd.int .i64) 3 w_ w.heap.size (fun _ => True) (.slice A11 (Lib.compact (sortI (l3 ++ l5))).length c11) (Lib.compact (sortI (l3 ++ l5)))) := Lib.hid qR11; clear qR11
 have BB : Hid (Bk w_ b 22 (.slice A3 l3.length c3) (.slice A5 l5.length c5)) := Lib.hid qBB; clear qBB
 refine norm_ (a' := ?_) ?_ ?_
 rotate_left
 ·simp only [putAll, Act.put, sI_, s0_, sS_]
  rfl
 clear BB
 refine pure_ (i := 14) (N := some 31) (v := ?_) (a' := ?_) #[true, true, true, true, true, true, true, true, true, true, true, true, true, true, true, false, false] rfl rfl (by kernel_rfl) (fun _ _ _ h => h) (Or.inl ⟨by rfl, ?_⟩) ?_ ?_
 rotate_left
 ·intro w'
  go_simp
  with_reducible rfl
 rotate_left
 ·simp only [Act.put, sI_, s0_, sS_, i64_w, i32_w]
  rfl
 refine one_ (i := 15) (N := none) #[true, true, true, true, true, true, true, true, true, true, true, true, true, true, true, true, false] rfl rfl (by kernel_rfl) (by decide) (fun K hK => ?_)
 obtain ⟨y0_, y1_⟩ := cell2 BR.out; have f0_ := blk_frozen BR.out 0; have f1_ := blk_frozen BR.out 1
 refine skip_ (w1 := ?_) (by rfl) rfl ?_ ?_
 rotate_left
 ·go_simp
  rfl
 clear y0_ y1_ f0_ f1_; replace BG := Lib.hid (blk_far BG.out (p := ⟨r, 0, none⟩) (by show g ≠ r; omega) (.slice A9 (Lib.compact (sortI (l2 ++ l4))).length c9)); replace BL := Lib.hid (below_set (g := r) (j := 0) (v := .slice A9 (Lib.compact (sortI (l2 ++ l4))).length c9) BL.out (by omega)); replace BP := Lib.hid (blk_far BP.out (p := ⟨r, 0, none⟩) (by show p ≠ r; omega) (.slice A9 (Lib.compact (sortI (l2 ++ l4))).length c9)); replace BQ := Lib.hid (blk_far BQ.out (p := ⟨r, 0, none⟩) (by show q ≠ r; omega) (.slice A9 (Lib.compact (sortI (l2 ++ l4))).length c9)); replace R9 := Lib.hid (Kd.R_set R9.out BR.out int_ne27 0 (.slice A9 (Lib.compact (sortI (l2 ++ l4))).length c9)); replace R11 := Lib.hid (Kd.R_set R11.out BR.out int_ne27 0 (.slice A9 (Lib.compact (sortI (l2 ++ l4))).length c9)); replace BR := Lib.hid (blk_put (cs' := #[.slice A9 (Lib.compact (sortI (l2 ++ l4))).length c9, .slice none 0 0]) BR.out 0 (.slice A9 (Lib.compact (sortI (l2 ++ l4))).length c9) rfl); replace BG := Lib.hid (blk_far BG.out (p := ⟨r, 1, none⟩) (by show g ≠ r; omega) (.slice A11 (Lib.compact (sortI (l3 ++ l5))).length c11)); replace BL := Lib.hid (below_set (g := r) (j := 1) (v := .slice A11 (Lib.compact (sortI (l3 ++ l5))).length c11) BL.out (by omega)); replace BP := Lib.hid (blk_far BP.out (p := ⟨r, 1, none⟩) (by show p ≠ r; omega) (.slice A11 (Lib.compact (sortI (l3 ++ l5))).length c11)); replace BQ := Lib.hid (blk_far BQ.out (p := ⟨r, 1, none⟩) (by show q ≠ r; omega) (.slice A11 (Lib.compact (sortI (l3 ++ l5))).length c11)); replace R9 := Lib.hid (Kd.R_set R9.out BR.out int_ne27 1 (.slice A11 (Lib.compact (sortI (l3 ++ l5))).length c11)); replace R11 := Lib.hid (Kd.R_set R11.out BR.out int_ne27 1 (.slice A11 (Lib.compact (sortI (l3 ++ l5))).length c11)); replace BR := Lib.hid (blk_put (cs' := #[.slice A9 (Lib.compact (sortI (l2 ++ l4))).length c9, .slice A11 (Lib.compact (sortI (l3 ++ l5))).length c11]) BR.out 1 (.slice A11 (Lib.compact (sortI (l3 ++ l5))).length c11) rfl)
 refine hK.out _ _ ⟨cell2 BP.out, cell2 BQ.out⟩ (fun hHeld => ?_)
 clear hK K
 refine pure_ (i := 16) (N := some 7) (v := ?_) (a' := ?_) #[true, true, true, true, true, true, true, true, true, true, true, true, true, true, true, true, true] rfl rfl (by kernel_rfl) (fun _ _ _ h => h) (Or.inl ⟨by rfl, ?_⟩) ?_ ?_
 rotate_left
 ·intro w'
  go_simp
  with_reducible rfl
 rotate_left
 ·simp only [Act.put, sI_, s0_, sS_, i64_w, i32_w]
  rfl
 refine done_ (by kernel_rfl) ?_
 obtain ⟨k0_, k1_⟩ := cell2 BR.out
 go_wp2
 exact bodyPost_ret (v := .tuple #[.agg #[.slice A9 (Lib.compact (sortI (l2 ++ l4))).length c9, .slice A11 (Lib.compact (sortI (l3 ++ l5))).length c11], .int .i64 0]) (by simp [results, Try.results37, go_sem, k0_, k1_]) rfl ⟨_, _, _, _, rfl, toR R9.out, toR R11.out, BL.out⟩
set_option maxHeartbeats 4000000 in
set_option maxRecDepth 100000 in
/-- Join with an error. -/
theorem subgraph_Join.bad (k : Nat) (A0 : Option Addr) (c0 : Nat) (l0 : List Int) (A1 : Option Addr) (c1 : Nat) (l1 : List S78) (A2 : Option Addr) (c2 : Nat) (l2 : List Int) (A3 : Option Addr) (c3 : Nat) (l3 : List Int) (A4 : Option Addr) (c4 : Nat) (l4 : List Int) (A5 : Option Addr) (c5 : Nat) (l5 : List Int) (er : Int) (w : World)
  (r0 : Kd.C (Kd.int .i64) w A0 l0.length l0) (m0 : l0.length ≤ c0) (r1 : Kd.C k78 w A1 l1.length l1) (m1 : l1.length ≤ c1) (r2 : Kd.C (Kd.int .i64) w A2 l2.length l2) (m2 : l2.length ≤ c2) (r3 : Kd.C (Kd.int .i64) w A3 l3.length l3) (m3 : l3.length ≤ c3) (r4 : Kd.C (Kd.int .i64) w A4 l4.length l4) (m4 : l4.length ≤ c4) (r5 : Kd.C (Kd.int .i64) w A5 l5.length l5) (m5 : l5.length ≤ c5)
  (he : er ≠ 0) (h0 : subgraph_both.f k l0 l1 l2 l3 l4 l5 = some er) :
  Calls Try.prog 37 #[.agg #[.slice A0 l0.length c0, .slice A1 l1.length c1], .agg #[.slice A2 l2.length c2, .slice A3 l3.length c3], .agg #[.slice A4 l4.length c4, .slice A5 l5.length c5]] w fun e w' => e = .returned (.tuple #[.agg #[.slice none 0 0, .slice none 0 0], .int .i64 er]) ∧ Below w.heap.size w w' := by
 have hu25 := Try.underlying25; have hu27 := Try.underlying27; have R0 := Lib.hid r0; have R1 := Lib.hid r1; have R2 := Lib.hid r2; have R3 := Lib.hid r3; have R4 := Lib.hid r4; have R5 := Lib.hid r5; have M0 := Lib.hid m0; have M1 := Lib.hid m1; have M2 := Lib.hid m2; have M3 := Lib.hid m3; have M4 := Lib.hid m4; have M5 := Lib.hid m5; clear r0 r1 r2 r3 r4 r5 m0 m1 m2 m3 m4 m5
 have e1 : (er != 0) = true := by simpa using he
 have e2 : decide (er = 0) = false := decide_eq_false he
 go_enter Try.func37, Try.ntmps37
 go_upto_region 1 with (first
  | ((with_reducible refine gate_dst (N := 3) rfl ?_); (try (refine gate_guard (by rfl) ?_; dsimp only)); refine box_event ?hg (N := 3) ?hd (cs := #[.slice A0 l0.length c0, .slice A1 l1.length c1]) (t := 25) ?hr ?_; (case hd => rfl); (case hg => rfl); (case hr => first | (go_simp; done) | (go_simp; rfl)); intro g hg w_ hbox hb; have HG : w.heap.size ≤ g := (hg ▸ Nat.le_refl _); have BG := Lib.hid hbox; have BL := Lib.hid hb; clear hg hbox hb)
  | ((with_reducible refine gate_dst (N := 4) rfl ?_); (try (refine gate_guard (by rfl) ?_; dsimp only)); refine box_event ?hg (N := 4) ?hd (cs := #[.slice A2 l2.length c2, .slice A3 l3.length c3]) (t := 27) ?hr ?_; (case hd => rfl); (case hg => rfl); (case hr => first | (go_simp; done) | (go_simp; rfl)); intro p hg w_ hbox hb; have HP : g < p := (hg ▸ blk_lt BG.out); replace BG := Lib.hid (blk_below BG.out hb); replace BL := Lib.hid (below_then BL.out BL.out.size hb); have BP := Lib.hid hbox; clear hg hbox hb)
  | ((with_reducible refine gate_dst (N := 5) rfl ?_); (try (refine gate_guard (by rfl) ?_; dsimp only)); refine box_event ?hg (N := 5) ?hd (cs := #[.slice A4 l4.length c4, .slice A5 l5.length c5]) (t := 27) ?hr ?_; (case hd => rfl); (case hg => rfl); (case hr => first | (go_simp; done) | (go_simp; rfl)); intro q hg w_ hbox hb; have HQ : p < q := (hg ▸ blk_lt BP.out); replace BG := Lib.hid (blk_below BG.out hb); replace BL := Lib.hid (below_then BL.out BL.out.size hb); replace BP := Lib.hid (blk_below BP.out hb); have BQ := Lib.hid hbox; clear hg hbox hb)
  | ((with_reducible refine gate_dst (N := 6) rfl ?_); (try (refine gate_guard (by rfl) ?_; dsimp only)); refine box_event ?hg (N := 6) ?hd (cs := #[.slice none 0 0, .slice none 0 0]) (t := 27) ?hr ?_; (case hd => rfl); (case hg => rfl); (case hr => first | (go_simp; done) | (go_simp; rfl)); intro r hg w_ hbox hb; have HR : q < r := (hg ▸ blk_lt BQ.out); replace BG := Lib.hid (blk_below BG.out hb); replace BL := Lib.hid (below_then BL.out BL.out.size hb); replace BP := Lib.hid (blk_below BP.out hb); replace BQ := Lib.hid (blk_below BQ.out hb); have BR := Lib.hid hbox; clear hg hbox hb))
 obtain ⟨zBG_0, zBG_1⟩ := cell2 BG.out; obtain ⟨zBP_0, zBP_1⟩ := cell2 BP.out; obtain ⟨zBQ_0, zBQ_1⟩ := cell2 BQ.out
 go_upto_region 3 with (first
  | (go_at_call 78; with_reducible refine (subgraph_both.calls k A0 c0 l0 A1 c1 l1 A2 c2 l2 A3 c3 l3 A4 c4 l4 A5 c5 l5 er _ (Kd.C_below R0.out BL.out) M0.out (Kd.C_below R1.out BL.out) M1.out (Kd.C_below R2.out BL.out) M2.out (Kd.C_below R3.out BL.out) M3.out (Kd.C_below R4.out BL.out) M4.out (Kd.C_below R5.out BL.out) M5.out h0).mono ?_; rintro e w_ ⟨rfl, hb⟩; clear zBG_0 zBG_1 zBP_0 zBP_1 zBQ_0 zBQ_1; replace BG := Lib.hid (blk_below BG.out hb); replace BL := Lib.hid (below_then BL.out BL.out.size hb); replace BP := Lib.hid (blk_below BP.out hb); replace BQ := Lib.hid (blk_below BQ.out hb); replace BR := Lib.hid (blk_below BR.out hb); clear hb; obtain ⟨zBG_0, zBG_1⟩ := cell2 BG.out; obtain ⟨zBP_0, zBP_1⟩ := cell2 BP.out; obtain ⟨zBQ_0, zBQ_1⟩ := cell2 BQ.out))
 clear zBG_0 zBG_1 zBP_0 zBP_1 zBQ_0 zBQ_1; obtain ⟨y0_, y1_⟩ := cell2 BR.out; have f0_ := blk_frozen BR.out 0; have f1_ := blk_frozen BR.out 1
 go_wp2
 clear y0_ y1_ f0_ f1_; replace BG := Lib.hid (blk_far BG.out (p := ⟨r, 0, none⟩) (by show g ≠ r; omega) (.slice none 0 0)); replace BL := Lib.hid (below_set (g := r) (j := 0) (v := .slice none 0 0) BL.out (by omega)); replace BP := Lib.hid (blk_far BP.out (p := ⟨r, 0, none⟩) (by show p ≠ r; omega) (.slice none 0 0)); replace BQ := Lib.hid (blk_far BQ.out (p := ⟨r, 0, none⟩) (by show q ≠ r; omega) (.slice none 0 0)); replace BR := Lib.hid (blk_put (cs' := #[.slice none 0 0, .slice none 0 0]) BR.out 0 (.slice none 0 0) rfl); replace BG := Lib.hid (blk_far BG.out (p := ⟨r, 1, none⟩) (by show g ≠ r; omega) (.slice none 0 0)); replace BL := Lib.hid (below_set (g := r) (j := 1) (v := .slice none 0 0) BL.out (by omega)); replace BP := Lib.hid (blk_far BP.out (p := ⟨r, 1, none⟩) (by show p ≠ r; omega) (.slice none 0 0)); replace BQ := Lib.hid (blk_far BQ.out (p := ⟨r, 1, none⟩) (by show q ≠ r; omega) (.slice none 0 0)); replace BR := Lib.hid (blk_put (cs' := #[.slice none 0 0, .slice none 0 0]) BR.out 1 (.slice none 0 0) rfl); obtain ⟨k0_, k1_⟩ := cell2 BR.out; exact bodyPost_ret (v := .tuple #[.agg #[.slice none 0 0, .slice none 0 0], .int .i64 er]) (by simp [results, Try.results37, go_sem, k0_, k1_]) rfl ⟨rfl, BL.out⟩
end Go.Proofs.Ytonipihlpbaknaa.Print
namespace Go.Proofs.Ytonipihlpbaknaa.Print
set_option linter.unusedVariables false
open Go.RowKit Go.Proofs.YtonipihlpbaknaaW.PrintWords Go.Proofs.YtonipihlpbaknaaW.PrintLast Go.Proofs.YtonipihlpbaknaaW.PrintMore
/-- What Join returns, by the error of both. -/
def joinB (be : Int) (l2 l3 l4 l5 : List Int) : List Int × List Int × Int := if be = 0 then (Lib.compact (sortI (l2 ++ l4)), Lib.compact (sortI (l3 ++ l5)), 0) else ([], [], be)
theorem subgraph_Join.calls (k : Nat) (A0 : Option Addr) (c0 : Nat) (l0 : List Int) (A1 : Option Addr) (c1 : Nat) (l1 : List S78) (A2 : Option Addr) (c2 : Nat) (l2 : List Int) (A3 : Option Addr) (c3 : Nat) (l3 : List Int) (A4 : Option Addr) (c4 : Nat) (l4 : List Int) (A5 : Option Addr) (c5 : Nat) (l5 : List Int) (p0 p1 : List Int) (er be : Int) (w : World)
    (r0 : Kd.C (Kd.int .i64) w A0 l0.length l0) (m0 : l0.length ≤ c0) (r1 : Kd.C k78 w A1 l1.length l1) (m1 : l1.length ≤ c1) (r2 : Kd.C (Kd.int .i64) w A2 l2.length l2) (m2 : l2.length ≤ c2) (r3 : Kd.C (Kd.int .i64) w A3 l3.length l3) (m3 : l3.length ≤ c3) (r4 : Kd.C (Kd.int .i64) w A4 l4.length l4) (m4 : l4.length ≤ c4) (r5 : Kd.C (Kd.int .i64) w A5 l5.length l5) (m5 : l5.length ≤ c5)
    (n2 : l2.length ≤ 1000000) (n3 : l3.length ≤ 1000000) (n4 : l4.length ≤ 1000000) (n5 : l5.length ≤ 1000000) (h0 : subgraph_both.f k l0 l1 l2 l3 l4 l5 = some be) (hj : joinB be l2 l3 l4 l5 = (p0, p1, er)) :
    Calls Try.prog 37 #[.agg #[.slice A0 l0.length c0, .slice A1 l1.length c1], .agg #[.slice A2 l2.length c2, .slice A3 l3.length c3], .agg #[.slice A4 l4.length c4, .slice A5 l5.length c5]] w fun e w' => ∃ A9 c9 A11 c11, e = .returned (.tuple #[.agg #[.slice A9 p0.length c9, .slice A11 p1.length c11], .int .i64 er]) ∧ RI w' A9 c9 p0 ∧ RI w' A11 c11 p1 ∧ Below w.heap.size w w' := by
  unfold joinB at hj
  by_cases hb : be = 0
  · subst hb
    rw [if_pos rfl] at hj
    obtain ⟨rfl, rfl, rfl⟩ : Lib.compact (sortI (l2 ++ l4)) = p0 ∧ Lib.compact (sortI (l3 ++ l5)) = p1 ∧ (0 : Int) = er := by simpa using hj
    exact subgraph_Join.ok k A0 c0 l0 A1 c1 l1 A2 c2 l2 A3 c3 l3 A4 c4 l4 A5 c5 l5 w r0 m0 r1 m1 r2 m2 r3 m3 r4 m4 r5 m5 n2 n3 n4 n5 h0
  · rw [if_neg hb] at hj
    obtain ⟨rfl, rfl, rfl⟩ : [] = p0 ∧ [] = p1 ∧ be = er := by simpa using hj
    refine (subgraph_Join.bad k A0 c0 l0 A1 c1 l1 A2 c2 l2 A3 c3 l3 A4 c4 l4 A5 c5 l5 be w r0 m0 r1 m1 r2 m2 r3 m3 r4 m4 r5 m5 hb h0).mono ?_
    rintro e w' ⟨rfl, hl⟩; exact ⟨none, 0, none, 0, rfl, Kd.R_nil _ _ _ _ _, Kd.R_nil _ _ _ _ _, hl⟩
/-- A row of two parts, whose lists came in. -/
theorem part_row2 {w : World} {g : Nat} {A2 A3 A4 A5 : Option Addr} {c2 c3 c4 c5 : Nat} {l2 l3 l4 l5 : List Int} (hb : w.heap[g]? = some (.cells #[.slice A2 l2.length c2, .slice A3 l3.length c3, .slice A4 l4.length c4, .slice A5 l5.length c5] 27 (0, 0)))
    (R2 : Kd.C (Kd.int .i64) w A2 l2.length l2) (m2 : l2.length ≤ c2) (R3 : Kd.C (Kd.int .i64) w A3 l3.length l3) (m3 : l3.length ≤ c3) (R4 : Kd.C (Kd.int .i64) w A4 l4.length l4) (m4 : l4.length ≤ c4) (R5 : Kd.C (Kd.int .i64) w A5 l5.length l5) (m5 : l5.length ≤ c5) : Kd.C k27 w (some ⟨g, 0, none⟩) 2 [⟨l2, l3⟩, ⟨l4, l5⟩] := by
  have z0 := (blk_cell hb 0).trans rfl; have z1 := (blk_cell hb 1).trans rfl; have z2 := (blk_cell hb 2).trans rfl; have z3 := (blk_cell hb 3).trans rfl
  refine ⟨rfl, by omega, fun _ => ⟨⟨g, 0, none⟩, rfl, fun j p hj => ?_⟩⟩
  match j, hj with
  | 0, hj =>
    obtain rfl : (⟨l2, l3⟩ : S27) = p := Option.some.inj hj
    refine ⟨[.slice A2 l2.length c2, .slice A3 l3.length c3], rfl, k27_mk w ⟨l2, l3⟩ m2 R2 m3 R3, fun i u hu => ?_⟩
    match i, hu with
    | 0, hu =>
      obtain rfl := Option.some.inj hu
      simpa [Addr.add] using z0
    | 1, hu =>
      obtain rfl := Option.some.inj hu
      simpa [Addr.add] using z1
    | i + 2, hu => exact absurd hu (by simp)
  | 1, hj =>
    obtain rfl : (⟨l4, l5⟩ : S27) = p := Option.some.inj hj
    refine ⟨[.slice A4 l4.length c4, .slice A5 l5.length c5], rfl, k27_mk w ⟨l4, l5⟩ m4 R4 m5 R5, fun i u hu => ?_⟩
    match i, hu with
    | 0, hu =>
      obtain rfl := Option.some.inj hu; exact z2
    | 1, hu =>
      obtain rfl := Option.some.inj hu; exact z3
    | i + 2, hu => exact absurd hu (by simp)
  | j + 2, hj => exact absurd hj (by simp)
end Go.Proofs.Ytonipihlpbaknaa.Print
namespace Go.Proofs.Ytonipihlpbaknaa.Print
open Go.RowKit Go.Proofs.YtonipihlpbaknaaW.PrintWords Go.Proofs.YtonipihlpbaknaaW.PrintLast Go.Proofs.YtonipihlpbaknaaW.PrintMore
attribute [local go_sem] max2_int min2_int max_two min_two max_three min_three max_four min_four   -- for this text's walks alone
set_option linter.unusedVariables false
set_option linter.unusedSimpArgs false
def subgraph_Meet.f (k : Nat) (l0_0 : List Int) (l0_1 : List (S78)) (l1_0 : List Int) (l1_1 : List Int) (l2_0 : List Int) (l2_1 : List Int) : Option (List Int × List Int × Int) := (subgraph_both.f k l0_0 l0_1 l1_0 l1_1 l2_0 l2_1).bind fun t105 => (if t105 = 0 then ((subgraph_common.f l1_0 l2_0).bind fun t106 => ((subgraph_common.f l1_1 l2_1).bind fun t109 => (some (t106, t109, 0)))) else (some (([] : List Int), ([] : List Int), t105)))
def subgraph_Meet.T4 : Bool × List (List Nat × List Nat) := (true, [([], []), ([0], [0]), ([], []), ([2], [2]), ([1, 3], [1, 3]), ([], []), ([5], [5]), ([], []), ([7], [7]), ([6, 8, 4], [6, 8]), ([4, 9], [4, 9]), ([10, 9, 0, 1, 2, 3, 4, 5, 6, 7, 8, 9, 10], [10]), ([11, 0, 1, 2, 3, 4, 5, 6, 7, 8, 9, 10, 11], [])])
def subgraph_Meet.B4 : List Nat := [0, 1, 0, 4, 15, 0, 32, 0, 128, 511, 1023, 2047, 4095]
theorem subgraph_Meet.tab4 : rtab .any (opsOf Try.f39 4) = subgraph_Meet.T4 := by kernel_rfl
theorem subgraph_Meet.bits4 : waitsOk subgraph_Meet.T4.2 subgraph_Meet.B4 = true := by kernel_rfl
set_option maxHeartbeats 8000000 in
set_option maxRecDepth 100000 in
theorem subgraph_Meet.calls (k : Nat) (A0_0 : Option Addr) (c0_0 : Nat) (l0_0 : List Int) (A0_1 : Option Addr) (c0_1 : Nat) (l0_1 : List (S78)) (A1_0 : Option Addr) (c1_0 : Nat) (l1_0 : List Int) (A1_1 : Option Addr) (c1_1 : Nat) (l1_1 : List Int) (A2_0 : Option Addr) (c2_0 : Nat) (l2_0 : List Int) (A2_1 : Option Addr) (c2_1 : Nat) (l2_1 : List Int) (r1 : List Int) (r2 : List Int) (r3 : Int) (w : World) (hr0_0 : Kd.C (Kd.int .i64) w A0_0 l0_0.length l0_0) (hc0_0 : l0_0.length ≤ c0_0) (hr0_1 : Kd.C k78 w A0_1 l0_1.length l0_1) (hc0_1 : l0_1.length ≤ c0_1) (hr1_0 : Kd.C (Kd.int .i64) w A1_0 l1_0.length l1_0) (hc1_0 : l1_0.length ≤ c1_0) (hr1_1 : Kd.C (Kd.int .i64) w A1_1 l1_1.length l1_1) (hc1_1 : l1_1.length ≤ c1_1) (hr2_0 : Kd.C (Kd.int .i64) w A2_0 l2_0.length l2_0) (hc2_0 : l2_0.length ≤ c2_0) (hr2_1 : Kd.C (Kd.int .i64) w A2_1 l2_1.length l2_1) (hc2_1 : l2_1.length ≤ c2_1) (h : subgraph_Meet.f k l0_0 l0_1 l1_0 l1_1 l2_0 l2_1 = some (r1, r2, r3)) :
  Calls Try.prog 39 #[.agg #[.slice A0_0 l0_0.length c0_0, .slice A0_1 l0_1.length c0_1], .agg #[.slice A1_0 l1_0.length c1_0, .slice A1_1 l1_1.length c1_1], .agg #[.slice A2_0 l2_0.length c2_0, .slice A2_1 l2_1.length c2_1]] w fun e w' => ∃ v0_ v1_ : Value, e = .returned (.tuple #[.agg #[v0_, v1_], .int .i64 r3]) ∧ Kd.R (Kd.int .i64) 3 w' w.heap.size (fun k_ => some k_ ≠ (v1_ : Value).ownBlock) v0_ r1 ∧ Kd.R (Kd.int .i64) 3 w' w.heap.size (fun k_ => some k_ ≠ (v0_ : Value).ownBlock) v1_ r2 ∧ Below w.heap.size w w' := by
 have hu25 := Try.underlying25; have hu27 := Try.underlying27; have HR0_0 := Aside0.mk hr0_0; have HC0_0 := Aside0.mk hc0_0; clear hr0_0 hc0_0; have HR0_1 := Aside0.mk hr0_1; have HC0_1 := Aside0.mk hc0_1; clear hr0_1 hc0_1; have HR1_0 := Aside0.mk hr1_0; have HC1_0 := Aside0.mk hc1_0; clear hr1_0 hc1_0; have HR1_1 := Aside0.mk hr1_1; have HC1_1 := Aside0.mk hc1_1; clear hr1_1 hc1_1; have HR2_0 := Aside0.mk hr2_0; have HC2_0 := Aside0.mk hc2_0; clear hr2_0 hc2_0; have HR2_1 := Aside0.mk hr2_1; have HC2_1 := Aside0.mk hc2_1; clear hr2_1 hc2_1; have HB := Aside0.mk (Below.refl w.heap.size w); have H : ((subgraph_both.f k l0_0 l0_1 l1_0 l1_1 l2_0 l2_1).bind fun t105 => (if t105 = 0 then ((subgraph_common.f l1_0 l2_0).bind fun t106 => ((subgraph_common.f l1_1 l2_1).bind fun t109 => (some (t106, t109, 0)))) else (some (([] : List Int), ([] : List Int), t105)))) = some (r1, r2, r3) := h; clear h; replace H := Option.bind_eq_some_iff.mp H; obtain ⟨t105, A40, H⟩ := H; replace H : (if t105 = 0 then ((subgraph_common.f l1_0 l2_0).bind fun t106 => ((subgraph_common.f l1_1 l2_1).bind fun t109 => (some (t106, t109, 0)))) else (some (([] : List Int), ([] : List Int), t105))) = some (r1, r2, r3) := H; have A4 := Aside0.mk A40; clear A40
 by_cases c5 : t105 = 0
 ·rw [if_pos c5] at H
  have c5b0 : (t105 == 0) = true := beq_iff_eq.mpr c5; have c5b1 : (t105 != 0) = false := bne_eq_false_iff_eq.mpr c5; clear c5; replace H := Option.bind_eq_some_iff.mp H; obtain ⟨t106, A60, H⟩ := H; replace H : ((subgraph_common.f l1_1 l2_1).bind fun t109 => (some (t106, t109, 0))) = some (r1, r2, r3) := H; have A6 := Aside0.mk A60; clear A60; replace H := Option.bind_eq_some_iff.mp H; obtain ⟨t109, A70, H⟩ := H; replace H : (some (t106, t109, 0)) = some (r1, r2, r3) := H; have A7 := Aside0.mk A70; clear A70; simp only [Option.some.injEq, Prod.mk.injEq] at H; obtain ⟨rfl, rfl, rfl⟩ := H
  go_enter Try.func39, Try.ntmps39
  try go_wp2_with (first | ((with_reducible refine gate_dst (N := 3) rfl ?_); refine box_event ?hg (N := 3) ?hd (cs := #[.slice A0_0 l0_0.length c0_0, .slice A0_1 l0_1.length c0_1]) (t := 25) ?hr ?_; (case hd => rfl); (case hg => rfl); (case hr => first | (go_simp; done) | (go_simp; rfl)); intro gb101 hg w8 hbox hb; have n0_ := Aside0.mk (below_step (by repeat (first | (with_reducible first | exact HB.out | apply lA_ | apply lN_ | apply lD_) | exact HB.out)) hb); have n1_ := Aside0.mk (hbox); have n2_ := Aside0.mk ((by rw [hg]; exact (below_size (by repeat (first | (with_reducible first | exact HB.out | apply lA_ | apply lN_ | apply lD_) | exact HB.out))) : w.heap.size ≤ gb101)); have n3_ := Aside0.mk ((by rw [hg]; exact (below_size (by repeat (first | (with_reducible first | exact HB.out | apply lA_ | apply lN_ | apply lD_) | exact HB.out))) : w.heap.size ≤ gb101)); clear HB; have HB := n0_; have BK101 := n1_; have GW101 := n2_; have GE101 := n3_; clear n0_ n1_ n2_ n3_; clear hb hbox hg) | ((with_reducible refine gate_dst (N := 4) rfl ?_); refine box_event ?hg (N := 4) ?hd (cs := #[.slice A1_0 l1_0.length c1_0, .slice A1_1 l1_1.length c1_1]) (t := 27) ?hr ?_; (case hd => rfl); (case hg => rfl); (case hr => first | (go_simp; done) | (go_simp; rfl)); intro gb102 hg w9 hbox hb; have n0_ := Aside0.mk (blk_below (g := gb101) (o := .cells #[.slice A0_0 l0_0.length c0_0, .slice A0_1 l0_1.length c0_1] 25 (0, 0)) (by (with_reducible repeat first | refine bN_ ?_ _ | refine bD_ ?_ | refine bA_ ?_ _); exact BK101.out) hb); have n1_ := Aside0.mk (below_step (by repeat (first | (with_reducible first | exact HB.out | apply lA_ | apply lN_ | apply lD_ | refine below_set ?_ GE101.out) | exact HB.out)) hb); have n2_ := Aside0.mk (hbox); have n3_ := Aside0.mk ((by rw [hg]; exact (below_size (by repeat (first | (with_reducible first | exact HB.out | apply lA_ | apply lN_ | apply lD_ | refine below_set ?_ GE101.out) | exact HB.out))) : w.heap.size ≤ gb102)); have n4_ := Aside0.mk ((by rw [hg]; exact (below_size (by repeat (first | (with_reducible first | exact HB.out | apply lA_ | apply lN_ | apply lD_ | refine below_set ?_ GE101.out) | exact HB.out))) : w.heap.size ≤ gb102)); have n5_ := Aside0.mk ((by rw [hg]; exact Nat.ne_of_lt (blk_lt (g := gb101) (o := .cells #[.slice A0_0 l0_0.length c0_0, .slice A0_1 l0_1.length c0_1] 25 (0, 0)) (by (with_reducible repeat first | refine bN_ ?_ _ | refine bD_ ?_ | refine bA_ ?_ _); exact BK101.out)) : gb101 ≠ gb102)); have n6_ := Aside0.mk ((by rw [hg]; exact Nat.ne_of_gt (blk_lt (g := gb101) (o := .cells #[.slice A0_0 l0_0.length c0_0, .slice A0_1 l0_1.length c0_1] 25 (0, 0)) (by (with_reducible repeat first | refine bN_ ?_ _ | refine bD_ ?_ | refine bA_ ?_ _); exact BK101.out)) : gb102 ≠ gb101)); clear BK101; clear HB; have BK101 := n0_; have HB := n1_; have BK102 := n2_; have GW102 := n3_; have GE102 := n4_; have NB101_102 := n5_; have NB102_101 := n6_; clear n0_ n1_ n2_ n3_ n4_ n5_ n6_; clear hb hbox hg) | ((with_reducible refine gate_dst (N := 5) rfl ?_); refine box_event ?hg (N := 5) ?hd (cs := #[.slice A2_0 l2_0.length c2_0, .slice A2_1 l2_1.length c2_1]) (t := 27) ?hr ?_; (case hd => rfl); (case hg => rfl); (case hr => first | (go_simp; done) | (go_simp; rfl)); intro gb103 hg w10 hbox hb; have n0_ := Aside0.mk (blk_below (g := gb101) (o := .cells #[.slice A0_0 l0_0.length c0_0, .slice A0_1 l0_1.length c0_1] 25 (0, 0)) (by (with_reducible repeat first | refine bN_ ?_ _ | refine bD_ ?_ | refine bA_ ?_ _); exact BK101.out) hb); have n1_ := Aside0.mk (blk_below (g := gb102) (o := .cells #[.slice A1_0 l1_0.length c1_0, .slice A1_1 l1_1.length c1_1] 27 (0, 0)) (by (with_reducible repeat first | refine bN_ ?_ _ | refine bD_ ?_ | refine bA_ ?_ _); exact BK102.out) hb); have n2_ := Aside0.mk (below_step (by repeat (first | (with_reducible first | exact HB.out | apply lA_ | apply lN_ | apply lD_ | refine below_set ?_ GE101.out | refine below_set ?_ GE102.out) | exact HB.out)) hb); have n3_ := Aside0.mk (hbox); have n4_ := Aside0.mk ((by rw [hg]; exact (below_size (by repeat (first | (with_reducible first | exact HB.out | apply lA_ | apply lN_ | apply lD_ | refine below_set ?_ GE101.out | refine below_set ?_ GE102.out) | exact HB.out))) : w.heap.size ≤ gb103)); have n5_ := Aside0.mk ((by rw [hg]; exact (below_size (by repeat (first | (with_reducible first | exact HB.out | apply lA_ | apply lN_ | apply lD_ | refine below_set ?_ GE101.out | refine below_set ?_ GE102.out) | exact HB.out))) : w.heap.size ≤ gb103)); have n6_ := Aside0.mk ((by rw [hg]; exact Nat.ne_of_lt (blk_lt (g := gb101) (o := .cells #[.slice A0_0 l0_0.length c0_0, .slice A0_1 l0_1.length c0_1] 25 (0, 0)) (by (with_reducible repeat first | refine bN_ ?_ _ | refine bD_ ?_ | refine bA_ ?_ _); exact BK101.out)) : gb101 ≠ gb103)); have n7_ := Aside0.mk ((by rw [hg]; exact Nat.ne_of_gt (blk_lt (g := gb101) (o := .cells #[.slice A0_0 l0_0.length c0_0, .slice A0_1 l0_1.length c0_1] 25 (0, 0)) (by (with_reducible repeat first | refine bN_ ?_ _ | refine bD_ ?_ | refine bA_ ?_ _); exact BK101.out)) : gb103 ≠ gb101)); have n8_ := Aside0.mk ((by rw [hg]; exact Nat.ne_of_lt (blk_lt (g := gb102) (o := .cells #[.slice A1_0 l1_0.length c1_0, .slice A1_1 l1_1.length c1_1] 27 (0, 0)) (by (with_reducible repeat first | refine bN_ ?_ _ | refine bD_ ?_ | refine bA_ ?_ _); exact BK102.out)) : gb102 ≠ gb103)); have n9_ := Aside0.mk ((by rw [hg]; exact Nat.ne_of_gt (blk_lt (g := gb102) (o := .cells #[.slice A1_0 l1_0.length c1_0, .slice A1_1 l1_1.length c1_1] 27 (0, 0)) (by (with_reducible repeat first | refine bN_ ?_ _ | refine bD_ ?_ | refine bA_ ?_ _); exact BK102.out)) : gb103 ≠ gb102)); clear BK101; clear BK102; clear HB; have BK101 := n0_; have BK102 := n1_; have HB := n2_; have BK103 := n3_; have GW103 := n4_; have GE103 := n5_; have NB101_103 := n6_; have NB103_101 := n7_; have NB102_103 := n8_; have NB103_102 := n9_; clear n0_ n1_ n2_ n3_ n4_ n5_ n6_ n7_ n8_ n9_; clear hb hbox hg) | ((with_reducible refine gate_dst (N := 6) rfl ?_); refine box_event ?hg (N := 6) ?hd (cs := #[.slice none 0 0, .slice none 0 0]) (t := 27) ?hr ?_; (case hd => rfl); (case hg => rfl); (case hr => first | (go_simp; done) | (go_simp; rfl)); intro gb104 hg w11 hbox hb; have n0_ := Aside0.mk (blk_below (g := gb101) (o := .cells #[.slice A0_0 l0_0.length c0_0, .slice A0_1 l0_1.length c0_1] 25 (0, 0)) (by (with_reducible repeat first | refine bN_ ?_ _ | refine bD_ ?_ | refine bA_ ?_ _); exact BK101.out) hb); have n1_ := Aside0.mk (blk_below (g := gb102) (o := .cells #[.slice A1_0 l1_0.length c1_0, .slice A1_1 l1_1.length c1_1] 27 (0, 0)) (by (with_reducible repeat first | refine bN_ ?_ _ | refine bD_ ?_ | refine bA_ ?_ _); exact BK102.out) hb); have n2_ := Aside0.mk (blk_below (g := gb103) (o := .cells #[.slice A2_0 l2_0.length c2_0, .slice A2_1 l2_1.length c2_1] 27 (0, 0)) (by (with_reducible repeat first | refine bN_ ?_ _ | refine bD_ ?_ | refine bA_ ?_ _); exact BK103.out) hb); have n3_ := Aside0.mk (below_step (by repeat (first | (with_reducible first | exact HB.out | apply lA_ | apply lN_ | apply lD_ | refine below_set ?_ GE101.out | refine below_set ?_ GE102.out | refine below_set ?_ GE103.out) | exact HB.out)) hb); have n4_ := Aside0.mk (hbox); have n5_ := Aside0.mk ((by rw [hg]; exact (below_size (by repeat (first | (with_reducible first | exact HB.out | apply lA_ | apply lN_ | apply lD_ | refine below_set ?_ GE101.out | refine below_set ?_ GE102.out | refine below_set ?_ GE103.out) | exact HB.out))) : w.heap.size ≤ gb104)); have n6_ := Aside0.mk ((by rw [hg]; exact (below_size (by repeat (first | (with_reducible first | exact HB.out | apply lA_ | apply lN_ | apply lD_ | refine below_set ?_ GE101.out | refine below_set ?_ GE102.out | refine below_set ?_ GE103.out) | exact HB.out))) : w.heap.size ≤ gb104)); have n7_ := Aside0.mk ((by rw [hg]; exact Nat.ne_of_lt (blk_lt (g := gb101) (o := .cells #[.slice A0_0 l0_0.length c0_0, .slice A0_1 l0_1.length c0_1] 25 (0, 0)) (by (with_reducible repeat first | refine bN_ ?_ _ | refine bD_ ?_ | refine bA_ ?_ _); exact BK101.out)) : gb101 ≠ gb104)); have n8_ := Aside0.mk ((by rw [hg]; exact Nat.ne_of_gt (blk_lt (g := gb101) (o := .cells #[.slice A0_0 l0_0.length c0_0, .slice A0_1 l0_1.length c0_1] 25 (0, 0)) (by (with_reducible repeat first | refine bN_ ?_ _ | refine bD_ ?_ | refine bA_ ?_ _); exact BK101.out)) : gb104 ≠ gb101)); have n9_ := Aside0.mk ((by rw [hg]; exact Nat.ne_of_lt (blk_lt (g := gb102) (o := .cells #[.slice A1_0 l1_0.length c1_0, .slice A1_1 l1_1.length c1_1] 27 (0, 0)) (by (with_reducible repeat first | refine bN_ ?_ _ | refine bD_ ?_ | refine bA_ ?_ _); exact BK102.out)) : gb102 ≠ gb104)); have n10_ := Aside0.mk ((by rw [hg]; exact Nat.ne_of_gt (blk_lt (g := gb102) (o := .cells #[.slice A1_0 l1_0.length c1_0, .slice A1_1 l1_1.length c1_1] 27 (0, 0)) (by (with_reducible repeat first | refine bN_ ?_ _ | refine bD_ ?_ | refine bA_ ?_ _); exact BK102.out)) : gb104 ≠ gb102)); have n11_ := Aside0.mk ((by rw [hg]; exact Nat.ne_of_lt (blk_lt (g := gb103) (o := .cells #[.slice A2_0 l2_0.length c2_0, .slice A2_1 l2_1.length c2_1] 27 (0, 0)) (by (with_reducible repeat first | refine bN_ ?_ _ | refine bD_ ?_ | refine bA_ ?_ _); exact BK103.out)) : gb103 ≠ gb104)); have n12_ := Aside0.mk ((by rw [hg]; exact Nat.ne_of_gt (blk_lt (g := gb103) (o := .cells #[.slice A2_0 l2_0.length c2_0, .slice A2_1 l2_1.length c2_1] 27 (0, 0)) (by (with_reducible repeat first | refine bN_ ?_ _ | refine bD_ ?_ | refine bA_ ?_ _); exact BK103.out)) : gb104 ≠ gb103)); clear BK101; clear BK102; clear BK103; clear HB; have BK101 := n0_; have BK102 := n1_; have BK103 := n2_; have HB := n3_; have BK104 := n4_; have GW104 := n5_; have GE104 := n6_; have NB101_104 := n7_; have NB104_101 := n8_; have NB102_104 := n9_; have NB104_102 := n10_; have NB103_104 := n11_; have NB104_103 := n12_; clear n0_ n1_ n2_ n3_ n4_ n5_ n6_ n7_ n8_ n9_ n10_ n11_ n12_; clear hb hbox hg; have hnb12 := NB101_102.out; have hnc12 := NB102_101.out; have hnb13 := NB101_103.out; have hnc13 := NB103_101.out; have hnb14 := NB101_104.out; have hnc14 := NB104_101.out; have hcz15_0 : w11.cell? ⟨gb101, 0, none⟩ = some (.slice A0_0 l0_0.length c0_0) := (blk_cell BK101.out 0).trans rfl; have hcz15_1 : w11.cell? ⟨gb101, 1, none⟩ = some (.slice A0_1 l0_1.length c0_1) := (blk_cell BK101.out 1).trans rfl; have hfz15_0 := blk_frozen BK101.out 0; have hfz15_1 := blk_frozen BK101.out 1; have hnb16 := NB102_103.out; have hnc16 := NB103_102.out; have hnb17 := NB102_104.out; have hnc17 := NB104_102.out; have hcz18_0 : w11.cell? ⟨gb102, 0, none⟩ = some (.slice A1_0 l1_0.length c1_0) := (blk_cell BK102.out 0).trans rfl; have hcz18_1 : w11.cell? ⟨gb102, 1, none⟩ = some (.slice A1_1 l1_1.length c1_1) := (blk_cell BK102.out 1).trans rfl; have hfz18_0 := blk_frozen BK102.out 0; have hfz18_1 := blk_frozen BK102.out 1; have hnb19 := NB103_104.out; have hnc19 := NB104_103.out; have hcz20_0 : w11.cell? ⟨gb103, 0, none⟩ = some (.slice A2_0 l2_0.length c2_0) := (blk_cell BK103.out 0).trans rfl; have hcz20_1 : w11.cell? ⟨gb103, 1, none⟩ = some (.slice A2_1 l2_1.length c2_1) := (blk_cell BK103.out 1).trans rfl; have hfz20_0 := blk_frozen BK103.out 0; have hfz20_1 := blk_frozen BK103.out 1) | ((with_reducible refine gate_callee (f := 78) rfl ?_); refine goesL_ (some 12) rfl rfl Try.func78 (by kernel_rfl) rfl #[.agg #[.slice A0_0 l0_0.length c0_0, .slice A0_1 l0_1.length c0_1], .agg #[.slice A1_0 l1_0.length c1_0, .slice A1_1 l1_1.length c1_1], .agg #[.slice A2_0 l2_0.length c2_0, .slice A2_1 l2_1.length c2_1]] rfl (by (try simp only [List.map_toArray, List.map_cons, List.map_nil]); first | done | rfl | (simp only [List.length_drop, List.length_take]; rfl)) ?_; (with_reducible refine (subgraph_both.calls k _ _ l0_0 _ _ l0_1 _ _ l1_0 _ _ l1_1 _ _ l2_0 _ _ l2_1 t105 _ ?side1 ?side2 ?side3 ?side4 ?side5 ?side6 ?side7 ?side8 ?side9 ?side10 ?side11 ?side12 A4.out).mono ?_); (case side1 => repeat (first | exact (Kd.C_below HR0_0.out HB.out) | (with_reducible refine Kd.C_alloc ?_ _) | (with_reducible refine Kd.C_drewN ?_ _) | (with_reducible refine Kd.C_drew ?_))); (case side2 => exact HC0_0.out); (case side3 => repeat (first | exact (Kd.C_below HR0_1.out HB.out) | (with_reducible refine Kd.C_alloc ?_ _) | (with_reducible refine Kd.C_drewN ?_ _) | (with_reducible refine Kd.C_drew ?_))); (case side4 => exact HC0_1.out); (case side5 => repeat (first | exact (Kd.C_below HR1_0.out HB.out) | (with_reducible refine Kd.C_alloc ?_ _) | (with_reducible refine Kd.C_drewN ?_ _) | (with_reducible refine Kd.C_drew ?_))); (case side6 => exact HC1_0.out); (case side7 => repeat (first | exact (Kd.C_below HR1_1.out HB.out) | (with_reducible refine Kd.C_alloc ?_ _) | (with_reducible refine Kd.C_drewN ?_ _) | (with_reducible refine Kd.C_drew ?_))); (case side8 => exact HC1_1.out); (case side9 => repeat (first | exact (Kd.C_below HR2_0.out HB.out) | (with_reducible refine Kd.C_alloc ?_ _) | (with_reducible refine Kd.C_drewN ?_ _) | (with_reducible refine Kd.C_drew ?_))); (case side10 => exact HC2_0.out); (case side11 => repeat (first | exact (Kd.C_below HR2_1.out HB.out) | (with_reducible refine Kd.C_alloc ?_ _) | (with_reducible refine Kd.C_drewN ?_ _) | (with_reducible refine Kd.C_drew ?_))); (case side12 => exact HC2_1.out); rintro e w21 ⟨rfl, hb⟩; refine ⟨_, rfl, ?_⟩; have n0_ := Aside0.mk (blk_below (g := gb101) (o := .cells #[.slice A0_0 l0_0.length c0_0, .slice A0_1 l0_1.length c0_1] 25 (0, 0)) (by (with_reducible repeat first | refine bN_ ?_ _ | refine bD_ ?_ | refine bA_ ?_ _); exact BK101.out) hb); have n1_ := Aside0.mk (blk_below (g := gb102) (o := .cells #[.slice A1_0 l1_0.length c1_0, .slice A1_1 l1_1.length c1_1] 27 (0, 0)) (by (with_reducible repeat first | refine bN_ ?_ _ | refine bD_ ?_ | refine bA_ ?_ _); exact BK102.out) hb); have n2_ := Aside0.mk (blk_below (g := gb103) (o := .cells #[.slice A2_0 l2_0.length c2_0, .slice A2_1 l2_1.length c2_1] 27 (0, 0)) (by (with_reducible repeat first | refine bN_ ?_ _ | refine bD_ ?_ | refine bA_ ?_ _); exact BK103.out) hb); have n3_ := Aside0.mk (blk_below (g := gb104) (o := .cells #[.slice none 0 0, .slice none 0 0] 27 (0, 0)) (by (with_reducible repeat first | refine bN_ ?_ _ | refine bD_ ?_ | refine bA_ ?_ _); exact BK104.out) hb); have n4_ := Aside0.mk (below_step (by repeat (first | (with_reducible first | exact HB.out | apply lA_ | apply lN_ | apply lD_ | refine below_set ?_ GE101.out | refine below_set ?_ GE102.out | refine below_set ?_ GE103.out | refine below_set ?_ GE104.out) | exact HB.out)) hb); clear BK101; clear BK102; clear BK103; clear BK104; clear HB; have BK101 := n0_; have BK102 := n1_; have BK103 := n2_; have BK104 := n3_; have HB := n4_; clear n0_ n1_ n2_ n3_ n4_; (try clear hb); (try clear hb2); (try clear hk); (try clear hi)))
  have n0_ := Aside0.mk (blk_drew BK101.out); have n1_ := Aside0.mk (blk_drew BK102.out); have n2_ := Aside0.mk (blk_drew BK103.out); have n3_ := Aside0.mk (blk_drew BK104.out); have n4_ := Aside0.mk (below_drew1 HB.out); clear BK101; clear BK102; clear BK103; clear BK104; clear HB; have BK101 := n0_; have BK102 := n1_; have BK103 := n2_; have BK104 := n3_; have HB := n4_; clear n0_ n1_ n2_ n3_ n4_
  refine start_ (n := 13) (S := fun w' => w'.cell? ⟨gb102, 0, none⟩ = some (.slice A1_0 l1_0.length c1_0) ∧ w'.cell? ⟨gb102, 1, none⟩ = some (.slice A1_1 l1_1.length c1_1) ∧ w'.cell? ⟨gb103, 0, none⟩ = some (.slice A2_0 l2_0.length c2_0) ∧ w'.cell? ⟨gb103, 1, none⟩ = some (.slice A2_1 l2_1.length c2_1)) (ds := []) #[false, false, false, false, false, false, false, false, false, false, false, false, false] (by kernel_rfl) rfl rfl ⟨(blk_cell BK102.out 0).trans rfl, (blk_cell BK102.out 1).trans rfl, (blk_cell BK103.out 0).trans rfl, (blk_cell BK103.out 1).trans rfl⟩ (fun hHeld => ?_); refine with_tabW subgraph_Meet.tab4 subgraph_Meet.bits4 (fun HT_ HW_ => ?_)
  generalize w21.drew = w22 at BK101 BK102 BK103 BK104 HB hHeld ⊢
  refine pure_ (i := 0) (N := some 17) (v := ?_) (a' := ?_) #[true, false, false, false, false, false, false, false, false, false, false, false, false] rfl rfl (any_of HT_.out (by kernel_rfl)) (fun _ _ _ h => h) (Or.inl ⟨by rfl, ?_⟩) ?_ ?_
  rotate_left
  ·intro w'
   go_simp
   with_reducible rfl
  rotate_left
  ·simp only [Act.put, sI_, s0_, sS_, i64_w, i32_w]
   rfl
  refine pure_ (i := 2) (N := some 19) (v := ?_) (a' := ?_) #[true, false, true, false, false, false, false, false, false, false, false, false, false] rfl rfl (any_of HT_.out (by kernel_rfl)) (fun _ _ _ h => h) (Or.inl ⟨by rfl, ?_⟩) ?_ ?_
  rotate_left
  ·intro w'
   go_simp
   with_reducible rfl
  rotate_left
  ·simp only [Act.put, sI_, s0_, sS_, i64_w, i32_w]
   rfl
  refine pure_ (i := 5) (N := some 22) (v := ?_) (a' := ?_) #[true, false, true, false, false, true, false, false, false, false, false, false, false] rfl rfl (any_of HT_.out (by kernel_rfl)) (fun _ _ _ h => h) (Or.inl ⟨by rfl, ?_⟩) ?_ ?_
  rotate_left
  ·intro w'
   go_simp
   with_reducible rfl
  rotate_left
  ·simp only [Act.put, sI_, s0_, sS_, i64_w, i32_w]
   rfl
  refine pure_ (i := 7) (N := some 24) (v := ?_) (a' := ?_) #[true, false, true, false, false, true, false, true, false, false, false, false, false] rfl rfl (any_of HT_.out (by kernel_rfl)) (fun _ _ _ h => h) (Or.inl ⟨by rfl, ?_⟩) ?_ ?_
  rotate_left
  ·intro w'
   go_simp
   with_reducible rfl
  rotate_left
  ·simp only [Act.put, sI_, s0_, sS_, i64_w, i32_w]
   rfl
  refine take_ (i := 1) (N := some 18) (v := ?_) (a' := ?_) #[true, true, true, false, false, true, false, true, false, false, false, false, false] rfl rfl (take_ofW HT_.out HW_.out (by kernel_rfl)) (fun _ _ _ h => h) (Or.inl ⟨by rfl, ?_⟩) hHeld ?_ ?_
  rotate_left
  ·rintro w' ⟨s0, s1, s2, s3⟩
   go_simp
   with_reducible rfl
  rotate_left
  ·simp only [Act.put, sI_, s0_, sS_, i64_w, i32_w]
   rfl
  refine take_ (i := 3) (N := some 20) (v := ?_) (a' := ?_) #[true, true, true, true, false, true, false, true, false, false, false, false, false] rfl rfl (take_ofW HT_.out HW_.out (by kernel_rfl)) (fun _ _ _ h => h) (Or.inl ⟨by rfl, ?_⟩) hHeld ?_ ?_
  rotate_left
  ·rintro w' ⟨s0, s1, s2, s3⟩
   go_simp
   with_reducible rfl
  rotate_left
  ·simp only [Act.put, sI_, s0_, sS_, i64_w, i32_w]
   rfl
  refine take_ (i := 6) (N := some 23) (v := ?_) (a' := ?_) #[true, true, true, true, false, true, true, true, false, false, false, false, false] rfl rfl (take_ofW HT_.out HW_.out (by kernel_rfl)) (fun _ _ _ h => h) (Or.inl ⟨by rfl, ?_⟩) hHeld ?_ ?_
  rotate_left
  ·rintro w' ⟨s0, s1, s2, s3⟩
   go_simp
   with_reducible rfl
  rotate_left
  ·simp only [Act.put, sI_, s0_, sS_, i64_w, i32_w]
   rfl
  refine take_ (i := 8) (N := some 25) (v := ?_) (a' := ?_) #[true, true, true, true, false, true, true, true, true, false, false, false, false] rfl rfl (take_ofW HT_.out HW_.out (by kernel_rfl)) (fun _ _ _ h => h) (Or.inl ⟨by rfl, ?_⟩) hHeld ?_ ?_
  rotate_left
  ·rintro w' ⟨s0, s1, s2, s3⟩
   go_simp
   with_reducible rfl
  rotate_left
  ·simp only [Act.put, sI_, s0_, sS_, i64_w, i32_w]
   rfl
  refine one_ (i := 4) (N := some 21) #[true, true, true, true, true, true, true, true, true, false, false, false, false] rfl rfl (one_of HT_.out (by kernel_rfl)) (by decide) (fun K hK => ?_)
  refine goes_ Try.func64 (by kernel_rfl) rfl #[.slice A1_0 l1_0.length c1_0, .slice A2_0 l2_0.length c2_0] (by rfl) rfl rfl (by (try simp only [List.map_toArray, List.map_cons, List.map_nil]); first | done | rfl | (simp only [List.length_drop, List.length_take]; rfl)) ?_
  with_reducible refine (subgraph_common.calls _ _ l1_0 _ _ l2_0 t106 _ ?side1 ?side2 ?side3 ?side4 A6.out).mono ?_
  (case side1 => repeat (first | exact (Kd.C_below HR1_0.out HB.out) | (with_reducible refine Kd.C_alloc ?_ _) | (with_reducible refine Kd.C_drewN ?_ _) | (with_reducible refine Kd.C_drew ?_)))
  (case side2 => exact HC1_0.out)
  (case side3 => repeat (first | exact (Kd.C_below HR2_0.out HB.out) | (with_reducible refine Kd.C_alloc ?_ _) | (with_reducible refine Kd.C_drewN ?_ _) | (with_reducible refine Kd.C_drew ?_)))
  (case side4 => exact HC2_0.out)
  rintro e w23 ⟨v107, rfl, ho0, hb⟩
  refine ⟨_, rfl, ?_⟩
  have n0_ := Aside0.mk (Kd.R_lower ho0 (below_size (by repeat (first | (with_reducible first | exact HB.out | apply lA_ | apply lN_ | apply lD_ | refine below_set ?_ GE101.out | refine below_set ?_ GE102.out | refine below_set ?_ GE103.out | refine below_set ?_ GE104.out) | exact HB.out)))); have n1_ := Aside0.mk (blk_below (g := gb101) (o := .cells #[.slice A0_0 l0_0.length c0_0, .slice A0_1 l0_1.length c0_1] 25 (0, 0)) (by (with_reducible repeat first | refine bN_ ?_ _ | refine bD_ ?_ | refine bA_ ?_ _); exact BK101.out) hb); have n2_ := Aside0.mk (blk_below (g := gb102) (o := .cells #[.slice A1_0 l1_0.length c1_0, .slice A1_1 l1_1.length c1_1] 27 (0, 0)) (by (with_reducible repeat first | refine bN_ ?_ _ | refine bD_ ?_ | refine bA_ ?_ _); exact BK102.out) hb); have n3_ := Aside0.mk (blk_below (g := gb103) (o := .cells #[.slice A2_0 l2_0.length c2_0, .slice A2_1 l2_1.length c2_1] 27 (0, 0)) (by (with_reducible repeat first | refine bN_ ?_ _ | refine bD_ ?_ | refine bA_ ?_ _); exact BK103.out) hb); have n4_ := Aside0.mk (blk_below (g := gb104) (o := .cells #[.slice none 0 0, .slice none 0 0] 27 (0, 0)) (by (with_reducible repeat first | refine bN_ ?_ _ | refine bD_ ?_ | refine bA_ ?_ _); exact BK104.out) hb); have n5_ := Aside0.mk (below_step (by repeat (first | (with_reducible first | exact HB.out | apply lA_ | apply lN_ | apply lD_ | refine below_set ?_ GE101.out | refine below_set ?_ GE102.out | refine below_set ?_ GE103.out | refine below_set ?_ GE104.out) | exact HB.out)) hb); clear BK101; clear BK102; clear BK103; clear BK104; clear HB; have HO108 := n0_; have BK101 := n1_; have BK102 := n2_; have BK103 := n3_; have BK104 := n4_; have HB := n5_; clear n0_ n1_ n2_ n3_ n4_ n5_
  (try clear hb)
  (try clear hb2)
  (try clear hk)
  (try clear hi)
  (try clear ho0)
  refine hK.out _ _ ⟨(blk_cell BK102.out 0).trans rfl, (blk_cell BK102.out 1).trans rfl, (blk_cell BK103.out 0).trans rfl, (blk_cell BK103.out 1).trans rfl⟩ (fun hHeld => ?_)
  clear hK K
  refine norm_ (a' := ?_) ?_ ?_
  rotate_left
  ·show Act.put _ (some 21) _ = _
   simp only [Act.put, sI_, s0_, sS_, i64_w, i32_w]
   rfl
  refine one_ (i := 9) (N := some 26) #[true, true, true, true, true, true, true, true, true, true, false, false, false] rfl rfl (one_of HT_.out (by kernel_rfl)) (by decide) (fun K hK => ?_)
  refine goes_ Try.func64 (by kernel_rfl) rfl #[.slice A1_1 l1_1.length c1_1, .slice A2_1 l2_1.length c2_1] (by rfl) rfl rfl (by (try simp only [List.map_toArray, List.map_cons, List.map_nil]); first | done | rfl | (simp only [List.length_drop, List.length_take]; rfl)) ?_
  with_reducible refine (subgraph_common.calls _ _ l1_1 _ _ l2_1 t109 _ ?side1 ?side2 ?side3 ?side4 A7.out).mono ?_
  (case side1 => repeat (first | exact (Kd.C_below HR1_1.out HB.out) | (with_reducible refine Kd.C_alloc ?_ _) | (with_reducible refine Kd.C_drewN ?_ _) | (with_reducible refine Kd.C_drew ?_)))
  (case side2 => exact HC1_1.out)
  (case side3 => repeat (first | exact (Kd.C_below HR2_1.out HB.out) | (with_reducible refine Kd.C_alloc ?_ _) | (with_reducible refine Kd.C_drewN ?_ _) | (with_reducible refine Kd.C_drew ?_)))
  (case side4 => exact HC2_1.out)
  rintro e w24 ⟨v110, rfl, ho0, hb⟩
  refine ⟨_, rfl, ?_⟩
  have n0_ := Aside0.mk (Kd.R_elder' (by (with_reducible repeat (first | apply rA_ | apply rN_ | apply rD_)); exact HO108.out) (Kd.R_base ho0) hb); have n1_ := Aside0.mk (Kd.R_lower (Kd.R_new' ho0 (Kd.R_lt (by (with_reducible repeat (first | apply rA_ | apply rN_ | apply rD_)); exact HO108.out))) (below_size (by repeat (first | (with_reducible first | exact HB.out | apply lA_ | apply lN_ | apply lD_ | refine below_set ?_ GE101.out | refine below_set ?_ GE102.out | refine below_set ?_ GE103.out | refine below_set ?_ GE104.out) | exact HB.out)))); have n2_ := Aside0.mk (blk_below (g := gb101) (o := .cells #[.slice A0_0 l0_0.length c0_0, .slice A0_1 l0_1.length c0_1] 25 (0, 0)) (by (with_reducible repeat first | refine bN_ ?_ _ | refine bD_ ?_ | refine bA_ ?_ _); exact BK101.out) hb); have n3_ := Aside0.mk (blk_below (g := gb102) (o := .cells #[.slice A1_0 l1_0.length c1_0, .slice A1_1 l1_1.length c1_1] 27 (0, 0)) (by (with_reducible repeat first | refine bN_ ?_ _ | refine bD_ ?_ | refine bA_ ?_ _); exact BK102.out) hb); have n4_ := Aside0.mk (blk_below (g := gb103) (o := .cells #[.slice A2_0 l2_0.length c2_0, .slice A2_1 l2_1.length c2_1] 27 (0, 0)) (by (with_reducible repeat first | refine bN_ ?_ _ | refine bD_ ?_ | refine bA_ ?_ _); exact BK103.out) hb); have n5_ := Aside0.mk (blk_below (g := gb104) (o := .cells #[.slice none 0 0, .slice none 0 0] 27 (0, 0)) (by (with_reducible repeat first | refine bN_ ?_ _ | refine bD_ ?_ | refine bA_ ?_ _); exact BK104.out) hb); have n6_ := Aside0.mk (below_step (by repeat (first | (with_reducible first | exact HB.out | apply lA_ | apply lN_ | apply lD_ | refine below_set ?_ GE101.out | refine below_set ?_ GE102.out | refine below_set ?_ GE103.out | refine below_set ?_ GE104.out) | exact HB.out)) hb); clear HO108; clear BK101; clear BK102; clear BK103; clear BK104; clear HB; have HO108 := n0_; have HO111 := n1_; have BK101 := n2_; have BK102 := n3_; have BK103 := n4_; have BK104 := n5_; have HB := n6_; clear n0_ n1_ n2_ n3_ n4_ n5_ n6_
  (try clear hb)
  (try clear hb2)
  (try clear hk)
  (try clear hi)
  (try clear ho0)
  obtain ⟨Ao25, co25, eo25⟩ := Kd.R_slice HO111.out
  (first | subst eo25 | (injection eo25 with f1_ f2_ f3_; have f4_ := f1_.symm; have f5_ := f3_.symm; clear f1_ f2_ f3_; subst f4_; subst f5_))
  obtain ⟨Ao26, co26, eo26⟩ := Kd.R_slice HO108.out
  (first | subst eo26 | (injection eo26 with f1_ f2_ f3_; have f4_ := f1_.symm; have f5_ := f3_.symm; clear f1_ f2_ f3_; subst f4_; subst f5_))
  refine hK.out _ _ ⟨(blk_cell BK102.out 0).trans rfl, (blk_cell BK102.out 1).trans rfl, (blk_cell BK103.out 0).trans rfl, (blk_cell BK103.out 1).trans rfl⟩ (fun hHeld => ?_)
  clear hK K
  refine norm_ (a' := ?_) ?_ ?_
  rotate_left
  ·show Act.put _ (some 26) _ = _
   simp only [Act.put, sI_, s0_, sS_, i64_w, i32_w]
   rfl
  refine pure_ (i := 10) (N := some 27) (v := ?_) (a' := ?_) #[true, true, true, true, true, true, true, true, true, true, true, false, false] rfl rfl (any_of HT_.out (by kernel_rfl)) (fun _ _ _ h => h) (Or.inl ⟨by rfl, ?_⟩) ?_ ?_
  rotate_left
  ·intro w'
   go_simp
   with_reducible rfl
  rotate_left
  ·simp only [Act.put, sI_, s0_, sS_, i64_w, i32_w]
   rfl
  refine one_ (i := 11) (N := none) #[true, true, true, true, true, true, true, true, true, true, true, true, false] rfl rfl (one_of HT_.out (by kernel_rfl)) (by decide) (fun K hK => ?_)
  have hs27 : w24.cell? ⟨gb104, 0, none⟩ = some (.slice none 0 0) := (blk_cell BK104.out 0).trans rfl
  have hfs27 := blk_frozen BK104.out 0; have hns27_0 := NB101_104.out; have hns27_1 := NB102_104.out; have hns27_2 := NB103_104.out; have hms27_0 := NB104_101.out; have hms27_1 := NB104_102.out; have hms27_2 := NB104_103.out
  have hs28 : w24.cell? ⟨gb104, 1, none⟩ = some (.slice none 0 0) := (blk_cell BK104.out 1).trans rfl
  have hfs28 := blk_frozen BK104.out 1; have hns28_0 := NB101_104.out; have hns28_1 := NB102_104.out; have hns28_2 := NB103_104.out; have hms28_0 := NB104_101.out; have hms28_1 := NB104_102.out; have hms28_2 := NB104_103.out
  refine skip_ (w1 := ?_) (by rfl) rfl ?_ ?_
  rotate_left
  ·go_simp
   rfl
  refine hK.out _ _ ⟨((cell_far (p := ⟨gb104, _, none⟩) NB102_104.out _).trans (((cell_far (p := ⟨gb104, _, none⟩) NB102_104.out _).trans (hHeld.1)))), ((cell_far (p := ⟨gb104, _, none⟩) NB102_104.out _).trans (((cell_far (p := ⟨gb104, _, none⟩) NB102_104.out _).trans (hHeld.2.1)))), ((cell_far (p := ⟨gb104, _, none⟩) NB103_104.out _).trans (((cell_far (p := ⟨gb104, _, none⟩) NB103_104.out _).trans (hHeld.2.2.1)))), ((cell_far (p := ⟨gb104, _, none⟩) NB103_104.out _).trans (((cell_far (p := ⟨gb104, _, none⟩) NB103_104.out _).trans (hHeld.2.2.2))))⟩ (fun hHeld => ?_)
  clear hK K
  refine pure_ (i := 12) (N := some 7) (v := ?_) (a' := ?_) #[true, true, true, true, true, true, true, true, true, true, true, true, true] rfl rfl (any_of HT_.out (by kernel_rfl)) (fun _ _ _ h => h) (Or.inl ⟨by rfl, ?_⟩) ?_ ?_
  rotate_left
  ·intro w'
   go_simp
   with_reducible rfl
  rotate_left
  ·simp only [Act.put, sI_, s0_, sS_, i64_w, i32_w]
   rfl
  refine done_ (done_of HT_.out (by kernel_rfl)) ?_
  try go_wp2
  refine bodyPost_ret (results_ct rfl _ _ gb104 27 #[.slice Ao26 t106.length co26, .slice Ao25 t109.length co25] (0, 0) _ rfl (by (with_reducible repeat first | refine bN_ ?_ _ | refine bD_ ?_ | refine bA_ ?_ _); refine blk_put (cs := #[.slice Ao26 t106.length co26, .slice none 0 0]) ?_ 1 _ rfl; (with_reducible repeat first | refine bN_ ?_ _ | refine bD_ ?_ | refine bA_ ?_ _); refine blk_put (cs := #[.slice none 0 0, .slice none 0 0]) ?_ 0 _ rfl; (with_reducible repeat first | refine bN_ ?_ _ | refine bD_ ?_ | refine bA_ ?_ _); exact BK104.out) Try.underlying27 rfl (by kernel_rfl)) rfl ?_
  exact ⟨_, _, by first | rfl | (simp [errW_none, errW_some] <;> rfl) | (simp [*, errW_none, errW_some] <;> rfl), by (with_reducible repeat (first | apply rA_ | apply rN_ | apply rD_)); exact Kd.R_mono (Kd.R_far (p := ⟨gb104, 1, none⟩) (Kd.R_far (p := ⟨gb104, 0, none⟩) (Kd.R_types HO108.out BK104.out (by decide)) (fun _ hk => hk.2) (.slice Ao26 t106.length co26)) (fun _ hk => hk.2) (.slice Ao25 t109.length co25)) (fun _ hk => hk.1.2), by (with_reducible repeat (first | apply rA_ | apply rN_ | apply rD_)); exact Kd.R_mono (Kd.R_far (p := ⟨gb104, 1, none⟩) (Kd.R_far (p := ⟨gb104, 0, none⟩) (Kd.R_types HO111.out BK104.out (by decide)) (fun _ hk => hk.2) (.slice Ao26 t106.length co26)) (fun _ hk => hk.2) (.slice Ao25 t109.length co25)) (fun _ hk => hk.1.2), by repeat (first | (with_reducible first | exact HB.out | apply lA_ | apply lN_ | apply lD_ | refine below_set ?_ GE101.out | refine below_set ?_ GE102.out | refine below_set ?_ GE103.out | refine below_set ?_ GE104.out) | exact HB.out)⟩
 ·rw [if_neg c5] at H
  have c5b0 : (t105 == 0) = false := beq_eq_false_iff_ne.mpr c5; have c5b1 : (t105 != 0) = true := bne_iff_ne.mpr c5; simp only [Option.some.injEq, Prod.mk.injEq] at H; obtain ⟨rfl, rfl, rfl⟩ := H
  go_enter Try.func39, Try.ntmps39
  go_wp2_with (first | ((with_reducible refine gate_dst (N := 3) rfl ?_); refine box_event ?hg (N := 3) ?hd (cs := #[.slice A0_0 l0_0.length c0_0, .slice A0_1 l0_1.length c0_1]) (t := 25) ?hr ?_; (case hd => rfl); (case hg => rfl); (case hr => first | (go_simp; done) | (go_simp; rfl)); intro gb101 hg w29 hbox hb; have n0_ := Aside0.mk (below_step (by repeat (first | (with_reducible first | exact HB.out | apply lA_ | apply lN_ | apply lD_) | exact HB.out)) hb); have n1_ := Aside0.mk (hbox); have n2_ := Aside0.mk ((by rw [hg]; exact (below_size (by repeat (first | (with_reducible first | exact HB.out | apply lA_ | apply lN_ | apply lD_) | exact HB.out))) : w.heap.size ≤ gb101)); have n3_ := Aside0.mk ((by rw [hg]; exact (below_size (by repeat (first | (with_reducible first | exact HB.out | apply lA_ | apply lN_ | apply lD_) | exact HB.out))) : w.heap.size ≤ gb101)); clear HB; have HB := n0_; have BK101 := n1_; have GW101 := n2_; have GE101 := n3_; clear n0_ n1_ n2_ n3_; clear hb hbox hg) | ((with_reducible refine gate_dst (N := 4) rfl ?_); refine box_event ?hg (N := 4) ?hd (cs := #[.slice A1_0 l1_0.length c1_0, .slice A1_1 l1_1.length c1_1]) (t := 27) ?hr ?_; (case hd => rfl); (case hg => rfl); (case hr => first | (go_simp; done) | (go_simp; rfl)); intro gb102 hg w30 hbox hb; have n0_ := Aside0.mk (blk_below (g := gb101) (o := .cells #[.slice A0_0 l0_0.length c0_0, .slice A0_1 l0_1.length c0_1] 25 (0, 0)) (by (with_reducible repeat first | refine bN_ ?_ _ | refine bD_ ?_ | refine bA_ ?_ _); exact BK101.out) hb); have n1_ := Aside0.mk (below_step (by repeat (first | (with_reducible first | exact HB.out | apply lA_ | apply lN_ | apply lD_ | refine below_set ?_ GE101.out) | exact HB.out)) hb); have n2_ := Aside0.mk (hbox); have n3_ := Aside0.mk ((by rw [hg]; exact (below_size (by repeat (first | (with_reducible first | exact HB.out | apply lA_ | apply lN_ | apply lD_ | refine below_set ?_ GE101.out) | exact HB.out))) : w.heap.size ≤ gb102)); have n4_ := Aside0.mk ((by rw [hg]; exact (below_size (by repeat (first | (with_reducible first | exact HB.out | apply lA_ | apply lN_ | apply lD_ | refine below_set ?_ GE101.out) | exact HB.out))) : w.heap.size ≤ gb102)); have n5_ := Aside0.mk ((by rw [hg]; exact Nat.ne_of_lt (blk_lt (g := gb101) (o := .cells #[.slice A0_0 l0_0.length c0_0, .slice A0_1 l0_1.length c0_1] 25 (0, 0)) (by (with_reducible repeat first | refine bN_ ?_ _ | refine bD_ ?_ | refine bA_ ?_ _); exact BK101.out)) : gb101 ≠ gb102)); have n6_ := Aside0.mk ((by rw [hg]; exact Nat.ne_of_gt (blk_lt (g := gb101) (o := .cells #[.slice A0_0 l0_0.length c0_0, .slice A0_1 l0_1.length c0_1] 25 (0, 0)) (by (with_reducible repeat first | refine bN_ ?_ _ | refine bD_ ?_ | refine bA_ ?_ _); exact BK101.out)) : gb102 ≠ gb101)); clear BK101; clear HB; have BK101 := n0_; have HB := n1_; have BK102 := n2_; have GW102 := n3_; have GE102 := n4_; have NB101_102 := n5_; have NB102_101 := n6_; clear n0_ n1_ n2_ n3_ n4_ n5_ n6_; clear hb hbox hg) | ((with_reducible refine gate_dst (N := 5) rfl ?_); refine box_event ?hg (N := 5) ?hd (cs := #[.slice A2_0 l2_0.length c2_0, .slice A2_1 l2_1.length c2_1]) (t := 27) ?hr ?_; (case hd => rfl); (case hg => rfl); (case hr => first | (go_simp; done) | (go_simp; rfl)); intro gb103 hg w31 hbox hb; have n0_ := Aside0.mk (blk_below (g := gb101) (o := .cells #[.slice A0_0 l0_0.length c0_0, .slice A0_1 l0_1.length c0_1] 25 (0, 0)) (by (with_reducible repeat first | refine bN_ ?_ _ | refine bD_ ?_ | refine bA_ ?_ _); exact BK101.out) hb); have n1_ := Aside0.mk (blk_below (g := gb102) (o := .cells #[.slice A1_0 l1_0.length c1_0, .slice A1_1 l1_1.length c1_1] 27 (0, 0)) (by (with_reducible repeat first | refine bN_ ?_ _ | refine bD_ ?_ | refine bA_ ?_ _); exact BK102.out) hb); have n2_ := Aside0.mk (below_step (by repeat (first | (with_reducible first | exact HB.out | apply lA_ | apply lN_ | apply lD_ | refine below_set ?_ GE101.out | refine below_set ?_ GE102.out) | exact HB.out)) hb); have n3_ := Aside0.mk (hbox); have n4_ := Aside0.mk ((by rw [hg]; exact (below_size (by repeat (first | (with_reducible first | exact HB.out | apply lA_ | apply lN_ | apply lD_ | refine below_set ?_ GE101.out | refine below_set ?_ GE102.out) | exact HB.out))) : w.heap.size ≤ gb103)); have n5_ := Aside0.mk ((by rw [hg]; exact (below_size (by repeat (first | (with_reducible first | exact HB.out | apply lA_ | apply lN_ | apply lD_ | refine below_set ?_ GE101.out | refine below_set ?_ GE102.out) | exact HB.out))) : w.heap.size ≤ gb103)); have n6_ := Aside0.mk ((by rw [hg]; exact Nat.ne_of_lt (blk_lt (g := gb101) (o := .cells #[.slice A0_0 l0_0.length c0_0, .slice A0_1 l0_1.length c0_1] 25 (0, 0)) (by (with_reducible repeat first | refine bN_ ?_ _ | refine bD_ ?_ | refine bA_ ?_ _); exact BK101.out)) : gb101 ≠ gb103)); have n7_ := Aside0.mk ((by rw [hg]; exact Nat.ne_of_gt (blk_lt (g := gb101) (o := .cells #[.slice A0_0 l0_0.length c0_0, .slice A0_1 l0_1.length c0_1] 25 (0, 0)) (by (with_reducible repeat first | refine bN_ ?_ _ | refine bD_ ?_ | refine bA_ ?_ _); exact BK101.out)) : gb103 ≠ gb101)); have n8_ := Aside0.mk ((by rw [hg]; exact Nat.ne_of_lt (blk_lt (g := gb102) (o := .cells #[.slice A1_0 l1_0.length c1_0, .slice A1_1 l1_1.length c1_1] 27 (0, 0)) (by (with_reducible repeat first | refine bN_ ?_ _ | refine bD_ ?_ | refine bA_ ?_ _); exact BK102.out)) : gb102 ≠ gb103)); have n9_ := Aside0.mk ((by rw [hg]; exact Nat.ne_of_gt (blk_lt (g := gb102) (o := .cells #[.slice A1_0 l1_0.length c1_0, .slice A1_1 l1_1.length c1_1] 27 (0, 0)) (by (with_reducible repeat first | refine bN_ ?_ _ | refine bD_ ?_ | refine bA_ ?_ _); exact BK102.out)) : gb103 ≠ gb102)); clear BK101; clear BK102; clear HB; have BK101 := n0_; have BK102 := n1_; have HB := n2_; have BK103 := n3_; have GW103 := n4_; have GE103 := n5_; have NB101_103 := n6_; have NB103_101 := n7_; have NB102_103 := n8_; have NB103_102 := n9_; clear n0_ n1_ n2_ n3_ n4_ n5_ n6_ n7_ n8_ n9_; clear hb hbox hg) | ((with_reducible refine gate_dst (N := 6) rfl ?_); refine box_event ?hg (N := 6) ?hd (cs := #[.slice none 0 0, .slice none 0 0]) (t := 27) ?hr ?_; (case hd => rfl); (case hg => rfl); (case hr => first | (go_simp; done) | (go_simp; rfl)); intro gb104 hg w32 hbox hb; have n0_ := Aside0.mk (blk_below (g := gb101) (o := .cells #[.slice A0_0 l0_0.length c0_0, .slice A0_1 l0_1.length c0_1] 25 (0, 0)) (by (with_reducible repeat first | refine bN_ ?_ _ | refine bD_ ?_ | refine bA_ ?_ _); exact BK101.out) hb); have n1_ := Aside0.mk (blk_below (g := gb102) (o := .cells #[.slice A1_0 l1_0.length c1_0, .slice A1_1 l1_1.length c1_1] 27 (0, 0)) (by (with_reducible repeat first | refine bN_ ?_ _ | refine bD_ ?_ | refine bA_ ?_ _); exact BK102.out) hb); have n2_ := Aside0.mk (blk_below (g := gb103) (o := .cells #[.slice A2_0 l2_0.length c2_0, .slice A2_1 l2_1.length c2_1] 27 (0, 0)) (by (with_reducible repeat first | refine bN_ ?_ _ | refine bD_ ?_ | refine bA_ ?_ _); exact BK103.out) hb); have n3_ := Aside0.mk (below_step (by repeat (first | (with_reducible first | exact HB.out | apply lA_ | apply lN_ | apply lD_ | refine below_set ?_ GE101.out | refine below_set ?_ GE102.out | refine below_set ?_ GE103.out) | exact HB.out)) hb); have n4_ := Aside0.mk (hbox); have n5_ := Aside0.mk ((by rw [hg]; exact (below_size (by repeat (first | (with_reducible first | exact HB.out | apply lA_ | apply lN_ | apply lD_ | refine below_set ?_ GE101.out | refine below_set ?_ GE102.out | refine below_set ?_ GE103.out) | exact HB.out))) : w.heap.size ≤ gb104)); have n6_ := Aside0.mk ((by rw [hg]; exact (below_size (by repeat (first | (with_reducible first | exact HB.out | apply lA_ | apply lN_ | apply lD_ | refine below_set ?_ GE101.out | refine below_set ?_ GE102.out | refine below_set ?_ GE103.out) | exact HB.out))) : w.heap.size ≤ gb104)); have n7_ := Aside0.mk ((by rw [hg]; exact Nat.ne_of_lt (blk_lt (g := gb101) (o := .cells #[.slice A0_0 l0_0.length c0_0, .slice A0_1 l0_1.length c0_1] 25 (0, 0)) (by (with_reducible repeat first | refine bN_ ?_ _ | refine bD_ ?_ | refine bA_ ?_ _); exact BK101.out)) : gb101 ≠ gb104)); have n8_ := Aside0.mk ((by rw [hg]; exact Nat.ne_of_gt (blk_lt (g := gb101) (o := .cells #[.slice A0_0 l0_0.length c0_0, .slice A0_1 l0_1.length c0_1] 25 (0, 0)) (by (with_reducible repeat first | refine bN_ ?_ _ | refine bD_ ?_ | refine bA_ ?_ _); exact BK101.out)) : gb104 ≠ gb101)); have n9_ := Aside0.mk ((by rw [hg]; exact Nat.ne_of_lt (blk_lt (g := gb102) (o := .cells #[.slice A1_0 l1_0.length c1_0, .slice A1_1 l1_1.length c1_1] 27 (0, 0)) (by (with_reducible repeat first | refine bN_ ?_ _ | refine bD_ ?_ | refine bA_ ?_ _); exact BK102.out)) : gb102 ≠ gb104)); have n10_ := Aside0.mk ((by rw [hg]; exact Nat.ne_of_gt (blk_lt (g := gb102) (o := .cells #[.slice A1_0 l1_0.length c1_0, .slice A1_1 l1_1.length c1_1] 27 (0, 0)) (by (with_reducible repeat first | refine bN_ ?_ _ | refine bD_ ?_ | refine bA_ ?_ _); exact BK102.out)) : gb104 ≠ gb102)); have n11_ := Aside0.mk ((by rw [hg]; exact Nat.ne_of_lt (blk_lt (g := gb103) (o := .cells #[.slice A2_0 l2_0.length c2_0, .slice A2_1 l2_1.length c2_1] 27 (0, 0)) (by (with_reducible repeat first | refine bN_ ?_ _ | refine bD_ ?_ | refine bA_ ?_ _); exact BK103.out)) : gb103 ≠ gb104)); have n12_ := Aside0.mk ((by rw [hg]; exact Nat.ne_of_gt (blk_lt (g := gb103) (o := .cells #[.slice A2_0 l2_0.length c2_0, .slice A2_1 l2_1.length c2_1] 27 (0, 0)) (by (with_reducible repeat first | refine bN_ ?_ _ | refine bD_ ?_ | refine bA_ ?_ _); exact BK103.out)) : gb104 ≠ gb103)); clear BK101; clear BK102; clear BK103; clear HB; have BK101 := n0_; have BK102 := n1_; have BK103 := n2_; have HB := n3_; have BK104 := n4_; have GW104 := n5_; have GE104 := n6_; have NB101_104 := n7_; have NB104_101 := n8_; have NB102_104 := n9_; have NB104_102 := n10_; have NB103_104 := n11_; have NB104_103 := n12_; clear n0_ n1_ n2_ n3_ n4_ n5_ n6_ n7_ n8_ n9_ n10_ n11_ n12_; clear hb hbox hg; have hnb33 := NB101_102.out; have hnc33 := NB102_101.out; have hnb34 := NB101_103.out; have hnc34 := NB103_101.out; have hnb35 := NB101_104.out; have hnc35 := NB104_101.out; have hcz36_0 : w32.cell? ⟨gb101, 0, none⟩ = some (.slice A0_0 l0_0.length c0_0) := (blk_cell BK101.out 0).trans rfl; have hcz36_1 : w32.cell? ⟨gb101, 1, none⟩ = some (.slice A0_1 l0_1.length c0_1) := (blk_cell BK101.out 1).trans rfl; have hfz36_0 := blk_frozen BK101.out 0; have hfz36_1 := blk_frozen BK101.out 1; have hnb37 := NB102_103.out; have hnc37 := NB103_102.out; have hnb38 := NB102_104.out; have hnc38 := NB104_102.out; have hcz39_0 : w32.cell? ⟨gb102, 0, none⟩ = some (.slice A1_0 l1_0.length c1_0) := (blk_cell BK102.out 0).trans rfl; have hcz39_1 : w32.cell? ⟨gb102, 1, none⟩ = some (.slice A1_1 l1_1.length c1_1) := (blk_cell BK102.out 1).trans rfl; have hfz39_0 := blk_frozen BK102.out 0; have hfz39_1 := blk_frozen BK102.out 1; have hnb40 := NB103_104.out; have hnc40 := NB104_103.out; have hcz41_0 : w32.cell? ⟨gb103, 0, none⟩ = some (.slice A2_0 l2_0.length c2_0) := (blk_cell BK103.out 0).trans rfl; have hcz41_1 : w32.cell? ⟨gb103, 1, none⟩ = some (.slice A2_1 l2_1.length c2_1) := (blk_cell BK103.out 1).trans rfl; have hfz41_0 := blk_frozen BK103.out 0; have hfz41_1 := blk_frozen BK103.out 1) | ((with_reducible refine gate_callee (f := 78) rfl ?_); refine goesL_ (some 12) rfl rfl Try.func78 (by kernel_rfl) rfl #[.agg #[.slice A0_0 l0_0.length c0_0, .slice A0_1 l0_1.length c0_1], .agg #[.slice A1_0 l1_0.length c1_0, .slice A1_1 l1_1.length c1_1], .agg #[.slice A2_0 l2_0.length c2_0, .slice A2_1 l2_1.length c2_1]] rfl (by (try simp only [List.map_toArray, List.map_cons, List.map_nil]); first | done | rfl | (simp only [List.length_drop, List.length_take]; rfl)) ?_; (with_reducible refine (subgraph_both.calls k _ _ l0_0 _ _ l0_1 _ _ l1_0 _ _ l1_1 _ _ l2_0 _ _ l2_1 t105 _ ?side1 ?side2 ?side3 ?side4 ?side5 ?side6 ?side7 ?side8 ?side9 ?side10 ?side11 ?side12 A4.out).mono ?_); (case side1 => repeat (first | exact (Kd.C_below HR0_0.out HB.out) | (with_reducible refine Kd.C_alloc ?_ _) | (with_reducible refine Kd.C_drewN ?_ _) | (with_reducible refine Kd.C_drew ?_))); (case side2 => exact HC0_0.out); (case side3 => repeat (first | exact (Kd.C_below HR0_1.out HB.out) | (with_reducible refine Kd.C_alloc ?_ _) | (with_reducible refine Kd.C_drewN ?_ _) | (with_reducible refine Kd.C_drew ?_))); (case side4 => exact HC0_1.out); (case side5 => repeat (first | exact (Kd.C_below HR1_0.out HB.out) | (with_reducible refine Kd.C_alloc ?_ _) | (with_reducible refine Kd.C_drewN ?_ _) | (with_reducible refine Kd.C_drew ?_))); (case side6 => exact HC1_0.out); (case side7 => repeat (first | exact (Kd.C_below HR1_1.out HB.out) | (with_reducible refine Kd.C_alloc ?_ _) | (with_reducible refine Kd.C_drewN ?_ _) | (with_reducible refine Kd.C_drew ?_))); (case side8 => exact HC1_1.out); (case side9 => repeat (first | exact (Kd.C_below HR2_0.out HB.out) | (with_reducible refine Kd.C_alloc ?_ _) | (with_reducible refine Kd.C_drewN ?_ _) | (with_reducible refine Kd.C_drew ?_))); (case side10 => exact HC2_0.out); (case side11 => repeat (first | exact (Kd.C_below HR2_1.out HB.out) | (with_reducible refine Kd.C_alloc ?_ _) | (with_reducible refine Kd.C_drewN ?_ _) | (with_reducible refine Kd.C_drew ?_))); (case side12 => exact HC2_1.out); rintro e w42 ⟨rfl, hb⟩; refine ⟨_, rfl, ?_⟩; have n0_ := Aside0.mk (blk_below (g := gb101) (o := .cells #[.slice A0_0 l0_0.length c0_0, .slice A0_1 l0_1.length c0_1] 25 (0, 0)) (by (with_reducible repeat first | refine bN_ ?_ _ | refine bD_ ?_ | refine bA_ ?_ _); exact BK101.out) hb); have n1_ := Aside0.mk (blk_below (g := gb102) (o := .cells #[.slice A1_0 l1_0.length c1_0, .slice A1_1 l1_1.length c1_1] 27 (0, 0)) (by (with_reducible repeat first | refine bN_ ?_ _ | refine bD_ ?_ | refine bA_ ?_ _); exact BK102.out) hb); have n2_ := Aside0.mk (blk_below (g := gb103) (o := .cells #[.slice A2_0 l2_0.length c2_0, .slice A2_1 l2_1.length c2_1] 27 (0, 0)) (by (with_reducible repeat first | refine bN_ ?_ _ | refine bD_ ?_ | refine bA_ ?_ _); exact BK103.out) hb); have n3_ := Aside0.mk (blk_below (g := gb104) (o := .cells #[.slice none 0 0, .slice none 0 0] 27 (0, 0)) (by (with_reducible repeat first | refine bN_ ?_ _ | refine bD_ ?_ | refine bA_ ?_ _); exact BK104.out) hb); have n4_ := Aside0.mk (below_step (by repeat (first | (with_reducible first | exact HB.out | apply lA_ | apply lN_ | apply lD_ | refine below_set ?_ GE101.out | refine below_set ?_ GE102.out | refine below_set ?_ GE103.out | refine below_set ?_ GE104.out) | exact HB.out)) hb); clear BK101; clear BK102; clear BK103; clear BK104; clear HB; have BK101 := n0_; have BK102 := n1_; have BK103 := n2_; have BK104 := n3_; have HB := n4_; clear n0_ n1_ n2_ n3_ n4_; (try clear hb); (try clear hb2); (try clear hk); (try clear hi); have hcz43_0 : w42.cell? ⟨gb104, 0, none⟩ = some (.slice none 0 0) := (blk_cell BK104.out 0).trans rfl; have hcz43_1 : w42.cell? ⟨gb104, 1, none⟩ = some (.slice none 0 0) := (blk_cell BK104.out 1).trans rfl; have hfz43_0 := blk_frozen BK104.out 0; have hfz43_1 := blk_frozen BK104.out 1))
  refine bodyPost_ret (results_ct rfl _ _ gb104 27 #[.slice none 0 0, .slice none 0 0] (0, 0) _ rfl (by (with_reducible repeat first | refine bN_ ?_ _ | refine bD_ ?_ | refine bA_ ?_ _); refine blk_put (cs := #[.slice none 0 0, .slice none 0 0]) ?_ 1 _ rfl; (with_reducible repeat first | refine bN_ ?_ _ | refine bD_ ?_ | refine bA_ ?_ _); refine blk_put (cs := #[.slice none 0 0, .slice none 0 0]) ?_ 0 _ rfl; (with_reducible repeat first | refine bN_ ?_ _ | refine bD_ ?_ | refine bA_ ?_ _); exact BK104.out) Try.underlying27 rfl (by kernel_rfl)) rfl ?_
  exact ⟨_, _, by first | rfl | (simp [errW_none, errW_some] <;> rfl) | (simp [*, errW_none, errW_some] <;> rfl), by first | exact Kd.R_nil _ _ _ _ _ | exact Kd.N_nil _ _ _ _ _ | exact Kd.V_nil _ _ _ _ _ | exact Kd.Q_nil _ _ _ _ _ | exact Kd.S_nil _ _ _ _ _, by first | exact Kd.R_nil _ _ _ _ _ | exact Kd.N_nil _ _ _ _ _ | exact Kd.V_nil _ _ _ _ _ | exact Kd.Q_nil _ _ _ _ _ | exact Kd.S_nil _ _ _ _ _, by repeat (first | (with_reducible first | exact HB.out | apply lA_ | apply lN_ | apply lD_ | refine below_set ?_ GE101.out | refine below_set ?_ GE102.out | refine below_set ?_ GE103.out | refine below_set ?_ GE104.out) | exact HB.out)⟩
end Go.Proofs.Ytonipihlpbaknaa.Print

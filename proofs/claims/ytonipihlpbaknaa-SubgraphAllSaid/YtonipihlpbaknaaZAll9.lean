/- A part of the proof that the law returns true at every input; what the walked functions compute. -/
import Derived.Test.YtonipihlpbaknaaZAll0
import Derived.Test.YtonipihlpbaknaaZAll1
import Derived.Test.YtonipihlpbaknaaZAll2
import Derived.Test.YtonipihlpbaknaaZAll3
import Derived.Test.YtonipihlpbaknaaZAll4
import Derived.Test.YtonipihlpbaknaaZAll5
import Derived.Test.YtonipihlpbaknaaZAll6
import Derived.Test.YtonipihlpbaknaaZAll7
import Derived.Test.YtonipihlpbaknaaZAll8
namespace Go.Proofs.Ytonipihlpbaknaa.Print
open Go.RowKit Go.Proofs.YtonipihlpbaknaaW.PrintWords Go.Proofs.YtonipihlpbaknaaW.PrintLast Go.Proofs.YtonipihlpbaknaaW.PrintMore
attribute [local go_sem] max2_int min2_int max_two min_two max_three min_three max_four min_four   -- for this text's walks alone
set_option linter.unusedVariables false
set_option linter.unusedSimpArgs false
mutual
def scarfjointlaw07_SubgraphAll.j0 : Nat → Bool → List Int → List (S78) → Option (Bool)
  | 0, _, _, _ => none
  | k + 1, x15, x102000, x102001 => if x15 = true then ((scarfjointlaw07_awake.f).bind fun t104 => (some t104)) else ((scarfjointref05_Copied.f x102000 x102001).bind fun bt105 => ((subgraph_All.f bt105.1 bt105.2).bind fun bt111 => ((scarfjointref07_All.f k x102000 x102001).bind fun bt115 => ((scarfjointref05_SameParts.f k bt111.1 bt115.1).bind fun t119 => (if t119 = true then (scarfjointlaw07_SubgraphAll.j1 k bt111.1 (bt111.2 != bt115.2) x102000 x102001) else (scarfjointlaw07_SubgraphAll.j1 k bt111.1 true x102000 x102001))))))
def scarfjointlaw07_SubgraphAll.j1 : Nat → List (S27) → Bool → List Int → List (S78) → Option (Bool)
  | 0, _, _, _, _ => none
  | k + 1, x3, x36, x102000, x102001 => if x36 = true then (some false) else (scarfjointlaw07_SubgraphAll.l0 k x3 x3 (x3.length : Int) 0 x102000 x102001)
def scarfjointlaw07_SubgraphAll.l0 : Nat → List (S27) → List (S27) → Int → Int → List Int → List (S78) → Option (Bool)
  | 0, _, _, _, _, _, _ => none
  | k + 1, x3, x37, x38, x39, x102000, x102001 => if x39 < x38 then (if 0 ≤ x39 then (if x39 < (x37.length : Int) then ((subgraph_Valid.f k x102000 x102001 ((rd_T27 x37 x39).f0) ((rd_T27 x37 x39).f1)).bind fun t122 => (if t122 = 0 then (if x39 > 0 then (if 0 ≤ (wrap64 (x39 - 1)) then (if (wrap64 (x39 - 1)) < (x3.length : Int) then ((scarfjointref07_Compare.f k ((rd_T27 x3 (wrap64 (x39 - 1))).f0) ((rd_T27 x3 (wrap64 (x39 - 1))).f1) ((rd_T27 x37 x39).f0) ((rd_T27 x37 x39).f1)).bind fun t124 => (scarfjointlaw07_SubgraphAll.j3 k x3 x37 x38 x39 (decide (t124 ≥ 0)) x102000 x102001)) else (none)) else (none)) else (scarfjointlaw07_SubgraphAll.j3 k x3 x37 x38 x39 false x102000 x102001)) else (scarfjointlaw07_SubgraphAll.j3 k x3 x37 x38 x39 true x102000 x102001))) else (none)) else (none)) else (some true)
def scarfjointlaw07_SubgraphAll.j3 : Nat → List (S27) → List (S27) → Int → Int → Bool → List Int → List (S78) → Option (Bool)
  | 0, _, _, _, _, _, _, _ => none
  | k + 1, x3, x37, x38, x39, x61, x102000, x102001 => if x61 = true then (some false) else (scarfjointlaw07_SubgraphAll.l0 k x3 x37 x38 (wrap64 (x39 + 1)) x102000 x102001)
end
def scarfjointlaw07_SubgraphAll.f (k : Nat) (l0_0 : List Int) (l0_1 : List (S78)) : Option (Bool) := (scarfjointlaw07_awake.f).bind fun t102 => (if t102 = true then ((scarfjointlaw07_small.f l0_0 l0_1 ([] : List (S27))).bind fun t103 => (scarfjointlaw07_SubgraphAll.j0 k (!t103) l0_0 l0_1)) else (scarfjointlaw07_SubgraphAll.j0 k true l0_0 l0_1))
def scarfjointlaw07_SubgraphAll.T10 : Bool × List (List Nat × List Nat) := (true, [([], []), ([], []), ([0, 1], [0, 1]), ([2], [2]), ([3, 2], [3]), ([4], [4]), ([5, 4], [4, 5]), ([6, 4, 4], [4, 6]), ([7], [7]), ([7], [7]), ([9, 7], [7, 9]), ([8, 10, 7], [7, 8, 10]), ([11, 7], [7, 11]), ([7], [7]), ([12, 13, 7, 7], [7, 12, 13]), ([14, 7], [7, 14]), ([7, 15, 4], [4, 7, 15]), ([4, 16], [4, 16])])
def scarfjointlaw07_SubgraphAll.B10 : List Nat := [0, 0, 3, 7, 15, 31, 63, 127, 255, 255, 767, 2047, 4095, 255, 16383, 32767, 65535, 131071]
theorem scarfjointlaw07_SubgraphAll.tab10 : rtab .any (opsOf Try.f5 10) = scarfjointlaw07_SubgraphAll.T10 := by kernel_rfl
theorem scarfjointlaw07_SubgraphAll.bits10 : waitsOk scarfjointlaw07_SubgraphAll.T10.2 scarfjointlaw07_SubgraphAll.B10 = true := by kernel_rfl
set_option maxHeartbeats 8000000 in
set_option maxRecDepth 100000 in
theorem scarfjointlaw07_SubgraphAll.calls (k : Nat) (A0_0 : Option Addr) (c0_0 : Nat) (l0_0 : List Int) (A0_1 : Option Addr) (c0_1 : Nat) (l0_1 : List (S78)) (r : Bool) (w : World) (hr0_0 : Kd.C (Kd.int .i64) w A0_0 l0_0.length l0_0) (hc0_0 : l0_0.length ≤ c0_0) (hr0_1 : Kd.C k78 w A0_1 l0_1.length l0_1) (hc0_1 : l0_1.length ≤ c0_1) (h : scarfjointlaw07_SubgraphAll.f k l0_0 l0_1 = some r) :
    Calls Try.prog 5 #[.agg #[.slice A0_0 l0_0.length c0_0, .slice A0_1 l0_1.length c0_1]] w fun e w' => e = .returned (.bool r) ∧ Below w.heap.size w w' := by
  have hu25 := Try.underlying25
  have hu27 := Try.underlying27
  have HR0_0 := Aside0.mk hr0_0
  have HC0_0 := Aside0.mk hc0_0
  clear hr0_0 hc0_0
  have HR0_1 := Aside0.mk hr0_1
  have HC0_1 := Aside0.mk hc0_1
  clear hr0_1 hc0_1
  have HB := Aside0.mk (Below.refl w.heap.size w)
  have H : ((scarfjointlaw07_awake.f).bind fun t102 => (if t102 = true then ((scarfjointlaw07_small.f l0_0 l0_1 ([] : List (S27))).bind fun t103 => (scarfjointlaw07_SubgraphAll.j0 k (!t103) l0_0 l0_1)) else (scarfjointlaw07_SubgraphAll.j0 k true l0_0 l0_1))) = some r := h
  clear h
  have HC2 := Aside0.mk H
  clear H
  go_enter Try.func5, Try.ntmps5
  go_upto_region 1 with (first | ((with_reducible refine gate_dst (N := 1) rfl ?_); refine box_event ?hg (N := 1) ?hd (cs := #[.slice A0_0 l0_0.length c0_0, .slice A0_1 l0_1.length c0_1]) (t := 25) ?hr ?_; (case hd => rfl); (case hg => rfl); (case hr => first | (go_simp; done) | (go_simp; rfl)); intro gb101 hg w3 hbox hb; have n0_ := Aside0.mk (below_step (by repeat (first | (with_reducible first | exact HB.out | apply below_alloc | apply pw_below_drewN | apply below_drew1) | exact HB.out)) hb); have n1_ := Aside0.mk (hbox); have n2_ := Aside0.mk ((by rw [hg]; exact (below_size (by repeat (first | (with_reducible first | exact HB.out | apply below_alloc | apply pw_below_drewN | apply below_drew1) | exact HB.out))) : w.heap.size ≤ gb101)); have n3_ := Aside0.mk ((by rw [hg]; exact (below_size (by repeat (first | (with_reducible first | exact HB.out | apply below_alloc | apply pw_below_drewN | apply below_drew1) | exact HB.out))) : w.heap.size ≤ gb101)); clear HB; have HB := n0_; have BK101 := n1_; have GW101 := n2_; have GE101 := n3_; clear n0_ n1_ n2_ n3_; clear hb hbox hg))
  (try simp only [Act.put, List.setIfInBounds_toArray, List.set_cons_zero, List.set_cons_succ])
  go_cut [15] (fun v15 wc => ∃ (kq : Nat) (x15_1 : Bool), v15 = .bool x15_1 ∧ Aside0 (scarfjointlaw07_SubgraphAll.j0 kq x15_1 l0_0 l0_1 = some r) ∧ Aside0 (kq ≤ k) ∧ Aside0 (wc.heap[gb101]? = some (.cells #[(.slice A0_0 l0_0.length c0_0), (.slice A0_1 l0_1.length c0_1)] 25 (0, 0))) ∧ Aside0 (Below w.heap.size w wc))
  case first =>
    have H := HC2.out
    clear HC2
    replace H := Option.bind_eq_some_iff.mp H
    obtain ⟨t102, A40, H⟩ := H
    replace H : (if t102 = true then ((scarfjointlaw07_small.f l0_0 l0_1 ([] : List (S27))).bind fun t103 => (scarfjointlaw07_SubgraphAll.j0 k (!t103) l0_0 l0_1)) else (scarfjointlaw07_SubgraphAll.j0 k true l0_0 l0_1)) = some r := H
    have A4 := Aside0.mk A40
    clear A40
    by_cases c5 : t102 = true
    · subst c5
      have H1 : ((scarfjointlaw07_small.f l0_0 l0_1 ([] : List (S27))).bind fun t103 => (scarfjointlaw07_SubgraphAll.j0 k (!t103) l0_0 l0_1)) = some r := by rw [if_pos rfl] at H; exact H
      clear H
      have H := H1
      clear H1
      replace H := Option.bind_eq_some_iff.mp H
      obtain ⟨t103, A60, H⟩ := H
      replace H : (scarfjointlaw07_SubgraphAll.j0 k (!t103) l0_0 l0_1) = some r := H
      have A6 := Aside0.mk A60
      clear A60
      have H' := Aside0.mk H
      clear H
      go_wp2_with (first | ((with_reducible refine gate_callee (f := 11) rfl ?_); refine goesL_ (some 9) rfl rfl Try.func11 (by kernel_rfl) rfl #[] rfl (by (try simp only [List.map_toArray, List.map_cons, List.map_nil]); first | done | rfl | (simp only [List.length_drop, List.length_take]; rfl)) ?_; (with_reducible refine (scarfjointlaw07_awake.calls  true _ A4.out).mono ?_); rintro e w7 ⟨rfl, hb⟩; refine ⟨_, rfl, ?_⟩; have n0_ := Aside0.mk (blk_below (g := gb101) (o := .cells #[.slice A0_0 l0_0.length c0_0, .slice A0_1 l0_1.length c0_1] 25 (0, 0)) (by (with_reducible repeat (first | refine blk_drewN ?_ _ | refine blk_drew ?_ | refine blk_alloc ?_ _)); exact BK101.out) hb); have n1_ := Aside0.mk (below_step (by repeat (first | (with_reducible first | exact HB.out | apply below_alloc | apply pw_below_drewN | apply below_drew1 | refine below_set ?_ GE101.out) | exact HB.out)) hb); clear BK101; clear HB; have BK101 := n0_; have HB := n1_; clear n0_ n1_; (try clear hb); (try clear hb2); (try clear hk); (try clear hi); have hcz8_0 : w7.cell? ⟨gb101, 0, none⟩ = some (.slice A0_0 l0_0.length c0_0) := (blk_cell BK101.out 0).trans rfl; have hcz8_1 : w7.cell? ⟨gb101, 1, none⟩ = some (.slice A0_1 l0_1.length c0_1) := (blk_cell BK101.out 1).trans rfl; have hfz8_0 := blk_frozen BK101.out 0; have hfz8_1 := blk_frozen BK101.out 1) | (go_at_call 12; (refine (scarfjointlaw07_small.calls _ _ l0_0 _ _ l0_1 _ _ ([] : List (S27)) t103 _ ?side1 ?side2 ?side3 ?side4 ?side5 ?side6 A6.out).mono ?_); (case side1 => repeat (first | exact (Kd.C_below HR0_0.out HB.out) | (with_reducible refine Kd.C_alloc ?_ _) | (with_reducible refine Kd.C_drewN ?_ _) | (with_reducible refine Kd.C_drew ?_))); (case side2 => exact HC0_0.out); (case side3 => repeat (first | exact (Kd.C_below HR0_1.out HB.out) | (with_reducible refine Kd.C_alloc ?_ _) | (with_reducible refine Kd.C_drewN ?_ _) | (with_reducible refine Kd.C_drew ?_))); (case side4 => exact HC0_1.out); (case side5 => exact Kd.C_nil _ _); (case side6 => exact Nat.le_refl _); rintro e w9 ⟨rfl, hb⟩; have n0_ := Aside0.mk (blk_below (g := gb101) (o := .cells #[.slice A0_0 l0_0.length c0_0, .slice A0_1 l0_1.length c0_1] 25 (0, 0)) (by (with_reducible repeat (first | refine blk_drewN ?_ _ | refine blk_drew ?_ | refine blk_alloc ?_ _)); exact BK101.out) hb); have n1_ := Aside0.mk (below_step (by repeat (first | (with_reducible first | exact HB.out | apply below_alloc | apply pw_below_drewN | apply below_drew1 | refine below_set ?_ GE101.out) | exact HB.out)) hb); clear BK101; clear HB; have BK101 := n0_; have HB := n1_; clear n0_ n1_; (try clear hb); (try clear hb2); (try clear hk); (try clear hi)))
      go_meet
      case rel => exact ⟨_, (!t103), (by first | rfl | (simp; done) | (simp [*]; done)), H', ⟨by first | omega | exact Nat.le_refl _⟩, ⟨by (with_reducible repeat (first | refine blk_drewN ?_ _ | refine blk_drew ?_ | refine blk_alloc ?_ _)); exact BK101.out⟩, ⟨by repeat (first | (with_reducible first | exact HB.out | apply below_alloc | apply pw_below_drewN | apply below_drew1 | refine below_set ?_ GE101.out) | exact HB.out)⟩⟩
    · replace c5 := Bool.eq_false_iff.mpr c5
      subst c5
      have H1 : (scarfjointlaw07_SubgraphAll.j0 k true l0_0 l0_1) = some r := by rw [if_neg (show ¬ (false = true) by decide)] at H; exact H
      clear H
      have H := H1
      clear H1
      have H' := Aside0.mk H
      clear H
      go_wp2_with (first | ((with_reducible refine gate_callee (f := 11) rfl ?_); refine goesL_ (some 9) rfl rfl Try.func11 (by kernel_rfl) rfl #[] rfl (by (try simp only [List.map_toArray, List.map_cons, List.map_nil]); first | done | rfl | (simp only [List.length_drop, List.length_take]; rfl)) ?_; (with_reducible refine (scarfjointlaw07_awake.calls  false _ A4.out).mono ?_); rintro e w10 ⟨rfl, hb⟩; refine ⟨_, rfl, ?_⟩; have n0_ := Aside0.mk (blk_below (g := gb101) (o := .cells #[.slice A0_0 l0_0.length c0_0, .slice A0_1 l0_1.length c0_1] 25 (0, 0)) (by (with_reducible repeat (first | refine blk_drewN ?_ _ | refine blk_drew ?_ | refine blk_alloc ?_ _)); exact BK101.out) hb); have n1_ := Aside0.mk (below_step (by repeat (first | (with_reducible first | exact HB.out | apply below_alloc | apply pw_below_drewN | apply below_drew1 | refine below_set ?_ GE101.out) | exact HB.out)) hb); clear BK101; clear HB; have BK101 := n0_; have HB := n1_; clear n0_ n1_; (try clear hb); (try clear hb2); (try clear hk); (try clear hi)))
      go_meet
      case rel => exact ⟨_, (true), (by first | rfl | (simp; done) | (simp [*]; done)), H', ⟨by first | omega | exact Nat.le_refl _⟩, ⟨by (with_reducible repeat (first | refine blk_drewN ?_ _ | refine blk_drew ?_ | refine blk_alloc ?_ _)); exact BK101.out⟩, ⟨by repeat (first | (with_reducible first | exact HB.out | apply below_alloc | apply pw_below_drewN | apply below_drew1 | refine below_set ?_ GE101.out) | exact HB.out)⟩⟩
  case rest =>
    clear HC2
    try clear c1
    try clear p2
    try clear c5
    try clear hcz8_0
    try clear hcz8_1
    try clear hfz8_0
    try clear hfz8_1
    obtain ⟨kq, x15_1, rfl, HA, HJ1, BK101, HB⟩ := hcut
    cases kq with
    | zero => exact absurd HA.out (by simp [scarfjointlaw07_SubgraphAll.j0])
    | succ kj1 =>
      have H := HA.out
      clear HA
      simp only [scarfjointlaw07_SubgraphAll.j0] at H
      by_cases c11 : x15_1 = true
      · subst c11
        have H1 : ((scarfjointlaw07_awake.f).bind fun t104 => (some t104)) = some r := by rw [if_pos rfl] at H; exact H
        clear H
        have H := H1
        clear H1
        replace H := Option.bind_eq_some_iff.mp H
        obtain ⟨t104, A120, H⟩ := H
        replace H : (some t104) = some r := H
        have A12 := Aside0.mk A120
        clear A120
        obtain rfl := Option.some.inj H
        go_wp2_with (first | ((with_reducible refine gate_callee (f := 11) rfl ?_); refine goesL_ (some 16) rfl rfl Try.func11 (by kernel_rfl) rfl #[] rfl (by (try simp only [List.map_toArray, List.map_cons, List.map_nil]); first | done | rfl | (simp only [List.length_drop, List.length_take]; rfl)) ?_; (with_reducible refine (scarfjointlaw07_awake.calls  t104 _ A12.out).mono ?_); rintro e w13 ⟨rfl, hb⟩; refine ⟨_, rfl, ?_⟩; have n0_ := Aside0.mk (blk_below (g := gb101) (o := .cells #[.slice A0_0 l0_0.length c0_0, .slice A0_1 l0_1.length c0_1] 25 (0, 0)) (by (with_reducible repeat (first | refine blk_drewN ?_ _ | refine blk_drew ?_ | refine blk_alloc ?_ _)); exact BK101.out) hb); have n1_ := Aside0.mk (below_step (by repeat (first | (with_reducible first | exact HB.out | apply below_alloc | apply pw_below_drewN | apply below_drew1 | refine below_set ?_ GE101.out) | exact HB.out)) hb); clear BK101; clear HB; have BK101 := n0_; have HB := n1_; clear n0_ n1_; (try clear hb); (try clear hb2); (try clear hk); (try clear hi)))
        go_ret
        exact ⟨by first | rfl | (simp [errW_none, errW_some] <;> rfl) | (simp [*, errW_none, errW_some] <;> rfl), by repeat (first | (with_reducible first | exact HB.out | apply below_alloc | apply pw_below_drewN | apply below_drew1 | refine below_set ?_ GE101.out) | exact HB.out)⟩
      · replace c11 := Bool.eq_false_iff.mpr c11
        subst c11
        have H1 : ((scarfjointref05_Copied.f l0_0 l0_1).bind fun bt105 => ((subgraph_All.f bt105.1 bt105.2).bind fun bt111 => ((scarfjointref07_All.f kj1 l0_0 l0_1).bind fun bt115 => ((scarfjointref05_SameParts.f kj1 bt111.1 bt115.1).bind fun t119 => (if t119 = true then (scarfjointlaw07_SubgraphAll.j1 kj1 bt111.1 (bt111.2 != bt115.2) l0_0 l0_1) else (scarfjointlaw07_SubgraphAll.j1 kj1 bt111.1 true l0_0 l0_1)))))) = some r := by rw [if_neg (show ¬ (false = true) by decide)] at H; exact H
        clear H
        have H := H1
        clear H1
        replace H := Option.bind_eq_some_iff.mp H
        obtain ⟨⟨t105, t108⟩, A140, H⟩ := H
        replace H : ((subgraph_All.f t105 t108).bind fun bt111 => ((scarfjointref07_All.f kj1 l0_0 l0_1).bind fun bt115 => ((scarfjointref05_SameParts.f kj1 bt111.1 bt115.1).bind fun t119 => (if t119 = true then (scarfjointlaw07_SubgraphAll.j1 kj1 bt111.1 (bt111.2 != bt115.2) l0_0 l0_1) else (scarfjointlaw07_SubgraphAll.j1 kj1 bt111.1 true l0_0 l0_1))))) = some r := H
        have A14 := Aside0.mk A140
        clear A140
        replace H := Option.bind_eq_some_iff.mp H
        obtain ⟨⟨t111, t114⟩, A150, H⟩ := H
        replace H : ((scarfjointref07_All.f kj1 l0_0 l0_1).bind fun bt115 => ((scarfjointref05_SameParts.f kj1 t111 bt115.1).bind fun t119 => (if t119 = true then (scarfjointlaw07_SubgraphAll.j1 kj1 t111 (t114 != bt115.2) l0_0 l0_1) else (scarfjointlaw07_SubgraphAll.j1 kj1 t111 true l0_0 l0_1)))) = some r := H
        have A15 := Aside0.mk A150
        clear A150
        replace H := Option.bind_eq_some_iff.mp H
        obtain ⟨⟨t115, t118⟩, A160, H⟩ := H
        replace H : ((scarfjointref05_SameParts.f kj1 t111 t115).bind fun t119 => (if t119 = true then (scarfjointlaw07_SubgraphAll.j1 kj1 t111 (t114 != t118) l0_0 l0_1) else (scarfjointlaw07_SubgraphAll.j1 kj1 t111 true l0_0 l0_1))) = some r := H
        have A16 := Aside0.mk A160
        clear A160
        have HC17 := Aside0.mk H
        clear H
        have hcz18_0 : wc.cell? ⟨gb101, 0, none⟩ = some (.slice A0_0 l0_0.length c0_0) := (blk_cell BK101.out 0).trans rfl
        have hcz18_1 : wc.cell? ⟨gb101, 1, none⟩ = some (.slice A0_1 l0_1.length c0_1) := (blk_cell BK101.out 1).trans rfl
        have hfz18_0 := blk_frozen BK101.out 0
        have hfz18_1 := blk_frozen BK101.out 1
        go_upto_region 5 with (first | ((with_reducible refine gate_callee (f := 14) rfl ?_); refine goesL_ (some 19) rfl rfl Try.func14 (by kernel_rfl) rfl #[.agg #[.slice A0_0 l0_0.length c0_0, .slice A0_1 l0_1.length c0_1]] rfl (by (try simp only [List.map_toArray, List.map_cons, List.map_nil]); first | done | rfl | (simp only [List.length_drop, List.length_take]; rfl)) ?_; (with_reducible refine (scarfjointref05_Copied.calls _ _ l0_0 _ _ l0_1 t105 t108 _ ?side1 ?side2 ?side3 ?side4 A14.out).mono ?_); (case side1 => repeat (first | exact (Kd.C_below HR0_0.out HB.out) | (with_reducible refine Kd.C_alloc ?_ _) | (with_reducible refine Kd.C_drewN ?_ _) | (with_reducible refine Kd.C_drew ?_))); (case side2 => exact HC0_0.out); (case side3 => repeat (first | exact (Kd.C_below HR0_1.out HB.out) | (with_reducible refine Kd.C_alloc ?_ _) | (with_reducible refine Kd.C_drewN ?_ _) | (with_reducible refine Kd.C_drew ?_))); (case side4 => exact HC0_1.out); rintro e w19 ⟨v106, v109, rfl, ho0, ho1, hb⟩; refine ⟨_, rfl, ?_⟩; have n0_ := Aside0.mk (Kd.R_lower ho0 (below_size (by repeat (first | (with_reducible first | exact HB.out | apply below_alloc | apply pw_below_drewN | apply below_drew1 | refine below_set ?_ GE101.out) | exact HB.out)))); have n1_ := Aside0.mk (Kd.R_lower ho1 (below_size (by repeat (first | (with_reducible first | exact HB.out | apply below_alloc | apply pw_below_drewN | apply below_drew1 | refine below_set ?_ GE101.out) | exact HB.out)))); have n2_ := Aside0.mk (blk_below (g := gb101) (o := .cells #[.slice A0_0 l0_0.length c0_0, .slice A0_1 l0_1.length c0_1] 25 (0, 0)) (by (with_reducible repeat (first | refine blk_drewN ?_ _ | refine blk_drew ?_ | refine blk_alloc ?_ _)); exact BK101.out) hb); have n3_ := Aside0.mk (below_step (by repeat (first | (with_reducible first | exact HB.out | apply below_alloc | apply pw_below_drewN | apply below_drew1 | refine below_set ?_ GE101.out) | exact HB.out)) hb); clear BK101; clear HB; have HO107 := n0_; have HO110 := n1_; have BK101 := n2_; have HB := n3_; clear n0_ n1_ n2_ n3_; (try clear hb); (try clear hb2); (try clear hk); (try clear hi); (try clear ho0); (try clear ho1); obtain ⟨Ao20, co20, eo20⟩ := Kd.R_slice HO107.out; subst eo20; obtain ⟨Ao21, co21, eo21⟩ := Kd.R_slice HO110.out; subst eo21) | ((with_reducible refine gate_callee (f := 24) rfl ?_); refine goesL_ (some 20) rfl rfl Try.func24 (by kernel_rfl) rfl #[.agg #[.slice Ao20 t105.length co20, .slice Ao21 t108.length co21]] rfl (by (try simp only [List.map_toArray, List.map_cons, List.map_nil]); first | done | rfl | (simp only [List.length_drop, List.length_take]; rfl)) ?_; (with_reducible refine (subgraph_All.calls _ _ t105 _ _ t108 t111 t114 _ ?side1 ?side2 ?side3 ?side4 A15.out).mono ?_); (case side1 => repeat (first | exact (Kd.R_reads' HO107.out).2.2 | (with_reducible refine Kd.C_alloc ?_ _) | (with_reducible refine Kd.C_drewN ?_ _) | (with_reducible refine Kd.C_drew ?_))); (case side2 => exact (Kd.R_reads' HO107.out).2.1); (case side3 => repeat (first | exact (Kd.R_reads' HO110.out).2.2 | (with_reducible refine Kd.C_alloc ?_ _) | (with_reducible refine Kd.C_drewN ?_ _) | (with_reducible refine Kd.C_drew ?_))); (case side4 => exact (Kd.R_reads' HO110.out).2.1); rintro e w22 ⟨v112, rfl, ho0, hb⟩; refine ⟨_, rfl, ?_⟩; have n0_ := Aside0.mk (Kd.R_below (by (with_reducible repeat (first | apply Kd.R_alloc | apply Kd.R_drewN | apply Kd.R_drew)); exact HO107.out) hb); have n1_ := Aside0.mk (Kd.R_below (by (with_reducible repeat (first | apply Kd.R_alloc | apply Kd.R_drewN | apply Kd.R_drew)); exact HO110.out) hb); have n2_ := Aside0.mk (Kd.N_lower (Kd.N_mono (ok' := fun k_ => some k_ ≠ (.slice Ao20 t105.length co20 : Value).ownBlock ∧ some k_ ≠ (.slice Ao21 t108.length co21 : Value).ownBlock ∧ k_ ≠ gb101) (Kd.N_mono ho0 (fun k h => (⟨trivial, h, trivial⟩ : True ∧ (_ ≤ k) ∧ True))) (fun k_ hk_ => ⟨(Kd.fresh' (Kd.R_lt (by (with_reducible repeat (first | apply Kd.R_alloc | apply Kd.R_drewN | apply Kd.R_drew)); exact HO107.out)) k_ hk_.2.1), (Kd.fresh' (Kd.R_lt (by (with_reducible repeat (first | apply Kd.R_alloc | apply Kd.R_drewN | apply Kd.R_drew)); exact HO110.out)) k_ hk_.2.1), (Kd.freshB (g := gb101) (o := .cells #[.slice A0_0 l0_0.length c0_0, .slice A0_1 l0_1.length c0_1] 25 (0, 0)) (by (with_reducible repeat (first | refine blk_drewN ?_ _ | refine blk_drew ?_ | refine blk_alloc ?_ _)); exact BK101.out) k_ hk_.2.1)⟩)) (below_size (by repeat (first | (with_reducible first | exact HB.out | apply below_alloc | apply pw_below_drewN | apply below_drew1 | refine below_set ?_ GE101.out) | exact HB.out)))); have n3_ := Aside0.mk (blk_below (g := gb101) (o := .cells #[.slice A0_0 l0_0.length c0_0, .slice A0_1 l0_1.length c0_1] 25 (0, 0)) (by (with_reducible repeat (first | refine blk_drewN ?_ _ | refine blk_drew ?_ | refine blk_alloc ?_ _)); exact BK101.out) hb); have n4_ := Aside0.mk (below_step (by repeat (first | (with_reducible first | exact HB.out | apply below_alloc | apply pw_below_drewN | apply below_drew1 | refine below_set ?_ GE101.out) | exact HB.out)) hb); clear HO107; clear HO110; clear BK101; clear HB; have HO107 := n0_; have HO110 := n1_; have HO113 := n2_; have BK101 := n3_; have HB := n4_; clear n0_ n1_ n2_ n3_ n4_; (try clear hb); (try clear hb2); (try clear hk); (try clear hi); (try clear ho0); have hcz23_0 : w22.cell? ⟨gb101, 0, none⟩ = some (.slice A0_0 l0_0.length c0_0) := (blk_cell BK101.out 0).trans rfl; have hcz23_1 : w22.cell? ⟨gb101, 1, none⟩ = some (.slice A0_1 l0_1.length c0_1) := (blk_cell BK101.out 1).trans rfl; have hfz23_0 := blk_frozen BK101.out 0; have hfz23_1 := blk_frozen BK101.out 1) | ((with_reducible refine gate_callee (f := 25) rfl ?_); refine goesL_ (some 25) rfl rfl Try.func25 (by kernel_rfl) rfl #[.agg #[.slice A0_0 l0_0.length c0_0, .slice A0_1 l0_1.length c0_1]] rfl (by (try simp only [List.map_toArray, List.map_cons, List.map_nil]); first | done | rfl | (simp only [List.length_drop, List.length_take]; rfl)) ?_; (with_reducible refine (scarfjointref07_All.calls kj1 _ _ l0_0 _ _ l0_1 t115 t118 _ ?side1 ?side2 ?side3 ?side4 A16.out).mono ?_); (case side1 => repeat (first | exact (Kd.C_below HR0_0.out HB.out) | (with_reducible refine Kd.C_alloc ?_ _) | (with_reducible refine Kd.C_drewN ?_ _) | (with_reducible refine Kd.C_drew ?_))); (case side2 => exact HC0_0.out); (case side3 => repeat (first | exact (Kd.C_below HR0_1.out HB.out) | (with_reducible refine Kd.C_alloc ?_ _) | (with_reducible refine Kd.C_drewN ?_ _) | (with_reducible refine Kd.C_drew ?_))); (case side4 => exact HC0_1.out); rintro e w24 ⟨v116, rfl, ho0, hb⟩; refine ⟨_, rfl, ?_⟩; have n0_ := Aside0.mk (Kd.R_below (by (with_reducible repeat (first | apply Kd.R_alloc | apply Kd.R_drewN | apply Kd.R_drew)); exact HO107.out) hb); have n1_ := Aside0.mk (Kd.R_below (by (with_reducible repeat (first | apply Kd.R_alloc | apply Kd.R_drewN | apply Kd.R_drew)); exact HO110.out) hb); have n2_ := Aside0.mk (Kd.N_elder' (by (with_reducible repeat (first | apply Kd.N_alloc | apply Kd.N_drewN | apply Kd.N_drew)); exact HO113.out) (Kd.N_base ho0) hb); have n3_ := Aside0.mk (Kd.N_lower (Kd.N_mono (ok' := fun k_ => some k_ ≠ (.slice Ao20 t105.length co20 : Value).ownBlock ∧ some k_ ≠ (.slice Ao21 t108.length co21 : Value).ownBlock ∧ some k_ ≠ (v112 : Value).ownBlock ∧ k_ ≠ gb101) ho0 (fun k_ hk_ => ⟨(Kd.fresh' (Kd.R_lt (by (with_reducible repeat (first | apply Kd.R_alloc | apply Kd.R_drewN | apply Kd.R_drew)); exact HO107.out)) k_ hk_), (Kd.fresh' (Kd.R_lt (by (with_reducible repeat (first | apply Kd.R_alloc | apply Kd.R_drewN | apply Kd.R_drew)); exact HO110.out)) k_ hk_), (Kd.fresh' (Kd.N_lt (by (with_reducible repeat (first | apply Kd.N_alloc | apply Kd.N_drewN | apply Kd.N_drew)); exact HO113.out)) k_ hk_), (Kd.freshB (g := gb101) (o := .cells #[.slice A0_0 l0_0.length c0_0, .slice A0_1 l0_1.length c0_1] 25 (0, 0)) (by (with_reducible repeat (first | refine blk_drewN ?_ _ | refine blk_drew ?_ | refine blk_alloc ?_ _)); exact BK101.out) k_ hk_)⟩)) (below_size (by repeat (first | (with_reducible first | exact HB.out | apply below_alloc | apply pw_below_drewN | apply below_drew1 | refine below_set ?_ GE101.out) | exact HB.out)))); have n4_ := Aside0.mk (blk_below (g := gb101) (o := .cells #[.slice A0_0 l0_0.length c0_0, .slice A0_1 l0_1.length c0_1] 25 (0, 0)) (by (with_reducible repeat (first | refine blk_drewN ?_ _ | refine blk_drew ?_ | refine blk_alloc ?_ _)); exact BK101.out) hb); have n5_ := Aside0.mk (below_step (by repeat (first | (with_reducible first | exact HB.out | apply below_alloc | apply pw_below_drewN | apply below_drew1 | refine below_set ?_ GE101.out) | exact HB.out)) hb); clear HO107; clear HO110; clear HO113; clear BK101; clear HB; have HO107 := n0_; have HO110 := n1_; have HO113 := n2_; have HO117 := n3_; have BK101 := n4_; have HB := n5_; clear n0_ n1_ n2_ n3_ n4_ n5_; (try clear hb); (try clear hb2); (try clear hk); (try clear hi); (try clear ho0)))
        (try simp only [Act.put, List.setIfInBounds_toArray, List.set_cons_zero, List.set_cons_succ])
        go_cut [36] (fun v36 wc => ∃ (kq : Nat) (x36_16 : Bool), v36 = .bool x36_16 ∧ Aside0 (scarfjointlaw07_SubgraphAll.j1 kq t111 x36_16 l0_0 l0_1 = some r) ∧ Aside0 (kq ≤ kj1) ∧ Aside0 (Kd.N k27 27 wc w.heap.size (fun k_ => k_ ≠ gb101) v112 t111) ∧ Aside0 (wc.heap[gb101]? = some (.cells #[(.slice A0_0 l0_0.length c0_0), (.slice A0_1 l0_1.length c0_1)] 25 (0, 0))) ∧ Aside0 (Below w.heap.size w wc))
        case first =>
          have H := HC17.out
          clear HC17
          replace H := Option.bind_eq_some_iff.mp H
          obtain ⟨t119, A250, H⟩ := H
          replace H : (if t119 = true then (scarfjointlaw07_SubgraphAll.j1 kj1 t111 (t114 != t118) l0_0 l0_1) else (scarfjointlaw07_SubgraphAll.j1 kj1 t111 true l0_0 l0_1)) = some r := H
          have A25 := Aside0.mk A250
          clear A250
          by_cases c26 : t119 = true
          · subst c26
            have H1 : (scarfjointlaw07_SubgraphAll.j1 kj1 t111 (t114 != t118) l0_0 l0_1) = some r := by rw [if_pos rfl] at H; exact H
            clear H
            have H := H1
            clear H1
            have H' := Aside0.mk H
            clear H
            obtain ⟨Ao27, co27, eo27⟩ := Kd.N_slice HO113.out
            subst eo27
            obtain ⟨Ao28, co28, eo28⟩ := Kd.N_slice HO117.out
            subst eo28
            go_wp2_with (first | ((with_reducible refine gate_callee (f := 26) rfl ?_); refine goesL_ (some 30) rfl rfl Try.func26 (by kernel_rfl) rfl #[.slice Ao27 t111.length co27, .slice Ao28 t115.length co28] rfl (by (try simp only [List.map_toArray, List.map_cons, List.map_nil]); first | done | rfl | (simp only [List.length_drop, List.length_take]; rfl)) ?_; (with_reducible refine (scarfjointref05_SameParts.calls kj1 _ _ t111 _ _ t115 true _ ?side1 ?side2 ?side3 ?side4 A25.out).mono ?_); (case side1 => repeat (first | exact (Kd.N_reads' HO113.out).2.2 | (with_reducible refine Kd.C_alloc ?_ _) | (with_reducible refine Kd.C_drewN ?_ _) | (with_reducible refine Kd.C_drew ?_))); (case side2 => exact (Kd.N_reads' HO113.out).2.1); (case side3 => repeat (first | exact (Kd.N_reads' HO117.out).2.2 | (with_reducible refine Kd.C_alloc ?_ _) | (with_reducible refine Kd.C_drewN ?_ _) | (with_reducible refine Kd.C_drew ?_))); (case side4 => exact (Kd.N_reads' HO117.out).2.1); rintro e w' ⟨rfl, ⟨nd, rfl⟩⟩; refine ⟨_, rfl, ?_⟩))
            go_meet
            case rel => exact ⟨_, ((t114 != t118)), (by first | rfl | (simp; done) | (simp [*]; done)), H', ⟨by have := HJ1.out; first | omega | exact Nat.le_refl _⟩, ⟨by (with_reducible repeat (first | apply Kd.N_alloc | apply Kd.N_drewN | apply Kd.N_drew)); exact Kd.N_mono HO113.out (fun _ hk => hk.1.2.2)⟩, ⟨by (with_reducible repeat (first | refine blk_drewN ?_ _ | refine blk_drew ?_ | refine blk_alloc ?_ _)); exact BK101.out⟩, ⟨by repeat (first | (with_reducible first | exact HB.out | apply below_alloc | apply pw_below_drewN | apply below_drew1 | refine below_set ?_ GE101.out) | exact HB.out)⟩⟩
          · replace c26 := Bool.eq_false_iff.mpr c26
            subst c26
            have H1 : (scarfjointlaw07_SubgraphAll.j1 kj1 t111 true l0_0 l0_1) = some r := by rw [if_neg (show ¬ (false = true) by decide)] at H; exact H
            clear H
            have H := H1
            clear H1
            have H' := Aside0.mk H
            clear H
            obtain ⟨Ao29, co29, eo29⟩ := Kd.N_slice HO113.out
            subst eo29
            obtain ⟨Ao30, co30, eo30⟩ := Kd.N_slice HO117.out
            subst eo30
            go_wp2_with (first | ((with_reducible refine gate_callee (f := 26) rfl ?_); refine goesL_ (some 30) rfl rfl Try.func26 (by kernel_rfl) rfl #[.slice Ao29 t111.length co29, .slice Ao30 t115.length co30] rfl (by (try simp only [List.map_toArray, List.map_cons, List.map_nil]); first | done | rfl | (simp only [List.length_drop, List.length_take]; rfl)) ?_; (with_reducible refine (scarfjointref05_SameParts.calls kj1 _ _ t111 _ _ t115 false _ ?side1 ?side2 ?side3 ?side4 A25.out).mono ?_); (case side1 => repeat (first | exact (Kd.N_reads' HO113.out).2.2 | (with_reducible refine Kd.C_alloc ?_ _) | (with_reducible refine Kd.C_drewN ?_ _) | (with_reducible refine Kd.C_drew ?_))); (case side2 => exact (Kd.N_reads' HO113.out).2.1); (case side3 => repeat (first | exact (Kd.N_reads' HO117.out).2.2 | (with_reducible refine Kd.C_alloc ?_ _) | (with_reducible refine Kd.C_drewN ?_ _) | (with_reducible refine Kd.C_drew ?_))); (case side4 => exact (Kd.N_reads' HO117.out).2.1); rintro e w' ⟨rfl, ⟨nd, rfl⟩⟩; refine ⟨_, rfl, ?_⟩))
            go_meet
            case rel => exact ⟨_, (true), (by first | rfl | (simp; done) | (simp [*]; done)), H', ⟨by have := HJ1.out; first | omega | exact Nat.le_refl _⟩, ⟨by (with_reducible repeat (first | apply Kd.N_alloc | apply Kd.N_drewN | apply Kd.N_drew)); exact Kd.N_mono HO113.out (fun _ hk => hk.1.2.2)⟩, ⟨by (with_reducible repeat (first | refine blk_drewN ?_ _ | refine blk_drew ?_ | refine blk_alloc ?_ _)); exact BK101.out⟩, ⟨by repeat (first | (with_reducible first | exact HB.out | apply below_alloc | apply pw_below_drewN | apply below_drew1 | refine below_set ?_ GE101.out) | exact HB.out)⟩⟩
        case rest =>
          clear HC17
          try clear c1
          try clear c2
          try clear p2
          try clear c5
          try clear c11
          try clear c14
          try clear c24
          try clear c25
          try clear c26
          try clear hcz18_0
          try clear hcz18_1
          try clear hcz23_0
          try clear hcz23_1
          try clear hcz8_0
          try clear hcz8_1
          try clear hfz18_0
          try clear hfz18_1
          try clear hfz23_0
          try clear hfz23_1
          try clear hfz8_0
          try clear hfz8_1
          try clear p2
          obtain ⟨kq, x36_16, rfl, HA, HJ16, HO_3, BK101, HB⟩ := hcut
          cases kq with
          | zero => exact absurd HA.out (by simp [scarfjointlaw07_SubgraphAll.j1])
          | succ kj16 =>
            have H := HA.out
            clear HA
            simp only [scarfjointlaw07_SubgraphAll.j1] at H
            by_cases c31 : x36_16 = true
            · subst c31
              have H1 : (some false) = some r := by rw [if_pos rfl] at H; exact H
              clear H
              have H := H1
              clear H1
              obtain rfl := Option.some.inj H
              go_wp2
              go_ret
              exact ⟨by first | rfl | (simp [errW_none, errW_some] <;> rfl) | (simp [*, errW_none, errW_some] <;> rfl), by repeat (first | (with_reducible first | exact HB.out | apply below_alloc | apply pw_below_drewN | apply below_drew1 | refine below_set ?_ GE101.out) | exact HB.out)⟩
            · replace c31 := Bool.eq_false_iff.mpr c31
              subst c31
              have H1 : (scarfjointlaw07_SubgraphAll.l0 kj16 t111 t111 (t111.length : Int) 0 l0_0 l0_1) = some r := by rw [if_neg (show ¬ (false = true) by decide)] at H; exact H
              clear H
              have H := H1
              clear H1
              have H' := Aside0.mk H
              clear H
              obtain ⟨Ao32, co32, eo32⟩ := Kd.N_slice HO_3.out
              subst eo32
              go_wp2
              go_loopg [39] kj16 (fun kq v39 w' => ∃ (x39_3 : Int), v39 = .int .i64 x39_3 ∧ Aside0 (scarfjointlaw07_SubgraphAll.l0 kq t111 t111 (t111.length : Int) x39_3 l0_0 l0_1 = some r) ∧ Aside0 (kq ≤ kj16) ∧ Aside0 (Kd.N k27 27 w' w.heap.size (fun k_ => k_ ≠ gb101) (.slice Ao32 t111.length co32) t111) ∧ Aside0 (Kd.N k27 27 w' w.heap.size (fun k_ => k_ ≠ gb101) (.slice Ao32 t111.length co32) t111) ∧ Aside0 (w'.heap[gb101]? = some (.cells #[(.slice A0_0 l0_0.length c0_0), (.slice A0_1 l0_1.length c0_1)] 25 (0, 0))) ∧ Aside0 (Below w.heap.size w w'))
              case atStart => exact ⟨(0), (by first | rfl | (simp; done) | (simp [*]; done)), H', ⟨Nat.le_refl _⟩, ⟨by (with_reducible repeat (first | apply Kd.N_alloc | apply Kd.N_drewN | apply Kd.N_drew)); exact HO_3.out⟩, ⟨by (with_reducible repeat (first | apply Kd.N_alloc | apply Kd.N_drewN | apply Kd.N_drew)); exact HO_3.out⟩, ⟨by (with_reducible repeat (first | refine blk_drewN ?_ _ | refine blk_drew ?_ | refine blk_alloc ?_ _)); exact BK101.out⟩, ⟨by repeat (first | (with_reducible first | exact HB.out | apply below_alloc | apply pw_below_drewN | apply below_drew1 | refine below_set ?_ GE101.out) | exact HB.out)⟩⟩
              case round =>
                clear H'
                try clear c1
                try clear c2
                try clear p2
                try clear c3
                try clear c5
                try clear c11
                try clear c14
                try clear c24
                try clear c25
                try clear c26
                try clear c31
                try clear hcz18_0
                try clear hcz18_1
                try clear hcz23_0
                try clear hcz23_1
                try clear hcz8_0
                try clear hcz8_1
                try clear hfz18_0
                try clear hfz18_1
                try clear hfz23_0
                try clear hfz23_1
                try clear hfz8_0
                try clear hfz8_1
                try clear p2
                obtain ⟨x39_3, rfl, HA, HK3, HO_3, HO_37, BK101, HB⟩ := hrel
                cases gk with
                | zero => exact absurd HA.out (by simp [scarfjointlaw07_SubgraphAll.l0])
                | succ k3 =>
                  have H := HA.out
                  clear HA
                  simp only [scarfjointlaw07_SubgraphAll.l0] at H
                  by_cases c33 : x39_3 < (t111.length : Int)
                  · rw [if_pos c33] at H
                    have c33b0 : decide (x39_3 < (t111.length : Int)) = true := decide_eq_true c33
                    clear c33
                    by_cases c34 : 0 ≤ x39_3
                    · rw [if_pos c34] at H
                      have c34b0 : decide (0 ≤ x39_3) = true := decide_eq_true c34
                      clear c34
                      by_cases c35 : x39_3 < (t111.length : Int)
                      · rw [if_pos c35] at H
                        have c35b0 : decide (x39_3 < (t111.length : Int)) = true := decide_eq_true c35
                        clear c35
                        have HC36 := Aside0.mk H
                        clear H
                        have p120 : 0 ≤ (x39_3 : Int) := of_decide_eq_true (by first | (with_reducible assumption) | assumption)
                        have q120 : x39_3 < (t111.length : Int) := of_decide_eq_true (by first | (with_reducible assumption) | assumption)
                        obtain ⟨ad120, A120_0, c120_0, A120_1, c120_1, e120, hx120_0, hx120_1, hl120_0, hi120_0, hl120_1, hi120_1⟩ := at_T27 (Kd.N_reads' HO_37.out).2.2 x39_3 p120 q120
                        cases e120
                        obtain ⟨ce120, hce120, hMe120, hcc120⟩ := Kd.N_get HO_37.out z27 x39_3 p120 (by first | exact q120 | exact of_decide_eq_true (by first | (with_reducible assumption) | assumption) | (have e_ := (Kd.N_reads' HO_37.out).1; omega))
                        obtain ⟨ua120_0, uc120_0, ua120_1, uc120_1, rfl, ul120_0, ge120_0, ul120_1, ge120_1⟩ := k27_openF hMe120
                        have hv120_0 := hcc120 0 _ rfl
                        rw [Nat.add_zero] at hv120_0
                        replace hv120_0 := Option.some.inj (hv120_0.symm.trans hx120_0)
                        injection hv120_0 with hva_ hvn_ hvc_
                        rw [hva_] at ge120_0
                        rw [hvc_] at ul120_0
                        have HL120_0 := Aside0.mk (show Kd.V (Kd.int .i64) 3 _ w.heap.size _ _ ((rd_T27 t111 x39_3).f0) from Kd.V_mk ul120_0 ge120_0)
                        clear hva_ hvn_ hvc_ ge120_0 ul120_0
                        have hv120_1 := hcc120 1 _ rfl
                        rw [add_field _ _ 1 (by omega)] at hv120_1
                        replace hv120_1 := Option.some.inj (hv120_1.symm.trans hx120_1)
                        injection hv120_1 with hva_ hvn_ hvc_
                        rw [hva_] at ge120_1
                        rw [hvc_] at ul120_1
                        have HL120_1 := Aside0.mk (show Kd.V (Kd.int .i64) 3 _ w.heap.size _ _ ((rd_T27 t111 x39_3).f1) from Kd.V_mk ul120_1 ge120_1)
                        clear hva_ hvn_ hvc_ ge120_1 ul120_1
                        clear hcc120 hce120
                        have HR120_0 := Aside0.mk hi120_0
                        have HC120_0 := Aside0.mk hl120_0
                        clear hi120_0 hl120_0
                        have HR120_1 := Aside0.mk hi120_1
                        have HC120_1 := Aside0.mk hl120_1
                        clear hi120_1 hl120_1
                        replace p120 := eq_true p120
                        replace q120 := eq_true q120
                        go_upto_region 10 with (first | ((with_reducible refine gate_dst (N := 8) rfl ?_); refine box_event ?hg (N := 8) ?hd (cs := #[.slice none 0 0, .slice none 0 0]) (t := 27) ?hr ?_; (case hd => rfl); (case hg => rfl); (case hr => first | (go_simp; done) | (go_simp; rfl)); intro gb121 hg w37 hbox hb; have n0_ := Aside0.mk (Kd.N_below (Kd.N_elderB (by (with_reducible repeat (first | apply Kd.N_alloc | apply Kd.N_drewN | apply Kd.N_drew)); exact HO_3.out) gb121 (Nat.le_of_eq hg.symm)) hb); have n1_ := Aside0.mk (Kd.N_below (Kd.N_elderB (by (with_reducible repeat (first | apply Kd.N_alloc | apply Kd.N_drewN | apply Kd.N_drew)); exact HO_37.out) gb121 (Nat.le_of_eq hg.symm)) hb); have n2_ := Aside0.mk (Kd.V_below (Kd.V_elderB (by (with_reducible repeat (first | apply Kd.V_alloc | apply Kd.V_drewN | apply Kd.V_drew)); exact HL120_0.out) gb121 (Nat.le_of_eq hg.symm)) hb); have n3_ := Aside0.mk (Kd.V_below (Kd.V_elderB (by (with_reducible repeat (first | apply Kd.V_alloc | apply Kd.V_drewN | apply Kd.V_drew)); exact HL120_1.out) gb121 (Nat.le_of_eq hg.symm)) hb); have n4_ := Aside0.mk (blk_below (g := gb101) (o := .cells #[.slice A0_0 l0_0.length c0_0, .slice A0_1 l0_1.length c0_1] 25 (0, 0)) (by (with_reducible repeat (first | refine blk_drewN ?_ _ | refine blk_drew ?_ | refine blk_alloc ?_ _)); exact BK101.out) hb); have n5_ := Aside0.mk (Kd.C_below (by repeat (first | (with_reducible exact HR120_0.out) | (with_reducible refine Kd.C_alloc ?_ _) | (with_reducible refine Kd.C_drewN ?_ _) | (with_reducible refine Kd.C_drew ?_) | exact HR120_0.out)) hb); have n6_ := Aside0.mk (Kd.C_below (by repeat (first | (with_reducible exact HR120_1.out) | (with_reducible refine Kd.C_alloc ?_ _) | (with_reducible refine Kd.C_drewN ?_ _) | (with_reducible refine Kd.C_drew ?_) | exact HR120_1.out)) hb); have n7_ := Aside0.mk (below_step (by repeat (first | (with_reducible first | exact HB.out | apply below_alloc | apply pw_below_drewN | apply below_drew1 | refine below_set ?_ GE101.out) | exact HB.out)) hb); have n8_ := Aside0.mk (hbox); have n9_ := Aside0.mk ((by rw [hg]; exact (below_size (by repeat (first | (with_reducible first | exact HB.out | apply below_alloc | apply pw_below_drewN | apply below_drew1 | refine below_set ?_ GE101.out) | exact HB.out))) : w.heap.size ≤ gb121)); have n10_ := Aside0.mk ((by rw [hg]; exact (below_size (by repeat (first | (with_reducible first | exact HB.out | apply below_alloc | apply pw_below_drewN | apply below_drew1 | refine below_set ?_ GE101.out) | exact HB.out))) : w.heap.size ≤ gb121)); have n11_ := Aside0.mk ((by rw [hg]; exact Nat.ne_of_lt (blk_lt (g := gb101) (o := .cells #[.slice A0_0 l0_0.length c0_0, .slice A0_1 l0_1.length c0_1] 25 (0, 0)) (by (with_reducible repeat (first | refine blk_drewN ?_ _ | refine blk_drew ?_ | refine blk_alloc ?_ _)); exact BK101.out)) : gb101 ≠ gb121)); have n12_ := Aside0.mk ((by rw [hg]; exact Nat.ne_of_gt (blk_lt (g := gb101) (o := .cells #[.slice A0_0 l0_0.length c0_0, .slice A0_1 l0_1.length c0_1] 25 (0, 0)) (by (with_reducible repeat (first | refine blk_drewN ?_ _ | refine blk_drew ?_ | refine blk_alloc ?_ _)); exact BK101.out)) : gb121 ≠ gb101)); clear HO_3; clear HO_37; clear HL120_0; clear HL120_1; clear BK101; clear HR120_0; clear HR120_1; clear HB; have HO_3 := n0_; have HO_37 := n1_; have HL120_0 := n2_; have HL120_1 := n3_; have BK101 := n4_; have HR120_0 := n5_; have HR120_1 := n6_; have HB := n7_; have BK121 := n8_; have GW121 := n9_; have GE121 := n10_; have NB101_121 := n11_; have NB121_101 := n12_; clear n0_ n1_ n2_ n3_ n4_ n5_ n6_ n7_ n8_ n9_ n10_ n11_ n12_; clear hb hbox hg; have hnb38 := NB121_101.out; have hnc38 := NB101_121.out; have hcz39_0 : w37.cell? ⟨gb121, 0, none⟩ = some (.slice none 0 0) := (blk_cell BK121.out 0).trans rfl; have hcz39_1 : w37.cell? ⟨gb121, 1, none⟩ = some (.slice none 0 0) := (blk_cell BK121.out 1).trans rfl; have hfz39_0 := blk_frozen BK121.out 0; have hfz39_1 := blk_frozen BK121.out 1))
                        (try simp only [Act.put, List.setIfInBounds_toArray, List.set_cons_zero, List.set_cons_succ])
                        go_cut [61] (fun v61 wc => ∃ (kq : Nat) (x61_35 : Bool), v61 = .bool x61_35 ∧ Aside0 (scarfjointlaw07_SubgraphAll.j3 kq t111 t111 (t111.length : Int) x39_3 x61_35 l0_0 l0_1 = some r) ∧ Aside0 (kq ≤ k3) ∧ Aside0 (Kd.N k27 27 wc w.heap.size (fun k_ => k_ ≠ gb101) (.slice (some ad120) t111.length co32) t111) ∧ Aside0 (Kd.N k27 27 wc w.heap.size (fun k_ => k_ ≠ gb101) (.slice (some ad120) t111.length co32) t111) ∧ Aside0 (wc.heap[gb101]? = some (.cells #[(.slice A0_0 l0_0.length c0_0), (.slice A0_1 l0_1.length c0_1)] 25 (0, 0))) ∧ Aside0 (Below w.heap.size w wc))
                        case first =>
                          have H := HC36.out
                          clear HC36
                          replace H := Option.bind_eq_some_iff.mp H
                          obtain ⟨t122, A400, H⟩ := H
                          replace H : (if t122 = 0 then (if x39_3 > 0 then (if 0 ≤ (wrap64 (x39_3 - 1)) then (if (wrap64 (x39_3 - 1)) < (t111.length : Int) then ((scarfjointref07_Compare.f k3 ((rd_T27 t111 (wrap64 (x39_3 - 1))).f0) ((rd_T27 t111 (wrap64 (x39_3 - 1))).f1) ((rd_T27 t111 x39_3).f0) ((rd_T27 t111 x39_3).f1)).bind fun t124 => (scarfjointlaw07_SubgraphAll.j3 k3 t111 t111 (t111.length : Int) x39_3 (decide (t124 ≥ 0)) l0_0 l0_1)) else (none)) else (none)) else (scarfjointlaw07_SubgraphAll.j3 k3 t111 t111 (t111.length : Int) x39_3 false l0_0 l0_1)) else (scarfjointlaw07_SubgraphAll.j3 k3 t111 t111 (t111.length : Int) x39_3 true l0_0 l0_1)) = some r := H
                          have A40 := Aside0.mk A400
                          clear A400
                          by_cases c41 : t122 = 0
                          · rw [if_pos c41] at H
                            have c41b0 : (t122 == 0) = true := beq_iff_eq.mpr c41
                            have c41b1 : (t122 != 0) = false := bne_eq_false_iff_eq.mpr c41
                            clear c41
                            (first | rw [c41b0] | (simp only [i64_w, i32_w]; rw [c41b0]) | skip)
                            by_cases c42 : x39_3 > 0
                            · rw [if_pos c42] at H
                              have c42b0 : decide (0 < x39_3) = true := decide_eq_true c42
                              clear c42
                              obtain ⟨ji43, hji43⟩ : ∃ j_ : Int, (wrap64 (x39_3 - 1)) = j_ := ⟨_, rfl⟩
                              replace H : (if 0 ≤ (ji43) then (if (ji43) < (t111.length : Int) then ((scarfjointref07_Compare.f k3 ((rd_T27 t111 (ji43)).f0) ((rd_T27 t111 (ji43)).f1) ((rd_T27 t111 x39_3).f0) ((rd_T27 t111 x39_3).f1)).bind fun t124 => (scarfjointlaw07_SubgraphAll.j3 k3 t111 t111 (t111.length : Int) x39_3 (decide (t124 ≥ 0)) l0_0 l0_1)) else (none)) else (none)) = some r := by first | (rw [hji43] at H; exact H) | (simp only [hji43] at H ⊢; exact H)
                              (try rw [hji43] at A40)
                              have hji43w : (IntKind.i64.wrap (x39_3 - 1)) = ji43 := (i64_w _).trans hji43
                              by_cases c44 : 0 ≤ (ji43)
                              · rw [if_pos c44] at H
                                have c44b0 : decide (0 ≤ (ji43)) = true := decide_eq_true c44
                                clear c44
                                by_cases c45 : (ji43) < (t111.length : Int)
                                · rw [if_pos c45] at H
                                  have c45b0 : decide ((ji43) < (t111.length : Int)) = true := decide_eq_true c45
                                  clear c45
                                  replace H := Option.bind_eq_some_iff.mp H
                                  obtain ⟨t124, A460, H⟩ := H
                                  replace H : (scarfjointlaw07_SubgraphAll.j3 k3 t111 t111 (t111.length : Int) x39_3 (decide (t124 ≥ 0)) l0_0 l0_1) = some r := H
                                  have A46 := Aside0.mk A460
                                  clear A460
                                  have H' := Aside0.mk H
                                  clear H
                                  try go_wp2
                                  have n0_ : Aside0 (Kd.N k27 27 ((w37.setCell ⟨gb121, 0, none⟩ (.slice A120_0 ((rd_T27 t111 x39_3).f0).length c120_0)).setCell ⟨gb121, 1, none⟩ (.slice A120_1 ((rd_T27 t111 x39_3).f1).length c120_1)) w.heap.size (fun k_ => k_ ≠ gb101 ∧ k_ ≠ gb121) (.slice (some ad120) t111.length co32) t111) := ⟨by (with_reducible repeat (first | apply Kd.N_alloc | apply Kd.N_drewN | apply Kd.N_drew)); exact Kd.N_mono (Kd.N_far (p := ⟨gb121, 1, none⟩) (Kd.N_far (p := ⟨gb121, 0, none⟩) (Kd.N_mono HO_3.out (fun k_ hk => (⟨hk, hk.2⟩ : _ ∧ k_ ≠ gb121))) (fun _ hk => hk.2) (.slice A120_0 ((rd_T27 t111 x39_3).f0).length c120_0)) (fun _ hk => hk.2) (.slice A120_1 ((rd_T27 t111 x39_3).f1).length c120_1)) (fun _ hk => ⟨hk.1.1, hk.1.2⟩)⟩
                                  have n1_ : Aside0 (Kd.N k27 27 ((w37.setCell ⟨gb121, 0, none⟩ (.slice A120_0 ((rd_T27 t111 x39_3).f0).length c120_0)).setCell ⟨gb121, 1, none⟩ (.slice A120_1 ((rd_T27 t111 x39_3).f1).length c120_1)) w.heap.size (fun k_ => k_ ≠ gb101 ∧ k_ ≠ gb121) (.slice (some ad120) t111.length co32) t111) := ⟨by (with_reducible repeat (first | apply Kd.N_alloc | apply Kd.N_drewN | apply Kd.N_drew)); exact Kd.N_mono (Kd.N_far (p := ⟨gb121, 1, none⟩) (Kd.N_far (p := ⟨gb121, 0, none⟩) (Kd.N_mono HO_37.out (fun k_ hk => (⟨hk, hk.2⟩ : _ ∧ k_ ≠ gb121))) (fun _ hk => hk.2) (.slice A120_0 ((rd_T27 t111 x39_3).f0).length c120_0)) (fun _ hk => hk.2) (.slice A120_1 ((rd_T27 t111 x39_3).f1).length c120_1)) (fun _ hk => ⟨hk.1.1, hk.1.2⟩)⟩
                                  have n2_ : Aside0 (Kd.V (Kd.int .i64) 3 ((w37.setCell ⟨gb121, 0, none⟩ (.slice A120_0 ((rd_T27 t111 x39_3).f0).length c120_0)).setCell ⟨gb121, 1, none⟩ (.slice A120_1 ((rd_T27 t111 x39_3).f1).length c120_1)) w.heap.size (fun k_ => some k_ ≠ (.slice (some ad120) t111.length co32 : Value).ownBlock ∧ k_ ≠ gb101 ∧ k_ ≠ gb121) (.slice A120_0 ((rd_T27 t111 x39_3).f0).length c120_0) ((rd_T27 t111 x39_3).f0)) := ⟨by (with_reducible repeat (first | apply Kd.V_alloc | apply Kd.V_drewN | apply Kd.V_drew)); exact Kd.V_mono (Kd.V_far (p := ⟨gb121, 1, none⟩) (Kd.V_far (p := ⟨gb121, 0, none⟩) (Kd.V_mono HL120_0.out (fun k_ hk => (⟨hk, hk.2⟩ : _ ∧ k_ ≠ gb121))) (fun _ hk => hk.2) (.slice A120_0 ((rd_T27 t111 x39_3).f0).length c120_0)) (fun _ hk => hk.2) (.slice A120_1 ((rd_T27 t111 x39_3).f1).length c120_1)) (fun _ hk => ⟨hk.1.1.2, ⟨hk.1.1.1, hk.1.2⟩⟩)⟩
                                  have n3_ : Aside0 (Kd.V (Kd.int .i64) 3 ((w37.setCell ⟨gb121, 0, none⟩ (.slice A120_0 ((rd_T27 t111 x39_3).f0).length c120_0)).setCell ⟨gb121, 1, none⟩ (.slice A120_1 ((rd_T27 t111 x39_3).f1).length c120_1)) w.heap.size (fun k_ => some k_ ≠ (.slice (some ad120) t111.length co32 : Value).ownBlock ∧ k_ ≠ gb101 ∧ k_ ≠ gb121) (.slice A120_1 ((rd_T27 t111 x39_3).f1).length c120_1) ((rd_T27 t111 x39_3).f1)) := ⟨by (with_reducible repeat (first | apply Kd.V_alloc | apply Kd.V_drewN | apply Kd.V_drew)); exact Kd.V_mono (Kd.V_far (p := ⟨gb121, 1, none⟩) (Kd.V_far (p := ⟨gb121, 0, none⟩) (Kd.V_mono HL120_1.out (fun k_ hk => (⟨hk, hk.2⟩ : _ ∧ k_ ≠ gb121))) (fun _ hk => hk.2) (.slice A120_0 ((rd_T27 t111 x39_3).f0).length c120_0)) (fun _ hk => hk.2) (.slice A120_1 ((rd_T27 t111 x39_3).f1).length c120_1)) (fun _ hk => ⟨hk.1.1.2, ⟨hk.1.1.1, hk.1.2⟩⟩)⟩
                                  have n4_ : Aside0 (((w37.setCell ⟨gb121, 0, none⟩ (.slice A120_0 ((rd_T27 t111 x39_3).f0).length c120_0)).setCell ⟨gb121, 1, none⟩ (.slice A120_1 ((rd_T27 t111 x39_3).f1).length c120_1)).heap[gb101]? = some (.cells #[.slice A0_0 l0_0.length c0_0, .slice A0_1 l0_1.length c0_1] 25 (0, 0))) := ⟨by (with_reducible repeat (first | refine blk_drewN ?_ _ | refine blk_drew ?_ | refine blk_alloc ?_ _)); refine blk_far ?_ NB101_121.out _; (with_reducible repeat (first | refine blk_drewN ?_ _ | refine blk_drew ?_ | refine blk_alloc ?_ _)); refine blk_far ?_ NB101_121.out _; (with_reducible repeat (first | refine blk_drewN ?_ _ | refine blk_drew ?_ | refine blk_alloc ?_ _)); exact BK101.out⟩
                                  have n5_ : Aside0 (((w37.setCell ⟨gb121, 0, none⟩ (.slice A120_0 ((rd_T27 t111 x39_3).f0).length c120_0)).setCell ⟨gb121, 1, none⟩ (.slice A120_1 ((rd_T27 t111 x39_3).f1).length c120_1)).heap[gb121]? = some (.cells #[.slice A120_0 ((rd_T27 t111 x39_3).f0).length c120_0, .slice A120_1 ((rd_T27 t111 x39_3).f1).length c120_1] 27 (0, 0))) := ⟨by (with_reducible repeat (first | refine blk_drewN ?_ _ | refine blk_drew ?_ | refine blk_alloc ?_ _)); refine blk_put (cs := #[.slice A120_0 ((rd_T27 t111 x39_3).f0).length c120_0, .slice none 0 0]) ?_ 1 _ rfl; (with_reducible repeat (first | refine blk_drewN ?_ _ | refine blk_drew ?_ | refine blk_alloc ?_ _)); refine blk_put (cs := #[.slice none 0 0, .slice none 0 0]) ?_ 0 _ rfl; (with_reducible repeat (first | refine blk_drewN ?_ _ | refine blk_drew ?_ | refine blk_alloc ?_ _)); exact BK121.out⟩
                                  have n6_ : Aside0 (Below w.heap.size w ((w37.setCell ⟨gb121, 0, none⟩ (.slice A120_0 ((rd_T27 t111 x39_3).f0).length c120_0)).setCell ⟨gb121, 1, none⟩ (.slice A120_1 ((rd_T27 t111 x39_3).f1).length c120_1))) := ⟨by repeat (first | (with_reducible first | exact HB.out | apply below_alloc | apply pw_below_drewN | apply below_drew1 | refine below_set ?_ GE101.out | refine below_set ?_ GE121.out) | exact HB.out)⟩
                                  (try clear HO_3)
                                  (try clear HO_37)
                                  (try clear HL120_0)
                                  (try clear HL120_1)
                                  (try clear BK101)
                                  (try clear BK121)
                                  (try clear HB)
                                  generalize ((w37.setCell ⟨gb121, 0, none⟩ (.slice A120_0 ((rd_T27 t111 x39_3).f0).length c120_0)).setCell ⟨gb121, 1, none⟩ (.slice A120_1 ((rd_T27 t111 x39_3).f1).length c120_1)) = w47 at n0_ n1_ n2_ n3_ n4_ n5_ n6_ ⊢
                                  have HO_3 := n0_
                                  have HO_37 := n1_
                                  have HL120_0 := n2_
                                  have HL120_1 := n3_
                                  have BK101 := n4_
                                  have BK121 := n5_
                                  have HB := n6_
                                  clear n0_ n1_ n2_ n3_ n4_ n5_ n6_
                                  have n0_ := Aside0.mk (Kd.N_drew HO_3.out)
                                  have n1_ := Aside0.mk (Kd.N_drew HO_37.out)
                                  have n2_ := Aside0.mk (Kd.V_drew HL120_0.out)
                                  have n3_ := Aside0.mk (Kd.V_drew HL120_1.out)
                                  have n4_ := Aside0.mk (blk_drew BK101.out)
                                  have n5_ := Aside0.mk (blk_drew BK121.out)
                                  have n6_ := Aside0.mk (below_drew1 HB.out)
                                  clear HO_3
                                  clear HO_37
                                  clear HL120_0
                                  clear HL120_1
                                  clear BK101
                                  clear BK121
                                  clear HB
                                  have HO_3 := n0_
                                  have HO_37 := n1_
                                  have HL120_0 := n2_
                                  have HL120_1 := n3_
                                  have BK101 := n4_
                                  have BK121 := n5_
                                  have HB := n6_
                                  clear n0_ n1_ n2_ n3_ n4_ n5_ n6_
                                  have p123 : 0 ≤ ((ji43) : Int) := of_decide_eq_true (by first | (with_reducible assumption) | assumption)
                                  have q123 : (ji43) < (t111.length : Int) := of_decide_eq_true (by first | (with_reducible assumption) | assumption)
                                  obtain ⟨ad123, A123_0, c123_0, A123_1, c123_1, e123, hx123_0, hx123_1, hl123_0, hi123_0, hl123_1, hi123_1⟩ := at_T27 (Kd.N_reads' HO_3.out).2.2 (ji43) p123 q123
                                  obtain rfl : ad120 = ad123 := (by injection e123)
                                  obtain ⟨ce123, hce123, hMe123, hcc123⟩ := Kd.N_get HO_3.out z27 (ji43) p123 (by first | exact q123 | exact of_decide_eq_true (by first | (with_reducible assumption) | assumption) | (have e_ := (Kd.N_reads' HO_3.out).1; omega))
                                  obtain ⟨ua123_0, uc123_0, ua123_1, uc123_1, rfl, ul123_0, ge123_0, ul123_1, ge123_1⟩ := k27_openF hMe123
                                  have hv123_0 := hcc123 0 _ rfl
                                  rw [Nat.add_zero] at hv123_0
                                  replace hv123_0 := Option.some.inj (hv123_0.symm.trans hx123_0)
                                  injection hv123_0 with hva_ hvn_ hvc_
                                  rw [hva_] at ge123_0
                                  rw [hvc_] at ul123_0
                                  have HL123_0 := Aside0.mk (show Kd.V (Kd.int .i64) 3 _ w.heap.size _ _ ((rd_T27 t111 (ji43)).f0) from Kd.V_mk ul123_0 ge123_0)
                                  clear hva_ hvn_ hvc_ ge123_0 ul123_0
                                  have hv123_1 := hcc123 1 _ rfl
                                  rw [add_field _ _ 1 (by omega)] at hv123_1
                                  replace hv123_1 := Option.some.inj (hv123_1.symm.trans hx123_1)
                                  injection hv123_1 with hva_ hvn_ hvc_
                                  rw [hva_] at ge123_1
                                  rw [hvc_] at ul123_1
                                  have HL123_1 := Aside0.mk (show Kd.V (Kd.int .i64) 3 _ w.heap.size _ _ ((rd_T27 t111 (ji43)).f1) from Kd.V_mk ul123_1 ge123_1)
                                  clear hva_ hvn_ hvc_ ge123_1 ul123_1
                                  clear hcc123 hce123
                                  have HR123_0 := Aside0.mk hi123_0
                                  have HC123_0 := Aside0.mk hl123_0
                                  clear hi123_0 hl123_0
                                  have HR123_1 := Aside0.mk hi123_1
                                  have HC123_1 := Aside0.mk hl123_1
                                  clear hi123_1 hl123_1
                                  replace p123 := eq_true p123
                                  replace q123 := eq_true q123
                                  refine start_ (n := 18) (S := fun w' => w'.cell? ⟨gb101, 0, none⟩ = some (.slice A0_0 l0_0.length c0_0) ∧ w'.cell? ⟨gb101, 1, none⟩ = some (.slice A0_1 l0_1.length c0_1) ∧ w'.cell? ⟨gb121, 0, none⟩ = some (.slice A120_0 ((rd_T27 t111 x39_3).f0).length c120_0) ∧ w'.cell? ⟨gb121, 1, none⟩ = some (.slice A120_1 ((rd_T27 t111 x39_3).f1).length c120_1) ∧ w'.cell? (ad120.add (((ji43)).toNat * 2)) = some (.slice A123_0 ((rd_T27 t111 (ji43)).f0).length c123_0) ∧ w'.cell? ⟨(ad120.add (((ji43)).toNat * 2)).block, (ad120.add (((ji43)).toNat * 2)).off + 1, none⟩ = some (.slice A123_1 ((rd_T27 t111 (ji43)).f1).length c123_1)) (ds := []) #[false, false, false, false, false, false, false, false, false, false, false, false, false, false, false, false, false, false] (by kernel_rfl) rfl rfl ⟨(blk_cell BK101.out 0).trans rfl, (blk_cell BK101.out 1).trans rfl, (blk_cell BK121.out 0).trans rfl, (blk_cell BK121.out 1).trans rfl, hx123_0, hx123_1⟩ (fun hHeld => ?_); refine with_tabW scarfjointlaw07_SubgraphAll.tab10 scarfjointlaw07_SubgraphAll.bits10 (fun HT_ HW_ => ?_)
                                  generalize w47.drew = w48 at HO_3 HO_37 HL120_0 HL120_1 BK101 BK121 HB HL123_0 HL123_1 HR123_0 HR123_1 hx123_0 hx123_1 hHeld ⊢
                                  refine take_ (i := 0) (N := some 44) (v := ?_) (a' := ?_) #[true, false, false, false, false, false, false, false, false, false, false, false, false, false, false, false, false, false] rfl rfl (take_ofW HT_.out HW_.out (by kernel_rfl)) (fun _ _ _ h => h) (Or.inl ⟨by rfl, ?_⟩) hHeld ?_ ?_
                                  rotate_left
                                  · rintro w' ⟨s0, s1, s2, s3, s4, s5⟩
                                    go_simp
                                    with_reducible rfl
                                  rotate_left
                                  · simp only [Act.put, List.setIfInBounds_toArray, List.set_cons_zero, List.set_cons_succ, i64_w, i32_w]
                                    rfl
                                  refine take_ (i := 1) (N := some 45) (v := ?_) (a' := ?_) #[true, true, false, false, false, false, false, false, false, false, false, false, false, false, false, false, false, false] rfl rfl (take_ofW HT_.out HW_.out (by kernel_rfl)) (fun _ _ _ h => h) (Or.inl ⟨by rfl, ?_⟩) hHeld ?_ ?_
                                  rotate_left
                                  · rintro w' ⟨s0, s1, s2, s3, s4, s5⟩
                                    go_simp
                                    with_reducible rfl
                                  rotate_left
                                  · simp only [Act.put, List.setIfInBounds_toArray, List.set_cons_zero, List.set_cons_succ, i64_w, i32_w]
                                    rfl
                                  refine one_ (i := 2) (N := some 46) #[true, true, true, false, false, false, false, false, false, false, false, false, false, false, false, false, false, false] rfl rfl (one_of HT_.out (by kernel_rfl)) (by decide) (fun K hK => ?_)
                                  refine goes_ Try.func27 (by kernel_rfl) rfl #[.agg #[.slice A0_0 l0_0.length c0_0, .slice A0_1 l0_1.length c0_1], .agg #[.slice A120_0 ((rd_T27 t111 x39_3).f0).length c120_0, .slice A120_1 ((rd_T27 t111 x39_3).f1).length c120_1]] (by rfl) rfl rfl (by (try simp only [List.map_toArray, List.map_cons, List.map_nil]); first | done | rfl | (simp only [List.length_drop, List.length_take]; rfl)) ?_
                                  with_reducible refine (subgraph_Valid.calls k3 _ _ l0_0 _ _ l0_1 _ _ ((rd_T27 t111 x39_3).f0) _ _ ((rd_T27 t111 x39_3).f1) t122 _ ?side1 ?side2 ?side3 ?side4 ?side5 ?side6 ?side7 ?side8 A40.out).mono ?_
                                  (case side1 => repeat (first | exact (Kd.C_below HR0_0.out HB.out) | (with_reducible refine Kd.C_alloc ?_ _) | (with_reducible refine Kd.C_drewN ?_ _) | (with_reducible refine Kd.C_drew ?_)))
                                  (case side2 => exact HC0_0.out)
                                  (case side3 => repeat (first | exact (Kd.C_below HR0_1.out HB.out) | (with_reducible refine Kd.C_alloc ?_ _) | (with_reducible refine Kd.C_drewN ?_ _) | (with_reducible refine Kd.C_drew ?_)))
                                  (case side4 => exact HC0_1.out)
                                  (case side5 => repeat (first | exact ((Kd.V_reads' (by (with_reducible repeat (first | apply Kd.V_alloc | apply Kd.V_drewN | apply Kd.V_drew)); exact HL120_0.out)).2.2) | (with_reducible refine Kd.C_alloc ?_ _) | (with_reducible refine Kd.C_drewN ?_ _) | (with_reducible refine Kd.C_drew ?_)))
                                  (case side6 => exact HC120_0.out)
                                  (case side7 => repeat (first | exact ((Kd.V_reads' (by (with_reducible repeat (first | apply Kd.V_alloc | apply Kd.V_drewN | apply Kd.V_drew)); exact HL120_1.out)).2.2) | (with_reducible refine Kd.C_alloc ?_ _) | (with_reducible refine Kd.C_drewN ?_ _) | (with_reducible refine Kd.C_drew ?_)))
                                  (case side8 => exact HC120_1.out)
                                  rintro e w49 ⟨rfl, hb⟩
                                  have HS4_ := (hb.cell (World.block_lt_of_cell? _ _ (hHeld.2.2.2.2.1))).trans (hHeld.2.2.2.2.1)
                                  replace HR123_0 := Aside0.mk (Kd.C_below HR123_0.out hb)
                                  replace HR123_1 := Aside0.mk (Kd.C_below HR123_1.out hb)
                                  replace HL123_0 := Aside0.mk (Kd.V_below HL123_0.out hb)
                                  replace HL123_1 := Aside0.mk (Kd.V_below HL123_1.out hb)
                                  have HS5_ := (hb.cell (World.block_lt_of_cell? _ _ (hHeld.2.2.2.2.2))).trans (hHeld.2.2.2.2.2)
                                  refine ⟨_, rfl, ?_⟩
                                  have n0_ := Aside0.mk (Kd.N_below (by (with_reducible repeat (first | apply Kd.N_alloc | apply Kd.N_drewN | apply Kd.N_drew)); exact HO_3.out) hb)
                                  have n1_ := Aside0.mk (Kd.N_below (by (with_reducible repeat (first | apply Kd.N_alloc | apply Kd.N_drewN | apply Kd.N_drew)); exact HO_37.out) hb)
                                  have n2_ := Aside0.mk (Kd.V_below (by (with_reducible repeat (first | apply Kd.V_alloc | apply Kd.V_drewN | apply Kd.V_drew)); exact HL120_0.out) hb)
                                  have n3_ := Aside0.mk (Kd.V_below (by (with_reducible repeat (first | apply Kd.V_alloc | apply Kd.V_drewN | apply Kd.V_drew)); exact HL120_1.out) hb)
                                  have n4_ := Aside0.mk (blk_below (g := gb101) (o := .cells #[.slice A0_0 l0_0.length c0_0, .slice A0_1 l0_1.length c0_1] 25 (0, 0)) (by (with_reducible repeat (first | refine blk_drewN ?_ _ | refine blk_drew ?_ | refine blk_alloc ?_ _)); exact BK101.out) hb)
                                  have n5_ := Aside0.mk (blk_below (g := gb121) (o := .cells #[.slice A120_0 ((rd_T27 t111 x39_3).f0).length c120_0, .slice A120_1 ((rd_T27 t111 x39_3).f1).length c120_1] 27 (0, 0)) (by (with_reducible repeat (first | refine blk_drewN ?_ _ | refine blk_drew ?_ | refine blk_alloc ?_ _)); exact BK121.out) hb)
                                  have n6_ := Aside0.mk (below_step (by repeat (first | (with_reducible first | exact HB.out | apply below_alloc | apply pw_below_drewN | apply below_drew1 | refine below_set ?_ GE101.out | refine below_set ?_ GE121.out) | exact HB.out)) hb)
                                  clear HO_3
                                  clear HO_37
                                  clear HL120_0
                                  clear HL120_1
                                  clear BK101
                                  clear BK121
                                  clear HB
                                  have HO_3 := n0_
                                  have HO_37 := n1_
                                  have HL120_0 := n2_
                                  have HL120_1 := n3_
                                  have BK101 := n4_
                                  have BK121 := n5_
                                  have HB := n6_
                                  clear n0_ n1_ n2_ n3_ n4_ n5_ n6_
                                  (try clear hb)
                                  (try clear hb2)
                                  (try clear hk)
                                  (try clear hi)
                                  refine hK.out _ _ ⟨(blk_cell BK101.out 0).trans rfl, (blk_cell BK101.out 1).trans rfl, (blk_cell BK121.out 0).trans rfl, (blk_cell BK121.out 1).trans rfl, HS4_, HS5_⟩ (fun hHeld => ?_)
                                  clear hK K
                                  refine norm_ (a' := ?_) ?_ ?_
                                  rotate_left
                                  · show Act.put _ (some 46) _ = _
                                    simp only [Act.put, List.setIfInBounds_toArray, List.set_cons_zero, List.set_cons_succ, i64_w, i32_w]
                                    rfl
                                  refine pure_ (i := 3) (N := some 47) (v := ?_) (a' := ?_) #[true, true, true, true, false, false, false, false, false, false, false, false, false, false, false, false, false, false] rfl rfl (any_of HT_.out (by kernel_rfl)) (fun _ _ _ h => h) (Or.inl ⟨by rfl, ?_⟩) ?_ ?_
                                  rotate_left
                                  · intro w'
                                    go_simp
                                    with_reducible rfl
                                  rotate_left
                                  · simp only [Act.put, List.setIfInBounds_toArray, List.set_cons_zero, List.set_cons_succ, i64_w, i32_w]
                                    rfl
                                  refine pure_ (i := 4) (N := some 48) (v := ?_) (a' := ?_) #[true, true, true, true, true, false, false, false, false, false, false, false, false, false, false, false, false, false] rfl rfl (any_of HT_.out (by kernel_rfl)) (fun _ _ _ h => h) (Or.inl ⟨by rfl, ?_⟩) ?_ ?_
                                  rotate_left
                                  · intro w'
                                    go_simp
                                    with_reducible rfl
                                  rotate_left
                                  · simp only [Act.put, List.setIfInBounds_toArray, List.set_cons_zero, List.set_cons_succ, i64_w, i32_w]
                                    rfl
                                  refine pure_ (i := 5) (N := some 49) (v := ?_) (a' := ?_) #[true, true, true, true, true, true, false, false, false, false, false, false, false, false, false, false, false, false] rfl rfl (any_of HT_.out (by kernel_rfl)) (fun _ _ _ h => h) (Or.inl ⟨by rfl, ?_⟩) ?_ ?_
                                  rotate_left
                                  · intro w'
                                    go_simp
                                    with_reducible rfl
                                  rotate_left
                                  · simp only [Act.put, List.setIfInBounds_toArray, List.set_cons_zero, List.set_cons_succ, i64_w, i32_w]
                                    rfl
                                  refine pure_ (i := 6) (N := some 50) (v := ?_) (a' := ?_) #[true, true, true, true, true, true, true, false, false, false, false, false, false, false, false, false, false, false] rfl rfl (any_of HT_.out (by kernel_rfl)) (fun _ _ _ h => h) (Or.inl ⟨by rfl, ?_⟩) ?_ ?_
                                  rotate_left
                                  · intro w'
                                    go_simp
                                    with_reducible rfl
                                  rotate_left
                                  · simp only [Act.put, List.setIfInBounds_toArray, List.set_cons_zero, List.set_cons_succ, i64_w, i32_w]
                                    rfl
                                  refine pure_ (i := 7) (N := some 51) (v := ?_) (a' := ?_) #[true, true, true, true, true, true, true, true, false, false, false, false, false, false, false, false, false, false] rfl rfl (any_of HT_.out (by kernel_rfl)) (fun _ _ _ h => h) (Or.inl ⟨by rfl, ?_⟩) ?_ ?_
                                  rotate_left
                                  · intro w'
                                    go_simp
                                    with_reducible rfl
                                  rotate_left
                                  · simp only [Act.put, List.setIfInBounds_toArray, List.set_cons_zero, List.set_cons_succ, i64_w, i32_w]
                                    rfl
                                  refine pure_ (i := 8) (N := some 52) (v := ?_) (a' := ?_) #[true, true, true, true, true, true, true, true, true, false, false, false, false, false, false, false, false, false] rfl rfl (any_of HT_.out (by kernel_rfl)) (fun _ _ _ h => h) (Or.inl ⟨by rfl, ?_⟩) ?_ ?_
                                  rotate_left
                                  · intro w'
                                    go_simp
                                    with_reducible rfl
                                  rotate_left
                                  · simp only [Act.put, List.setIfInBounds_toArray, List.set_cons_zero, List.set_cons_succ, i64_w, i32_w]
                                    rfl
                                  refine pure_ (i := 9) (N := some 53) (v := ?_) (a' := ?_) #[true, true, true, true, true, true, true, true, true, true, false, false, false, false, false, false, false, false] rfl rfl (any_of HT_.out (by kernel_rfl)) (fun _ _ _ h => h) (Or.inl ⟨by rfl, ?_⟩) ?_ ?_
                                  rotate_left
                                  · intro w'
                                    go_simp
                                    with_reducible rfl
                                  rotate_left
                                  · simp only [Act.put, List.setIfInBounds_toArray, List.set_cons_zero, List.set_cons_succ, i64_w, i32_w]
                                    rfl
                                  refine pure_ (i := 10) (N := some 54) (v := ?_) (a' := ?_) #[true, true, true, true, true, true, true, true, true, true, true, false, false, false, false, false, false, false] rfl rfl (any_of HT_.out (by kernel_rfl)) (fun _ _ _ h => h) (Or.inl ⟨by rfl, ?_⟩) ?_ ?_
                                  rotate_left
                                  · intro w'
                                    go_simp
                                    with_reducible rfl
                                  rotate_left
                                  · simp only [Act.put, List.setIfInBounds_toArray, List.set_cons_zero, List.set_cons_succ, i64_w, i32_w]
                                    rfl
                                  refine pure_ (i := 11) (N := some 55) (v := ?_) (a' := ?_) #[true, true, true, true, true, true, true, true, true, true, true, true, false, false, false, false, false, false] rfl rfl (any_of HT_.out (by kernel_rfl)) (fun _ _ _ h => h) (Or.inl ⟨by rfl, ?_⟩) ?_ ?_
                                  rotate_left
                                  · intro w'
                                    go_simp
                                    with_reducible rfl
                                  rotate_left
                                  · simp only [Act.put, List.setIfInBounds_toArray, List.set_cons_zero, List.set_cons_succ, i64_w, i32_w]
                                    rfl
                                  refine take_ (i := 12) (N := some 56) (v := ?_) (a' := ?_) #[true, true, true, true, true, true, true, true, true, true, true, true, true, false, false, false, false, false] rfl rfl (take_ofW HT_.out HW_.out (by kernel_rfl)) (fun _ _ _ h => h) (Or.inl ⟨by rfl, ?_⟩) hHeld ?_ ?_
                                  rotate_left
                                  · rintro w' ⟨s0, s1, s2, s3, s4, s5⟩
                                    go_simp
                                    with_reducible rfl
                                  rotate_left
                                  · simp only [Act.put, List.setIfInBounds_toArray, List.set_cons_zero, List.set_cons_succ, i64_w, i32_w]
                                    rfl
                                  refine take_ (i := 13) (N := some 57) (v := ?_) (a' := ?_) #[true, true, true, true, true, true, true, true, true, true, true, true, true, true, false, false, false, false] rfl rfl (take_ofW HT_.out HW_.out (by kernel_rfl)) (fun _ _ _ h => h) (Or.inl ⟨by rfl, ?_⟩) hHeld ?_ ?_
                                  rotate_left
                                  · rintro w' ⟨s0, s1, s2, s3, s4, s5⟩
                                    go_simp
                                    with_reducible rfl
                                  rotate_left
                                  · simp only [Act.put, List.setIfInBounds_toArray, List.set_cons_zero, List.set_cons_succ, i64_w, i32_w]
                                    rfl
                                  refine one_ (i := 14) (N := some 58) #[true, true, true, true, true, true, true, true, true, true, true, true, true, true, true, false, false, false] rfl rfl (one_of HT_.out (by kernel_rfl)) (by decide) (fun K hK => ?_)
                                  refine goes_ Try.func28 (by kernel_rfl) rfl #[.agg #[.slice A123_0 ((rd_T27 t111 (ji43)).f0).length c123_0, .slice A123_1 ((rd_T27 t111 (ji43)).f1).length c123_1], .agg #[.slice A120_0 ((rd_T27 t111 x39_3).f0).length c120_0, .slice A120_1 ((rd_T27 t111 x39_3).f1).length c120_1]] (by rfl) rfl rfl (by (try simp only [List.map_toArray, List.map_cons, List.map_nil]); first | done | (simp only [hji43]; rfl) | rfl | (simp only [List.length_drop, List.length_take]; rfl)) ?_
                                  with_reducible refine (scarfjointref07_Compare.calls k3 _ _ ((rd_T27 t111 (ji43)).f0) _ _ ((rd_T27 t111 (ji43)).f1) _ _ ((rd_T27 t111 x39_3).f0) _ _ ((rd_T27 t111 x39_3).f1) t124 _ ?side1 ?side2 ?side3 ?side4 ?side5 ?side6 ?side7 ?side8 A46.out).mono ?_
                                  (case side1 => repeat (first | exact (by repeat (first | (with_reducible exact HR123_0.out) | (with_reducible refine Kd.C_alloc ?_ _) | (with_reducible refine Kd.C_drewN ?_ _) | (with_reducible refine Kd.C_drew ?_) | exact HR123_0.out)) | (with_reducible refine Kd.C_alloc ?_ _) | (with_reducible refine Kd.C_drewN ?_ _) | (with_reducible refine Kd.C_drew ?_)))
                                  (case side2 => exact HC123_0.out)
                                  (case side3 => repeat (first | exact (by repeat (first | (with_reducible exact HR123_1.out) | (with_reducible refine Kd.C_alloc ?_ _) | (with_reducible refine Kd.C_drewN ?_ _) | (with_reducible refine Kd.C_drew ?_) | exact HR123_1.out)) | (with_reducible refine Kd.C_alloc ?_ _) | (with_reducible refine Kd.C_drewN ?_ _) | (with_reducible refine Kd.C_drew ?_)))
                                  (case side4 => exact HC123_1.out)
                                  (case side5 => repeat (first | exact ((Kd.V_reads' (by (with_reducible repeat (first | apply Kd.V_alloc | apply Kd.V_drewN | apply Kd.V_drew)); exact HL120_0.out)).2.2) | (with_reducible refine Kd.C_alloc ?_ _) | (with_reducible refine Kd.C_drewN ?_ _) | (with_reducible refine Kd.C_drew ?_)))
                                  (case side6 => exact HC120_0.out)
                                  (case side7 => repeat (first | exact ((Kd.V_reads' (by (with_reducible repeat (first | apply Kd.V_alloc | apply Kd.V_drewN | apply Kd.V_drew)); exact HL120_1.out)).2.2) | (with_reducible refine Kd.C_alloc ?_ _) | (with_reducible refine Kd.C_drewN ?_ _) | (with_reducible refine Kd.C_drew ?_)))
                                  (case side8 => exact HC120_1.out)
                                  rintro e w50 ⟨rfl, hb⟩
                                  have HS4_ := (hb.cell (World.block_lt_of_cell? _ _ (hHeld.2.2.2.2.1))).trans (hHeld.2.2.2.2.1)
                                  have HS5_ := (hb.cell (World.block_lt_of_cell? _ _ (hHeld.2.2.2.2.2))).trans (hHeld.2.2.2.2.2)
                                  refine ⟨_, rfl, ?_⟩
                                  have n0_ := Aside0.mk (Kd.N_below (by (with_reducible repeat (first | apply Kd.N_alloc | apply Kd.N_drewN | apply Kd.N_drew)); exact HO_3.out) hb)
                                  have n1_ := Aside0.mk (Kd.N_below (by (with_reducible repeat (first | apply Kd.N_alloc | apply Kd.N_drewN | apply Kd.N_drew)); exact HO_37.out) hb)
                                  have n2_ := Aside0.mk (Kd.V_below (by (with_reducible repeat (first | apply Kd.V_alloc | apply Kd.V_drewN | apply Kd.V_drew)); exact HL120_0.out) hb)
                                  have n3_ := Aside0.mk (Kd.V_below (by (with_reducible repeat (first | apply Kd.V_alloc | apply Kd.V_drewN | apply Kd.V_drew)); exact HL120_1.out) hb)
                                  have n4_ := Aside0.mk (Kd.V_below (by (with_reducible repeat (first | apply Kd.V_alloc | apply Kd.V_drewN | apply Kd.V_drew)); exact HL123_0.out) hb)
                                  have n5_ := Aside0.mk (Kd.V_below (by (with_reducible repeat (first | apply Kd.V_alloc | apply Kd.V_drewN | apply Kd.V_drew)); exact HL123_1.out) hb)
                                  have n6_ := Aside0.mk (blk_below (g := gb101) (o := .cells #[.slice A0_0 l0_0.length c0_0, .slice A0_1 l0_1.length c0_1] 25 (0, 0)) (by (with_reducible repeat (first | refine blk_drewN ?_ _ | refine blk_drew ?_ | refine blk_alloc ?_ _)); exact BK101.out) hb)
                                  have n7_ := Aside0.mk (blk_below (g := gb121) (o := .cells #[.slice A120_0 ((rd_T27 t111 x39_3).f0).length c120_0, .slice A120_1 ((rd_T27 t111 x39_3).f1).length c120_1] 27 (0, 0)) (by (with_reducible repeat (first | refine blk_drewN ?_ _ | refine blk_drew ?_ | refine blk_alloc ?_ _)); exact BK121.out) hb)
                                  have n8_ := Aside0.mk (Kd.C_below (by repeat (first | (with_reducible exact HR123_0.out) | (with_reducible refine Kd.C_alloc ?_ _) | (with_reducible refine Kd.C_drewN ?_ _) | (with_reducible refine Kd.C_drew ?_) | exact HR123_0.out)) hb)
                                  have n9_ := Aside0.mk (Kd.C_below (by repeat (first | (with_reducible exact HR123_1.out) | (with_reducible refine Kd.C_alloc ?_ _) | (with_reducible refine Kd.C_drewN ?_ _) | (with_reducible refine Kd.C_drew ?_) | exact HR123_1.out)) hb)
                                  have n10_ := Aside0.mk (below_step (by repeat (first | (with_reducible first | exact HB.out | apply below_alloc | apply pw_below_drewN | apply below_drew1 | refine below_set ?_ GE101.out | refine below_set ?_ GE121.out) | exact HB.out)) hb)
                                  clear HO_3
                                  clear HO_37
                                  clear HL120_0
                                  clear HL120_1
                                  clear HL123_0
                                  clear HL123_1
                                  clear BK101
                                  clear BK121
                                  clear HR123_0
                                  clear HR123_1
                                  clear HB
                                  have HO_3 := n0_
                                  have HO_37 := n1_
                                  have HL120_0 := n2_
                                  have HL120_1 := n3_
                                  have HL123_0 := n4_
                                  have HL123_1 := n5_
                                  have BK101 := n6_
                                  have BK121 := n7_
                                  have HR123_0 := n8_
                                  have HR123_1 := n9_
                                  have HB := n10_
                                  clear n0_ n1_ n2_ n3_ n4_ n5_ n6_ n7_ n8_ n9_ n10_
                                  (try clear hb)
                                  (try clear hb2)
                                  (try clear hk)
                                  (try clear hi)
                                  refine hK.out _ _ ⟨(blk_cell BK101.out 0).trans rfl, (blk_cell BK101.out 1).trans rfl, (blk_cell BK121.out 0).trans rfl, (blk_cell BK121.out 1).trans rfl, HS4_, HS5_⟩ (fun hHeld => ?_)
                                  clear hK K
                                  refine norm_ (a' := ?_) ?_ ?_
                                  rotate_left
                                  · show Act.put _ (some 58) _ = _
                                    simp only [Act.put, List.setIfInBounds_toArray, List.set_cons_zero, List.set_cons_succ, i64_w, i32_w]
                                    rfl
                                  refine pure_ (i := 15) (N := some 59) (v := ?_) (a' := ?_) #[true, true, true, true, true, true, true, true, true, true, true, true, true, true, true, true, false, false] rfl rfl (any_of HT_.out (by kernel_rfl)) (fun _ _ _ h => h) (Or.inl ⟨by rfl, ?_⟩) ?_ ?_
                                  rotate_left
                                  · intro w'
                                    go_simp
                                    with_reducible rfl
                                  rotate_left
                                  · simp only [Act.put, List.setIfInBounds_toArray, List.set_cons_zero, List.set_cons_succ, i64_w, i32_w]
                                    rfl
                                  refine pure_ (i := 16) (N := some 60) (v := ?_) (a' := ?_) #[true, true, true, true, true, true, true, true, true, true, true, true, true, true, true, true, true, false] rfl rfl (any_of HT_.out (by kernel_rfl)) (fun _ _ _ h => h) (Or.inl ⟨by rfl, ?_⟩) ?_ ?_
                                  rotate_left
                                  · intro w'
                                    go_simp
                                    with_reducible rfl
                                  rotate_left
                                  · simp only [Act.put, List.setIfInBounds_toArray, List.set_cons_zero, List.set_cons_succ, i64_w, i32_w]
                                    rfl
                                  refine pure_ (i := 17) (N := some 61) (v := ?_) (a' := ?_) #[true, true, true, true, true, true, true, true, true, true, true, true, true, true, true, true, true, true] rfl rfl (any_of HT_.out (by kernel_rfl)) (fun _ _ _ h => h) (Or.inl ⟨by rfl, ?_⟩) ?_ ?_
                                  rotate_left
                                  · intro w'
                                    go_simp
                                    with_reducible rfl
                                  rotate_left
                                  · simp only [Act.put, List.setIfInBounds_toArray, List.set_cons_zero, List.set_cons_succ, i64_w, i32_w]
                                    rfl
                                  refine done_ (done_of HT_.out (by kernel_rfl)) ?_
                                  try go_wp2
                                  go_meet
                                  case rel => exact ⟨_, (decide (t124 ≥ 0)), (by first | rfl | (simp; done) | (simp [*]; done)), H', ⟨by have := HJ1.out; have := HJ16.out; have := HK3.out; first | omega | exact Nat.le_refl _⟩, ⟨by (with_reducible repeat (first | apply Kd.N_alloc | apply Kd.N_drewN | apply Kd.N_drew)); exact Kd.N_mono HO_3.out (fun _ hk => hk.1)⟩, ⟨by (with_reducible repeat (first | apply Kd.N_alloc | apply Kd.N_drewN | apply Kd.N_drew)); exact Kd.N_mono HO_37.out (fun _ hk => hk.1)⟩, ⟨by (with_reducible repeat (first | refine blk_drewN ?_ _ | refine blk_drew ?_ | refine blk_alloc ?_ _)); exact BK101.out⟩, ⟨by repeat (first | (with_reducible first | exact HB.out | apply below_alloc | apply pw_below_drewN | apply below_drew1 | refine below_set ?_ GE101.out | refine below_set ?_ GE121.out) | exact HB.out)⟩⟩
                                · rw [if_neg c45] at H
                                  exact absurd H (by simp)
                              · rw [if_neg c44] at H
                                exact absurd H (by simp)
                            · rw [if_neg c42] at H
                              have c42b0 : decide (0 < x39_3) = false := decide_eq_false c42
                              clear c42
                              have H' := Aside0.mk H
                              clear H
                              try go_wp2
                              have n0_ : Aside0 (Kd.N k27 27 ((w37.setCell ⟨gb121, 0, none⟩ (.slice A120_0 ((rd_T27 t111 x39_3).f0).length c120_0)).setCell ⟨gb121, 1, none⟩ (.slice A120_1 ((rd_T27 t111 x39_3).f1).length c120_1)) w.heap.size (fun k_ => k_ ≠ gb101 ∧ k_ ≠ gb121) (.slice (some ad120) t111.length co32) t111) := ⟨by (with_reducible repeat (first | apply Kd.N_alloc | apply Kd.N_drewN | apply Kd.N_drew)); exact Kd.N_mono (Kd.N_far (p := ⟨gb121, 1, none⟩) (Kd.N_far (p := ⟨gb121, 0, none⟩) (Kd.N_mono HO_3.out (fun k_ hk => (⟨hk, hk.2⟩ : _ ∧ k_ ≠ gb121))) (fun _ hk => hk.2) (.slice A120_0 ((rd_T27 t111 x39_3).f0).length c120_0)) (fun _ hk => hk.2) (.slice A120_1 ((rd_T27 t111 x39_3).f1).length c120_1)) (fun _ hk => ⟨hk.1.1, hk.1.2⟩)⟩
                              have n1_ : Aside0 (Kd.N k27 27 ((w37.setCell ⟨gb121, 0, none⟩ (.slice A120_0 ((rd_T27 t111 x39_3).f0).length c120_0)).setCell ⟨gb121, 1, none⟩ (.slice A120_1 ((rd_T27 t111 x39_3).f1).length c120_1)) w.heap.size (fun k_ => k_ ≠ gb101 ∧ k_ ≠ gb121) (.slice (some ad120) t111.length co32) t111) := ⟨by (with_reducible repeat (first | apply Kd.N_alloc | apply Kd.N_drewN | apply Kd.N_drew)); exact Kd.N_mono (Kd.N_far (p := ⟨gb121, 1, none⟩) (Kd.N_far (p := ⟨gb121, 0, none⟩) (Kd.N_mono HO_37.out (fun k_ hk => (⟨hk, hk.2⟩ : _ ∧ k_ ≠ gb121))) (fun _ hk => hk.2) (.slice A120_0 ((rd_T27 t111 x39_3).f0).length c120_0)) (fun _ hk => hk.2) (.slice A120_1 ((rd_T27 t111 x39_3).f1).length c120_1)) (fun _ hk => ⟨hk.1.1, hk.1.2⟩)⟩
                              have n2_ : Aside0 (Kd.V (Kd.int .i64) 3 ((w37.setCell ⟨gb121, 0, none⟩ (.slice A120_0 ((rd_T27 t111 x39_3).f0).length c120_0)).setCell ⟨gb121, 1, none⟩ (.slice A120_1 ((rd_T27 t111 x39_3).f1).length c120_1)) w.heap.size (fun k_ => some k_ ≠ (.slice (some ad120) t111.length co32 : Value).ownBlock ∧ k_ ≠ gb101 ∧ k_ ≠ gb121) (.slice A120_0 ((rd_T27 t111 x39_3).f0).length c120_0) ((rd_T27 t111 x39_3).f0)) := ⟨by (with_reducible repeat (first | apply Kd.V_alloc | apply Kd.V_drewN | apply Kd.V_drew)); exact Kd.V_mono (Kd.V_far (p := ⟨gb121, 1, none⟩) (Kd.V_far (p := ⟨gb121, 0, none⟩) (Kd.V_mono HL120_0.out (fun k_ hk => (⟨hk, hk.2⟩ : _ ∧ k_ ≠ gb121))) (fun _ hk => hk.2) (.slice A120_0 ((rd_T27 t111 x39_3).f0).length c120_0)) (fun _ hk => hk.2) (.slice A120_1 ((rd_T27 t111 x39_3).f1).length c120_1)) (fun _ hk => ⟨hk.1.1.2, ⟨hk.1.1.1, hk.1.2⟩⟩)⟩
                              have n3_ : Aside0 (Kd.V (Kd.int .i64) 3 ((w37.setCell ⟨gb121, 0, none⟩ (.slice A120_0 ((rd_T27 t111 x39_3).f0).length c120_0)).setCell ⟨gb121, 1, none⟩ (.slice A120_1 ((rd_T27 t111 x39_3).f1).length c120_1)) w.heap.size (fun k_ => some k_ ≠ (.slice (some ad120) t111.length co32 : Value).ownBlock ∧ k_ ≠ gb101 ∧ k_ ≠ gb121) (.slice A120_1 ((rd_T27 t111 x39_3).f1).length c120_1) ((rd_T27 t111 x39_3).f1)) := ⟨by (with_reducible repeat (first | apply Kd.V_alloc | apply Kd.V_drewN | apply Kd.V_drew)); exact Kd.V_mono (Kd.V_far (p := ⟨gb121, 1, none⟩) (Kd.V_far (p := ⟨gb121, 0, none⟩) (Kd.V_mono HL120_1.out (fun k_ hk => (⟨hk, hk.2⟩ : _ ∧ k_ ≠ gb121))) (fun _ hk => hk.2) (.slice A120_0 ((rd_T27 t111 x39_3).f0).length c120_0)) (fun _ hk => hk.2) (.slice A120_1 ((rd_T27 t111 x39_3).f1).length c120_1)) (fun _ hk => ⟨hk.1.1.2, ⟨hk.1.1.1, hk.1.2⟩⟩)⟩
                              have n4_ : Aside0 (((w37.setCell ⟨gb121, 0, none⟩ (.slice A120_0 ((rd_T27 t111 x39_3).f0).length c120_0)).setCell ⟨gb121, 1, none⟩ (.slice A120_1 ((rd_T27 t111 x39_3).f1).length c120_1)).heap[gb101]? = some (.cells #[.slice A0_0 l0_0.length c0_0, .slice A0_1 l0_1.length c0_1] 25 (0, 0))) := ⟨by (with_reducible repeat (first | refine blk_drewN ?_ _ | refine blk_drew ?_ | refine blk_alloc ?_ _)); refine blk_far ?_ NB101_121.out _; (with_reducible repeat (first | refine blk_drewN ?_ _ | refine blk_drew ?_ | refine blk_alloc ?_ _)); refine blk_far ?_ NB101_121.out _; (with_reducible repeat (first | refine blk_drewN ?_ _ | refine blk_drew ?_ | refine blk_alloc ?_ _)); exact BK101.out⟩
                              have n5_ : Aside0 (((w37.setCell ⟨gb121, 0, none⟩ (.slice A120_0 ((rd_T27 t111 x39_3).f0).length c120_0)).setCell ⟨gb121, 1, none⟩ (.slice A120_1 ((rd_T27 t111 x39_3).f1).length c120_1)).heap[gb121]? = some (.cells #[.slice A120_0 ((rd_T27 t111 x39_3).f0).length c120_0, .slice A120_1 ((rd_T27 t111 x39_3).f1).length c120_1] 27 (0, 0))) := ⟨by (with_reducible repeat (first | refine blk_drewN ?_ _ | refine blk_drew ?_ | refine blk_alloc ?_ _)); refine blk_put (cs := #[.slice A120_0 ((rd_T27 t111 x39_3).f0).length c120_0, .slice none 0 0]) ?_ 1 _ rfl; (with_reducible repeat (first | refine blk_drewN ?_ _ | refine blk_drew ?_ | refine blk_alloc ?_ _)); refine blk_put (cs := #[.slice none 0 0, .slice none 0 0]) ?_ 0 _ rfl; (with_reducible repeat (first | refine blk_drewN ?_ _ | refine blk_drew ?_ | refine blk_alloc ?_ _)); exact BK121.out⟩
                              have n6_ : Aside0 (Below w.heap.size w ((w37.setCell ⟨gb121, 0, none⟩ (.slice A120_0 ((rd_T27 t111 x39_3).f0).length c120_0)).setCell ⟨gb121, 1, none⟩ (.slice A120_1 ((rd_T27 t111 x39_3).f1).length c120_1))) := ⟨by repeat (first | (with_reducible first | exact HB.out | apply below_alloc | apply pw_below_drewN | apply below_drew1 | refine below_set ?_ GE101.out | refine below_set ?_ GE121.out) | exact HB.out)⟩
                              (try clear HO_3)
                              (try clear HO_37)
                              (try clear HL120_0)
                              (try clear HL120_1)
                              (try clear BK101)
                              (try clear BK121)
                              (try clear HB)
                              generalize ((w37.setCell ⟨gb121, 0, none⟩ (.slice A120_0 ((rd_T27 t111 x39_3).f0).length c120_0)).setCell ⟨gb121, 1, none⟩ (.slice A120_1 ((rd_T27 t111 x39_3).f1).length c120_1)) = w51 at n0_ n1_ n2_ n3_ n4_ n5_ n6_ ⊢
                              have HO_3 := n0_
                              have HO_37 := n1_
                              have HL120_0 := n2_
                              have HL120_1 := n3_
                              have BK101 := n4_
                              have BK121 := n5_
                              have HB := n6_
                              clear n0_ n1_ n2_ n3_ n4_ n5_ n6_
                              have n0_ := Aside0.mk (Kd.N_drew HO_3.out)
                              have n1_ := Aside0.mk (Kd.N_drew HO_37.out)
                              have n2_ := Aside0.mk (Kd.V_drew HL120_0.out)
                              have n3_ := Aside0.mk (Kd.V_drew HL120_1.out)
                              have n4_ := Aside0.mk (blk_drew BK101.out)
                              have n5_ := Aside0.mk (blk_drew BK121.out)
                              have n6_ := Aside0.mk (below_drew1 HB.out)
                              clear HO_3
                              clear HO_37
                              clear HL120_0
                              clear HL120_1
                              clear BK101
                              clear BK121
                              clear HB
                              have HO_3 := n0_
                              have HO_37 := n1_
                              have HL120_0 := n2_
                              have HL120_1 := n3_
                              have BK101 := n4_
                              have BK121 := n5_
                              have HB := n6_
                              clear n0_ n1_ n2_ n3_ n4_ n5_ n6_
                              refine start_ (n := 18) (S := fun w' => w'.cell? ⟨gb101, 0, none⟩ = some (.slice A0_0 l0_0.length c0_0) ∧ w'.cell? ⟨gb101, 1, none⟩ = some (.slice A0_1 l0_1.length c0_1) ∧ w'.cell? ⟨gb121, 0, none⟩ = some (.slice A120_0 ((rd_T27 t111 x39_3).f0).length c120_0) ∧ w'.cell? ⟨gb121, 1, none⟩ = some (.slice A120_1 ((rd_T27 t111 x39_3).f1).length c120_1)) (ds := []) #[false, false, false, false, false, false, false, false, false, false, false, false, false, false, false, false, false, false] (by kernel_rfl) rfl rfl ⟨(blk_cell BK101.out 0).trans rfl, (blk_cell BK101.out 1).trans rfl, (blk_cell BK121.out 0).trans rfl, (blk_cell BK121.out 1).trans rfl⟩ (fun hHeld => ?_); refine with_tabW scarfjointlaw07_SubgraphAll.tab10 scarfjointlaw07_SubgraphAll.bits10 (fun HT_ HW_ => ?_)
                              generalize w51.drew = w52 at HO_3 HO_37 HL120_0 HL120_1 BK101 BK121 HB hHeld ⊢
                              refine take_ (i := 0) (N := some 44) (v := ?_) (a' := ?_) #[true, false, false, false, false, false, false, false, false, false, false, false, false, false, false, false, false, false] rfl rfl (take_ofW HT_.out HW_.out (by kernel_rfl)) (fun _ _ _ h => h) (Or.inl ⟨by rfl, ?_⟩) hHeld ?_ ?_
                              rotate_left
                              · rintro w' ⟨s0, s1, s2, s3⟩
                                go_simp
                                with_reducible rfl
                              rotate_left
                              · simp only [Act.put, List.setIfInBounds_toArray, List.set_cons_zero, List.set_cons_succ, i64_w, i32_w]
                                rfl
                              refine take_ (i := 1) (N := some 45) (v := ?_) (a' := ?_) #[true, true, false, false, false, false, false, false, false, false, false, false, false, false, false, false, false, false] rfl rfl (take_ofW HT_.out HW_.out (by kernel_rfl)) (fun _ _ _ h => h) (Or.inl ⟨by rfl, ?_⟩) hHeld ?_ ?_
                              rotate_left
                              · rintro w' ⟨s0, s1, s2, s3⟩
                                go_simp
                                with_reducible rfl
                              rotate_left
                              · simp only [Act.put, List.setIfInBounds_toArray, List.set_cons_zero, List.set_cons_succ, i64_w, i32_w]
                                rfl
                              refine one_ (i := 2) (N := some 46) #[true, true, true, false, false, false, false, false, false, false, false, false, false, false, false, false, false, false] rfl rfl (one_of HT_.out (by kernel_rfl)) (by decide) (fun K hK => ?_)
                              refine goes_ Try.func27 (by kernel_rfl) rfl #[.agg #[.slice A0_0 l0_0.length c0_0, .slice A0_1 l0_1.length c0_1], .agg #[.slice A120_0 ((rd_T27 t111 x39_3).f0).length c120_0, .slice A120_1 ((rd_T27 t111 x39_3).f1).length c120_1]] (by rfl) rfl rfl (by (try simp only [List.map_toArray, List.map_cons, List.map_nil]); first | done | rfl | (simp only [List.length_drop, List.length_take]; rfl)) ?_
                              with_reducible refine (subgraph_Valid.calls k3 _ _ l0_0 _ _ l0_1 _ _ ((rd_T27 t111 x39_3).f0) _ _ ((rd_T27 t111 x39_3).f1) t122 _ ?side1 ?side2 ?side3 ?side4 ?side5 ?side6 ?side7 ?side8 A40.out).mono ?_
                              (case side1 => repeat (first | exact (Kd.C_below HR0_0.out HB.out) | (with_reducible refine Kd.C_alloc ?_ _) | (with_reducible refine Kd.C_drewN ?_ _) | (with_reducible refine Kd.C_drew ?_)))
                              (case side2 => exact HC0_0.out)
                              (case side3 => repeat (first | exact (Kd.C_below HR0_1.out HB.out) | (with_reducible refine Kd.C_alloc ?_ _) | (with_reducible refine Kd.C_drewN ?_ _) | (with_reducible refine Kd.C_drew ?_)))
                              (case side4 => exact HC0_1.out)
                              (case side5 => repeat (first | exact ((Kd.V_reads' (by (with_reducible repeat (first | apply Kd.V_alloc | apply Kd.V_drewN | apply Kd.V_drew)); exact HL120_0.out)).2.2) | (with_reducible refine Kd.C_alloc ?_ _) | (with_reducible refine Kd.C_drewN ?_ _) | (with_reducible refine Kd.C_drew ?_)))
                              (case side6 => exact HC120_0.out)
                              (case side7 => repeat (first | exact ((Kd.V_reads' (by (with_reducible repeat (first | apply Kd.V_alloc | apply Kd.V_drewN | apply Kd.V_drew)); exact HL120_1.out)).2.2) | (with_reducible refine Kd.C_alloc ?_ _) | (with_reducible refine Kd.C_drewN ?_ _) | (with_reducible refine Kd.C_drew ?_)))
                              (case side8 => exact HC120_1.out)
                              rintro e w53 ⟨rfl, hb⟩
                              refine ⟨_, rfl, ?_⟩
                              have n0_ := Aside0.mk (Kd.N_below (by (with_reducible repeat (first | apply Kd.N_alloc | apply Kd.N_drewN | apply Kd.N_drew)); exact HO_3.out) hb)
                              have n1_ := Aside0.mk (Kd.N_below (by (with_reducible repeat (first | apply Kd.N_alloc | apply Kd.N_drewN | apply Kd.N_drew)); exact HO_37.out) hb)
                              have n2_ := Aside0.mk (Kd.V_below (by (with_reducible repeat (first | apply Kd.V_alloc | apply Kd.V_drewN | apply Kd.V_drew)); exact HL120_0.out) hb)
                              have n3_ := Aside0.mk (Kd.V_below (by (with_reducible repeat (first | apply Kd.V_alloc | apply Kd.V_drewN | apply Kd.V_drew)); exact HL120_1.out) hb)
                              have n4_ := Aside0.mk (blk_below (g := gb101) (o := .cells #[.slice A0_0 l0_0.length c0_0, .slice A0_1 l0_1.length c0_1] 25 (0, 0)) (by (with_reducible repeat (first | refine blk_drewN ?_ _ | refine blk_drew ?_ | refine blk_alloc ?_ _)); exact BK101.out) hb)
                              have n5_ := Aside0.mk (blk_below (g := gb121) (o := .cells #[.slice A120_0 ((rd_T27 t111 x39_3).f0).length c120_0, .slice A120_1 ((rd_T27 t111 x39_3).f1).length c120_1] 27 (0, 0)) (by (with_reducible repeat (first | refine blk_drewN ?_ _ | refine blk_drew ?_ | refine blk_alloc ?_ _)); exact BK121.out) hb)
                              have n6_ := Aside0.mk (below_step (by repeat (first | (with_reducible first | exact HB.out | apply below_alloc | apply pw_below_drewN | apply below_drew1 | refine below_set ?_ GE101.out | refine below_set ?_ GE121.out) | exact HB.out)) hb)
                              clear HO_3
                              clear HO_37
                              clear HL120_0
                              clear HL120_1
                              clear BK101
                              clear BK121
                              clear HB
                              have HO_3 := n0_
                              have HO_37 := n1_
                              have HL120_0 := n2_
                              have HL120_1 := n3_
                              have BK101 := n4_
                              have BK121 := n5_
                              have HB := n6_
                              clear n0_ n1_ n2_ n3_ n4_ n5_ n6_
                              (try clear hb)
                              (try clear hb2)
                              (try clear hk)
                              (try clear hi)
                              refine hK.out _ _ ⟨(blk_cell BK101.out 0).trans rfl, (blk_cell BK101.out 1).trans rfl, (blk_cell BK121.out 0).trans rfl, (blk_cell BK121.out 1).trans rfl⟩ (fun hHeld => ?_)
                              clear hK K
                              refine norm_ (a' := ?_) ?_ ?_
                              rotate_left
                              · show Act.put _ (some 46) _ = _
                                simp only [Act.put, List.setIfInBounds_toArray, List.set_cons_zero, List.set_cons_succ, i64_w, i32_w]
                                rfl
                              refine pure_ (i := 3) (N := some 47) (v := ?_) (a' := ?_) #[true, true, true, true, false, false, false, false, false, false, false, false, false, false, false, false, false, false] rfl rfl (any_of HT_.out (by kernel_rfl)) (fun _ _ _ h => h) (Or.inl ⟨by rfl, ?_⟩) ?_ ?_
                              rotate_left
                              · intro w'
                                go_simp
                                with_reducible rfl
                              rotate_left
                              · simp only [Act.put, List.setIfInBounds_toArray, List.set_cons_zero, List.set_cons_succ, i64_w, i32_w]
                                rfl
                              refine pure_ (i := 4) (N := some 48) (v := ?_) (a' := ?_) #[true, true, true, true, true, false, false, false, false, false, false, false, false, false, false, false, false, false] rfl rfl (any_of HT_.out (by kernel_rfl)) (fun _ _ _ h => h) (Or.inl ⟨by rfl, ?_⟩) ?_ ?_
                              rotate_left
                              · intro w'
                                go_simp
                                with_reducible rfl
                              rotate_left
                              · simp only [Act.put, List.setIfInBounds_toArray, List.set_cons_zero, List.set_cons_succ, i64_w, i32_w]
                                rfl
                              refine pure_ (i := 5) (N := some 49) (v := ?_) (a' := ?_) #[true, true, true, true, true, true, false, false, false, false, false, false, false, false, false, false, false, false] rfl rfl (any_of HT_.out (by kernel_rfl)) (fun _ _ _ h => h) (Or.inl ⟨by rfl, ?_⟩) ?_ ?_
                              rotate_left
                              · intro w'
                                go_simp
                                with_reducible rfl
                              rotate_left
                              · simp only [Act.put, List.setIfInBounds_toArray, List.set_cons_zero, List.set_cons_succ, i64_w, i32_w]
                                rfl
                              refine pure_ (i := 6) (N := some 50) (v := ?_) (a' := ?_) #[true, true, true, true, true, true, true, false, false, false, false, false, false, false, false, false, false, false] rfl rfl (any_of HT_.out (by kernel_rfl)) (fun _ _ _ h => h) (Or.inl ⟨by rfl, ?_⟩) ?_ ?_
                              rotate_left
                              · intro w'
                                go_simp
                                with_reducible rfl
                              rotate_left
                              · simp only [Act.put, List.setIfInBounds_toArray, List.set_cons_zero, List.set_cons_succ, i64_w, i32_w]
                                rfl
                              refine pure_ (i := 7) (N := some 51) (v := ?_) (a' := ?_) #[true, true, true, true, true, true, true, true, false, false, false, false, false, false, false, false, false, false] rfl rfl (any_of HT_.out (by kernel_rfl)) (fun _ _ _ h => h) (Or.inl ⟨by rfl, ?_⟩) ?_ ?_
                              rotate_left
                              · intro w'
                                go_simp
                                with_reducible rfl
                              rotate_left
                              · simp only [Act.put, List.setIfInBounds_toArray, List.set_cons_zero, List.set_cons_succ, i64_w, i32_w]
                                rfl
                              refine pure_ (i := 8) (N := some 52) (v := undef) (a' := ?_) #[true, true, true, true, true, true, true, true, true, false, false, false, false, false, false, false, false, false] rfl rfl (any_of HT_.out (by kernel_rfl)) (fun _ _ _ h => h) (Or.inr ⟨by rfl, rfl⟩) ?_ ?_
                              rotate_left
                              · simp only [Act.put, List.setIfInBounds_toArray, List.set_cons_zero, List.set_cons_succ, i64_w, i32_w]
                                rfl
                              refine pure_ (i := 9) (N := some 53) (v := undef) (a' := ?_) #[true, true, true, true, true, true, true, true, true, true, false, false, false, false, false, false, false, false] rfl rfl (any_of HT_.out (by kernel_rfl)) (fun _ _ _ h => h) (Or.inr ⟨by rfl, rfl⟩) ?_ ?_
                              rotate_left
                              · simp only [Act.put, List.setIfInBounds_toArray, List.set_cons_zero, List.set_cons_succ, i64_w, i32_w]
                                rfl
                              refine pure_ (i := 10) (N := some 54) (v := undef) (a' := ?_) #[true, true, true, true, true, true, true, true, true, true, true, false, false, false, false, false, false, false] rfl rfl (any_of HT_.out (by kernel_rfl)) (fun _ _ _ h => h) (Or.inr ⟨by rfl, rfl⟩) ?_ ?_
                              rotate_left
                              · simp only [Act.put, List.setIfInBounds_toArray, List.set_cons_zero, List.set_cons_succ, i64_w, i32_w]
                                rfl
                              refine pure_ (i := 11) (N := some 55) (v := undef) (a' := ?_) #[true, true, true, true, true, true, true, true, true, true, true, true, false, false, false, false, false, false] rfl rfl (any_of HT_.out (by kernel_rfl)) (fun _ _ _ h => h) (Or.inr ⟨by rfl, rfl⟩) ?_ ?_
                              rotate_left
                              · simp only [Act.put, List.setIfInBounds_toArray, List.set_cons_zero, List.set_cons_succ, i64_w, i32_w]
                                rfl
                              refine pure_ (i := 12) (N := some 56) (v := undef) (a' := ?_) #[true, true, true, true, true, true, true, true, true, true, true, true, true, false, false, false, false, false] rfl rfl (any_of HT_.out (by kernel_rfl)) (fun _ _ _ h => h) (Or.inr ⟨by rfl, rfl⟩) ?_ ?_
                              rotate_left
                              · simp only [Act.put, List.setIfInBounds_toArray, List.set_cons_zero, List.set_cons_succ, i64_w, i32_w]
                                rfl
                              refine pure_ (i := 13) (N := some 57) (v := undef) (a' := ?_) #[true, true, true, true, true, true, true, true, true, true, true, true, true, true, false, false, false, false] rfl rfl (any_of HT_.out (by kernel_rfl)) (fun _ _ _ h => h) (Or.inr ⟨by rfl, rfl⟩) ?_ ?_
                              rotate_left
                              · simp only [Act.put, List.setIfInBounds_toArray, List.set_cons_zero, List.set_cons_succ, i64_w, i32_w]
                                rfl
                              refine pure_ (i := 14) (N := some 58) (v := undef) (a' := ?_) #[true, true, true, true, true, true, true, true, true, true, true, true, true, true, true, false, false, false] rfl rfl (any_of HT_.out (by kernel_rfl)) (fun _ _ _ h => h) (Or.inr ⟨by rfl, rfl⟩) ?_ ?_
                              rotate_left
                              · simp only [Act.put, List.setIfInBounds_toArray, List.set_cons_zero, List.set_cons_succ, i64_w, i32_w]
                                rfl
                              refine pure_ (i := 15) (N := some 59) (v := undef) (a' := ?_) #[true, true, true, true, true, true, true, true, true, true, true, true, true, true, true, true, false, false] rfl rfl (any_of HT_.out (by kernel_rfl)) (fun _ _ _ h => h) (Or.inr ⟨by rfl, rfl⟩) ?_ ?_
                              rotate_left
                              · simp only [Act.put, List.setIfInBounds_toArray, List.set_cons_zero, List.set_cons_succ, i64_w, i32_w]
                                rfl
                              refine pure_ (i := 16) (N := some 60) (v := ?_) (a' := ?_) #[true, true, true, true, true, true, true, true, true, true, true, true, true, true, true, true, true, false] rfl rfl (any_of HT_.out (by kernel_rfl)) (fun _ _ _ h => h) (Or.inl ⟨by rfl, ?_⟩) ?_ ?_
                              rotate_left
                              · intro w'
                                go_simp
                                with_reducible rfl
                              rotate_left
                              · simp only [Act.put, List.setIfInBounds_toArray, List.set_cons_zero, List.set_cons_succ, i64_w, i32_w]
                                rfl
                              refine pure_ (i := 17) (N := some 61) (v := ?_) (a' := ?_) #[true, true, true, true, true, true, true, true, true, true, true, true, true, true, true, true, true, true] rfl rfl (any_of HT_.out (by kernel_rfl)) (fun _ _ _ h => h) (Or.inl ⟨by rfl, ?_⟩) ?_ ?_
                              rotate_left
                              · intro w'
                                go_simp
                                with_reducible rfl
                              rotate_left
                              · simp only [Act.put, List.setIfInBounds_toArray, List.set_cons_zero, List.set_cons_succ, i64_w, i32_w]
                                rfl
                              refine done_ (done_of HT_.out (by kernel_rfl)) ?_
                              try go_wp2
                              go_meet
                              case rel => exact ⟨_, (false), (by first | rfl | (simp; done) | (simp [*]; done)), H', ⟨by have := HJ1.out; have := HJ16.out; have := HK3.out; first | omega | exact Nat.le_refl _⟩, ⟨by (with_reducible repeat (first | apply Kd.N_alloc | apply Kd.N_drewN | apply Kd.N_drew)); exact Kd.N_mono HO_3.out (fun _ hk => hk.1)⟩, ⟨by (with_reducible repeat (first | apply Kd.N_alloc | apply Kd.N_drewN | apply Kd.N_drew)); exact Kd.N_mono HO_37.out (fun _ hk => hk.1)⟩, ⟨by (with_reducible repeat (first | refine blk_drewN ?_ _ | refine blk_drew ?_ | refine blk_alloc ?_ _)); exact BK101.out⟩, ⟨by repeat (first | (with_reducible first | exact HB.out | apply below_alloc | apply pw_below_drewN | apply below_drew1 | refine below_set ?_ GE101.out | refine below_set ?_ GE121.out) | exact HB.out)⟩⟩
                          · rw [if_neg c41] at H
                            have c41b0 : (t122 == 0) = false := beq_eq_false_iff_ne.mpr c41
                            have c41b1 : (t122 != 0) = true := bne_iff_ne.mpr c41
                            (first | rw [c41b0] | (simp only [i64_w, i32_w]; rw [c41b0]) | skip)
                            have H' := Aside0.mk H
                            clear H
                            try go_wp2
                            have n0_ : Aside0 (Kd.N k27 27 ((w37.setCell ⟨gb121, 0, none⟩ (.slice A120_0 ((rd_T27 t111 x39_3).f0).length c120_0)).setCell ⟨gb121, 1, none⟩ (.slice A120_1 ((rd_T27 t111 x39_3).f1).length c120_1)) w.heap.size (fun k_ => k_ ≠ gb101 ∧ k_ ≠ gb121) (.slice (some ad120) t111.length co32) t111) := ⟨by (with_reducible repeat (first | apply Kd.N_alloc | apply Kd.N_drewN | apply Kd.N_drew)); exact Kd.N_mono (Kd.N_far (p := ⟨gb121, 1, none⟩) (Kd.N_far (p := ⟨gb121, 0, none⟩) (Kd.N_mono HO_3.out (fun k_ hk => (⟨hk, hk.2⟩ : _ ∧ k_ ≠ gb121))) (fun _ hk => hk.2) (.slice A120_0 ((rd_T27 t111 x39_3).f0).length c120_0)) (fun _ hk => hk.2) (.slice A120_1 ((rd_T27 t111 x39_3).f1).length c120_1)) (fun _ hk => ⟨hk.1.1, hk.1.2⟩)⟩
                            have n1_ : Aside0 (Kd.N k27 27 ((w37.setCell ⟨gb121, 0, none⟩ (.slice A120_0 ((rd_T27 t111 x39_3).f0).length c120_0)).setCell ⟨gb121, 1, none⟩ (.slice A120_1 ((rd_T27 t111 x39_3).f1).length c120_1)) w.heap.size (fun k_ => k_ ≠ gb101 ∧ k_ ≠ gb121) (.slice (some ad120) t111.length co32) t111) := ⟨by (with_reducible repeat (first | apply Kd.N_alloc | apply Kd.N_drewN | apply Kd.N_drew)); exact Kd.N_mono (Kd.N_far (p := ⟨gb121, 1, none⟩) (Kd.N_far (p := ⟨gb121, 0, none⟩) (Kd.N_mono HO_37.out (fun k_ hk => (⟨hk, hk.2⟩ : _ ∧ k_ ≠ gb121))) (fun _ hk => hk.2) (.slice A120_0 ((rd_T27 t111 x39_3).f0).length c120_0)) (fun _ hk => hk.2) (.slice A120_1 ((rd_T27 t111 x39_3).f1).length c120_1)) (fun _ hk => ⟨hk.1.1, hk.1.2⟩)⟩
                            have n2_ : Aside0 (Kd.V (Kd.int .i64) 3 ((w37.setCell ⟨gb121, 0, none⟩ (.slice A120_0 ((rd_T27 t111 x39_3).f0).length c120_0)).setCell ⟨gb121, 1, none⟩ (.slice A120_1 ((rd_T27 t111 x39_3).f1).length c120_1)) w.heap.size (fun k_ => some k_ ≠ (.slice (some ad120) t111.length co32 : Value).ownBlock ∧ k_ ≠ gb101 ∧ k_ ≠ gb121) (.slice A120_0 ((rd_T27 t111 x39_3).f0).length c120_0) ((rd_T27 t111 x39_3).f0)) := ⟨by (with_reducible repeat (first | apply Kd.V_alloc | apply Kd.V_drewN | apply Kd.V_drew)); exact Kd.V_mono (Kd.V_far (p := ⟨gb121, 1, none⟩) (Kd.V_far (p := ⟨gb121, 0, none⟩) (Kd.V_mono HL120_0.out (fun k_ hk => (⟨hk, hk.2⟩ : _ ∧ k_ ≠ gb121))) (fun _ hk => hk.2) (.slice A120_0 ((rd_T27 t111 x39_3).f0).length c120_0)) (fun _ hk => hk.2) (.slice A120_1 ((rd_T27 t111 x39_3).f1).length c120_1)) (fun _ hk => ⟨hk.1.1.2, ⟨hk.1.1.1, hk.1.2⟩⟩)⟩
                            have n3_ : Aside0 (Kd.V (Kd.int .i64) 3 ((w37.setCell ⟨gb121, 0, none⟩ (.slice A120_0 ((rd_T27 t111 x39_3).f0).length c120_0)).setCell ⟨gb121, 1, none⟩ (.slice A120_1 ((rd_T27 t111 x39_3).f1).length c120_1)) w.heap.size (fun k_ => some k_ ≠ (.slice (some ad120) t111.length co32 : Value).ownBlock ∧ k_ ≠ gb101 ∧ k_ ≠ gb121) (.slice A120_1 ((rd_T27 t111 x39_3).f1).length c120_1) ((rd_T27 t111 x39_3).f1)) := ⟨by (with_reducible repeat (first | apply Kd.V_alloc | apply Kd.V_drewN | apply Kd.V_drew)); exact Kd.V_mono (Kd.V_far (p := ⟨gb121, 1, none⟩) (Kd.V_far (p := ⟨gb121, 0, none⟩) (Kd.V_mono HL120_1.out (fun k_ hk => (⟨hk, hk.2⟩ : _ ∧ k_ ≠ gb121))) (fun _ hk => hk.2) (.slice A120_0 ((rd_T27 t111 x39_3).f0).length c120_0)) (fun _ hk => hk.2) (.slice A120_1 ((rd_T27 t111 x39_3).f1).length c120_1)) (fun _ hk => ⟨hk.1.1.2, ⟨hk.1.1.1, hk.1.2⟩⟩)⟩
                            have n4_ : Aside0 (((w37.setCell ⟨gb121, 0, none⟩ (.slice A120_0 ((rd_T27 t111 x39_3).f0).length c120_0)).setCell ⟨gb121, 1, none⟩ (.slice A120_1 ((rd_T27 t111 x39_3).f1).length c120_1)).heap[gb101]? = some (.cells #[.slice A0_0 l0_0.length c0_0, .slice A0_1 l0_1.length c0_1] 25 (0, 0))) := ⟨by (with_reducible repeat (first | refine blk_drewN ?_ _ | refine blk_drew ?_ | refine blk_alloc ?_ _)); refine blk_far ?_ NB101_121.out _; (with_reducible repeat (first | refine blk_drewN ?_ _ | refine blk_drew ?_ | refine blk_alloc ?_ _)); refine blk_far ?_ NB101_121.out _; (with_reducible repeat (first | refine blk_drewN ?_ _ | refine blk_drew ?_ | refine blk_alloc ?_ _)); exact BK101.out⟩
                            have n5_ : Aside0 (((w37.setCell ⟨gb121, 0, none⟩ (.slice A120_0 ((rd_T27 t111 x39_3).f0).length c120_0)).setCell ⟨gb121, 1, none⟩ (.slice A120_1 ((rd_T27 t111 x39_3).f1).length c120_1)).heap[gb121]? = some (.cells #[.slice A120_0 ((rd_T27 t111 x39_3).f0).length c120_0, .slice A120_1 ((rd_T27 t111 x39_3).f1).length c120_1] 27 (0, 0))) := ⟨by (with_reducible repeat (first | refine blk_drewN ?_ _ | refine blk_drew ?_ | refine blk_alloc ?_ _)); refine blk_put (cs := #[.slice A120_0 ((rd_T27 t111 x39_3).f0).length c120_0, .slice none 0 0]) ?_ 1 _ rfl; (with_reducible repeat (first | refine blk_drewN ?_ _ | refine blk_drew ?_ | refine blk_alloc ?_ _)); refine blk_put (cs := #[.slice none 0 0, .slice none 0 0]) ?_ 0 _ rfl; (with_reducible repeat (first | refine blk_drewN ?_ _ | refine blk_drew ?_ | refine blk_alloc ?_ _)); exact BK121.out⟩
                            have n6_ : Aside0 (Below w.heap.size w ((w37.setCell ⟨gb121, 0, none⟩ (.slice A120_0 ((rd_T27 t111 x39_3).f0).length c120_0)).setCell ⟨gb121, 1, none⟩ (.slice A120_1 ((rd_T27 t111 x39_3).f1).length c120_1))) := ⟨by repeat (first | (with_reducible first | exact HB.out | apply below_alloc | apply pw_below_drewN | apply below_drew1 | refine below_set ?_ GE101.out | refine below_set ?_ GE121.out) | exact HB.out)⟩
                            (try clear HO_3)
                            (try clear HO_37)
                            (try clear HL120_0)
                            (try clear HL120_1)
                            (try clear BK101)
                            (try clear BK121)
                            (try clear HB)
                            generalize ((w37.setCell ⟨gb121, 0, none⟩ (.slice A120_0 ((rd_T27 t111 x39_3).f0).length c120_0)).setCell ⟨gb121, 1, none⟩ (.slice A120_1 ((rd_T27 t111 x39_3).f1).length c120_1)) = w54 at n0_ n1_ n2_ n3_ n4_ n5_ n6_ ⊢
                            have HO_3 := n0_
                            have HO_37 := n1_
                            have HL120_0 := n2_
                            have HL120_1 := n3_
                            have BK101 := n4_
                            have BK121 := n5_
                            have HB := n6_
                            clear n0_ n1_ n2_ n3_ n4_ n5_ n6_
                            have n0_ := Aside0.mk (Kd.N_drew HO_3.out)
                            have n1_ := Aside0.mk (Kd.N_drew HO_37.out)
                            have n2_ := Aside0.mk (Kd.V_drew HL120_0.out)
                            have n3_ := Aside0.mk (Kd.V_drew HL120_1.out)
                            have n4_ := Aside0.mk (blk_drew BK101.out)
                            have n5_ := Aside0.mk (blk_drew BK121.out)
                            have n6_ := Aside0.mk (below_drew1 HB.out)
                            clear HO_3
                            clear HO_37
                            clear HL120_0
                            clear HL120_1
                            clear BK101
                            clear BK121
                            clear HB
                            have HO_3 := n0_
                            have HO_37 := n1_
                            have HL120_0 := n2_
                            have HL120_1 := n3_
                            have BK101 := n4_
                            have BK121 := n5_
                            have HB := n6_
                            clear n0_ n1_ n2_ n3_ n4_ n5_ n6_
                            refine start_ (n := 18) (S := fun w' => w'.cell? ⟨gb101, 0, none⟩ = some (.slice A0_0 l0_0.length c0_0) ∧ w'.cell? ⟨gb101, 1, none⟩ = some (.slice A0_1 l0_1.length c0_1) ∧ w'.cell? ⟨gb121, 0, none⟩ = some (.slice A120_0 ((rd_T27 t111 x39_3).f0).length c120_0) ∧ w'.cell? ⟨gb121, 1, none⟩ = some (.slice A120_1 ((rd_T27 t111 x39_3).f1).length c120_1)) (ds := []) #[false, false, false, false, false, false, false, false, false, false, false, false, false, false, false, false, false, false] (by kernel_rfl) rfl rfl ⟨(blk_cell BK101.out 0).trans rfl, (blk_cell BK101.out 1).trans rfl, (blk_cell BK121.out 0).trans rfl, (blk_cell BK121.out 1).trans rfl⟩ (fun hHeld => ?_); refine with_tabW scarfjointlaw07_SubgraphAll.tab10 scarfjointlaw07_SubgraphAll.bits10 (fun HT_ HW_ => ?_)
                            generalize w54.drew = w55 at HO_3 HO_37 HL120_0 HL120_1 BK101 BK121 HB hHeld ⊢
                            refine take_ (i := 0) (N := some 44) (v := ?_) (a' := ?_) #[true, false, false, false, false, false, false, false, false, false, false, false, false, false, false, false, false, false] rfl rfl (take_ofW HT_.out HW_.out (by kernel_rfl)) (fun _ _ _ h => h) (Or.inl ⟨by rfl, ?_⟩) hHeld ?_ ?_
                            rotate_left
                            · rintro w' ⟨s0, s1, s2, s3⟩
                              go_simp
                              with_reducible rfl
                            rotate_left
                            · simp only [Act.put, List.setIfInBounds_toArray, List.set_cons_zero, List.set_cons_succ, i64_w, i32_w]
                              rfl
                            refine take_ (i := 1) (N := some 45) (v := ?_) (a' := ?_) #[true, true, false, false, false, false, false, false, false, false, false, false, false, false, false, false, false, false] rfl rfl (take_ofW HT_.out HW_.out (by kernel_rfl)) (fun _ _ _ h => h) (Or.inl ⟨by rfl, ?_⟩) hHeld ?_ ?_
                            rotate_left
                            · rintro w' ⟨s0, s1, s2, s3⟩
                              go_simp
                              with_reducible rfl
                            rotate_left
                            · simp only [Act.put, List.setIfInBounds_toArray, List.set_cons_zero, List.set_cons_succ, i64_w, i32_w]
                              rfl
                            refine one_ (i := 2) (N := some 46) #[true, true, true, false, false, false, false, false, false, false, false, false, false, false, false, false, false, false] rfl rfl (one_of HT_.out (by kernel_rfl)) (by decide) (fun K hK => ?_)
                            refine goes_ Try.func27 (by kernel_rfl) rfl #[.agg #[.slice A0_0 l0_0.length c0_0, .slice A0_1 l0_1.length c0_1], .agg #[.slice A120_0 ((rd_T27 t111 x39_3).f0).length c120_0, .slice A120_1 ((rd_T27 t111 x39_3).f1).length c120_1]] (by rfl) rfl rfl (by (try simp only [List.map_toArray, List.map_cons, List.map_nil]); first | done | rfl | (simp only [List.length_drop, List.length_take]; rfl)) ?_
                            with_reducible refine (subgraph_Valid.calls k3 _ _ l0_0 _ _ l0_1 _ _ ((rd_T27 t111 x39_3).f0) _ _ ((rd_T27 t111 x39_3).f1) t122 _ ?side1 ?side2 ?side3 ?side4 ?side5 ?side6 ?side7 ?side8 A40.out).mono ?_
                            (case side1 => repeat (first | exact (Kd.C_below HR0_0.out HB.out) | (with_reducible refine Kd.C_alloc ?_ _) | (with_reducible refine Kd.C_drewN ?_ _) | (with_reducible refine Kd.C_drew ?_)))
                            (case side2 => exact HC0_0.out)
                            (case side3 => repeat (first | exact (Kd.C_below HR0_1.out HB.out) | (with_reducible refine Kd.C_alloc ?_ _) | (with_reducible refine Kd.C_drewN ?_ _) | (with_reducible refine Kd.C_drew ?_)))
                            (case side4 => exact HC0_1.out)
                            (case side5 => repeat (first | exact ((Kd.V_reads' (by (with_reducible repeat (first | apply Kd.V_alloc | apply Kd.V_drewN | apply Kd.V_drew)); exact HL120_0.out)).2.2) | (with_reducible refine Kd.C_alloc ?_ _) | (with_reducible refine Kd.C_drewN ?_ _) | (with_reducible refine Kd.C_drew ?_)))
                            (case side6 => exact HC120_0.out)
                            (case side7 => repeat (first | exact ((Kd.V_reads' (by (with_reducible repeat (first | apply Kd.V_alloc | apply Kd.V_drewN | apply Kd.V_drew)); exact HL120_1.out)).2.2) | (with_reducible refine Kd.C_alloc ?_ _) | (with_reducible refine Kd.C_drewN ?_ _) | (with_reducible refine Kd.C_drew ?_)))
                            (case side8 => exact HC120_1.out)
                            rintro e w56 ⟨rfl, hb⟩
                            refine ⟨_, rfl, ?_⟩
                            have n0_ := Aside0.mk (Kd.N_below (by (with_reducible repeat (first | apply Kd.N_alloc | apply Kd.N_drewN | apply Kd.N_drew)); exact HO_3.out) hb)
                            have n1_ := Aside0.mk (Kd.N_below (by (with_reducible repeat (first | apply Kd.N_alloc | apply Kd.N_drewN | apply Kd.N_drew)); exact HO_37.out) hb)
                            have n2_ := Aside0.mk (Kd.V_below (by (with_reducible repeat (first | apply Kd.V_alloc | apply Kd.V_drewN | apply Kd.V_drew)); exact HL120_0.out) hb)
                            have n3_ := Aside0.mk (Kd.V_below (by (with_reducible repeat (first | apply Kd.V_alloc | apply Kd.V_drewN | apply Kd.V_drew)); exact HL120_1.out) hb)
                            have n4_ := Aside0.mk (blk_below (g := gb101) (o := .cells #[.slice A0_0 l0_0.length c0_0, .slice A0_1 l0_1.length c0_1] 25 (0, 0)) (by (with_reducible repeat (first | refine blk_drewN ?_ _ | refine blk_drew ?_ | refine blk_alloc ?_ _)); exact BK101.out) hb)
                            have n5_ := Aside0.mk (blk_below (g := gb121) (o := .cells #[.slice A120_0 ((rd_T27 t111 x39_3).f0).length c120_0, .slice A120_1 ((rd_T27 t111 x39_3).f1).length c120_1] 27 (0, 0)) (by (with_reducible repeat (first | refine blk_drewN ?_ _ | refine blk_drew ?_ | refine blk_alloc ?_ _)); exact BK121.out) hb)
                            have n6_ := Aside0.mk (below_step (by repeat (first | (with_reducible first | exact HB.out | apply below_alloc | apply pw_below_drewN | apply below_drew1 | refine below_set ?_ GE101.out | refine below_set ?_ GE121.out) | exact HB.out)) hb)
                            clear HO_3
                            clear HO_37
                            clear HL120_0
                            clear HL120_1
                            clear BK101
                            clear BK121
                            clear HB
                            have HO_3 := n0_
                            have HO_37 := n1_
                            have HL120_0 := n2_
                            have HL120_1 := n3_
                            have BK101 := n4_
                            have BK121 := n5_
                            have HB := n6_
                            clear n0_ n1_ n2_ n3_ n4_ n5_ n6_
                            (try clear hb)
                            (try clear hb2)
                            (try clear hk)
                            (try clear hi)
                            refine hK.out _ _ ⟨(blk_cell BK101.out 0).trans rfl, (blk_cell BK101.out 1).trans rfl, (blk_cell BK121.out 0).trans rfl, (blk_cell BK121.out 1).trans rfl⟩ (fun hHeld => ?_)
                            clear hK K
                            refine norm_ (a' := ?_) ?_ ?_
                            rotate_left
                            · show Act.put _ (some 46) _ = _
                              simp only [Act.put, List.setIfInBounds_toArray, List.set_cons_zero, List.set_cons_succ, i64_w, i32_w]
                              rfl
                            refine pure_ (i := 3) (N := some 47) (v := ?_) (a' := ?_) #[true, true, true, true, false, false, false, false, false, false, false, false, false, false, false, false, false, false] rfl rfl (any_of HT_.out (by kernel_rfl)) (fun _ _ _ h => h) (Or.inl ⟨by rfl, ?_⟩) ?_ ?_
                            rotate_left
                            · intro w'
                              go_simp
                              with_reducible rfl
                            rotate_left
                            · simp only [Act.put, List.setIfInBounds_toArray, List.set_cons_zero, List.set_cons_succ, i64_w, i32_w]
                              rfl
                            refine pure_ (i := 4) (N := some 48) (v := ?_) (a' := ?_) #[true, true, true, true, true, false, false, false, false, false, false, false, false, false, false, false, false, false] rfl rfl (any_of HT_.out (by kernel_rfl)) (fun _ _ _ h => h) (Or.inl ⟨by rfl, ?_⟩) ?_ ?_
                            rotate_left
                            · intro w'
                              go_simp
                              with_reducible rfl
                            rotate_left
                            · simp only [Act.put, List.setIfInBounds_toArray, List.set_cons_zero, List.set_cons_succ, i64_w, i32_w]
                              rfl
                            refine pure_ (i := 5) (N := some 49) (v := undef) (a' := ?_) #[true, true, true, true, true, true, false, false, false, false, false, false, false, false, false, false, false, false] rfl rfl (any_of HT_.out (by kernel_rfl)) (fun _ _ _ h => h) (Or.inr ⟨by rfl, rfl⟩) ?_ ?_
                            rotate_left
                            · simp only [Act.put, List.setIfInBounds_toArray, List.set_cons_zero, List.set_cons_succ, i64_w, i32_w]
                              rfl
                            refine pure_ (i := 6) (N := some 50) (v := undef) (a' := ?_) #[true, true, true, true, true, true, true, false, false, false, false, false, false, false, false, false, false, false] rfl rfl (any_of HT_.out (by kernel_rfl)) (fun _ _ _ h => h) (Or.inr ⟨by rfl, rfl⟩) ?_ ?_
                            rotate_left
                            · simp only [Act.put, List.setIfInBounds_toArray, List.set_cons_zero, List.set_cons_succ, i64_w, i32_w]
                              rfl
                            refine pure_ (i := 7) (N := some 51) (v := undef) (a' := ?_) #[true, true, true, true, true, true, true, true, false, false, false, false, false, false, false, false, false, false] rfl rfl (any_of HT_.out (by kernel_rfl)) (fun _ _ _ h => h) (Or.inr ⟨by rfl, rfl⟩) ?_ ?_
                            rotate_left
                            · simp only [Act.put, List.setIfInBounds_toArray, List.set_cons_zero, List.set_cons_succ, i64_w, i32_w]
                              rfl
                            refine pure_ (i := 8) (N := some 52) (v := undef) (a' := ?_) #[true, true, true, true, true, true, true, true, true, false, false, false, false, false, false, false, false, false] rfl rfl (any_of HT_.out (by kernel_rfl)) (fun _ _ _ h => h) (Or.inr ⟨by rfl, rfl⟩) ?_ ?_
                            rotate_left
                            · simp only [Act.put, List.setIfInBounds_toArray, List.set_cons_zero, List.set_cons_succ, i64_w, i32_w]
                              rfl
                            refine pure_ (i := 9) (N := some 53) (v := undef) (a' := ?_) #[true, true, true, true, true, true, true, true, true, true, false, false, false, false, false, false, false, false] rfl rfl (any_of HT_.out (by kernel_rfl)) (fun _ _ _ h => h) (Or.inr ⟨by rfl, rfl⟩) ?_ ?_
                            rotate_left
                            · simp only [Act.put, List.setIfInBounds_toArray, List.set_cons_zero, List.set_cons_succ, i64_w, i32_w]
                              rfl
                            refine pure_ (i := 10) (N := some 54) (v := undef) (a' := ?_) #[true, true, true, true, true, true, true, true, true, true, true, false, false, false, false, false, false, false] rfl rfl (any_of HT_.out (by kernel_rfl)) (fun _ _ _ h => h) (Or.inr ⟨by rfl, rfl⟩) ?_ ?_
                            rotate_left
                            · simp only [Act.put, List.setIfInBounds_toArray, List.set_cons_zero, List.set_cons_succ, i64_w, i32_w]
                              rfl
                            refine pure_ (i := 11) (N := some 55) (v := undef) (a' := ?_) #[true, true, true, true, true, true, true, true, true, true, true, true, false, false, false, false, false, false] rfl rfl (any_of HT_.out (by kernel_rfl)) (fun _ _ _ h => h) (Or.inr ⟨by rfl, rfl⟩) ?_ ?_
                            rotate_left
                            · simp only [Act.put, List.setIfInBounds_toArray, List.set_cons_zero, List.set_cons_succ, i64_w, i32_w]
                              rfl
                            refine pure_ (i := 12) (N := some 56) (v := undef) (a' := ?_) #[true, true, true, true, true, true, true, true, true, true, true, true, true, false, false, false, false, false] rfl rfl (any_of HT_.out (by kernel_rfl)) (fun _ _ _ h => h) (Or.inr ⟨by rfl, rfl⟩) ?_ ?_
                            rotate_left
                            · simp only [Act.put, List.setIfInBounds_toArray, List.set_cons_zero, List.set_cons_succ, i64_w, i32_w]
                              rfl
                            refine pure_ (i := 13) (N := some 57) (v := undef) (a' := ?_) #[true, true, true, true, true, true, true, true, true, true, true, true, true, true, false, false, false, false] rfl rfl (any_of HT_.out (by kernel_rfl)) (fun _ _ _ h => h) (Or.inr ⟨by rfl, rfl⟩) ?_ ?_
                            rotate_left
                            · simp only [Act.put, List.setIfInBounds_toArray, List.set_cons_zero, List.set_cons_succ, i64_w, i32_w]
                              rfl
                            refine pure_ (i := 14) (N := some 58) (v := undef) (a' := ?_) #[true, true, true, true, true, true, true, true, true, true, true, true, true, true, true, false, false, false] rfl rfl (any_of HT_.out (by kernel_rfl)) (fun _ _ _ h => h) (Or.inr ⟨by rfl, rfl⟩) ?_ ?_
                            rotate_left
                            · simp only [Act.put, List.setIfInBounds_toArray, List.set_cons_zero, List.set_cons_succ, i64_w, i32_w]
                              rfl
                            refine pure_ (i := 15) (N := some 59) (v := undef) (a' := ?_) #[true, true, true, true, true, true, true, true, true, true, true, true, true, true, true, true, false, false] rfl rfl (any_of HT_.out (by kernel_rfl)) (fun _ _ _ h => h) (Or.inr ⟨by rfl, rfl⟩) ?_ ?_
                            rotate_left
                            · simp only [Act.put, List.setIfInBounds_toArray, List.set_cons_zero, List.set_cons_succ, i64_w, i32_w]
                              rfl
                            refine pure_ (i := 16) (N := some 60) (v := undef) (a' := ?_) #[true, true, true, true, true, true, true, true, true, true, true, true, true, true, true, true, true, false] rfl rfl (any_of HT_.out (by kernel_rfl)) (fun _ _ _ h => h) (Or.inr ⟨by rfl, rfl⟩) ?_ ?_
                            rotate_left
                            · simp only [Act.put, List.setIfInBounds_toArray, List.set_cons_zero, List.set_cons_succ, i64_w, i32_w]
                              rfl
                            refine pure_ (i := 17) (N := some 61) (v := ?_) (a' := ?_) #[true, true, true, true, true, true, true, true, true, true, true, true, true, true, true, true, true, true] rfl rfl (any_of HT_.out (by kernel_rfl)) (fun _ _ _ h => h) (Or.inl ⟨by rfl, ?_⟩) ?_ ?_
                            rotate_left
                            · intro w'
                              go_simp
                              with_reducible rfl
                            rotate_left
                            · simp only [Act.put, List.setIfInBounds_toArray, List.set_cons_zero, List.set_cons_succ, i64_w, i32_w]
                              rfl
                            refine done_ (done_of HT_.out (by kernel_rfl)) ?_
                            try go_wp2
                            go_meet
                            case rel => exact ⟨_, (true), (by first | rfl | (simp; done) | (simp [*]; done)), H', ⟨by have := HJ1.out; have := HJ16.out; have := HK3.out; first | omega | exact Nat.le_refl _⟩, ⟨by (with_reducible repeat (first | apply Kd.N_alloc | apply Kd.N_drewN | apply Kd.N_drew)); exact Kd.N_mono HO_3.out (fun _ hk => hk.1)⟩, ⟨by (with_reducible repeat (first | apply Kd.N_alloc | apply Kd.N_drewN | apply Kd.N_drew)); exact Kd.N_mono HO_37.out (fun _ hk => hk.1)⟩, ⟨by (with_reducible repeat (first | refine blk_drewN ?_ _ | refine blk_drew ?_ | refine blk_alloc ?_ _)); exact BK101.out⟩, ⟨by repeat (first | (with_reducible first | exact HB.out | apply below_alloc | apply pw_below_drewN | apply below_drew1 | refine below_set ?_ GE101.out | refine below_set ?_ GE121.out) | exact HB.out)⟩⟩
                        case rest =>
                          clear HC36
                          try clear c1
                          try clear c2
                          try clear p2
                          try clear c4
                          try clear c12
                          try clear c27
                          try clear c28
                          try clear c41
                          try clear c41b0
                          try clear c41b1
                          try clear c42
                          try clear c42b0
                          try clear c44
                          try clear c45
                          obtain ⟨kq, x61_35, rfl, HA, HJ35, HO_3, HO_37, BK101, HB⟩ := hcut
                          cases kq with
                          | zero => exact absurd HA.out (by simp [scarfjointlaw07_SubgraphAll.j3])
                          | succ kj35 =>
                            have H := HA.out
                            clear HA
                            simp only [scarfjointlaw07_SubgraphAll.j3] at H
                            by_cases c57 : x61_35 = true
                            · subst c57
                              have H1 : (some false) = some r := by rw [if_pos rfl] at H; exact H
                              clear H
                              have H := H1
                              clear H1
                              obtain rfl := Option.some.inj H
                              go_wp2
                              go_ret
                              exact ⟨by first | rfl | (simp [errW_none, errW_some] <;> rfl) | (simp [*, errW_none, errW_some] <;> rfl), by repeat (first | (with_reducible first | exact HB.out | apply below_alloc | apply pw_below_drewN | apply below_drew1 | refine below_set ?_ GE101.out) | exact HB.out)⟩
                            · replace c57 := Bool.eq_false_iff.mpr c57
                              subst c57
                              have H1 : (scarfjointlaw07_SubgraphAll.l0 kj35 t111 t111 (t111.length : Int) (wrap64 (x39_3 + 1)) l0_0 l0_1) = some r := by rw [if_neg (show ¬ (false = true) by decide)] at H; exact H
                              clear H
                              have H := H1
                              clear H1
                              have H' := Aside0.mk H
                              clear H
                              go_wp2
                              go_roundg kj35
                              case measure => have := HJ1.out; have := HJ16.out; have := HK3.out; have := HJ35.out; omega
                              case rel => exact ⟨(wrap64 (x39_3 + 1)), (by first | rfl | (simp; done) | (simp [*]; done)), H', ⟨by have := HJ1.out; have := HJ16.out; have := HK3.out; have := HJ35.out; omega⟩, ⟨by (with_reducible repeat (first | apply Kd.N_alloc | apply Kd.N_drewN | apply Kd.N_drew)); exact HO_3.out⟩, ⟨by (with_reducible repeat (first | apply Kd.N_alloc | apply Kd.N_drewN | apply Kd.N_drew)); exact HO_37.out⟩, ⟨by (with_reducible repeat (first | refine blk_drewN ?_ _ | refine blk_drew ?_ | refine blk_alloc ?_ _)); exact BK101.out⟩, ⟨by repeat (first | (with_reducible first | exact HB.out | apply below_alloc | apply pw_below_drewN | apply below_drew1 | refine below_set ?_ GE101.out) | exact HB.out)⟩⟩
                      · rw [if_neg c35] at H
                        exact absurd H (by simp)
                    · rw [if_neg c34] at H
                      exact absurd H (by simp)
                  · rw [if_neg c33] at H
                    have c33b0 : decide (x39_3 < (t111.length : Int)) = false := decide_eq_false c33
                    clear c33
                    obtain rfl := Option.some.inj H
                    go_wp2
                    go_ret
                    exact ⟨by first | rfl | (simp [errW_none, errW_some] <;> rfl) | (simp [*, errW_none, errW_some] <;> rfl), by repeat (first | (with_reducible first | exact HB.out | apply below_alloc | apply pw_below_drewN | apply below_drew1 | refine below_set ?_ GE101.out) | exact HB.out)⟩
end Go.Proofs.Ytonipihlpbaknaa.Print
namespace Go.Proofs.Ytonipihlpbaknaa.Print
set_option linter.unusedVariables false
set_option linter.unusedSimpArgs false
open Go.RowKit Go.Proofs.YtonipihlpbaknaaW.PrintWords Go.Proofs.YtonipihlpbaknaaW.PrintLast Go.Proofs.YtonipihlpbaknaaW.PrintMore
theorem sameP_l (P : List S27) (hP : P.length ≤ 100000) (hb : ∀ p ∈ P, p.f0.length ≤ 100 ∧ p.f1.length ≤ 100) : ∀ (d k i : Nat), i + d = P.length → 2 * d + 200 < k → scarfjointref05_SameParts.l0 k P P i = some true := by
  intro d
  induction d with
  | zero =>
    intro k i hi hk
    obtain ⟨k, rfl⟩ : ∃ m, k = m + 1 := ⟨k - 1, by omega⟩
    rw [scarfjointref05_SameParts.l0, if_neg (by omega)]
  | succ d ih =>
    intro k i hi hk
    obtain ⟨k, rfl⟩ : ∃ m, k = m + 1 + 1 := ⟨k - 2, by omega⟩
    have hlt : i < P.length := by omega
    have hp := hb _ (List.getElem_mem hlt)
    rw [scarfjointref05_SameParts.l0, if_pos (by omega), if_pos (by omega), if_pos (by omega), rdT27_get P i hlt, sameI_ok _ _ (k + 1) (by omega) (by omega), Option.bind_some, if_pos (by simp), sameI_ok _ _ (k + 1) (by omega) (by omega), Option.bind_some,
      scarfjointref05_SameParts.j1, if_neg (by simp), succ_ok i (by omega)]
    exact ih k (i + 1) (by omega) (by omega)
theorem sameP_ok (P : List S27) (hP : P.length ≤ 100000) (hb : ∀ p ∈ P, p.f0.length ≤ 100 ∧ p.f1.length ≤ 100) (k : Nat) (hk : 2 * P.length + 200 < k) : scarfjointref05_SameParts.f k P P = some true := by
  unfold scarfjointref05_SameParts.f
  rw [if_pos rfl]
  exact sameP_l P hP hb P.length k 0 (by omega) hk
theorem all_loop (l0 : List Int) (l1 : List S78) (P : List S27) (hP : P.length ≤ 100000) (hv : validB l0 l1 = 0) (hz : ∀ p ∈ P, partE l0 l1 p.f0 p.f1 = 0) (hb : ∀ p ∈ P, lowP p ∧ p.f0.length + p.f1.length ≤ 12) (ha : P.Pairwise (fun a b => cmpP a b < 0)) :
    ∀ (d k i : Nat), i + d = P.length → 2 * d + 200 < k → scarfjointlaw07_SubgraphAll.l0 k P P (P.length : Int) i l0 l1 = some true := by
  intro d
  induction d with
  | zero =>
    intro k i hi hk
    obtain ⟨k, rfl⟩ : ∃ m, k = m + 1 := ⟨k - 1, by omega⟩
    rw [scarfjointlaw07_SubgraphAll.l0, if_neg (by omega)]
  | succ d ih =>
    intro k i hi hk
    obtain ⟨k, rfl⟩ : ∃ m, k = m + 1 + 1 := ⟨k - 2, by omega⟩
    have hlt : i < P.length := by omega
    have hp := hb _ (List.getElem_mem hlt)
    have ih' := ih k (i + 1) (by omega) (by omega)
    rw [scarfjointlaw07_SubgraphAll.l0, if_pos (by omega), if_pos (by omega), if_pos (by omega), rdT27_get P i hlt, valid_ok l0 l1 _ _ (by omega) (by omega) (k + 1) (by omega), Option.bind_some, if_pos hv, hz _ (List.getElem_mem hlt), if_pos rfl]
    cases i with
    | zero =>
      rw [if_neg (by simp), scarfjointlaw07_SubgraphAll.j3, if_neg (by simp), succ_ok 0 (by omega)]
      exact ih'
    | succ i =>
      have hlt' : i < P.length := by omega
      have hq := hb _ (List.getElem_mem hlt')
      obtain ⟨c, h1, h2⟩ := compareP_ok P[i] P[i + 1] hq.1 hp.1 (k + 1) (by omega)
      have h3 : cmpP P[i] P[i + 1] < 0 := List.pairwise_iff_getElem.1 ha i (i + 1) hlt' hlt (by omega)
      rw [if_pos (by omega), pred_ok i (by omega), if_pos (by omega), if_pos (by omega), rdT27_get P i hlt', h1, Option.bind_some, decide_eq_false (by have := h2.2 h3; omega), scarfjointlaw07_SubgraphAll.j3, if_neg (by simp), succ_ok (i + 1) (by omega)]
      exact ih'
theorem partsL_size (l0 : List Int) (l1 : List S78) (h : l0.length + l1.length ≤ 6) : (partsL l0 l1).length ≤ 5000 := by
  have e0 : 2 ^ l0.length ≤ 64 := Nat.le_trans (Nat.pow_le_pow_right (by omega) (by omega : l0.length ≤ 6)) (by decide)
  have e1 : 2 ^ l1.length ≤ 64 := Nat.le_trans (Nat.pow_le_pow_right (by omega) (by omega : l1.length ≤ 6)) (by decide)
  have h1 := flatMap_le (subsetsL l0.length) (fun ns => partsIn l0 l1 ns (subsetsL l1.length)) 64 (fun ns => by
    unfold partsIn
    rw [List.length_map]
    refine Nat.le_trans (List.length_filter_le _ _) ?_
    rw [subsetsL_size]
    exact e1)
  rw [subsetsL_size] at h1
  unfold partsL
  omega
theorem all_law (l0 : List Int) (l1 : List S78) : ∃ k, scarfjointlaw07_SubgraphAll.f k l0 l1 = some true := by
  refine ⟨100000, ?_⟩
  unfold scarfjointlaw07_SubgraphAll.f
  rw [show scarfjointlaw07_awake.f = some true from rfl, Option.bind_some, if_pos rfl, small_nil, Option.bind_some]
  by_cases hs : smallG l0 l1 = true
  · obtain ⟨q0, q1⟩ := smallG_len hs
    rw [hs, show (100000 : Nat) = 99998 + 1 + 1 from rfl, scarfjointlaw07_SubgraphAll.j0, if_neg (by simp), copied_ok l0 l1 (by omega) (by omega), Option.bind_some]
    dsimp only
    rw [rall_ok l0 l1 _ (by omega) (by omega) (by omega)]
    unfold subgraph_All.f
    simp only [Option.bind_some]
    by_cases hv : validB l0 l1 = 0
    · rw [if_pos hv]
      by_cases h6 : 6 < l0.length + l1.length
      · rw [if_pos h6, sameP_ok [] (by simp) (by simp) _ (by simp)]
        simp only [Option.bind_some, if_true, bne_self_eq_false]
        rw [scarfjointlaw07_SubgraphAll.j1, if_neg (by simp)]
        exact all_loop l0 l1 [] (by simp) hv (by simp) (by simp) List.Pairwise.nil 0 _ 0 rfl (by omega)
      · rw [if_neg h6]
        have hsz := partsL_size l0 l1 (by omega)
        have hb : ∀ p ∈ partsL l0 l1, lowP p ∧ p.f0.length + p.f1.length ≤ 12 := fun p hp => by
          obtain ⟨t, _, _, rfl⟩ := mem_partsL.1 hp
          exact partOf_low _ _ t (by omega)
        have hz : ∀ p ∈ partsL l0 l1, partE l0 l1 p.f0 p.f1 = 0 := fun p hp => by
          obtain ⟨t, _, h, rfl⟩ := mem_partsL.1 hp
          exact h
        rw [sameP_ok (partsL l0 l1) (by omega) (fun p hp => by have := (hb p hp).2; omega) _ (by omega)]
        simp only [Option.bind_some, if_true, bne_self_eq_false]
        rw [scarfjointlaw07_SubgraphAll.j1, if_neg (by simp)]
        exact all_loop l0 l1 (partsL l0 l1) (by omega) hv hz hb (partsL_asc l0 l1) (partsL l0 l1).length _ 0 (by omega) (by omega)
    · rw [if_neg hv, sameP_ok [] (by simp) (by simp) _ (by simp)]
      simp only [Option.bind_some, if_true, bne_self_eq_false]
      rw [scarfjointlaw07_SubgraphAll.j1, if_neg (by simp), scarfjointlaw07_SubgraphAll.l0, if_neg (by simp)]
  · simp only [Bool.not_eq_true] at hs
    rw [hs, show (100000 : Nat) = 99999 + 1 from rfl, scarfjointlaw07_SubgraphAll.j0, if_pos (by simp)]
    rfl
theorem scarfjointlaw07_SubgraphAll.whole (A0 : Option Addr) (c0 : Nat) (l0 : List Int) (A1 : Option Addr) (c1 : Nat) (l1 : List S78) (w : World)
    (r0 : Kd.C (Kd.int .i64) w A0 l0.length l0) (m0 : l0.length ≤ c0) (r1 : Kd.C k78 w A1 l1.length l1) (m1 : l1.length ≤ c1) :
    Calls Try.prog 5 #[.agg #[.slice A0 l0.length c0, .slice A1 l1.length c1]] w fun e w' => e = .returned (.bool true) ∧ Below w.heap.size w w' := by
  obtain ⟨k, h⟩ := all_law l0 l1
  exact scarfjointlaw07_SubgraphAll.calls k A0 c0 l0 A1 c1 l1 true w r0 m0 r1 m1 h
end Go.Proofs.Ytonipihlpbaknaa.Print

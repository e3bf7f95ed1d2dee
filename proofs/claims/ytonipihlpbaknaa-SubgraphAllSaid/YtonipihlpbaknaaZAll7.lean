/- A part of the proof that the law returns true at every input; what the walked functions compute. -/
import Derived.Test.YtonipihlpbaknaaZAll0
import Derived.Test.YtonipihlpbaknaaZAll1
import Derived.Test.YtonipihlpbaknaaZAll2
import Derived.Test.YtonipihlpbaknaaZAll3
import Derived.Test.YtonipihlpbaknaaZAll4
import Derived.Test.YtonipihlpbaknaaZAll5
import Derived.Test.YtonipihlpbaknaaZAll6
namespace Go.Proofs.Ytonipihlpbaknaa.Print
open Go.RowKit Go.Proofs.YtonipihlpbaknaaW.PrintWords Go.Proofs.YtonipihlpbaknaaW.PrintLast Go.Proofs.YtonipihlpbaknaaW.PrintMore
attribute [local go_sem] max2_int min2_int max_two min_two max_three min_three max_four min_four   -- for this text's walks alone
set_option linter.unusedVariables false
set_option linter.unusedSimpArgs false
mutual
def scarfjointref07_All.l0 : Nat → Int → Int → List (S27) → Int → List Int → List (S78) → Option ((List (S27)) × Int)
  | 0, _, _, _, _, _, _ => none
  | k + 1, x5, x6, x7, x8, x102000, x102001 => if 0 ≤ (wrap64 (x5 + x6)) then (if x8 < (shl .i64 1 (wrap64 (x5 + x6))) then ((scarfjointref07_bits.f k x5 x8).bind fun t103 => (if 0 ≤ x5 then ((scarfjointref07_bits.f k x6 (shr .i64 x8 x5)).bind fun t106 => ((scarfjointref07_Right.f k x102000 x102001 t103 t106).bind fun t110 => (if t110 = 0 then (scarfjointref07_All.l1 k x5 x6 x7 x8 0 x102000 x102001 t103 t106) else (scarfjointref07_All.l0 k x5 x6 x7 (wrap64 (x8 + 1)) x102000 x102001)))) else (none))) else (some (x7, 0))) else (none)
def scarfjointref07_All.l1 : Nat → Int → Int → List (S27) → Int → Int → List Int → List (S78) → List Int → List Int → Option ((List (S27)) × Int)
  | 0, _, _, _, _, _, _, _, _, _ => none
  | k + 1, x5, x6, x7, x8, x10, x102000, x102001, x110000, x110001 => if x10 < (x7.length : Int) then (if 0 ≤ x10 then ((scarfjointref07_Compare.f k ((rd_T27 x7 x10).f0) ((rd_T27 x7 x10).f1) x110000 x110001).bind fun t112 => (scarfjointref07_All.j2 k x5 x6 x7 x8 x10 (decide (t112 < 0)) x102000 x102001 x110000 x110001)) else (none)) else (scarfjointref07_All.j2 k x5 x6 x7 x8 x10 false x102000 x102001 x110000 x110001)
def scarfjointref07_All.j2 : Nat → Int → Int → List (S27) → Int → Int → Bool → List Int → List (S78) → List Int → List Int → Option ((List (S27)) × Int)
  | 0, _, _, _, _, _, _, _, _, _, _ => none
  | k + 1, x5, x6, x7, x8, x10, x59, x102000, x102001, x110000, x110001 => if x59 = true then (scarfjointref07_All.l1 k x5 x6 x7 x8 (wrap64 (x10 + 1)) x102000 x102001 x110000 x110001) else ((some (([] : List (S27)) : List (S27))).bind fun y113 => (if 0 ≤ x10 then (if x10 ≤ (x7.length : Int) then ((some (x7.take (x10 : Int).toNat : List (S27))).bind fun y116 => (if y113.length + y116.length < 2932031007402 then ((some (y113 ++ y116 : List (S27))).bind fun y121 => ((some (([(⟨x110000, x110001⟩ : S27)] : List (S27)) : List (S27))).bind fun y124 => (if y121.length + y124.length < 2932031007402 then ((some (y121 ++ y124 : List (S27))).bind fun y127 => ((some (x7.drop (x10 : Int).toNat : List (S27))).bind fun y130 => (if y127.length + y130.length < 2932031007402 then (scarfjointref07_All.l0 k x5 x6 (y127 ++ y130) (wrap64 (x8 + 1)) x102000 x102001) else (none)))) else (none)))) else (none))) else (none)) else (none)))
end
def scarfjointref07_All.f (k : Nat) (l0_0 : List Int) (l0_1 : List (S78)) : Option ((List (S27)) × Int) := (scarfjointref05_Valid.f k l0_0 l0_1).bind fun t102 => (if t102 = 0 then (if (wrap64 ((l0_0.length : Int) + (l0_1.length : Int))) > 6 then (some (([] : List (S27)), 3)) else (scarfjointref07_All.l0 k (l0_0.length : Int) (l0_1.length : Int) ([] : List (S27)) 0 l0_0 l0_1)) else (some (([] : List (S27)), t102)))
def scarfjointref07_All.T4 : Bool × List (List Nat × List Nat) := (true, [([], []), ([0], [0]), ([1], [1]), ([], []), ([3], [3]), ([4], [4]), ([2, 0, 1, 2], [2]), ([5, 6, 0, 1, 2, 3, 4, 5, 6], [5])])
def scarfjointref07_All.B4 : List Nat := [0, 1, 3, 0, 8, 24, 7, 127]
theorem scarfjointref07_All.tab4 : rtab .any (opsOf Try.f25 4) = scarfjointref07_All.T4 := by kernel_rfl
theorem scarfjointref07_All.bits4 : waitsOk scarfjointref07_All.T4.2 scarfjointref07_All.B4 = true := by kernel_rfl
def scarfjointref07_All.T11 : Bool × List (List Nat × List Nat) := (true, [([], []), ([], []), ([0, 1], [0, 1]), ([], []), ([], []), ([], []), ([4, 5], [4, 5]), ([3, 6, 2], [3, 6]), ([2, 7], [2, 7]), ([], []), ([9, 8, 7, 0, 1, 2, 3, 4, 5, 6, 7, 8, 9], [8, 9])])
def scarfjointref07_All.B11 : List Nat := [0, 0, 3, 0, 0, 0, 48, 127, 255, 0, 1023]
theorem scarfjointref07_All.tab11 : rtab .any (opsOf Try.f25 11) = scarfjointref07_All.T11 := by kernel_rfl
theorem scarfjointref07_All.bits11 : waitsOk scarfjointref07_All.T11.2 scarfjointref07_All.B11 = true := by kernel_rfl
def scarfjointref07_All.T14 : Bool × List (List Nat × List Nat) := (true, [([], []), ([], []), ([1], [1]), ([0, 2], [0, 2]), ([3], [3]), ([4], [4]), ([4], [4]), ([5, 6, 4], [4, 5, 6]), ([7, 4], [4, 7]), ([4], [4]), ([8, 9, 4, 4], [4, 8, 9]), ([10, 4], [4, 10]), ([4, 11], [4, 11])])
def scarfjointref07_All.B14 : List Nat := [0, 0, 2, 7, 15, 31, 31, 127, 255, 31, 1023, 2047, 4095]
theorem scarfjointref07_All.tab14 : rtab .any (opsOf Try.f25 14) = scarfjointref07_All.T14 := by kernel_rfl
theorem scarfjointref07_All.bits14 : waitsOk scarfjointref07_All.T14.2 scarfjointref07_All.B14 = true := by kernel_rfl
def scarfjointref07_All.T16 : Bool × List (List Nat × List Nat) := (true, [([], []), ([], []), ([], []), ([1, 2], [1, 2]), ([0, 3], [0, 3]), ([], []), ([5], [5]), ([4, 6, 4], [4, 6]), ([], []), ([], []), ([8, 9], [8, 9]), ([7, 10, 7], [7, 10]), ([11, 11, 0, 1, 2, 3, 4, 5, 6, 7, 8, 9, 10, 11], [1, 8, 11])])
def scarfjointref07_All.B16 : List Nat := [0, 0, 0, 6, 15, 0, 32, 127, 0, 0, 768, 2047, 4095]
theorem scarfjointref07_All.tab16 : rtab .any (opsOf Try.f25 16) = scarfjointref07_All.T16 := by kernel_rfl
theorem scarfjointref07_All.bits16 : waitsOk scarfjointref07_All.T16.2 scarfjointref07_All.B16 = true := by kernel_rfl
set_option maxHeartbeats 8000000 in
set_option maxRecDepth 100000 in
theorem scarfjointref07_All.calls (k : Nat) (A0_0 : Option Addr) (c0_0 : Nat) (l0_0 : List Int) (A0_1 : Option Addr) (c0_1 : Nat) (l0_1 : List (S78)) (r1 : List (S27)) (r2 : Int) (w : World) (hr0_0 : Kd.C (Kd.int .i64) w A0_0 l0_0.length l0_0) (hc0_0 : l0_0.length ≤ c0_0) (hr0_1 : Kd.C k78 w A0_1 l0_1.length l0_1) (hc0_1 : l0_1.length ≤ c0_1) (h : scarfjointref07_All.f k l0_0 l0_1 = some (r1, r2)) :
    Calls Try.prog 25 #[.agg #[.slice A0_0 l0_0.length c0_0, .slice A0_1 l0_1.length c0_1]] w fun e w' => ∃ v0_ : Value, e = .returned (.tuple #[v0_, .int .i64 r2]) ∧ Kd.N k27 27 w' w.heap.size (fun k_ => (w.heap.size ≤ k_)) v0_ r1 ∧ Below w.heap.size w w' := by
  have hu25 := Try.underlying25
  have hu27 := Try.underlying27
  have HR0_0 := Aside0.mk hr0_0
  have HC0_0 := Aside0.mk hc0_0
  clear hr0_0 hc0_0
  have HR0_1 := Aside0.mk hr0_1
  have HC0_1 := Aside0.mk hc0_1
  clear hr0_1 hc0_1
  have HB := Aside0.mk (Below.refl w.heap.size w)
  have H : ((scarfjointref05_Valid.f k l0_0 l0_1).bind fun t102 => (if t102 = 0 then (if (wrap64 ((l0_0.length : Int) + (l0_1.length : Int))) > 6 then (some (([] : List (S27)), 3)) else (scarfjointref07_All.l0 k (l0_0.length : Int) (l0_1.length : Int) ([] : List (S27)) 0 l0_0 l0_1)) else (some (([] : List (S27)), t102)))) = some (r1, r2) := h
  clear h
  replace H := Option.bind_eq_some_iff.mp H
  obtain ⟨t102, A20, H⟩ := H
  replace H : (if t102 = 0 then (if (wrap64 ((l0_0.length : Int) + (l0_1.length : Int))) > 6 then (some (([] : List (S27)), 3)) else (scarfjointref07_All.l0 k (l0_0.length : Int) (l0_1.length : Int) ([] : List (S27)) 0 l0_0 l0_1)) else (some (([] : List (S27)), t102))) = some (r1, r2) := H
  have A2 := Aside0.mk A20
  clear A20
  by_cases c3 : t102 = 0
  · rw [if_pos c3] at H
    have c3b0 : (t102 == 0) = true := beq_iff_eq.mpr c3
    have c3b1 : (t102 != 0) = false := bne_eq_false_iff_eq.mpr c3
    clear c3
    by_cases c4 : (wrap64 ((l0_0.length : Int) + (l0_1.length : Int))) > 6
    · rw [if_pos c4] at H
      have c4b0 : decide (6 < (wrap64 ((l0_0.length : Int) + (l0_1.length : Int)))) = true := decide_eq_true c4
      clear c4
      simp only [Option.some.injEq, Prod.mk.injEq] at H
      obtain ⟨rfl, rfl⟩ := H
      go_enter Try.func25, Try.ntmps25
      try go_wp2_with (first | ((with_reducible refine gate_dst (N := 1) rfl ?_); refine box_event ?hg (N := 1) ?hd (cs := #[.slice A0_0 l0_0.length c0_0, .slice A0_1 l0_1.length c0_1]) (t := 25) ?hr ?_; (case hd => rfl); (case hg => rfl); (case hr => first | (go_simp; done) | (go_simp; rfl)); intro gb101 hg w5 hbox hb; have n0_ := Aside0.mk (below_step (by repeat (first | (with_reducible first | exact HB.out | apply below_alloc | apply pw_below_drewN | apply below_drew1) | exact HB.out)) hb); have n1_ := Aside0.mk (hbox); have n2_ := Aside0.mk ((by rw [hg]; exact (below_size (by repeat (first | (with_reducible first | exact HB.out | apply below_alloc | apply pw_below_drewN | apply below_drew1) | exact HB.out))) : w.heap.size ≤ gb101)); have n3_ := Aside0.mk ((by rw [hg]; exact (below_size (by repeat (first | (with_reducible first | exact HB.out | apply below_alloc | apply pw_below_drewN | apply below_drew1) | exact HB.out))) : w.heap.size ≤ gb101)); clear HB; have HB := n0_; have BK101 := n1_; have GW101 := n2_; have GE101 := n3_; clear n0_ n1_ n2_ n3_; clear hb hbox hg; have hcz6_0 : w5.cell? ⟨gb101, 0, none⟩ = some (.slice A0_0 l0_0.length c0_0) := (blk_cell BK101.out 0).trans rfl; have hcz6_1 : w5.cell? ⟨gb101, 1, none⟩ = some (.slice A0_1 l0_1.length c0_1) := (blk_cell BK101.out 1).trans rfl; have hfz6_0 := blk_frozen BK101.out 0; have hfz6_1 := blk_frozen BK101.out 1) | ((with_reducible refine gate_callee (f := 20) rfl ?_); refine goesL_ (some 12) rfl rfl Try.func20 (by kernel_rfl) rfl #[.agg #[.slice A0_0 l0_0.length c0_0, .slice A0_1 l0_1.length c0_1]] rfl (by (try simp only [List.map_toArray, List.map_cons, List.map_nil]); first | done | rfl | (simp only [List.length_drop, List.length_take]; rfl)) ?_; (with_reducible refine (scarfjointref05_Valid.calls k _ _ l0_0 _ _ l0_1 t102 _ ?side1 ?side2 ?side3 ?side4 A2.out).mono ?_); (case side1 => repeat (first | exact (Kd.C_below HR0_0.out HB.out) | (with_reducible refine Kd.C_alloc ?_ _) | (with_reducible refine Kd.C_drewN ?_ _) | (with_reducible refine Kd.C_drew ?_))); (case side2 => exact HC0_0.out); (case side3 => repeat (first | exact (Kd.C_below HR0_1.out HB.out) | (with_reducible refine Kd.C_alloc ?_ _) | (with_reducible refine Kd.C_drewN ?_ _) | (with_reducible refine Kd.C_drew ?_))); (case side4 => exact HC0_1.out); rintro e w7 ⟨rfl, hb⟩; refine ⟨_, rfl, ?_⟩; have n0_ := Aside0.mk (blk_below (g := gb101) (o := .cells #[.slice A0_0 l0_0.length c0_0, .slice A0_1 l0_1.length c0_1] 25 (0, 0)) (by (with_reducible repeat (first | refine blk_drewN ?_ _ | refine blk_drew ?_ | refine blk_alloc ?_ _)); exact BK101.out) hb); have n1_ := Aside0.mk (below_step (by repeat (first | (with_reducible first | exact HB.out | apply below_alloc | apply pw_below_drewN | apply below_drew1 | refine below_set ?_ GE101.out) | exact HB.out)) hb); clear BK101; clear HB; have BK101 := n0_; have HB := n1_; clear n0_ n1_; (try clear hb); (try clear hb2); (try clear hk); (try clear hi)))
      have n0_ := Aside0.mk (blk_drew BK101.out)
      have n1_ := Aside0.mk (below_drew1 HB.out)
      clear BK101
      clear HB
      have BK101 := n0_
      have HB := n1_
      clear n0_ n1_
      refine start_ (n := 8) (S := fun w' => w'.cell? ⟨gb101, 0, none⟩ = some (.slice A0_0 l0_0.length c0_0) ∧ w'.cell? ⟨gb101, 1, none⟩ = some (.slice A0_1 l0_1.length c0_1)) (ds := []) #[false, false, false, false, false, false, false, false] (by kernel_rfl) rfl rfl ⟨(blk_cell BK101.out 0).trans rfl, (blk_cell BK101.out 1).trans rfl⟩ (fun hHeld => ?_); refine with_tabW scarfjointref07_All.tab4 scarfjointref07_All.bits4 (fun HT_ HW_ => ?_)
      generalize w7.drew = w8 at BK101 HB hHeld ⊢
      refine pure_ (i := 0) (N := some 16) (v := ?_) (a' := ?_) #[true, false, false, false, false, false, false, false] rfl rfl (any_of HT_.out (by kernel_rfl)) (fun _ _ _ h => h) (Or.inl ⟨by rfl, ?_⟩) ?_ ?_
      rotate_left
      · intro w'
        go_simp
        with_reducible rfl
      rotate_left
      · simp only [Act.put, List.setIfInBounds_toArray, List.set_cons_zero, List.set_cons_succ, i64_w, i32_w]
        rfl
      refine pure_ (i := 3) (N := some 19) (v := ?_) (a' := ?_) #[true, false, false, true, false, false, false, false] rfl rfl (any_of HT_.out (by kernel_rfl)) (fun _ _ _ h => h) (Or.inl ⟨by rfl, ?_⟩) ?_ ?_
      rotate_left
      · intro w'
        go_simp
        with_reducible rfl
      rotate_left
      · simp only [Act.put, List.setIfInBounds_toArray, List.set_cons_zero, List.set_cons_succ, i64_w, i32_w]
        rfl
      refine take_ (i := 1) (N := some 17) (v := ?_) (a' := ?_) #[true, true, false, true, false, false, false, false] rfl rfl (take_ofW HT_.out HW_.out (by kernel_rfl)) (fun _ _ _ h => h) (Or.inl ⟨by rfl, ?_⟩) hHeld ?_ ?_
      rotate_left
      · rintro w' ⟨s0, s1⟩
        go_simp
        with_reducible rfl
      rotate_left
      · simp only [Act.put, List.setIfInBounds_toArray, List.set_cons_zero, List.set_cons_succ, i64_w, i32_w]
        rfl
      refine pure_ (i := 2) (N := some 18) (v := ?_) (a' := ?_) #[true, true, true, true, false, false, false, false] rfl rfl (any_of HT_.out (by kernel_rfl)) (fun _ _ _ h => h) (Or.inl ⟨by rfl, ?_⟩) ?_ ?_
      rotate_left
      · intro w'
        go_simp
        with_reducible rfl
      rotate_left
      · simp only [Act.put, List.setIfInBounds_toArray, List.set_cons_zero, List.set_cons_succ, i64_w, i32_w]
        rfl
      refine pure_ (i := 6) (N := some 5) (v := ?_) (a' := ?_) #[true, true, true, true, false, false, true, false] rfl rfl (any_of HT_.out (by kernel_rfl)) (fun _ _ _ h => h) (Or.inl ⟨by rfl, ?_⟩) ?_ ?_
      rotate_left
      · intro w'
        go_simp
        with_reducible rfl
      rotate_left
      · simp only [Act.put, List.setIfInBounds_toArray, List.set_cons_zero, List.set_cons_succ, i64_w, i32_w]
        rfl
      refine take_ (i := 4) (N := some 20) (v := ?_) (a' := ?_) #[true, true, true, true, true, false, true, false] rfl rfl (take_ofW HT_.out HW_.out (by kernel_rfl)) (fun _ _ _ h => h) (Or.inl ⟨by rfl, ?_⟩) hHeld ?_ ?_
      rotate_left
      · rintro w' ⟨s0, s1⟩
        go_simp
        with_reducible rfl
      rotate_left
      · simp only [Act.put, List.setIfInBounds_toArray, List.set_cons_zero, List.set_cons_succ, i64_w, i32_w]
        rfl
      refine pure_ (i := 5) (N := some 21) (v := ?_) (a' := ?_) #[true, true, true, true, true, true, true, false] rfl rfl (any_of HT_.out (by kernel_rfl)) (fun _ _ _ h => h) (Or.inl ⟨by rfl, ?_⟩) ?_ ?_
      rotate_left
      · intro w'
        go_simp
        with_reducible rfl
      rotate_left
      · simp only [Act.put, List.setIfInBounds_toArray, List.set_cons_zero, List.set_cons_succ, i64_w, i32_w]
        rfl
      refine pure_ (i := 7) (N := some 6) (v := ?_) (a' := ?_) #[true, true, true, true, true, true, true, true] rfl rfl (any_of HT_.out (by kernel_rfl)) (fun _ _ _ h => h) (Or.inl ⟨by rfl, ?_⟩) ?_ ?_
      rotate_left
      · intro w'
        go_simp
        with_reducible rfl
      rotate_left
      · simp only [Act.put, List.setIfInBounds_toArray, List.set_cons_zero, List.set_cons_succ, i64_w, i32_w]
        rfl
      refine done_ (done_of HT_.out (by kernel_rfl)) ?_
      try go_wp2
      go_ret2
      exact ⟨_, by first | rfl | (simp [errW_none, errW_some] <;> rfl) | (simp [*, errW_none, errW_some] <;> rfl), by first | exact Kd.S_nil _ _ _ _ _ | exact Kd.N_nil _ _ _ _ _ | exact Kd.V_nil _ _ _ _ _ | exact Kd.Q_nil _ _ _ _ _ | exact Kd.R_nil _ _ _ _ _, by repeat (first | (with_reducible first | exact HB.out | apply below_alloc | apply pw_below_drewN | apply below_drew1 | refine below_set ?_ GE101.out) | exact HB.out)⟩
    · rw [if_neg c4] at H
      have c4b0 : decide (6 < (wrap64 ((l0_0.length : Int) + (l0_1.length : Int)))) = false := decide_eq_false c4
      clear c4
      have H' := Aside0.mk H
      clear H
      go_enter Try.func25, Try.ntmps25
      try go_wp2_with (first | ((with_reducible refine gate_dst (N := 1) rfl ?_); refine box_event ?hg (N := 1) ?hd (cs := #[.slice A0_0 l0_0.length c0_0, .slice A0_1 l0_1.length c0_1]) (t := 25) ?hr ?_; (case hd => rfl); (case hg => rfl); (case hr => first | (go_simp; done) | (go_simp; rfl)); intro gb101 hg w9 hbox hb; have n0_ := Aside0.mk (below_step (by repeat (first | (with_reducible first | exact HB.out | apply below_alloc | apply pw_below_drewN | apply below_drew1) | exact HB.out)) hb); have n1_ := Aside0.mk (hbox); have n2_ := Aside0.mk ((by rw [hg]; exact (below_size (by repeat (first | (with_reducible first | exact HB.out | apply below_alloc | apply pw_below_drewN | apply below_drew1) | exact HB.out))) : w.heap.size ≤ gb101)); have n3_ := Aside0.mk ((by rw [hg]; exact (below_size (by repeat (first | (with_reducible first | exact HB.out | apply below_alloc | apply pw_below_drewN | apply below_drew1) | exact HB.out))) : w.heap.size ≤ gb101)); clear HB; have HB := n0_; have BK101 := n1_; have GW101 := n2_; have GE101 := n3_; clear n0_ n1_ n2_ n3_; clear hb hbox hg; have hcz10_0 : w9.cell? ⟨gb101, 0, none⟩ = some (.slice A0_0 l0_0.length c0_0) := (blk_cell BK101.out 0).trans rfl; have hcz10_1 : w9.cell? ⟨gb101, 1, none⟩ = some (.slice A0_1 l0_1.length c0_1) := (blk_cell BK101.out 1).trans rfl; have hfz10_0 := blk_frozen BK101.out 0; have hfz10_1 := blk_frozen BK101.out 1) | ((with_reducible refine gate_callee (f := 20) rfl ?_); refine goesL_ (some 12) rfl rfl Try.func20 (by kernel_rfl) rfl #[.agg #[.slice A0_0 l0_0.length c0_0, .slice A0_1 l0_1.length c0_1]] rfl (by (try simp only [List.map_toArray, List.map_cons, List.map_nil]); first | done | rfl | (simp only [List.length_drop, List.length_take]; rfl)) ?_; (with_reducible refine (scarfjointref05_Valid.calls k _ _ l0_0 _ _ l0_1 t102 _ ?side1 ?side2 ?side3 ?side4 A2.out).mono ?_); (case side1 => repeat (first | exact (Kd.C_below HR0_0.out HB.out) | (with_reducible refine Kd.C_alloc ?_ _) | (with_reducible refine Kd.C_drewN ?_ _) | (with_reducible refine Kd.C_drew ?_))); (case side2 => exact HC0_0.out); (case side3 => repeat (first | exact (Kd.C_below HR0_1.out HB.out) | (with_reducible refine Kd.C_alloc ?_ _) | (with_reducible refine Kd.C_drewN ?_ _) | (with_reducible refine Kd.C_drew ?_))); (case side4 => exact HC0_1.out); rintro e w11 ⟨rfl, hb⟩; refine ⟨_, rfl, ?_⟩; have n0_ := Aside0.mk (blk_below (g := gb101) (o := .cells #[.slice A0_0 l0_0.length c0_0, .slice A0_1 l0_1.length c0_1] 25 (0, 0)) (by (with_reducible repeat (first | refine blk_drewN ?_ _ | refine blk_drew ?_ | refine blk_alloc ?_ _)); exact BK101.out) hb); have n1_ := Aside0.mk (below_step (by repeat (first | (with_reducible first | exact HB.out | apply below_alloc | apply pw_below_drewN | apply below_drew1 | refine below_set ?_ GE101.out) | exact HB.out)) hb); clear BK101; clear HB; have BK101 := n0_; have HB := n1_; clear n0_ n1_; (try clear hb); (try clear hb2); (try clear hk); (try clear hi)))
      have n0_ := Aside0.mk (blk_drew BK101.out)
      have n1_ := Aside0.mk (below_drew1 HB.out)
      clear BK101
      clear HB
      have BK101 := n0_
      have HB := n1_
      clear n0_ n1_
      refine start_ (n := 8) (S := fun w' => w'.cell? ⟨gb101, 0, none⟩ = some (.slice A0_0 l0_0.length c0_0) ∧ w'.cell? ⟨gb101, 1, none⟩ = some (.slice A0_1 l0_1.length c0_1)) (ds := []) #[false, false, false, false, false, false, false, false] (by kernel_rfl) rfl rfl ⟨(blk_cell BK101.out 0).trans rfl, (blk_cell BK101.out 1).trans rfl⟩ (fun hHeld => ?_); refine with_tabW scarfjointref07_All.tab4 scarfjointref07_All.bits4 (fun HT_ HW_ => ?_)
      generalize w11.drew = w12 at BK101 HB hHeld ⊢
      refine pure_ (i := 0) (N := some 16) (v := ?_) (a' := ?_) #[true, false, false, false, false, false, false, false] rfl rfl (any_of HT_.out (by kernel_rfl)) (fun _ _ _ h => h) (Or.inl ⟨by rfl, ?_⟩) ?_ ?_
      rotate_left
      · intro w'
        go_simp
        with_reducible rfl
      rotate_left
      · simp only [Act.put, List.setIfInBounds_toArray, List.set_cons_zero, List.set_cons_succ, i64_w, i32_w]
        rfl
      refine pure_ (i := 3) (N := some 19) (v := ?_) (a' := ?_) #[true, false, false, true, false, false, false, false] rfl rfl (any_of HT_.out (by kernel_rfl)) (fun _ _ _ h => h) (Or.inl ⟨by rfl, ?_⟩) ?_ ?_
      rotate_left
      · intro w'
        go_simp
        with_reducible rfl
      rotate_left
      · simp only [Act.put, List.setIfInBounds_toArray, List.set_cons_zero, List.set_cons_succ, i64_w, i32_w]
        rfl
      refine take_ (i := 1) (N := some 17) (v := ?_) (a' := ?_) #[true, true, false, true, false, false, false, false] rfl rfl (take_ofW HT_.out HW_.out (by kernel_rfl)) (fun _ _ _ h => h) (Or.inl ⟨by rfl, ?_⟩) hHeld ?_ ?_
      rotate_left
      · rintro w' ⟨s0, s1⟩
        go_simp
        with_reducible rfl
      rotate_left
      · simp only [Act.put, List.setIfInBounds_toArray, List.set_cons_zero, List.set_cons_succ, i64_w, i32_w]
        rfl
      refine pure_ (i := 2) (N := some 18) (v := ?_) (a' := ?_) #[true, true, true, true, false, false, false, false] rfl rfl (any_of HT_.out (by kernel_rfl)) (fun _ _ _ h => h) (Or.inl ⟨by rfl, ?_⟩) ?_ ?_
      rotate_left
      · intro w'
        go_simp
        with_reducible rfl
      rotate_left
      · simp only [Act.put, List.setIfInBounds_toArray, List.set_cons_zero, List.set_cons_succ, i64_w, i32_w]
        rfl
      refine pure_ (i := 6) (N := some 5) (v := ?_) (a' := ?_) #[true, true, true, true, false, false, true, false] rfl rfl (any_of HT_.out (by kernel_rfl)) (fun _ _ _ h => h) (Or.inl ⟨by rfl, ?_⟩) ?_ ?_
      rotate_left
      · intro w'
        go_simp
        with_reducible rfl
      rotate_left
      · simp only [Act.put, List.setIfInBounds_toArray, List.set_cons_zero, List.set_cons_succ, i64_w, i32_w]
        rfl
      refine take_ (i := 4) (N := some 20) (v := ?_) (a' := ?_) #[true, true, true, true, true, false, true, false] rfl rfl (take_ofW HT_.out HW_.out (by kernel_rfl)) (fun _ _ _ h => h) (Or.inl ⟨by rfl, ?_⟩) hHeld ?_ ?_
      rotate_left
      · rintro w' ⟨s0, s1⟩
        go_simp
        with_reducible rfl
      rotate_left
      · simp only [Act.put, List.setIfInBounds_toArray, List.set_cons_zero, List.set_cons_succ, i64_w, i32_w]
        rfl
      refine pure_ (i := 5) (N := some 21) (v := ?_) (a' := ?_) #[true, true, true, true, true, true, true, false] rfl rfl (any_of HT_.out (by kernel_rfl)) (fun _ _ _ h => h) (Or.inl ⟨by rfl, ?_⟩) ?_ ?_
      rotate_left
      · intro w'
        go_simp
        with_reducible rfl
      rotate_left
      · simp only [Act.put, List.setIfInBounds_toArray, List.set_cons_zero, List.set_cons_succ, i64_w, i32_w]
        rfl
      refine pure_ (i := 7) (N := some 6) (v := ?_) (a' := ?_) #[true, true, true, true, true, true, true, true] rfl rfl (any_of HT_.out (by kernel_rfl)) (fun _ _ _ h => h) (Or.inl ⟨by rfl, ?_⟩) ?_ ?_
      rotate_left
      · intro w'
        go_simp
        with_reducible rfl
      rotate_left
      · simp only [Act.put, List.setIfInBounds_toArray, List.set_cons_zero, List.set_cons_succ, i64_w, i32_w]
        rfl
      refine done_ (done_of HT_.out (by kernel_rfl)) ?_
      try go_wp2
      go_loopg [7, 8] k (fun kq v7 v8 w' => ∃ (x7_1 : List (S27)) (x8_1 : Int), v8 = .int .i64 x8_1 ∧ Aside0 (scarfjointref07_All.l0 kq (l0_0.length : Int) (l0_1.length : Int) x7_1 x8_1 l0_0 l0_1 = some (r1, r2)) ∧ Aside0 (kq ≤ k) ∧ Aside0 (Kd.N k27 27 w' w.heap.size (fun k_ => (w.heap.size ≤ k_) ∧ k_ ≠ gb101) v7 x7_1) ∧ Aside0 (w'.heap[gb101]? = some (.cells #[(.slice A0_0 l0_0.length c0_0), (.slice A0_1 l0_1.length c0_1)] 25 (0, 0))) ∧ Aside0 (Below w.heap.size w w'))
      case atStart => exact ⟨(([] : List (S27))), (0), (by first | rfl | (simp; done) | (simp [*]; done)), H', ⟨Nat.le_refl _⟩, ⟨by first | exact Kd.S_nil _ _ _ _ _ | exact Kd.N_nil _ _ _ _ _ | exact Kd.V_nil _ _ _ _ _ | exact Kd.Q_nil _ _ _ _ _ | exact Kd.R_nil _ _ _ _ _⟩, ⟨by (with_reducible repeat (first | refine blk_drewN ?_ _ | refine blk_drew ?_ | refine blk_alloc ?_ _)); exact BK101.out⟩, ⟨by repeat (first | (with_reducible first | exact HB.out | apply below_alloc | apply pw_below_drewN | apply below_drew1 | refine below_set ?_ GE101.out) | exact HB.out)⟩⟩
      case round =>
        clear H'
        try clear c2
        try clear p2
        try clear c3
        try clear c3b0
        try clear c3b1
        try clear c4
        try clear c4b0
        try clear p6
        try clear hcz10_0
        try clear hcz10_1
        try clear hcz6_0
        try clear hcz6_1
        try clear hfz10_0
        try clear hfz10_1
        try clear hfz6_0
        try clear hfz6_1
        obtain ⟨x7_1, x8_1, rfl, HA, HK1, HO_7, BK101, HB⟩ := hrel
        cases gk with
        | zero => exact absurd HA.out (by simp [scarfjointref07_All.l0])
        | succ k1 =>
          have H := HA.out
          clear HA
          simp only [scarfjointref07_All.l0] at H
          obtain ⟨ji13, hji13⟩ : ∃ j_ : Int, (wrap64 ((l0_0.length : Int) + (l0_1.length : Int))) = j_ := ⟨_, rfl⟩
          replace H : (if 0 ≤ (ji13) then (if x8_1 < (shl .i64 1 (ji13)) then ((scarfjointref07_bits.f k1 (l0_0.length : Int) x8_1).bind fun t103 => (if 0 ≤ (l0_0.length : Int) then ((scarfjointref07_bits.f k1 (l0_1.length : Int) (shr .i64 x8_1 (l0_0.length : Int))).bind fun t106 => ((scarfjointref07_Right.f k1 l0_0 l0_1 t103 t106).bind fun t110 => (if t110 = 0 then (scarfjointref07_All.l1 k1 (l0_0.length : Int) (l0_1.length : Int) x7_1 x8_1 0 l0_0 l0_1 t103 t106) else (scarfjointref07_All.l0 k1 (l0_0.length : Int) (l0_1.length : Int) x7_1 (wrap64 (x8_1 + 1)) l0_0 l0_1)))) else (none))) else (some (x7_1, 0))) else (none)) = some (r1, r2) := by first | (rw [hji13] at H; exact H) | (simp only [hji13] at H ⊢; exact H)
          (try rw [hji13] at c4b0)
          have hji13w : (IntKind.i64.wrap ((l0_0.length : Int) + (l0_1.length : Int))) = ji13 := (i64_w _).trans hji13
          by_cases c14 : 0 ≤ (ji13)
          · rw [if_pos c14] at H
            have c14b0 := eq_true c14
            have c14b1 : decide (0 ≤ (ji13)) = true := decide_eq_true c14
            clear c14
            obtain ⟨ji15, hji15⟩ : ∃ j_ : Int, (shl .i64 1 (ji13)) = j_ := ⟨_, rfl⟩
            replace H : (if x8_1 < (ji15) then ((scarfjointref07_bits.f k1 (l0_0.length : Int) x8_1).bind fun t103 => (if 0 ≤ (l0_0.length : Int) then ((scarfjointref07_bits.f k1 (l0_1.length : Int) (shr .i64 x8_1 (l0_0.length : Int))).bind fun t106 => ((scarfjointref07_Right.f k1 l0_0 l0_1 t103 t106).bind fun t110 => (if t110 = 0 then (scarfjointref07_All.l1 k1 (l0_0.length : Int) (l0_1.length : Int) x7_1 x8_1 0 l0_0 l0_1 t103 t106) else (scarfjointref07_All.l0 k1 (l0_0.length : Int) (l0_1.length : Int) x7_1 (wrap64 (x8_1 + 1)) l0_0 l0_1)))) else (none))) else (some (x7_1, 0))) = some (r1, r2) := by first | (rw [hji15] at H; exact H) | (simp only [hji15] at H ⊢; exact H)
            have hji15_ : (IntKind.i64.wrap (1 * 2 ^ min (ji13).toNat 64)) = ji15 := hji15
            have hji15z : (ji13) ≤ 64 → (IntKind.i64.wrap (1 * 2 ^ (ji13).toNat)) = ji15 := shl_small hji15
            have hji15u : (IntKind.i64.wrap (2 ^ min (ji13).toNat 64)) = ji15 := by have h_ := hji15_; rw [Int.one_mul] at h_; exact h_
            have hji15v : (ji13) ≤ 64 → (IntKind.i64.wrap (2 ^ (ji13).toNat)) = ji15 := fun hle_ => by have h_ := hji15z hle_; rw [Int.one_mul] at h_; exact h_
            have hji15y : (wrap64 (1 * 2 ^ min (ji13).toNat 64)) = ji15 := (i64_w _).symm.trans hji15_
            have hji15x : (ji13) ≤ 64 → (wrap64 (1 * 2 ^ (ji13).toNat)) = ji15 := fun h_ => (i64_w _).symm.trans (hji15z h_)
            by_cases c16 : x8_1 < (ji15)
            · rw [if_pos c16] at H
              have c16b0 : decide (x8_1 < (ji15)) = true := decide_eq_true c16
              clear c16
              replace H := Option.bind_eq_some_iff.mp H
              obtain ⟨t103, A170, H⟩ := H
              replace H : (if 0 ≤ (l0_0.length : Int) then ((scarfjointref07_bits.f k1 (l0_1.length : Int) (shr .i64 x8_1 (l0_0.length : Int))).bind fun t106 => ((scarfjointref07_Right.f k1 l0_0 l0_1 t103 t106).bind fun t110 => (if t110 = 0 then (scarfjointref07_All.l1 k1 (l0_0.length : Int) (l0_1.length : Int) x7_1 x8_1 0 l0_0 l0_1 t103 t106) else (scarfjointref07_All.l0 k1 (l0_0.length : Int) (l0_1.length : Int) x7_1 (wrap64 (x8_1 + 1)) l0_0 l0_1)))) else (none)) = some (r1, r2) := H
              have A17 := Aside0.mk A170
              clear A170
              by_cases c18 : 0 ≤ (l0_0.length : Int)
              · rw [if_pos c18] at H
                have c18b0 := eq_true c18
                have c18b1 : decide (0 ≤ (l0_0.length : Int)) = true := decide_eq_true c18
                clear c18
                obtain ⟨ji19, hji19⟩ : ∃ j_ : Int, (shr .i64 x8_1 (l0_0.length : Int)) = j_ := ⟨_, rfl⟩
                replace H : ((scarfjointref07_bits.f k1 (l0_1.length : Int) (ji19)).bind fun t106 => ((scarfjointref07_Right.f k1 l0_0 l0_1 t103 t106).bind fun t110 => (if t110 = 0 then (scarfjointref07_All.l1 k1 (l0_0.length : Int) (l0_1.length : Int) x7_1 x8_1 0 l0_0 l0_1 t103 t106) else (scarfjointref07_All.l0 k1 (l0_0.length : Int) (l0_1.length : Int) x7_1 (wrap64 (x8_1 + 1)) l0_0 l0_1)))) = some (r1, r2) := by first | (rw [hji19] at H; exact H) | (simp only [hji19] at H ⊢; exact H)
                (try rw [hji19] at A17)
                have hji19_ : (x8_1 / 2 ^ min (l0_0.length : Int).toNat 64) = ji19 := hji19
                have hji19z : (l0_0.length : Int) ≤ 64 → (x8_1 / 2 ^ (l0_0.length : Int).toNat) = ji19 := shr_small hji19
                have hji19p : (x8_1 / 2 ^ min l0_0.length 64) = ji19 := hji19_
                have hji19q : (l0_0.length : Int) ≤ 64 → (x8_1 / 2 ^ l0_0.length) = ji19 := hji19z
                replace H := Option.bind_eq_some_iff.mp H
                obtain ⟨t106, A200, H⟩ := H
                replace H : ((scarfjointref07_Right.f k1 l0_0 l0_1 t103 t106).bind fun t110 => (if t110 = 0 then (scarfjointref07_All.l1 k1 (l0_0.length : Int) (l0_1.length : Int) x7_1 x8_1 0 l0_0 l0_1 t103 t106) else (scarfjointref07_All.l0 k1 (l0_0.length : Int) (l0_1.length : Int) x7_1 (wrap64 (x8_1 + 1)) l0_0 l0_1))) = some (r1, r2) := H
                have A20 := Aside0.mk A200
                clear A200
                replace H := Option.bind_eq_some_iff.mp H
                obtain ⟨t110, A210, H⟩ := H
                replace H : (if t110 = 0 then (scarfjointref07_All.l1 k1 (l0_0.length : Int) (l0_1.length : Int) x7_1 x8_1 0 l0_0 l0_1 t103 t106) else (scarfjointref07_All.l0 k1 (l0_0.length : Int) (l0_1.length : Int) x7_1 (wrap64 (x8_1 + 1)) l0_0 l0_1)) = some (r1, r2) := H
                have A21 := Aside0.mk A210
                clear A210
                by_cases c22 : t110 = 0
                · rw [if_pos c22] at H
                  have c22b0 : (t110 == 0) = true := beq_iff_eq.mpr c22
                  have c22b1 : (t110 != 0) = false := bne_eq_false_iff_eq.mpr c22
                  clear c22
                  have H' := Aside0.mk H
                  clear H
                  try go_wp2
                  have n0_ := Aside0.mk (Kd.N_drew HO_7.out)
                  have n1_ := Aside0.mk (blk_drew BK101.out)
                  have n2_ := Aside0.mk (below_drew1 HB.out)
                  clear HO_7
                  clear BK101
                  clear HB
                  have HO_7 := n0_
                  have BK101 := n1_
                  have HB := n2_
                  clear n0_ n1_ n2_
                  refine start_ (n := 11) (S := fun w' => True) (ds := []) #[false, false, false, false, false, false, false, false, false, false, false] (by kernel_rfl) rfl rfl trivial (fun hHeld => ?_); refine with_tabW scarfjointref07_All.tab11 scarfjointref07_All.bits11 (fun HT_ HW_ => ?_)
                  generalize wr.drew = w23 at HO_7 BK101 HB hHeld ⊢
                  refine pure_ (i := 0) (N := some 34) (v := ?_) (a' := ?_) #[true, false, false, false, false, false, false, false, false, false, false] rfl rfl (any_of HT_.out (by kernel_rfl)) (fun _ _ _ h => h) (Or.inl ⟨by rfl, ?_⟩) ?_ ?_
                  rotate_left
                  · intro w'
                    go_simp
                    with_reducible rfl
                  rotate_left
                  · simp only [Act.put, List.setIfInBounds_toArray, List.set_cons_zero, List.set_cons_succ, i64_w, i32_w]
                    rfl
                  refine pure_ (i := 1) (N := some 35) (v := ?_) (a' := ?_) #[true, true, false, false, false, false, false, false, false, false, false] rfl rfl (any_of HT_.out (by kernel_rfl)) (fun _ _ _ h => h) (Or.inl ⟨by rfl, ?_⟩) ?_ ?_
                  rotate_left
                  · intro w'
                    go_simp
                    with_reducible rfl
                  rotate_left
                  · simp only [Act.put, List.setIfInBounds_toArray, List.set_cons_zero, List.set_cons_succ, i64_w, i32_w]
                    rfl
                  refine pure_ (i := 3) (N := some 37) (v := ?_) (a' := ?_) #[true, true, false, true, false, false, false, false, false, false, false] rfl rfl (any_of HT_.out (by kernel_rfl)) (fun _ _ _ h => h) (Or.inl ⟨by rfl, ?_⟩) ?_ ?_
                  rotate_left
                  · intro w'
                    go_simp
                    with_reducible rfl
                  rotate_left
                  · simp only [Act.put, List.setIfInBounds_toArray, List.set_cons_zero, List.set_cons_succ, i64_w, i32_w]
                    rfl
                  refine pure_ (i := 4) (N := some 38) (v := ?_) (a' := ?_) #[true, true, false, true, true, false, false, false, false, false, false] rfl rfl (any_of HT_.out (by kernel_rfl)) (fun _ _ _ h => h) (Or.inl ⟨by rfl, ?_⟩) ?_ ?_
                  rotate_left
                  · intro w'
                    go_simp
                    with_reducible rfl
                  rotate_left
                  · simp only [Act.put, List.setIfInBounds_toArray, List.set_cons_zero, List.set_cons_succ, i64_w, i32_w]
                    rfl
                  refine pure_ (i := 5) (N := some 39) (v := ?_) (a' := ?_) #[true, true, false, true, true, true, false, false, false, false, false] rfl rfl (any_of HT_.out (by kernel_rfl)) (fun _ _ _ h => h) (Or.inl ⟨by rfl, ?_⟩) ?_ ?_
                  rotate_left
                  · intro w'
                    go_simp
                    with_reducible rfl
                  rotate_left
                  · simp only [Act.put, List.setIfInBounds_toArray, List.set_cons_zero, List.set_cons_succ, i64_w, i32_w]
                    rfl
                  refine pure_ (i := 6) (N := some 40) (v := ?_) (a' := ?_) #[true, true, false, true, true, true, true, false, false, false, false] rfl rfl (any_of HT_.out (by kernel_rfl)) (fun _ _ _ h => h) (Or.inl ⟨by rfl, ?_⟩) ?_ ?_
                  rotate_left
                  · intro w'
                    go_simp
                    with_reducible rfl
                  rotate_left
                  · simp only [Act.put, List.setIfInBounds_toArray, List.set_cons_zero, List.set_cons_succ, i64_w, i32_w]
                    rfl
                  refine join_ (σ := Value × Value × Nat) 1 #[true, true, true, true, true, true, true, true, true, true, false] (fun s_ => [(36, s_.1), (41, s_.2.1), (9, .pointer (some ⟨s_.2.2, 0, none⟩)), (42, .agg #[s_.1, s_.2.1])]) (fun s_ w' => (Kd.R (Kd.int .i64) 3 w' w.heap.size (fun k_ => (w.heap.size ≤ k_) ∧ some k_ ≠ (s_.2.1 : Value).ownBlock) s_.1 t103) ∧ (Kd.R (Kd.int .i64) 3 w' w.heap.size (fun k_ => (w.heap.size ≤ k_) ∧ some k_ ≠ (s_.1 : Value).ownBlock) s_.2.1 t106) ∧ (Kd.N k27 27 w' w.heap.size (fun k_ => (w.heap.size ≤ k_) ∧ some k_ ≠ (s_.1 : Value).ownBlock ∧ some k_ ≠ (s_.2.1 : Value).ownBlock ∧ k_ ≠ gb101 ∧ k_ ≠ s_.2.2) u7 x7_1) ∧ (w'.heap[gb101]? = some (.cells #[.slice A0_0 l0_0.length c0_0, .slice A0_1 l0_1.length c0_1] 25 (0, 0))) ∧ (w'.heap[s_.2.2]? = some (.cells #[.slice none 0 0, .slice none 0 0] 27 (0, 0))) ∧ (w.heap.size ≤ s_.2.2) ∧ (w.heap.size ≤ s_.2.2) ∧ (gb101 ≠ s_.2.2) ∧ (s_.2.2 ≠ gb101) ∧ (Below w.heap.size w w')) ?_ ?_
                  rotate_left
                  · intro hCont
                    refine two_ (i := 2) (j := 9) (Ni := some 36) (Nj := some 9) #[true, true, true, true, true, true, true, false, false, false, false] #[true, true, false, true, true, true, true, false, false, true, false] rfl rfl rfl rfl (two_of HT_.out (by kernel_rfl)) (by decide) (by decide) (fun K hK => ?_) (fun K hK => ?_)
                    · skip
                      refine goes_ Try.func69 (by kernel_rfl) rfl #[.int .i64 (l0_0.length : Int), .int .i64 x8_1] (by rfl) rfl rfl (by (try simp only [List.map_toArray, List.map_cons, List.map_nil]); first | done | rfl | (simp only [List.length_drop, List.length_take]; rfl)) ?_
                      with_reducible refine (scarfjointref07_bits.calls k1 (l0_0.length : Int) x8_1 t103 _ A17.out).mono ?_
                      rintro e w24 ⟨v104, rfl, ho0, hb⟩
                      refine ⟨_, rfl, ?_⟩
                      have n0_ := Aside0.mk (Kd.N_elder' (by (with_reducible repeat (first | apply Kd.N_alloc | apply Kd.N_drewN | apply Kd.N_drew)); exact HO_7.out) (Kd.R_base ho0) hb)
                      have n1_ := Aside0.mk (Kd.R_lower (Kd.R_newM (M := fun k_ => (w.heap.size ≤ k_)) ho0 (below_size (by repeat (first | (with_reducible first | exact HB.out | apply below_alloc | apply pw_below_drewN | apply below_drew1 | refine below_set ?_ GE101.out) | exact HB.out))) (fun k_ h_ => h_)) (below_size (by repeat (first | (with_reducible first | exact HB.out | apply below_alloc | apply pw_below_drewN | apply below_drew1 | refine below_set ?_ GE101.out) | exact HB.out))))
                      have n2_ := Aside0.mk (blk_below (g := gb101) (o := .cells #[.slice A0_0 l0_0.length c0_0, .slice A0_1 l0_1.length c0_1] 25 (0, 0)) (by (with_reducible repeat (first | refine blk_drewN ?_ _ | refine blk_drew ?_ | refine blk_alloc ?_ _)); exact BK101.out) hb)
                      have n3_ := Aside0.mk (below_step (by repeat (first | (with_reducible first | exact HB.out | apply below_alloc | apply pw_below_drewN | apply below_drew1 | refine below_set ?_ GE101.out) | exact HB.out)) hb)
                      clear HO_7
                      clear BK101
                      clear HB
                      have HO_7 := n0_
                      have HO105 := n1_
                      have BK101 := n2_
                      have HB := n3_
                      clear n0_ n1_ n2_ n3_
                      (try clear hb)
                      (try clear hb2)
                      (try clear hk)
                      (try clear hi)
                      (try clear ho0)
                      refine hK.out _ _ trivial (fun hHeld => ?_)
                      clear hK K
                      refine norm_ (a' := ?_) ?_ ?_
                      rotate_left
                      · show Act.put _ (some 36) _ = _
                        simp only [Act.put, List.setIfInBounds_toArray, List.set_cons_zero, List.set_cons_succ, i64_w, i32_w]
                        rfl
                      refine two_ (i := 7) (j := 9) (Ni := some 41) (Nj := some 9) #[true, true, true, true, true, true, true, true, false, false, false] #[true, true, true, true, true, true, true, false, false, true, false] rfl rfl rfl rfl (two_of HT_.out (by kernel_rfl)) (by decide) (by decide) (fun K hK => ?_) (fun K hK => ?_)
                      · skip
                        refine goes_ Try.func69 (by kernel_rfl) rfl #[.int .i64 (l0_1.length : Int), .int .i64 ji19] (by rfl) rfl rfl (by (try simp only [List.map_toArray, List.map_cons, List.map_nil]); first | done | (simp only [hji19]; rfl) | rfl | (simp only [List.length_drop, List.length_take]; rfl)) ?_
                        with_reducible refine (scarfjointref07_bits.calls k1 (l0_1.length : Int) ji19 t106 _ A20.out).mono ?_
                        rintro e w25 ⟨v107, rfl, ho0, hb⟩
                        refine ⟨_, rfl, ?_⟩
                        have n0_ := Aside0.mk (Kd.N_elder' (by (with_reducible repeat (first | apply Kd.N_alloc | apply Kd.N_drewN | apply Kd.N_drew)); exact HO_7.out) (Kd.R_base ho0) hb)
                        have n1_ := Aside0.mk (Kd.R_elder' (by (with_reducible repeat (first | apply Kd.R_alloc | apply Kd.R_drewN | apply Kd.R_drew)); exact HO105.out) (Kd.R_base ho0) hb)
                        have n2_ := Aside0.mk (Kd.R_lower (Kd.R_new' (Kd.R_newM (M := fun k_ => (w.heap.size ≤ k_)) ho0 (below_size (by repeat (first | (with_reducible first | exact HB.out | apply below_alloc | apply pw_below_drewN | apply below_drew1 | refine below_set ?_ GE101.out) | exact HB.out))) (fun k_ h_ => h_)) (Kd.R_lt (by (with_reducible repeat (first | apply Kd.R_alloc | apply Kd.R_drewN | apply Kd.R_drew)); exact HO105.out))) (below_size (by repeat (first | (with_reducible first | exact HB.out | apply below_alloc | apply pw_below_drewN | apply below_drew1 | refine below_set ?_ GE101.out) | exact HB.out))))
                        have n3_ := Aside0.mk (blk_below (g := gb101) (o := .cells #[.slice A0_0 l0_0.length c0_0, .slice A0_1 l0_1.length c0_1] 25 (0, 0)) (by (with_reducible repeat (first | refine blk_drewN ?_ _ | refine blk_drew ?_ | refine blk_alloc ?_ _)); exact BK101.out) hb)
                        have n4_ := Aside0.mk (below_step (by repeat (first | (with_reducible first | exact HB.out | apply below_alloc | apply pw_below_drewN | apply below_drew1 | refine below_set ?_ GE101.out) | exact HB.out)) hb)
                        clear HO_7
                        clear HO105
                        clear BK101
                        clear HB
                        have HO_7 := n0_
                        have HO105 := n1_
                        have HO108 := n2_
                        have BK101 := n3_
                        have HB := n4_
                        clear n0_ n1_ n2_ n3_ n4_
                        (try clear hb)
                        (try clear hb2)
                        (try clear hk)
                        (try clear hi)
                        (try clear ho0)
                        obtain ⟨Ao26, co26, eo26⟩ := Kd.R_slice HO108.out
                        (first | subst eo26 | (injection eo26 with f1_ f2_ f3_; have f4_ := f1_.symm; have f5_ := f3_.symm; clear f1_ f2_ f3_; subst f4_; subst f5_))
                        obtain ⟨Ao27, co27, eo27⟩ := Kd.R_slice HO105.out
                        (first | subst eo27 | (injection eo27 with f1_ f2_ f3_; have f4_ := f1_.symm; have f5_ := f3_.symm; clear f1_ f2_ f3_; subst f4_; subst f5_))
                        refine hK.out _ _ trivial (fun hHeld => ?_)
                        clear hK K
                        refine norm_ (a' := ?_) ?_ ?_
                        rotate_left
                        · show Act.put _ (some 41) _ = _
                          simp only [Act.put, List.setIfInBounds_toArray, List.set_cons_zero, List.set_cons_succ, i64_w, i32_w]
                          rfl
                        refine pure_ (i := 8) (N := some 42) (v := ?_) (a' := ?_) #[true, true, true, true, true, true, true, true, true, false, false] rfl rfl (any_of HT_.out (by kernel_rfl)) (fun _ _ _ h => h) (Or.inl ⟨by rfl, ?_⟩) ?_ ?_
                        rotate_left
                        · intro w'
                          go_simp
                          with_reducible rfl
                        rotate_left
                        · simp only [Act.put, List.setIfInBounds_toArray, List.set_cons_zero, List.set_cons_succ, i64_w, i32_w]
                          rfl
                        refine one_ (i := 9) (N := some 9) #[true, true, true, true, true, true, true, true, true, true, false] rfl rfl (one_of HT_.out (by kernel_rfl)) (by decide) (fun K hK => ?_)
                        refine box_step ?hg (N := 9) ?hd (cs := #[.slice none 0 0, .slice none 0 0]) (t := 27) ?hr ?_; (case hd => rfl); (case hg => rfl); (case hr => first | (go_simp; done) | (go_simp; rfl))
                        intro gb109 hg w28 hbox hb
                        have n0_ := Aside0.mk (Kd.N_below (Kd.N_elderB (by (with_reducible repeat (first | apply Kd.N_alloc | apply Kd.N_drewN | apply Kd.N_drew)); exact HO_7.out) gb109 (Nat.le_of_eq hg.symm)) hb)
                        have n1_ := Aside0.mk (Kd.R_below (by (with_reducible repeat (first | apply Kd.R_alloc | apply Kd.R_drewN | apply Kd.R_drew)); exact HO105.out) hb)
                        have n2_ := Aside0.mk (Kd.R_below (by (with_reducible repeat (first | apply Kd.R_alloc | apply Kd.R_drewN | apply Kd.R_drew)); exact HO108.out) hb)
                        have n3_ := Aside0.mk (blk_below (g := gb101) (o := .cells #[.slice A0_0 l0_0.length c0_0, .slice A0_1 l0_1.length c0_1] 25 (0, 0)) (by (with_reducible repeat (first | refine blk_drewN ?_ _ | refine blk_drew ?_ | refine blk_alloc ?_ _)); exact BK101.out) hb)
                        have n4_ := Aside0.mk (below_step (by repeat (first | (with_reducible first | exact HB.out | apply below_alloc | apply pw_below_drewN | apply below_drew1 | refine below_set ?_ GE101.out) | exact HB.out)) hb)
                        have n5_ := Aside0.mk (hbox)
                        have n6_ := Aside0.mk ((by rw [hg]; exact (below_size (by repeat (first | (with_reducible first | exact HB.out | apply below_alloc | apply pw_below_drewN | apply below_drew1 | refine below_set ?_ GE101.out) | exact HB.out))) : w.heap.size ≤ gb109))
                        have n7_ := Aside0.mk ((by rw [hg]; exact (below_size (by repeat (first | (with_reducible first | exact HB.out | apply below_alloc | apply pw_below_drewN | apply below_drew1 | refine below_set ?_ GE101.out) | exact HB.out))) : w.heap.size ≤ gb109))
                        have n8_ := Aside0.mk ((by rw [hg]; exact Nat.ne_of_lt (blk_lt (g := gb101) (o := .cells #[.slice A0_0 l0_0.length c0_0, .slice A0_1 l0_1.length c0_1] 25 (0, 0)) (by (with_reducible repeat (first | refine blk_drewN ?_ _ | refine blk_drew ?_ | refine blk_alloc ?_ _)); exact BK101.out)) : gb101 ≠ gb109))
                        have n9_ := Aside0.mk ((by rw [hg]; exact Nat.ne_of_gt (blk_lt (g := gb101) (o := .cells #[.slice A0_0 l0_0.length c0_0, .slice A0_1 l0_1.length c0_1] 25 (0, 0)) (by (with_reducible repeat (first | refine blk_drewN ?_ _ | refine blk_drew ?_ | refine blk_alloc ?_ _)); exact BK101.out)) : gb109 ≠ gb101))
                        clear HO_7
                        clear HO105
                        clear HO108
                        clear BK101
                        clear HB
                        have HO_7 := n0_
                        have HO105 := n1_
                        have HO108 := n2_
                        have BK101 := n3_
                        have HB := n4_
                        have BK109 := n5_
                        have GW109 := n6_
                        have GE109 := n7_
                        have NB101_109 := n8_
                        have NB109_101 := n9_
                        clear n0_ n1_ n2_ n3_ n4_ n5_ n6_ n7_ n8_ n9_
                        clear hb hbox hg
                        refine hK.out _ _ trivial (fun hHeld => ?_)
                        clear hK K
                        refine norm_ (a' := ?_) ?_ ?_
                        rotate_left
                        · show Act.put _ (some 9) _ = _
                          simp only [Act.put, List.setIfInBounds_toArray, List.set_cons_zero, List.set_cons_succ, i64_w, i32_w]
                          rfl
                        exact norm_ (by simp only [putAll, Act.put, List.setIfInBounds_toArray, List.set_cons_zero, List.set_cons_succ]) (hCont (.slice Ao27 t103.length co27, .slice Ao26 t106.length co26, gb109) _ ⟨(by (with_reducible repeat (first | apply Kd.R_alloc | apply Kd.R_drewN | apply Kd.R_drew)); exact Kd.R_mono HO105.out (fun _ hk => ⟨hk.1.1, hk.2⟩)), (by (with_reducible repeat (first | apply Kd.R_alloc | apply Kd.R_drewN | apply Kd.R_drew)); exact Kd.R_mono HO108.out (fun _ hk => ⟨hk.1.1, hk.2⟩)), (by (with_reducible repeat (first | apply Kd.N_alloc | apply Kd.N_drewN | apply Kd.N_drew)); exact Kd.N_mono HO_7.out (fun _ hk => ⟨hk.1.1.1.1, ⟨hk.1.1.2, ⟨hk.1.2, ⟨hk.1.1.1.2, hk.2⟩⟩⟩⟩)), (by (with_reducible repeat (first | refine blk_drewN ?_ _ | refine blk_drew ?_ | refine blk_alloc ?_ _)); exact BK101.out), (by (with_reducible repeat (first | refine blk_drewN ?_ _ | refine blk_drew ?_ | refine blk_alloc ?_ _)); exact BK109.out), GW109.out, GE109.out, NB101_109.out, NB109_101.out, (by repeat (first | (with_reducible first | exact HB.out | apply below_alloc | apply pw_below_drewN | apply below_drew1 | refine below_set ?_ GE101.out | refine below_set ?_ GE109.out) | exact HB.out))⟩)
                      · skip
                        refine box_step ?hg (N := 9) ?hd (cs := #[.slice none 0 0, .slice none 0 0]) (t := 27) ?hr ?_; (case hd => rfl); (case hg => rfl); (case hr => first | (go_simp; done) | (go_simp; rfl))
                        intro gb109 hg w25 hbox hb
                        have n0_ := Aside0.mk (Kd.N_below (Kd.N_elderB (by (with_reducible repeat (first | apply Kd.N_alloc | apply Kd.N_drewN | apply Kd.N_drew)); exact HO_7.out) gb109 (Nat.le_of_eq hg.symm)) hb)
                        have n1_ := Aside0.mk (Kd.R_below (by (with_reducible repeat (first | apply Kd.R_alloc | apply Kd.R_drewN | apply Kd.R_drew)); exact HO105.out) hb)
                        have n2_ := Aside0.mk (blk_below (g := gb101) (o := .cells #[.slice A0_0 l0_0.length c0_0, .slice A0_1 l0_1.length c0_1] 25 (0, 0)) (by (with_reducible repeat (first | refine blk_drewN ?_ _ | refine blk_drew ?_ | refine blk_alloc ?_ _)); exact BK101.out) hb)
                        have n3_ := Aside0.mk (below_step (by repeat (first | (with_reducible first | exact HB.out | apply below_alloc | apply pw_below_drewN | apply below_drew1 | refine below_set ?_ GE101.out) | exact HB.out)) hb)
                        have n4_ := Aside0.mk (hbox)
                        have n5_ := Aside0.mk ((by rw [hg]; exact (below_size (by repeat (first | (with_reducible first | exact HB.out | apply below_alloc | apply pw_below_drewN | apply below_drew1 | refine below_set ?_ GE101.out) | exact HB.out))) : w.heap.size ≤ gb109))
                        have n6_ := Aside0.mk ((by rw [hg]; exact (below_size (by repeat (first | (with_reducible first | exact HB.out | apply below_alloc | apply pw_below_drewN | apply below_drew1 | refine below_set ?_ GE101.out) | exact HB.out))) : w.heap.size ≤ gb109))
                        have n7_ := Aside0.mk ((by rw [hg]; exact Nat.ne_of_lt (blk_lt (g := gb101) (o := .cells #[.slice A0_0 l0_0.length c0_0, .slice A0_1 l0_1.length c0_1] 25 (0, 0)) (by (with_reducible repeat (first | refine blk_drewN ?_ _ | refine blk_drew ?_ | refine blk_alloc ?_ _)); exact BK101.out)) : gb101 ≠ gb109))
                        have n8_ := Aside0.mk ((by rw [hg]; exact Nat.ne_of_gt (blk_lt (g := gb101) (o := .cells #[.slice A0_0 l0_0.length c0_0, .slice A0_1 l0_1.length c0_1] 25 (0, 0)) (by (with_reducible repeat (first | refine blk_drewN ?_ _ | refine blk_drew ?_ | refine blk_alloc ?_ _)); exact BK101.out)) : gb109 ≠ gb101))
                        clear HO_7
                        clear HO105
                        clear BK101
                        clear HB
                        have HO_7 := n0_
                        have HO105 := n1_
                        have BK101 := n2_
                        have HB := n3_
                        have BK109 := n4_
                        have GW109 := n5_
                        have GE109 := n6_
                        have NB101_109 := n7_
                        have NB109_101 := n8_
                        clear n0_ n1_ n2_ n3_ n4_ n5_ n6_ n7_ n8_
                        clear hb hbox hg
                        refine hK.out _ _ trivial (fun hHeld => ?_)
                        clear hK K
                        refine norm_ (a' := ?_) ?_ ?_
                        rotate_left
                        · show Act.put _ (some 9) _ = _
                          simp only [Act.put, List.setIfInBounds_toArray, List.set_cons_zero, List.set_cons_succ, i64_w, i32_w]
                          rfl
                        refine one_ (i := 7) (N := some 41) #[true, true, true, true, true, true, true, true, false, true, false] rfl rfl (one_of HT_.out (by kernel_rfl)) (by decide) (fun K hK => ?_)
                        refine goes_ Try.func69 (by kernel_rfl) rfl #[.int .i64 (l0_1.length : Int), .int .i64 ji19] (by rfl) rfl rfl (by (try simp only [List.map_toArray, List.map_cons, List.map_nil]); first | done | (simp only [hji19]; rfl) | rfl | (simp only [List.length_drop, List.length_take]; rfl)) ?_
                        with_reducible refine (scarfjointref07_bits.calls k1 (l0_1.length : Int) ji19 t106 _ A20.out).mono ?_
                        rintro e w26 ⟨v107, rfl, ho0, hb⟩
                        refine ⟨_, rfl, ?_⟩
                        have n0_ := Aside0.mk (Kd.N_elder' (by (with_reducible repeat (first | apply Kd.N_alloc | apply Kd.N_drewN | apply Kd.N_drew)); exact HO_7.out) (Kd.R_base ho0) hb)
                        have n1_ := Aside0.mk (Kd.R_elder' (by (with_reducible repeat (first | apply Kd.R_alloc | apply Kd.R_drewN | apply Kd.R_drew)); exact HO105.out) (Kd.R_base ho0) hb)
                        have n2_ := Aside0.mk (Kd.R_lower (Kd.R_new' (Kd.R_newM (M := fun k_ => (w.heap.size ≤ k_)) ho0 (below_size (by repeat (first | (with_reducible first | exact HB.out | apply below_alloc | apply pw_below_drewN | apply below_drew1 | refine below_set ?_ GE101.out | refine below_set ?_ GE109.out) | exact HB.out))) (fun k_ h_ => h_)) (Kd.R_lt (by (with_reducible repeat (first | apply Kd.R_alloc | apply Kd.R_drewN | apply Kd.R_drew)); exact HO105.out))) (below_size (by repeat (first | (with_reducible first | exact HB.out | apply below_alloc | apply pw_below_drewN | apply below_drew1 | refine below_set ?_ GE101.out | refine below_set ?_ GE109.out) | exact HB.out))))
                        have n3_ := Aside0.mk (blk_below (g := gb101) (o := .cells #[.slice A0_0 l0_0.length c0_0, .slice A0_1 l0_1.length c0_1] 25 (0, 0)) (by (with_reducible repeat (first | refine blk_drewN ?_ _ | refine blk_drew ?_ | refine blk_alloc ?_ _)); exact BK101.out) hb)
                        have n4_ := Aside0.mk (blk_below (g := gb109) (o := .cells #[.slice none 0 0, .slice none 0 0] 27 (0, 0)) (by (with_reducible repeat (first | refine blk_drewN ?_ _ | refine blk_drew ?_ | refine blk_alloc ?_ _)); exact BK109.out) hb)
                        have n5_ := Aside0.mk (below_step (by repeat (first | (with_reducible first | exact HB.out | apply below_alloc | apply pw_below_drewN | apply below_drew1 | refine below_set ?_ GE101.out | refine below_set ?_ GE109.out) | exact HB.out)) hb)
                        clear HO_7
                        clear HO105
                        clear BK101
                        clear BK109
                        clear HB
                        have HO_7 := n0_
                        have HO105 := n1_
                        have HO108 := n2_
                        have BK101 := n3_
                        have BK109 := n4_
                        have HB := n5_
                        clear n0_ n1_ n2_ n3_ n4_ n5_
                        (try clear hb)
                        (try clear hb2)
                        (try clear hk)
                        (try clear hi)
                        (try clear ho0)
                        obtain ⟨Ao27, co27, eo27⟩ := Kd.R_slice HO108.out
                        (first | subst eo27 | (injection eo27 with f1_ f2_ f3_; have f4_ := f1_.symm; have f5_ := f3_.symm; clear f1_ f2_ f3_; subst f4_; subst f5_))
                        obtain ⟨Ao28, co28, eo28⟩ := Kd.R_slice HO105.out
                        (first | subst eo28 | (injection eo28 with f1_ f2_ f3_; have f4_ := f1_.symm; have f5_ := f3_.symm; clear f1_ f2_ f3_; subst f4_; subst f5_))
                        refine hK.out _ _ trivial (fun hHeld => ?_)
                        clear hK K
                        refine norm_ (a' := ?_) ?_ ?_
                        rotate_left
                        · show Act.put _ (some 41) _ = _
                          simp only [Act.put, List.setIfInBounds_toArray, List.set_cons_zero, List.set_cons_succ, i64_w, i32_w]
                          rfl
                        refine pure_ (i := 8) (N := some 42) (v := ?_) (a' := ?_) #[true, true, true, true, true, true, true, true, true, true, false] rfl rfl (any_of HT_.out (by kernel_rfl)) (fun _ _ _ h => h) (Or.inl ⟨by rfl, ?_⟩) ?_ ?_
                        rotate_left
                        · intro w'
                          go_simp
                          with_reducible rfl
                        rotate_left
                        · simp only [Act.put, List.setIfInBounds_toArray, List.set_cons_zero, List.set_cons_succ, i64_w, i32_w]
                          rfl
                        exact norm_ (by simp only [putAll, Act.put, List.setIfInBounds_toArray, List.set_cons_zero, List.set_cons_succ]) (hCont (.slice Ao28 t103.length co28, .slice Ao27 t106.length co27, gb109) _ ⟨(by (with_reducible repeat (first | apply Kd.R_alloc | apply Kd.R_drewN | apply Kd.R_drew)); exact Kd.R_mono HO105.out (fun _ hk => ⟨hk.1.1, hk.2⟩)), (by (with_reducible repeat (first | apply Kd.R_alloc | apply Kd.R_drewN | apply Kd.R_drew)); exact Kd.R_mono HO108.out (fun _ hk => ⟨hk.1.1, hk.2⟩)), (by (with_reducible repeat (first | apply Kd.N_alloc | apply Kd.N_drewN | apply Kd.N_drew)); exact Kd.N_mono HO_7.out (fun _ hk => ⟨hk.1.1.1.1, ⟨hk.1.1.2, ⟨hk.2, ⟨hk.1.1.1.2, hk.1.2⟩⟩⟩⟩)), (by (with_reducible repeat (first | refine blk_drewN ?_ _ | refine blk_drew ?_ | refine blk_alloc ?_ _)); exact BK101.out), (by (with_reducible repeat (first | refine blk_drewN ?_ _ | refine blk_drew ?_ | refine blk_alloc ?_ _)); exact BK109.out), GW109.out, GE109.out, NB101_109.out, NB109_101.out, (by repeat (first | (with_reducible first | exact HB.out | apply below_alloc | apply pw_below_drewN | apply below_drew1 | refine below_set ?_ GE101.out | refine below_set ?_ GE109.out) | exact HB.out))⟩)
                    · skip
                      refine box_step ?hg (N := 9) ?hd (cs := #[.slice none 0 0, .slice none 0 0]) (t := 27) ?hr ?_; (case hd => rfl); (case hg => rfl); (case hr => first | (go_simp; done) | (go_simp; rfl))
                      intro gb109 hg w24 hbox hb
                      have n0_ := Aside0.mk (Kd.N_below (Kd.N_elderB (by (with_reducible repeat (first | apply Kd.N_alloc | apply Kd.N_drewN | apply Kd.N_drew)); exact HO_7.out) gb109 (Nat.le_of_eq hg.symm)) hb)
                      have n1_ := Aside0.mk (blk_below (g := gb101) (o := .cells #[.slice A0_0 l0_0.length c0_0, .slice A0_1 l0_1.length c0_1] 25 (0, 0)) (by (with_reducible repeat (first | refine blk_drewN ?_ _ | refine blk_drew ?_ | refine blk_alloc ?_ _)); exact BK101.out) hb)
                      have n2_ := Aside0.mk (below_step (by repeat (first | (with_reducible first | exact HB.out | apply below_alloc | apply pw_below_drewN | apply below_drew1 | refine below_set ?_ GE101.out) | exact HB.out)) hb)
                      have n3_ := Aside0.mk (hbox)
                      have n4_ := Aside0.mk ((by rw [hg]; exact (below_size (by repeat (first | (with_reducible first | exact HB.out | apply below_alloc | apply pw_below_drewN | apply below_drew1 | refine below_set ?_ GE101.out) | exact HB.out))) : w.heap.size ≤ gb109))
                      have n5_ := Aside0.mk ((by rw [hg]; exact (below_size (by repeat (first | (with_reducible first | exact HB.out | apply below_alloc | apply pw_below_drewN | apply below_drew1 | refine below_set ?_ GE101.out) | exact HB.out))) : w.heap.size ≤ gb109))
                      have n6_ := Aside0.mk ((by rw [hg]; exact Nat.ne_of_lt (blk_lt (g := gb101) (o := .cells #[.slice A0_0 l0_0.length c0_0, .slice A0_1 l0_1.length c0_1] 25 (0, 0)) (by (with_reducible repeat (first | refine blk_drewN ?_ _ | refine blk_drew ?_ | refine blk_alloc ?_ _)); exact BK101.out)) : gb101 ≠ gb109))
                      have n7_ := Aside0.mk ((by rw [hg]; exact Nat.ne_of_gt (blk_lt (g := gb101) (o := .cells #[.slice A0_0 l0_0.length c0_0, .slice A0_1 l0_1.length c0_1] 25 (0, 0)) (by (with_reducible repeat (first | refine blk_drewN ?_ _ | refine blk_drew ?_ | refine blk_alloc ?_ _)); exact BK101.out)) : gb109 ≠ gb101))
                      clear HO_7
                      clear BK101
                      clear HB
                      have HO_7 := n0_
                      have BK101 := n1_
                      have HB := n2_
                      have BK109 := n3_
                      have GW109 := n4_
                      have GE109 := n5_
                      have NB101_109 := n6_
                      have NB109_101 := n7_
                      clear n0_ n1_ n2_ n3_ n4_ n5_ n6_ n7_
                      clear hb hbox hg
                      refine hK.out _ _ trivial (fun hHeld => ?_)
                      clear hK K
                      refine norm_ (a' := ?_) ?_ ?_
                      rotate_left
                      · show Act.put _ (some 9) _ = _
                        simp only [Act.put, List.setIfInBounds_toArray, List.set_cons_zero, List.set_cons_succ, i64_w, i32_w]
                        rfl
                      refine one_ (i := 2) (N := some 36) #[true, true, true, true, true, true, true, false, false, true, false] rfl rfl (one_of HT_.out (by kernel_rfl)) (by decide) (fun K hK => ?_)
                      refine goes_ Try.func69 (by kernel_rfl) rfl #[.int .i64 (l0_0.length : Int), .int .i64 x8_1] (by rfl) rfl rfl (by (try simp only [List.map_toArray, List.map_cons, List.map_nil]); first | done | rfl | (simp only [List.length_drop, List.length_take]; rfl)) ?_
                      with_reducible refine (scarfjointref07_bits.calls k1 (l0_0.length : Int) x8_1 t103 _ A17.out).mono ?_
                      rintro e w25 ⟨v104, rfl, ho0, hb⟩
                      refine ⟨_, rfl, ?_⟩
                      have n0_ := Aside0.mk (Kd.N_elder' (by (with_reducible repeat (first | apply Kd.N_alloc | apply Kd.N_drewN | apply Kd.N_drew)); exact HO_7.out) (Kd.R_base ho0) hb)
                      have n1_ := Aside0.mk (Kd.R_lower (Kd.R_newM (M := fun k_ => (w.heap.size ≤ k_)) ho0 (below_size (by repeat (first | (with_reducible first | exact HB.out | apply below_alloc | apply pw_below_drewN | apply below_drew1 | refine below_set ?_ GE101.out | refine below_set ?_ GE109.out) | exact HB.out))) (fun k_ h_ => h_)) (below_size (by repeat (first | (with_reducible first | exact HB.out | apply below_alloc | apply pw_below_drewN | apply below_drew1 | refine below_set ?_ GE101.out | refine below_set ?_ GE109.out) | exact HB.out))))
                      have n2_ := Aside0.mk (blk_below (g := gb101) (o := .cells #[.slice A0_0 l0_0.length c0_0, .slice A0_1 l0_1.length c0_1] 25 (0, 0)) (by (with_reducible repeat (first | refine blk_drewN ?_ _ | refine blk_drew ?_ | refine blk_alloc ?_ _)); exact BK101.out) hb)
                      have n3_ := Aside0.mk (blk_below (g := gb109) (o := .cells #[.slice none 0 0, .slice none 0 0] 27 (0, 0)) (by (with_reducible repeat (first | refine blk_drewN ?_ _ | refine blk_drew ?_ | refine blk_alloc ?_ _)); exact BK109.out) hb)
                      have n4_ := Aside0.mk (below_step (by repeat (first | (with_reducible first | exact HB.out | apply below_alloc | apply pw_below_drewN | apply below_drew1 | refine below_set ?_ GE101.out | refine below_set ?_ GE109.out) | exact HB.out)) hb)
                      clear HO_7
                      clear BK101
                      clear BK109
                      clear HB
                      have HO_7 := n0_
                      have HO105 := n1_
                      have BK101 := n2_
                      have BK109 := n3_
                      have HB := n4_
                      clear n0_ n1_ n2_ n3_ n4_
                      (try clear hb)
                      (try clear hb2)
                      (try clear hk)
                      (try clear hi)
                      (try clear ho0)
                      refine hK.out _ _ trivial (fun hHeld => ?_)
                      clear hK K
                      refine norm_ (a' := ?_) ?_ ?_
                      rotate_left
                      · show Act.put _ (some 36) _ = _
                        simp only [Act.put, List.setIfInBounds_toArray, List.set_cons_zero, List.set_cons_succ, i64_w, i32_w]
                        rfl
                      refine one_ (i := 7) (N := some 41) #[true, true, true, true, true, true, true, true, false, true, false] rfl rfl (one_of HT_.out (by kernel_rfl)) (by decide) (fun K hK => ?_)
                      refine goes_ Try.func69 (by kernel_rfl) rfl #[.int .i64 (l0_1.length : Int), .int .i64 ji19] (by rfl) rfl rfl (by (try simp only [List.map_toArray, List.map_cons, List.map_nil]); first | done | (simp only [hji19]; rfl) | rfl | (simp only [List.length_drop, List.length_take]; rfl)) ?_
                      with_reducible refine (scarfjointref07_bits.calls k1 (l0_1.length : Int) ji19 t106 _ A20.out).mono ?_
                      rintro e w26 ⟨v107, rfl, ho0, hb⟩
                      refine ⟨_, rfl, ?_⟩
                      have n0_ := Aside0.mk (Kd.N_elder' (by (with_reducible repeat (first | apply Kd.N_alloc | apply Kd.N_drewN | apply Kd.N_drew)); exact HO_7.out) (Kd.R_base ho0) hb)
                      have n1_ := Aside0.mk (Kd.R_elder' (by (with_reducible repeat (first | apply Kd.R_alloc | apply Kd.R_drewN | apply Kd.R_drew)); exact HO105.out) (Kd.R_base ho0) hb)
                      have n2_ := Aside0.mk (Kd.R_lower (Kd.R_new' (Kd.R_newM (M := fun k_ => (w.heap.size ≤ k_)) ho0 (below_size (by repeat (first | (with_reducible first | exact HB.out | apply below_alloc | apply pw_below_drewN | apply below_drew1 | refine below_set ?_ GE101.out | refine below_set ?_ GE109.out) | exact HB.out))) (fun k_ h_ => h_)) (Kd.R_lt (by (with_reducible repeat (first | apply Kd.R_alloc | apply Kd.R_drewN | apply Kd.R_drew)); exact HO105.out))) (below_size (by repeat (first | (with_reducible first | exact HB.out | apply below_alloc | apply pw_below_drewN | apply below_drew1 | refine below_set ?_ GE101.out | refine below_set ?_ GE109.out) | exact HB.out))))
                      have n3_ := Aside0.mk (blk_below (g := gb101) (o := .cells #[.slice A0_0 l0_0.length c0_0, .slice A0_1 l0_1.length c0_1] 25 (0, 0)) (by (with_reducible repeat (first | refine blk_drewN ?_ _ | refine blk_drew ?_ | refine blk_alloc ?_ _)); exact BK101.out) hb)
                      have n4_ := Aside0.mk (blk_below (g := gb109) (o := .cells #[.slice none 0 0, .slice none 0 0] 27 (0, 0)) (by (with_reducible repeat (first | refine blk_drewN ?_ _ | refine blk_drew ?_ | refine blk_alloc ?_ _)); exact BK109.out) hb)
                      have n5_ := Aside0.mk (below_step (by repeat (first | (with_reducible first | exact HB.out | apply below_alloc | apply pw_below_drewN | apply below_drew1 | refine below_set ?_ GE101.out | refine below_set ?_ GE109.out) | exact HB.out)) hb)
                      clear HO_7
                      clear HO105
                      clear BK101
                      clear BK109
                      clear HB
                      have HO_7 := n0_
                      have HO105 := n1_
                      have HO108 := n2_
                      have BK101 := n3_
                      have BK109 := n4_
                      have HB := n5_
                      clear n0_ n1_ n2_ n3_ n4_ n5_
                      (try clear hb)
                      (try clear hb2)
                      (try clear hk)
                      (try clear hi)
                      (try clear ho0)
                      obtain ⟨Ao27, co27, eo27⟩ := Kd.R_slice HO108.out
                      (first | subst eo27 | (injection eo27 with f1_ f2_ f3_; have f4_ := f1_.symm; have f5_ := f3_.symm; clear f1_ f2_ f3_; subst f4_; subst f5_))
                      obtain ⟨Ao28, co28, eo28⟩ := Kd.R_slice HO105.out
                      (first | subst eo28 | (injection eo28 with f1_ f2_ f3_; have f4_ := f1_.symm; have f5_ := f3_.symm; clear f1_ f2_ f3_; subst f4_; subst f5_))
                      refine hK.out _ _ trivial (fun hHeld => ?_)
                      clear hK K
                      refine norm_ (a' := ?_) ?_ ?_
                      rotate_left
                      · show Act.put _ (some 41) _ = _
                        simp only [Act.put, List.setIfInBounds_toArray, List.set_cons_zero, List.set_cons_succ, i64_w, i32_w]
                        rfl
                      refine pure_ (i := 8) (N := some 42) (v := ?_) (a' := ?_) #[true, true, true, true, true, true, true, true, true, true, false] rfl rfl (any_of HT_.out (by kernel_rfl)) (fun _ _ _ h => h) (Or.inl ⟨by rfl, ?_⟩) ?_ ?_
                      rotate_left
                      · intro w'
                        go_simp
                        with_reducible rfl
                      rotate_left
                      · simp only [Act.put, List.setIfInBounds_toArray, List.set_cons_zero, List.set_cons_succ, i64_w, i32_w]
                        rfl
                      exact norm_ (by simp only [putAll, Act.put, List.setIfInBounds_toArray, List.set_cons_zero, List.set_cons_succ]) (hCont (.slice Ao28 t103.length co28, .slice Ao27 t106.length co27, gb109) _ ⟨(by (with_reducible repeat (first | apply Kd.R_alloc | apply Kd.R_drewN | apply Kd.R_drew)); exact Kd.R_mono HO105.out (fun _ hk => ⟨hk.1.1, hk.2⟩)), (by (with_reducible repeat (first | apply Kd.R_alloc | apply Kd.R_drewN | apply Kd.R_drew)); exact Kd.R_mono HO108.out (fun _ hk => ⟨hk.1.1, hk.2⟩)), (by (with_reducible repeat (first | apply Kd.N_alloc | apply Kd.N_drewN | apply Kd.N_drew)); exact Kd.N_mono HO_7.out (fun _ hk => ⟨hk.1.1.1.1, ⟨hk.1.2, ⟨hk.2, ⟨hk.1.1.1.2, hk.1.1.2⟩⟩⟩⟩)), (by (with_reducible repeat (first | refine blk_drewN ?_ _ | refine blk_drew ?_ | refine blk_alloc ?_ _)); exact BK101.out), (by (with_reducible repeat (first | refine blk_drewN ?_ _ | refine blk_drew ?_ | refine blk_alloc ?_ _)); exact BK109.out), GW109.out, GE109.out, NB101_109.out, NB109_101.out, (by repeat (first | (with_reducible first | exact HB.out | apply below_alloc | apply pw_below_drewN | apply below_drew1 | refine below_set ?_ GE101.out | refine below_set ?_ GE109.out) | exact HB.out))⟩)
                  rintro ⟨v104, v107, gb109⟩ w29 ⟨h0_, h1_, h2_, h3_, h4_, h5_, h6_, h7_, h8_, h9_⟩
                  have n0_ : Aside0 (Kd.R (Kd.int .i64) 3 w29 w.heap.size (fun k_ => (w.heap.size ≤ k_) ∧ some k_ ≠ (v107 : Value).ownBlock) v104 t103) := ⟨h0_⟩
                  have n1_ : Aside0 (Kd.R (Kd.int .i64) 3 w29 w.heap.size (fun k_ => (w.heap.size ≤ k_) ∧ some k_ ≠ (v104 : Value).ownBlock) v107 t106) := ⟨h1_⟩
                  have n2_ : Aside0 (Kd.N k27 27 w29 w.heap.size (fun k_ => (w.heap.size ≤ k_) ∧ some k_ ≠ (v104 : Value).ownBlock ∧ some k_ ≠ (v107 : Value).ownBlock ∧ k_ ≠ gb101 ∧ k_ ≠ gb109) u7 x7_1) := ⟨h2_⟩
                  have n3_ : Aside0 (w29.heap[gb101]? = some (.cells #[.slice A0_0 l0_0.length c0_0, .slice A0_1 l0_1.length c0_1] 25 (0, 0))) := ⟨h3_⟩
                  have n4_ : Aside0 (w29.heap[gb109]? = some (.cells #[.slice none 0 0, .slice none 0 0] 27 (0, 0))) := ⟨h4_⟩
                  have n5_ : Aside0 (w.heap.size ≤ gb109) := ⟨h5_⟩
                  have n6_ : Aside0 (w.heap.size ≤ gb109) := ⟨h6_⟩
                  have n7_ : Aside0 (gb101 ≠ gb109) := ⟨h7_⟩
                  have n8_ : Aside0 (gb109 ≠ gb101) := ⟨h8_⟩
                  have n9_ : Aside0 (Below w.heap.size w w29) := ⟨h9_⟩
                  clear HO_7
                  clear BK101
                  clear HB
                  clear h0_ h1_ h2_ h3_ h4_ h5_ h6_ h7_ h8_ h9_
                  have HO105 := n0_
                  have HO108 := n1_
                  have HO_7 := n2_
                  have BK101 := n3_
                  have BK109 := n4_
                  have GW109 := n5_
                  have GE109 := n6_
                  have NB101_109 := n7_
                  have NB109_101 := n8_
                  have HB := n9_
                  clear n0_ n1_ n2_ n3_ n4_ n5_ n6_ n7_ n8_ n9_
                  have hHeld := trivial
                  obtain ⟨Ao30, co30, eo30⟩ := Kd.R_slice HO108.out
                  (first | subst eo30 | (injection eo30 with f1_ f2_ f3_; have f4_ := f1_.symm; have f5_ := f3_.symm; clear f1_ f2_ f3_; subst f4_; subst f5_))
                  obtain ⟨Ao31, co31, eo31⟩ := Kd.R_slice HO105.out
                  (first | subst eo31 | (injection eo31 with f1_ f2_ f3_; have f4_ := f1_.symm; have f5_ := f3_.symm; clear f1_ f2_ f3_; subst f4_; subst f5_))
                  refine norm_ (a' := ?_) ?_ ?_
                  rotate_left
                  · simp only [putAll, Act.put, List.setIfInBounds_toArray, List.set_cons_zero, List.set_cons_succ]
                    rfl
                  refine one_ (i := 10) (N := none) #[true, true, true, true, true, true, true, true, true, true, true] rfl rfl (one_of HT_.out (by kernel_rfl)) (by decide) (fun K hK => ?_)
                  have hs32 : w29.cell? ⟨gb109, 0, none⟩ = some (.slice none 0 0) := (blk_cell BK109.out 0).trans rfl
                  have hfs32 := blk_frozen BK109.out 0
                  have hns32_0 := NB101_109.out
                  have hms32_0 := NB109_101.out
                  have hs33 : w29.cell? ⟨gb109, 1, none⟩ = some (.slice none 0 0) := (blk_cell BK109.out 1).trans rfl
                  have hfs33 := blk_frozen BK109.out 1
                  have hns33_0 := NB101_109.out
                  have hms33_0 := NB109_101.out
                  refine skip_ (w1 := ?_) (by rfl) rfl ?_ ?_
                  rotate_left
                  · go_simp
                    rfl
                  refine hK.out _ _ trivial (fun hHeld => ?_)
                  clear hK K
                  refine done_ (done_of HT_.out (by kernel_rfl)) ?_
                  have hnb34 := NB101_109.out
                  have hnc34 := NB109_101.out
                  have hcz35_0 : w29.cell? ⟨gb101, 0, none⟩ = some (.slice A0_0 l0_0.length c0_0) := (blk_cell BK101.out 0).trans rfl
                  have hcz35_1 : w29.cell? ⟨gb101, 1, none⟩ = some (.slice A0_1 l0_1.length c0_1) := (blk_cell BK101.out 1).trans rfl
                  have hfz35_0 := blk_frozen BK101.out 0
                  have hfz35_1 := blk_frozen BK101.out 1
                  have hcz36_0 : w29.cell? ⟨gb109, 0, none⟩ = some (.slice none 0 0) := (blk_cell BK109.out 0).trans rfl
                  have hcz36_1 : w29.cell? ⟨gb109, 1, none⟩ = some (.slice none 0 0) := (blk_cell BK109.out 1).trans rfl
                  have hfz36_0 := blk_frozen BK109.out 0
                  have hfz36_1 := blk_frozen BK109.out 1
                  try go_wp2_with (first | ((with_reducible refine gate_callee (f := 70) rfl ?_); refine goesL_ (some 45) rfl rfl Try.func70 (by kernel_rfl) rfl #[.agg #[.slice A0_0 l0_0.length c0_0, .slice A0_1 l0_1.length c0_1], .agg #[.slice Ao31 t103.length co31, .slice Ao30 t106.length co30]] rfl (by (try simp only [List.map_toArray, List.map_cons, List.map_nil]); first | done | rfl | (simp only [List.length_drop, List.length_take]; rfl)) ?_; (with_reducible refine (scarfjointref07_Right.calls k1 _ _ l0_0 _ _ l0_1 _ _ t103 _ _ t106 t110 _ ?side1 ?side2 ?side3 ?side4 ?side5 ?side6 ?side7 ?side8 A21.out).mono ?_); (case side1 => exact Kd.C_below HR0_0.out (by repeat (first | (with_reducible first | exact HB.out | apply below_alloc | apply pw_below_drewN | apply below_drew1 | refine below_set ?_ GE101.out | refine below_set ?_ GE109.out) | exact HB.out))); (case side2 => exact HC0_0.out); (case side3 => exact Kd.C_below HR0_1.out (by repeat (first | (with_reducible first | exact HB.out | apply below_alloc | apply pw_below_drewN | apply below_drew1 | refine below_set ?_ GE101.out | refine below_set ?_ GE109.out) | exact HB.out))); (case side4 => exact HC0_1.out); (case side5 => refine (Kd.R_reads' (e := 3) (base := w.heap.size) (ok := fun k_ => ((w.heap.size ≤ k_) ∧ some k_ ≠ (.slice Ao30 t106.length co30 : Value).ownBlock)) (n := t103.length) (c := co31) ?_).2.2; exact (by (with_reducible repeat (first | apply Kd.R_alloc | apply Kd.R_drewN | apply Kd.R_drew)); exact (Kd.R_mono (Kd.R_far (p := ⟨gb109, 1, none⟩) (Kd.R_far (p := ⟨gb109, 0, none⟩) (Kd.R_types HO105.out BK109.out (by decide)) (fun _ hk => hk.2) (.slice Ao31 t103.length co31)) (fun _ hk => hk.2) (.slice Ao30 t106.length co30)) (fun _ h_ => h_.1)))); (case side6 => exact (Kd.R_reads' HO105.out).2.1); (case side7 => refine (Kd.R_reads' (e := 3) (base := w.heap.size) (ok := fun k_ => ((w.heap.size ≤ k_) ∧ some k_ ≠ (.slice Ao31 t103.length co31 : Value).ownBlock)) (n := t106.length) (c := co30) ?_).2.2; exact (by (with_reducible repeat (first | apply Kd.R_alloc | apply Kd.R_drewN | apply Kd.R_drew)); exact (Kd.R_mono (Kd.R_far (p := ⟨gb109, 1, none⟩) (Kd.R_far (p := ⟨gb109, 0, none⟩) (Kd.R_types HO108.out BK109.out (by decide)) (fun _ hk => hk.2) (.slice Ao31 t103.length co31)) (fun _ hk => hk.2) (.slice Ao30 t106.length co30)) (fun _ h_ => h_.1)))); (case side8 => exact (Kd.R_reads' HO108.out).2.1); rintro e w37 ⟨rfl, hb⟩; refine ⟨_, rfl, ?_⟩; have n0_ := Aside0.mk (Kd.N_below (by (with_reducible repeat (first | apply Kd.N_alloc | apply Kd.N_drewN | apply Kd.N_drew)); exact (Kd.N_mono (Kd.N_far (p := ⟨gb109, 1, none⟩) (Kd.N_far (p := ⟨gb109, 0, none⟩) (Kd.N_mono HO_7.out (fun k_ hk => (⟨hk, hk.2.2.2.2⟩ : _ ∧ k_ ≠ gb109))) (fun _ hk => hk.2) (.slice Ao31 t103.length co31)) (fun _ hk => hk.2) (.slice Ao30 t106.length co30)) (fun _ h_ => h_.1))) hb); have n1_ := Aside0.mk (Kd.R_below (by (with_reducible repeat (first | apply Kd.R_alloc | apply Kd.R_drewN | apply Kd.R_drew)); exact (Kd.R_mono (Kd.R_far (p := ⟨gb109, 1, none⟩) (Kd.R_far (p := ⟨gb109, 0, none⟩) (Kd.R_types HO105.out BK109.out (by decide)) (fun _ hk => hk.2) (.slice Ao31 t103.length co31)) (fun _ hk => hk.2) (.slice Ao30 t106.length co30)) (fun _ h_ => h_.1))) hb); have n2_ := Aside0.mk (Kd.R_below (by (with_reducible repeat (first | apply Kd.R_alloc | apply Kd.R_drewN | apply Kd.R_drew)); exact (Kd.R_mono (Kd.R_far (p := ⟨gb109, 1, none⟩) (Kd.R_far (p := ⟨gb109, 0, none⟩) (Kd.R_types HO108.out BK109.out (by decide)) (fun _ hk => hk.2) (.slice Ao31 t103.length co31)) (fun _ hk => hk.2) (.slice Ao30 t106.length co30)) (fun _ h_ => h_.1))) hb); have n3_ := Aside0.mk (blk_below (g := gb101) (o := .cells #[.slice A0_0 l0_0.length c0_0, .slice A0_1 l0_1.length c0_1] 25 (0, 0)) (by (with_reducible repeat (first | refine blk_drewN ?_ _ | refine blk_drew ?_ | refine blk_alloc ?_ _)); refine blk_far ?_ NB101_109.out _; (with_reducible repeat (first | refine blk_drewN ?_ _ | refine blk_drew ?_ | refine blk_alloc ?_ _)); refine blk_far ?_ NB101_109.out _; (with_reducible repeat (first | refine blk_drewN ?_ _ | refine blk_drew ?_ | refine blk_alloc ?_ _)); exact BK101.out) hb); have n4_ := Aside0.mk (blk_below (g := gb109) (o := .cells #[.slice Ao31 t103.length co31, .slice Ao30 t106.length co30] 27 (0, 0)) (by (with_reducible repeat (first | refine blk_drewN ?_ _ | refine blk_drew ?_ | refine blk_alloc ?_ _)); refine blk_put (cs := #[.slice Ao31 t103.length co31, .slice none 0 0]) ?_ 1 _ rfl; (with_reducible repeat (first | refine blk_drewN ?_ _ | refine blk_drew ?_ | refine blk_alloc ?_ _)); refine blk_put (cs := #[.slice none 0 0, .slice none 0 0]) ?_ 0 _ rfl; (with_reducible repeat (first | refine blk_drewN ?_ _ | refine blk_drew ?_ | refine blk_alloc ?_ _)); exact BK109.out) hb); have n5_ := Aside0.mk (below_step (by repeat (first | (with_reducible first | exact HB.out | apply below_alloc | apply pw_below_drewN | apply below_drew1 | refine below_set ?_ GE101.out | refine below_set ?_ GE109.out) | exact HB.out)) hb); clear HO_7; clear HO105; clear HO108; clear BK101; clear BK109; clear HB; have HO_7 := n0_; have HO105 := n1_; have HO108 := n2_; have BK101 := n3_; have BK109 := n4_; have HB := n5_; clear n0_ n1_ n2_ n3_ n4_ n5_; (try clear hb); (try clear hb2); (try clear hk); (try clear hi)))
                  go_loopg [10] k1 (fun kq v10 w' => ∃ (x10_2 : Int), v10 = .int .i64 x10_2 ∧ Aside0 (scarfjointref07_All.l1 kq (l0_0.length : Int) (l0_1.length : Int) x7_1 x8_1 x10_2 l0_0 l0_1 t103 t106 = some (r1, r2)) ∧ Aside0 (kq ≤ k1) ∧ Aside0 (Kd.N k27 27 w' w.heap.size (fun k_ => (w.heap.size ≤ k_) ∧ some k_ ≠ ((.slice Ao31 t103.length co31) : Value).ownBlock ∧ some k_ ≠ ((.slice Ao30 t106.length co30) : Value).ownBlock ∧ k_ ≠ gb101 ∧ k_ ≠ gb109) u7 x7_1) ∧ Aside0 (Kd.R (Kd.int .i64) 3 w' w.heap.size (fun k_ => (w.heap.size ≤ k_) ∧ some k_ ≠ ((.slice Ao30 t106.length co30) : Value).ownBlock) (.slice Ao31 t103.length co31) t103) ∧ Aside0 (Kd.R (Kd.int .i64) 3 w' w.heap.size (fun k_ => (w.heap.size ≤ k_) ∧ some k_ ≠ ((.slice Ao31 t103.length co31) : Value).ownBlock) (.slice Ao30 t106.length co30) t106) ∧ Aside0 (w'.heap[gb101]? = some (.cells #[(.slice A0_0 l0_0.length c0_0), (.slice A0_1 l0_1.length c0_1)] 25 (0, 0))) ∧ Aside0 (w'.heap[gb109]? = some (.cells #[(.slice Ao31 t103.length co31), (.slice Ao30 t106.length co30)] 27 (0, 0))) ∧ Aside0 (Below w.heap.size w w'))
                  case atStart => exact ⟨(0), (by first | rfl | (simp; done) | (simp [*]; done)), H', ⟨Nat.le_refl _⟩, ⟨by (with_reducible repeat (first | apply Kd.N_alloc | apply Kd.N_drewN | apply Kd.N_drew)); exact HO_7.out⟩, ⟨by (with_reducible repeat (first | apply Kd.R_alloc | apply Kd.R_drewN | apply Kd.R_drew)); exact HO105.out⟩, ⟨by (with_reducible repeat (first | apply Kd.R_alloc | apply Kd.R_drewN | apply Kd.R_drew)); exact HO108.out⟩, ⟨by (with_reducible repeat (first | refine blk_drewN ?_ _ | refine blk_drew ?_ | refine blk_alloc ?_ _)); exact BK101.out⟩, ⟨by (with_reducible repeat (first | refine blk_drewN ?_ _ | refine blk_drew ?_ | refine blk_alloc ?_ _)); exact BK109.out⟩, ⟨by repeat (first | (with_reducible first | exact HB.out | apply below_alloc | apply pw_below_drewN | apply below_drew1 | refine below_set ?_ GE101.out | refine below_set ?_ GE109.out) | exact HB.out)⟩⟩
                  case round =>
                    clear H'
                    try clear c1
                    try clear c2
                    try clear p2
                    try clear c3
                    try clear c3b0
                    try clear c3b1
                    try clear c4
                    try clear c4b0
                    try clear c6
                    try clear p6
                    try clear c7
                    try clear c14
                    try clear c14b0
                    try clear c14b1
                    try clear c16
                    try clear c16b0
                    try clear c18
                    try clear c18b0
                    try clear c18b1
                    try clear c20
                    try clear c22
                    try clear c22b0
                    try clear c22b1
                    try clear c25
                    try clear c34
                    try clear hcz10_0
                    try clear hcz10_1
                    try clear hcz35_0
                    try clear hcz35_1
                    try clear hcz36_0
                    try clear hcz36_1
                    try clear hcz6_0
                    try clear hcz6_1
                    try clear hfz10_0
                    try clear hfz10_1
                    try clear hfz35_0
                    try clear hfz35_1
                    try clear hfz36_0
                    try clear hfz36_1
                    try clear hfz6_0
                    try clear hfz6_1
                    try clear p2
                    try clear p6
                    obtain ⟨x10_2, rfl, HA, HK2, HO_7, HO_110000, HO_110001, BK101, BK109, HB⟩ := hrel
                    cases gk with
                    | zero => exact absurd HA.out (by simp [scarfjointref07_All.l1])
                    | succ k2 =>
                      have H := HA.out
                      clear HA
                      simp only [scarfjointref07_All.l1] at H
                      have HC38 := Aside0.mk H
                      clear H
                      go_upto_region 14 with (fail)
                      go_cut [59] (fun v59 wc => ∃ (kq : Nat) (x59_37 : Bool), v59 = .bool x59_37 ∧ Aside0 (scarfjointref07_All.j2 kq (l0_0.length : Int) (l0_1.length : Int) x7_1 x8_1 x10_2 x59_37 l0_0 l0_1 t103 t106 = some (r1, r2)) ∧ Aside0 (kq ≤ k2) ∧ Aside0 (Kd.N k27 27 wc w.heap.size (fun k_ => (w.heap.size ≤ k_) ∧ some k_ ≠ ((.slice Ao31 t103.length co31) : Value).ownBlock ∧ some k_ ≠ ((.slice Ao30 t106.length co30) : Value).ownBlock ∧ k_ ≠ gb101 ∧ k_ ≠ gb109) u7 x7_1) ∧ Aside0 (Kd.R (Kd.int .i64) 3 wc w.heap.size (fun k_ => (w.heap.size ≤ k_) ∧ some k_ ≠ ((.slice Ao30 t106.length co30) : Value).ownBlock) (.slice Ao31 t103.length co31) t103) ∧ Aside0 (Kd.R (Kd.int .i64) 3 wc w.heap.size (fun k_ => (w.heap.size ≤ k_) ∧ some k_ ≠ ((.slice Ao31 t103.length co31) : Value).ownBlock) (.slice Ao30 t106.length co30) t106) ∧ Aside0 (wc.heap[gb101]? = some (.cells #[(.slice A0_0 l0_0.length c0_0), (.slice A0_1 l0_1.length c0_1)] 25 (0, 0))) ∧ Aside0 (wc.heap[gb109]? = some (.cells #[(.slice Ao31 t103.length co31), (.slice Ao30 t106.length co30)] 27 (0, 0))) ∧ Aside0 (Below w.heap.size w wc))
                      case first =>
                        have H := HC38.out
                        clear HC38
                        by_cases c39 : x10_2 < (x7_1.length : Int)
                        · rw [if_pos c39] at H
                          have c39b0 : decide (x10_2 < (x7_1.length : Int)) = true := decide_eq_true c39
                          clear c39
                          (first | rw [c39b0] | (simp only [i64_w, i32_w]; rw [c39b0]) | skip)
                          by_cases c40 : 0 ≤ x10_2
                          · rw [if_pos c40] at H
                            have c40b0 : decide (0 ≤ x10_2) = true := decide_eq_true c40
                            clear c40
                            replace H := Option.bind_eq_some_iff.mp H
                            obtain ⟨t112, A410, H⟩ := H
                            replace H : (scarfjointref07_All.j2 k2 (l0_0.length : Int) (l0_1.length : Int) x7_1 x8_1 x10_2 (decide (t112 < 0)) l0_0 l0_1 t103 t106) = some (r1, r2) := H
                            have A41 := Aside0.mk A410
                            clear A410
                            have H' := Aside0.mk H
                            clear H
                            try go_wp2
                            have n0_ := Aside0.mk (Kd.N_drew HO_7.out)
                            have n1_ := Aside0.mk (Kd.R_drew HO_110000.out)
                            have n2_ := Aside0.mk (Kd.R_drew HO_110001.out)
                            have n3_ := Aside0.mk (blk_drew BK101.out)
                            have n4_ := Aside0.mk (blk_drew BK109.out)
                            have n5_ := Aside0.mk (below_drew1 HB.out)
                            clear HO_7
                            clear HO_110000
                            clear HO_110001
                            clear BK101
                            clear BK109
                            clear HB
                            have HO_7 := n0_
                            have HO_110000 := n1_
                            have HO_110001 := n2_
                            have BK101 := n3_
                            have BK109 := n4_
                            have HB := n5_
                            clear n0_ n1_ n2_ n3_ n4_ n5_
                            obtain ⟨Ao43, co43, eo43⟩ := Kd.N_slice HO_7.out
                            (first | subst eo43 | (injection eo43 with f1_ f2_ f3_; have f4_ := f1_.symm; have f5_ := f3_.symm; clear f1_ f2_ f3_; subst f4_; subst f5_))
                            have p111 : 0 ≤ (x10_2 : Int) := of_decide_eq_true (by first | (with_reducible assumption) | assumption)
                            have q111 : x10_2 < (x7_1.length : Int) := of_decide_eq_true (by first | (with_reducible assumption) | assumption)
                            obtain ⟨ad111, A111_0, c111_0, A111_1, c111_1, e111, hx111_0, hx111_1, hl111_0, hi111_0, hl111_1, hi111_1⟩ := at_T27 (Kd.N_reads' HO_7.out).2.2 x10_2 p111 q111
                            cases e111
                            obtain ⟨ce111, hce111, hMe111, hcc111⟩ := Kd.N_get HO_7.out z27 x10_2 p111 (by first | exact q111 | exact of_decide_eq_true (by first | (with_reducible assumption) | assumption) | (have e_ := (Kd.N_reads' HO_7.out).1; omega))
                            obtain ⟨ua111_0, uc111_0, ua111_1, uc111_1, rfl, ul111_0, ge111_0, ul111_1, ge111_1⟩ := k27_openF hMe111
                            have hv111_0 := hcc111 0 _ rfl
                            rw [Nat.add_zero] at hv111_0
                            replace hv111_0 := Option.some.inj (hv111_0.symm.trans hx111_0)
                            injection hv111_0 with hva_ hvn_ hvc_
                            rw [hva_] at ge111_0
                            rw [hvc_] at ul111_0
                            have HL111_0 := Aside0.mk (show Kd.V (Kd.int .i64) 3 _ w.heap.size _ _ ((rd_T27 x7_1 x10_2).f0) from Kd.V_mk ul111_0 ge111_0)
                            clear hva_ hvn_ hvc_ ge111_0 ul111_0
                            have hv111_1 := hcc111 1 _ rfl
                            rw [add_field _ _ 1 (by omega)] at hv111_1
                            replace hv111_1 := Option.some.inj (hv111_1.symm.trans hx111_1)
                            injection hv111_1 with hva_ hvn_ hvc_
                            rw [hva_] at ge111_1
                            rw [hvc_] at ul111_1
                            have HL111_1 := Aside0.mk (show Kd.V (Kd.int .i64) 3 _ w.heap.size _ _ ((rd_T27 x7_1 x10_2).f1) from Kd.V_mk ul111_1 ge111_1)
                            clear hva_ hvn_ hvc_ ge111_1 ul111_1
                            clear hcc111 hce111
                            have HR111_0 := Aside0.mk hi111_0
                            have HC111_0 := Aside0.mk hl111_0
                            clear hi111_0 hl111_0
                            have HR111_1 := Aside0.mk hi111_1
                            have HC111_1 := Aside0.mk hl111_1
                            clear hi111_1 hl111_1
                            replace p111 := eq_true p111
                            replace q111 := eq_true q111
                            refine start_ (n := 13) (S := fun w' => w'.cell? ⟨gb109, 0, none⟩ = some (.slice Ao31 t103.length co31) ∧ w'.cell? ⟨gb109, 1, none⟩ = some (.slice Ao30 t106.length co30) ∧ w'.cell? (ad111.add ((x10_2).toNat * 2)) = some (.slice A111_0 ((rd_T27 x7_1 x10_2).f0).length c111_0) ∧ w'.cell? ⟨(ad111.add ((x10_2).toNat * 2)).block, (ad111.add ((x10_2).toNat * 2)).off + 1, none⟩ = some (.slice A111_1 ((rd_T27 x7_1 x10_2).f1).length c111_1)) (ds := []) #[false, false, false, false, false, false, false, false, false, false, false, false, false] (by kernel_rfl) rfl rfl ⟨(blk_cell BK109.out 0).trans rfl, (blk_cell BK109.out 1).trans rfl, hx111_0, hx111_1⟩ (fun hHeld => ?_); refine with_tabW scarfjointref07_All.tab14 scarfjointref07_All.bits14 (fun HT_ HW_ => ?_)
                            generalize wr.drew = w42 at HO_7 HO_110000 HO_110001 BK101 BK109 HB HL111_0 HL111_1 HR111_0 HR111_1 hx111_0 hx111_1 hHeld ⊢
                            refine pure_ (i := 0) (N := some 47) (v := ?_) (a' := ?_) #[true, false, false, false, false, false, false, false, false, false, false, false, false] rfl rfl (any_of HT_.out (by kernel_rfl)) (fun _ _ _ h => h) (Or.inl ⟨by rfl, ?_⟩) ?_ ?_
                            rotate_left
                            · intro w'
                              go_simp
                              with_reducible rfl
                            rotate_left
                            · simp only [Act.put, List.setIfInBounds_toArray, List.set_cons_zero, List.set_cons_succ, i64_w, i32_w]
                              rfl
                            refine pure_ (i := 1) (N := some 48) (v := ?_) (a' := ?_) #[true, true, false, false, false, false, false, false, false, false, false, false, false] rfl rfl (any_of HT_.out (by kernel_rfl)) (fun _ _ _ h => h) (Or.inl ⟨by rfl, ?_⟩) ?_ ?_
                            rotate_left
                            · intro w'
                              go_simp
                              with_reducible rfl
                            rotate_left
                            · simp only [Act.put, List.setIfInBounds_toArray, List.set_cons_zero, List.set_cons_succ, i64_w, i32_w]
                              rfl
                            refine pure_ (i := 2) (N := some 49) (v := ?_) (a' := ?_) #[true, true, true, false, false, false, false, false, false, false, false, false, false] rfl rfl (any_of HT_.out (by kernel_rfl)) (fun _ _ _ h => h) (Or.inl ⟨by rfl, ?_⟩) ?_ ?_
                            rotate_left
                            · intro w'
                              go_simp
                              with_reducible rfl
                            rotate_left
                            · simp only [Act.put, List.setIfInBounds_toArray, List.set_cons_zero, List.set_cons_succ, i64_w, i32_w]
                              rfl
                            refine pure_ (i := 3) (N := some 50) (v := ?_) (a' := ?_) #[true, true, true, true, false, false, false, false, false, false, false, false, false] rfl rfl (any_of HT_.out (by kernel_rfl)) (fun _ _ _ h => h) (Or.inl ⟨by rfl, ?_⟩) ?_ ?_
                            rotate_left
                            · intro w'
                              go_simp
                              with_reducible rfl
                            rotate_left
                            · simp only [Act.put, List.setIfInBounds_toArray, List.set_cons_zero, List.set_cons_succ, i64_w, i32_w]
                              rfl
                            refine pure_ (i := 4) (N := some 51) (v := ?_) (a' := ?_) #[true, true, true, true, true, false, false, false, false, false, false, false, false] rfl rfl (any_of HT_.out (by kernel_rfl)) (fun _ _ _ h => h) (Or.inl ⟨by rfl, ?_⟩) ?_ ?_
                            rotate_left
                            · intro w'
                              go_simp
                              with_reducible rfl
                            rotate_left
                            · simp only [Act.put, List.setIfInBounds_toArray, List.set_cons_zero, List.set_cons_succ, i64_w, i32_w]
                              rfl
                            refine pure_ (i := 5) (N := some 52) (v := ?_) (a' := ?_) #[true, true, true, true, true, true, false, false, false, false, false, false, false] rfl rfl (any_of HT_.out (by kernel_rfl)) (fun _ _ _ h => h) (Or.inl ⟨by rfl, ?_⟩) ?_ ?_
                            rotate_left
                            · intro w'
                              go_simp
                              with_reducible rfl
                            rotate_left
                            · simp only [Act.put, List.setIfInBounds_toArray, List.set_cons_zero, List.set_cons_succ, i64_w, i32_w]
                              rfl
                            refine pure_ (i := 6) (N := some 53) (v := ?_) (a' := ?_) #[true, true, true, true, true, true, true, false, false, false, false, false, false] rfl rfl (any_of HT_.out (by kernel_rfl)) (fun _ _ _ h => h) (Or.inl ⟨by rfl, ?_⟩) ?_ ?_
                            rotate_left
                            · intro w'
                              go_simp
                              with_reducible rfl
                            rotate_left
                            · simp only [Act.put, List.setIfInBounds_toArray, List.set_cons_zero, List.set_cons_succ, i64_w, i32_w]
                              rfl
                            refine pure_ (i := 7) (N := some 54) (v := ?_) (a' := ?_) #[true, true, true, true, true, true, true, true, false, false, false, false, false] rfl rfl (any_of HT_.out (by kernel_rfl)) (fun _ _ _ h => h) (Or.inl ⟨by rfl, ?_⟩) ?_ ?_
                            rotate_left
                            · intro w'
                              go_simp
                              with_reducible rfl
                            rotate_left
                            · simp only [Act.put, List.setIfInBounds_toArray, List.set_cons_zero, List.set_cons_succ, i64_w, i32_w]
                              rfl
                            refine take_ (i := 8) (N := some 55) (v := ?_) (a' := ?_) #[true, true, true, true, true, true, true, true, true, false, false, false, false] rfl rfl (take_ofW HT_.out HW_.out (by kernel_rfl)) (fun _ _ _ h => h) (Or.inl ⟨by rfl, ?_⟩) hHeld ?_ ?_
                            rotate_left
                            · rintro w' ⟨s0, s1, s2, s3⟩
                              go_simp
                              with_reducible rfl
                            rotate_left
                            · simp only [Act.put, List.setIfInBounds_toArray, List.set_cons_zero, List.set_cons_succ, i64_w, i32_w]
                              rfl
                            refine take_ (i := 9) (N := some 56) (v := ?_) (a' := ?_) #[true, true, true, true, true, true, true, true, true, true, false, false, false] rfl rfl (take_ofW HT_.out HW_.out (by kernel_rfl)) (fun _ _ _ h => h) (Or.inl ⟨by rfl, ?_⟩) hHeld ?_ ?_
                            rotate_left
                            · rintro w' ⟨s0, s1, s2, s3⟩
                              go_simp
                              with_reducible rfl
                            rotate_left
                            · simp only [Act.put, List.setIfInBounds_toArray, List.set_cons_zero, List.set_cons_succ, i64_w, i32_w]
                              rfl
                            refine one_ (i := 10) (N := some 57) #[true, true, true, true, true, true, true, true, true, true, true, false, false] rfl rfl (one_of HT_.out (by kernel_rfl)) (by decide) (fun K hK => ?_)
                            refine goes_ Try.func28 (by kernel_rfl) rfl #[.agg #[.slice A111_0 ((rd_T27 x7_1 x10_2).f0).length c111_0, .slice A111_1 ((rd_T27 x7_1 x10_2).f1).length c111_1], .agg #[.slice Ao31 t103.length co31, .slice Ao30 t106.length co30]] (by rfl) rfl rfl (by (try simp only [List.map_toArray, List.map_cons, List.map_nil]); first | done | rfl | (simp only [List.length_drop, List.length_take]; rfl)) ?_
                            with_reducible refine (scarfjointref07_Compare.calls k2 _ _ ((rd_T27 x7_1 x10_2).f0) _ _ ((rd_T27 x7_1 x10_2).f1) _ _ t103 _ _ t106 t112 _ ?side1 ?side2 ?side3 ?side4 ?side5 ?side6 ?side7 ?side8 A41.out).mono ?_
                            (case side1 => repeat (first | exact (by repeat (first | (with_reducible exact HR111_0.out) | (with_reducible refine Kd.C_alloc ?_ _) | (with_reducible refine Kd.C_drewN ?_ _) | (with_reducible refine Kd.C_drew ?_) | exact HR111_0.out)) | (with_reducible refine Kd.C_alloc ?_ _) | (with_reducible refine Kd.C_drewN ?_ _) | (with_reducible refine Kd.C_drew ?_)))
                            (case side2 => exact HC111_0.out)
                            (case side3 => repeat (first | exact (by repeat (first | (with_reducible exact HR111_1.out) | (with_reducible refine Kd.C_alloc ?_ _) | (with_reducible refine Kd.C_drewN ?_ _) | (with_reducible refine Kd.C_drew ?_) | exact HR111_1.out)) | (with_reducible refine Kd.C_alloc ?_ _) | (with_reducible refine Kd.C_drewN ?_ _) | (with_reducible refine Kd.C_drew ?_)))
                            (case side4 => exact HC111_1.out)
                            (case side5 => repeat (first | exact (Kd.R_reads' HO_110000.out).2.2 | (with_reducible refine Kd.C_alloc ?_ _) | (with_reducible refine Kd.C_drewN ?_ _) | (with_reducible refine Kd.C_drew ?_)))
                            (case side6 => exact (Kd.R_reads' HO_110000.out).2.1)
                            (case side7 => repeat (first | exact (Kd.R_reads' HO_110001.out).2.2 | (with_reducible refine Kd.C_alloc ?_ _) | (with_reducible refine Kd.C_drewN ?_ _) | (with_reducible refine Kd.C_drew ?_)))
                            (case side8 => exact (Kd.R_reads' HO_110001.out).2.1)
                            rintro e w44 ⟨rfl, hb⟩
                            have HS2_ := (hb.cell (World.block_lt_of_cell? _ _ (hHeld.2.2.1))).trans (hHeld.2.2.1)
                            have HS3_ := (hb.cell (World.block_lt_of_cell? _ _ (hHeld.2.2.2))).trans (hHeld.2.2.2)
                            refine ⟨_, rfl, ?_⟩
                            have n0_ := Aside0.mk (Kd.N_below (by (with_reducible repeat (first | apply Kd.N_alloc | apply Kd.N_drewN | apply Kd.N_drew)); exact HO_7.out) hb)
                            have n1_ := Aside0.mk (Kd.R_below (by (with_reducible repeat (first | apply Kd.R_alloc | apply Kd.R_drewN | apply Kd.R_drew)); exact HO_110000.out) hb)
                            have n2_ := Aside0.mk (Kd.R_below (by (with_reducible repeat (first | apply Kd.R_alloc | apply Kd.R_drewN | apply Kd.R_drew)); exact HO_110001.out) hb)
                            have n3_ := Aside0.mk (Kd.V_below (by (with_reducible repeat (first | apply Kd.V_alloc | apply Kd.V_drewN | apply Kd.V_drew)); exact HL111_0.out) hb)
                            have n4_ := Aside0.mk (Kd.V_below (by (with_reducible repeat (first | apply Kd.V_alloc | apply Kd.V_drewN | apply Kd.V_drew)); exact HL111_1.out) hb)
                            have n5_ := Aside0.mk (blk_below (g := gb101) (o := .cells #[.slice A0_0 l0_0.length c0_0, .slice A0_1 l0_1.length c0_1] 25 (0, 0)) (by (with_reducible repeat (first | refine blk_drewN ?_ _ | refine blk_drew ?_ | refine blk_alloc ?_ _)); exact BK101.out) hb)
                            have n6_ := Aside0.mk (blk_below (g := gb109) (o := .cells #[.slice Ao31 t103.length co31, .slice Ao30 t106.length co30] 27 (0, 0)) (by (with_reducible repeat (first | refine blk_drewN ?_ _ | refine blk_drew ?_ | refine blk_alloc ?_ _)); exact BK109.out) hb)
                            have n7_ := Aside0.mk (Kd.C_below (by repeat (first | (with_reducible exact HR111_0.out) | (with_reducible refine Kd.C_alloc ?_ _) | (with_reducible refine Kd.C_drewN ?_ _) | (with_reducible refine Kd.C_drew ?_) | exact HR111_0.out)) hb)
                            have n8_ := Aside0.mk (Kd.C_below (by repeat (first | (with_reducible exact HR111_1.out) | (with_reducible refine Kd.C_alloc ?_ _) | (with_reducible refine Kd.C_drewN ?_ _) | (with_reducible refine Kd.C_drew ?_) | exact HR111_1.out)) hb)
                            have n9_ := Aside0.mk (below_step (by repeat (first | (with_reducible first | exact HB.out | apply below_alloc | apply pw_below_drewN | apply below_drew1 | refine below_set ?_ GE101.out | refine below_set ?_ GE109.out) | exact HB.out)) hb)
                            clear HO_7
                            clear HO_110000
                            clear HO_110001
                            clear HL111_0
                            clear HL111_1
                            clear BK101
                            clear BK109
                            clear HR111_0
                            clear HR111_1
                            clear HB
                            have HO_7 := n0_
                            have HO_110000 := n1_
                            have HO_110001 := n2_
                            have HL111_0 := n3_
                            have HL111_1 := n4_
                            have BK101 := n5_
                            have BK109 := n6_
                            have HR111_0 := n7_
                            have HR111_1 := n8_
                            have HB := n9_
                            clear n0_ n1_ n2_ n3_ n4_ n5_ n6_ n7_ n8_ n9_
                            (try clear hb)
                            (try clear hb2)
                            (try clear hk)
                            (try clear hi)
                            refine hK.out _ _ ⟨(blk_cell BK109.out 0).trans rfl, (blk_cell BK109.out 1).trans rfl, HS2_, HS3_⟩ (fun hHeld => ?_)
                            clear hK K
                            refine norm_ (a' := ?_) ?_ ?_
                            rotate_left
                            · show Act.put _ (some 57) _ = _
                              simp only [Act.put, List.setIfInBounds_toArray, List.set_cons_zero, List.set_cons_succ, i64_w, i32_w]
                              rfl
                            refine pure_ (i := 11) (N := some 58) (v := ?_) (a' := ?_) #[true, true, true, true, true, true, true, true, true, true, true, true, false] rfl rfl (any_of HT_.out (by kernel_rfl)) (fun _ _ _ h => h) (Or.inl ⟨by rfl, ?_⟩) ?_ ?_
                            rotate_left
                            · intro w'
                              go_simp
                              with_reducible rfl
                            rotate_left
                            · simp only [Act.put, List.setIfInBounds_toArray, List.set_cons_zero, List.set_cons_succ, i64_w, i32_w]
                              rfl
                            refine pure_ (i := 12) (N := some 59) (v := ?_) (a' := ?_) #[true, true, true, true, true, true, true, true, true, true, true, true, true] rfl rfl (any_of HT_.out (by kernel_rfl)) (fun _ _ _ h => h) (Or.inl ⟨by rfl, ?_⟩) ?_ ?_
                            rotate_left
                            · intro w'
                              go_simp
                              with_reducible rfl
                            rotate_left
                            · simp only [Act.put, List.setIfInBounds_toArray, List.set_cons_zero, List.set_cons_succ, i64_w, i32_w]
                              rfl
                            refine done_ (done_of HT_.out (by kernel_rfl)) ?_
                            try go_wp2
                            go_meet
                            case rel => exact ⟨_, (decide (t112 < 0)), (by first | rfl | (simp; done) | (simp [*]; done)), H', ⟨by have := HK1.out; have := HK2.out; first | omega | exact Nat.le_refl _⟩, ⟨by (with_reducible repeat (first | apply Kd.N_alloc | apply Kd.N_drewN | apply Kd.N_drew)); exact HO_7.out⟩, ⟨by (with_reducible repeat (first | apply Kd.R_alloc | apply Kd.R_drewN | apply Kd.R_drew)); exact HO_110000.out⟩, ⟨by (with_reducible repeat (first | apply Kd.R_alloc | apply Kd.R_drewN | apply Kd.R_drew)); exact HO_110001.out⟩, ⟨by (with_reducible repeat (first | refine blk_drewN ?_ _ | refine blk_drew ?_ | refine blk_alloc ?_ _)); exact BK101.out⟩, ⟨by (with_reducible repeat (first | refine blk_drewN ?_ _ | refine blk_drew ?_ | refine blk_alloc ?_ _)); exact BK109.out⟩, ⟨by repeat (first | (with_reducible first | exact HB.out | apply below_alloc | apply pw_below_drewN | apply below_drew1 | refine below_set ?_ GE101.out | refine below_set ?_ GE109.out) | exact HB.out)⟩⟩
                          · rw [if_neg c40] at H
                            exact absurd H (by simp)
                        · rw [if_neg c39] at H
                          have c39b0 : decide (x10_2 < (x7_1.length : Int)) = false := decide_eq_false c39
                          clear c39
                          (first | rw [c39b0] | (simp only [i64_w, i32_w]; rw [c39b0]) | skip)
                          have H' := Aside0.mk H
                          clear H
                          try go_wp2
                          have n0_ := Aside0.mk (Kd.N_drew HO_7.out)
                          have n1_ := Aside0.mk (Kd.R_drew HO_110000.out)
                          have n2_ := Aside0.mk (Kd.R_drew HO_110001.out)
                          have n3_ := Aside0.mk (blk_drew BK101.out)
                          have n4_ := Aside0.mk (blk_drew BK109.out)
                          have n5_ := Aside0.mk (below_drew1 HB.out)
                          clear HO_7
                          clear HO_110000
                          clear HO_110001
                          clear BK101
                          clear BK109
                          clear HB
                          have HO_7 := n0_
                          have HO_110000 := n1_
                          have HO_110001 := n2_
                          have BK101 := n3_
                          have BK109 := n4_
                          have HB := n5_
                          clear n0_ n1_ n2_ n3_ n4_ n5_
                          obtain ⟨Ao46, co46, eo46⟩ := Kd.N_slice HO_7.out
                          (first | subst eo46 | (injection eo46 with f1_ f2_ f3_; have f4_ := f1_.symm; have f5_ := f3_.symm; clear f1_ f2_ f3_; subst f4_; subst f5_))
                          refine start_ (n := 13) (S := fun w' => True) (ds := []) #[false, false, false, false, false, false, false, false, false, false, false, false, false] (by kernel_rfl) rfl rfl trivial (fun hHeld => ?_); refine with_tabW scarfjointref07_All.tab14 scarfjointref07_All.bits14 (fun HT_ HW_ => ?_)
                          generalize wr.drew = w45 at HO_7 HO_110000 HO_110001 BK101 BK109 HB hHeld ⊢
                          refine pure_ (i := 0) (N := some 47) (v := ?_) (a' := ?_) #[true, false, false, false, false, false, false, false, false, false, false, false, false] rfl rfl (any_of HT_.out (by kernel_rfl)) (fun _ _ _ h => h) (Or.inl ⟨by rfl, ?_⟩) ?_ ?_
                          rotate_left
                          · intro w'
                            go_simp
                            with_reducible rfl
                          rotate_left
                          · simp only [Act.put, List.setIfInBounds_toArray, List.set_cons_zero, List.set_cons_succ, i64_w, i32_w]
                            rfl
                          refine pure_ (i := 1) (N := some 48) (v := ?_) (a' := ?_) #[true, true, false, false, false, false, false, false, false, false, false, false, false] rfl rfl (any_of HT_.out (by kernel_rfl)) (fun _ _ _ h => h) (Or.inl ⟨by rfl, ?_⟩) ?_ ?_
                          rotate_left
                          · intro w'
                            go_simp
                            with_reducible rfl
                          rotate_left
                          · simp only [Act.put, List.setIfInBounds_toArray, List.set_cons_zero, List.set_cons_succ, i64_w, i32_w]
                            rfl
                          refine pure_ (i := 2) (N := some 49) (v := ?_) (a' := ?_) #[true, true, true, false, false, false, false, false, false, false, false, false, false] rfl rfl (any_of HT_.out (by kernel_rfl)) (fun _ _ _ h => h) (Or.inl ⟨by rfl, ?_⟩) ?_ ?_
                          rotate_left
                          · intro w'
                            go_simp
                            with_reducible rfl
                          rotate_left
                          · simp only [Act.put, List.setIfInBounds_toArray, List.set_cons_zero, List.set_cons_succ, i64_w, i32_w]
                            rfl
                          refine pure_ (i := 3) (N := some 50) (v := ?_) (a' := ?_) #[true, true, true, true, false, false, false, false, false, false, false, false, false] rfl rfl (any_of HT_.out (by kernel_rfl)) (fun _ _ _ h => h) (Or.inl ⟨by rfl, ?_⟩) ?_ ?_
                          rotate_left
                          · intro w'
                            go_simp
                            with_reducible rfl
                          rotate_left
                          · simp only [Act.put, List.setIfInBounds_toArray, List.set_cons_zero, List.set_cons_succ, i64_w, i32_w]
                            rfl
                          refine pure_ (i := 4) (N := some 51) (v := ?_) (a' := ?_) #[true, true, true, true, true, false, false, false, false, false, false, false, false] rfl rfl (any_of HT_.out (by kernel_rfl)) (fun _ _ _ h => h) (Or.inl ⟨by rfl, ?_⟩) ?_ ?_
                          rotate_left
                          · intro w'
                            go_simp
                            with_reducible rfl
                          rotate_left
                          · simp only [Act.put, List.setIfInBounds_toArray, List.set_cons_zero, List.set_cons_succ, i64_w, i32_w]
                            rfl
                          refine pure_ (i := 5) (N := some 52) (v := undef) (a' := ?_) #[true, true, true, true, true, true, false, false, false, false, false, false, false] rfl rfl (any_of HT_.out (by kernel_rfl)) (fun _ _ _ h => h) (Or.inr ⟨by rfl, rfl⟩) ?_ ?_
                          rotate_left
                          · simp only [Act.put, List.setIfInBounds_toArray, List.set_cons_zero, List.set_cons_succ, i64_w, i32_w]
                            rfl
                          refine pure_ (i := 6) (N := some 53) (v := undef) (a' := ?_) #[true, true, true, true, true, true, true, false, false, false, false, false, false] rfl rfl (any_of HT_.out (by kernel_rfl)) (fun _ _ _ h => h) (Or.inr ⟨by rfl, rfl⟩) ?_ ?_
                          rotate_left
                          · simp only [Act.put, List.setIfInBounds_toArray, List.set_cons_zero, List.set_cons_succ, i64_w, i32_w]
                            rfl
                          refine pure_ (i := 7) (N := some 54) (v := undef) (a' := ?_) #[true, true, true, true, true, true, true, true, false, false, false, false, false] rfl rfl (any_of HT_.out (by kernel_rfl)) (fun _ _ _ h => h) (Or.inr ⟨by rfl, rfl⟩) ?_ ?_
                          rotate_left
                          · simp only [Act.put, List.setIfInBounds_toArray, List.set_cons_zero, List.set_cons_succ, i64_w, i32_w]
                            rfl
                          refine pure_ (i := 8) (N := some 55) (v := undef) (a' := ?_) #[true, true, true, true, true, true, true, true, true, false, false, false, false] rfl rfl (any_of HT_.out (by kernel_rfl)) (fun _ _ _ h => h) (Or.inr ⟨by rfl, rfl⟩) ?_ ?_
                          rotate_left
                          · simp only [Act.put, List.setIfInBounds_toArray, List.set_cons_zero, List.set_cons_succ, i64_w, i32_w]
                            rfl
                          refine pure_ (i := 9) (N := some 56) (v := undef) (a' := ?_) #[true, true, true, true, true, true, true, true, true, true, false, false, false] rfl rfl (any_of HT_.out (by kernel_rfl)) (fun _ _ _ h => h) (Or.inr ⟨by rfl, rfl⟩) ?_ ?_
                          rotate_left
                          · simp only [Act.put, List.setIfInBounds_toArray, List.set_cons_zero, List.set_cons_succ, i64_w, i32_w]
                            rfl
                          refine pure_ (i := 10) (N := some 57) (v := undef) (a' := ?_) #[true, true, true, true, true, true, true, true, true, true, true, false, false] rfl rfl (any_of HT_.out (by kernel_rfl)) (fun _ _ _ h => h) (Or.inr ⟨by rfl, rfl⟩) ?_ ?_
                          rotate_left
                          · simp only [Act.put, List.setIfInBounds_toArray, List.set_cons_zero, List.set_cons_succ, i64_w, i32_w]
                            rfl
                          refine pure_ (i := 11) (N := some 58) (v := undef) (a' := ?_) #[true, true, true, true, true, true, true, true, true, true, true, true, false] rfl rfl (any_of HT_.out (by kernel_rfl)) (fun _ _ _ h => h) (Or.inr ⟨by rfl, rfl⟩) ?_ ?_
                          rotate_left
                          · simp only [Act.put, List.setIfInBounds_toArray, List.set_cons_zero, List.set_cons_succ, i64_w, i32_w]
                            rfl
                          refine pure_ (i := 12) (N := some 59) (v := ?_) (a' := ?_) #[true, true, true, true, true, true, true, true, true, true, true, true, true] rfl rfl (any_of HT_.out (by kernel_rfl)) (fun _ _ _ h => h) (Or.inl ⟨by rfl, ?_⟩) ?_ ?_
                          rotate_left
                          · intro w'
                            go_simp
                            with_reducible rfl
                          rotate_left
                          · simp only [Act.put, List.setIfInBounds_toArray, List.set_cons_zero, List.set_cons_succ, i64_w, i32_w]
                            rfl
                          refine done_ (done_of HT_.out (by kernel_rfl)) ?_
                          try go_wp2
                          go_meet
                          case rel => exact ⟨_, (false), (by first | rfl | (simp; done) | (simp [*]; done)), H', ⟨by have := HK1.out; have := HK2.out; first | omega | exact Nat.le_refl _⟩, ⟨by (with_reducible repeat (first | apply Kd.N_alloc | apply Kd.N_drewN | apply Kd.N_drew)); exact HO_7.out⟩, ⟨by (with_reducible repeat (first | apply Kd.R_alloc | apply Kd.R_drewN | apply Kd.R_drew)); exact HO_110000.out⟩, ⟨by (with_reducible repeat (first | apply Kd.R_alloc | apply Kd.R_drewN | apply Kd.R_drew)); exact HO_110001.out⟩, ⟨by (with_reducible repeat (first | refine blk_drewN ?_ _ | refine blk_drew ?_ | refine blk_alloc ?_ _)); exact BK101.out⟩, ⟨by (with_reducible repeat (first | refine blk_drewN ?_ _ | refine blk_drew ?_ | refine blk_alloc ?_ _)); exact BK109.out⟩, ⟨by repeat (first | (with_reducible first | exact HB.out | apply below_alloc | apply pw_below_drewN | apply below_drew1 | refine below_set ?_ GE101.out | refine below_set ?_ GE109.out) | exact HB.out)⟩⟩
                      case rest =>
                        clear HC38
                        try clear c1
                        try clear p1
                        try clear q1
                        try clear hx1
                        try clear c2
                        try clear p2
                        try clear c3
                        try clear c3b0
                        try clear c3b1
                        try clear c4
                        try clear c4b0
                        try clear c6
                        try clear p6
                        try clear c7
                        try clear c11
                        try clear p11
                        try clear q11
                        try clear hx11
                        try clear c14
                        try clear c14b0
                        try clear c14b1
                        try clear c16
                        try clear c16b0
                        try clear c18
                        try clear c18b0
                        try clear c18b1
                        try clear c20
                        try clear c22
                        try clear c22b0
                        try clear c22b1
                        try clear c25
                        try clear c28
                        try clear c34
                        try clear c39
                        try clear c39b0
                        try clear c40
                        try clear c40b0
                        try clear hcz10_0
                        try clear hcz10_1
                        try clear hcz35_0
                        try clear hcz35_1
                        try clear hcz36_0
                        try clear hcz36_1
                        try clear hcz6_0
                        try clear hcz6_1
                        try clear hfz10_0
                        try clear hfz10_1
                        try clear hfz35_0
                        try clear hfz35_1
                        try clear hfz36_0
                        try clear hfz36_1
                        try clear hfz6_0
                        try clear hfz6_1
                        try clear hx111_0
                        try clear hx111_1
                        try clear p111
                        try clear p2
                        try clear p6
                        try clear q111
                        obtain ⟨kq, x59_37, rfl, HA, HJ37, HO_7, HO_110000, HO_110001, BK101, BK109, HB⟩ := hcut
                        cases kq with
                        | zero => exact absurd HA.out (by simp [scarfjointref07_All.j2])
                        | succ kj37 =>
                          have H := HA.out
                          clear HA
                          simp only [scarfjointref07_All.j2] at H
                          by_cases c47 : x59_37 = true
                          · subst c47
                            have H1 : (scarfjointref07_All.l1 kj37 (l0_0.length : Int) (l0_1.length : Int) x7_1 x8_1 (wrap64 (x10_2 + 1)) l0_0 l0_1 t103 t106) = some (r1, r2) := by rw [if_pos rfl] at H; exact H
                            clear H
                            have H := H1
                            clear H1
                            have H' := Aside0.mk H
                            clear H
                            go_wp2
                            go_roundg kj37
                            case measure => have := HK1.out; have := HK2.out; have := HJ37.out; omega
                            case rel => exact ⟨(wrap64 (x10_2 + 1)), (by first | rfl | (simp; done) | (simp [*]; done)), H', ⟨by have := HK1.out; have := HK2.out; have := HJ37.out; omega⟩, ⟨by (with_reducible repeat (first | apply Kd.N_alloc | apply Kd.N_drewN | apply Kd.N_drew)); exact HO_7.out⟩, ⟨by (with_reducible repeat (first | apply Kd.R_alloc | apply Kd.R_drewN | apply Kd.R_drew)); exact HO_110000.out⟩, ⟨by (with_reducible repeat (first | apply Kd.R_alloc | apply Kd.R_drewN | apply Kd.R_drew)); exact HO_110001.out⟩, ⟨by (with_reducible repeat (first | refine blk_drewN ?_ _ | refine blk_drew ?_ | refine blk_alloc ?_ _)); exact BK101.out⟩, ⟨by (with_reducible repeat (first | refine blk_drewN ?_ _ | refine blk_drew ?_ | refine blk_alloc ?_ _)); exact BK109.out⟩, ⟨by repeat (first | (with_reducible first | exact HB.out | apply below_alloc | apply pw_below_drewN | apply below_drew1 | refine below_set ?_ GE101.out | refine below_set ?_ GE109.out) | exact HB.out)⟩⟩
                          · replace c47 := Bool.eq_false_iff.mpr c47
                            subst c47
                            have H1 : ((some (([] : List (S27)) : List (S27))).bind fun y113 => (if 0 ≤ x10_2 then (if x10_2 ≤ (x7_1.length : Int) then ((some (x7_1.take (x10_2 : Int).toNat : List (S27))).bind fun y116 => (if y113.length + y116.length < 2932031007402 then ((some (y113 ++ y116 : List (S27))).bind fun y121 => ((some (([(⟨t103, t106⟩ : S27)] : List (S27)) : List (S27))).bind fun y124 => (if y121.length + y124.length < 2932031007402 then ((some (y121 ++ y124 : List (S27))).bind fun y127 => ((some (x7_1.drop (x10_2 : Int).toNat : List (S27))).bind fun y130 => (if y127.length + y130.length < 2932031007402 then (scarfjointref07_All.l0 kj37 (l0_0.length : Int) (l0_1.length : Int) (y127 ++ y130) (wrap64 (x8_1 + 1)) l0_0 l0_1) else (none)))) else (none)))) else (none))) else (none)) else (none))) = some (r1, r2) := by rw [if_neg (show ¬ (false = true) by decide)] at H; exact H
                            clear H
                            have H := H1
                            clear H1
                            obtain ⟨y113, hy113⟩ : ∃ y_ : List (S27), y_ = (([] : List (S27))) := ⟨_, rfl⟩
                            replace H : (if 0 ≤ x10_2 then (if x10_2 ≤ (x7_1.length : Int) then ((some (x7_1.take (x10_2 : Int).toNat : List (S27))).bind fun y116 => (if y113.length + y116.length < 2932031007402 then ((some (y113 ++ y116 : List (S27))).bind fun y121 => ((some (([(⟨t103, t106⟩ : S27)] : List (S27)) : List (S27))).bind fun y124 => (if y121.length + y124.length < 2932031007402 then ((some (y121 ++ y124 : List (S27))).bind fun y127 => ((some (x7_1.drop (x10_2 : Int).toNat : List (S27))).bind fun y130 => (if y127.length + y130.length < 2932031007402 then (scarfjointref07_All.l0 kj37 (l0_0.length : Int) (l0_1.length : Int) (y127 ++ y130) (wrap64 (x8_1 + 1)) l0_0 l0_1) else (none)))) else (none)))) else (none))) else (none)) else (none)) = some (r1, r2) := by first | (rw [hy113]; with_reducible exact H) | (have H2_ := (Option.bind_some _ _).symm.trans H; rw [hy113]; with_reducible exact H2_) | (have H2_ := (Option.bind_some _ _).symm.trans H; with_reducible exact H2_) | with_reducible exact H | (rw [hy113]; exact H) | exact H
                            have Ny113 := Aside0.mk hy113
                            clear hy113
                            by_cases c48 : 0 ≤ x10_2
                            · rw [if_pos c48] at H
                              have c48b0 := eq_true c48
                              have c48b1 : decide (0 ≤ x10_2) = true := decide_eq_true c48
                              clear c48
                              by_cases c49 : x10_2 ≤ (x7_1.length : Int)
                              · rw [if_pos c49] at H
                                have c49b0 := eq_true c49
                                have c49b1 : decide (x10_2 ≤ (x7_1.length : Int)) = true := decide_eq_true c49
                                clear c49
                                obtain ⟨y116, hy116⟩ : ∃ y_ : List (S27), y_ = (x7_1.take (x10_2 : Int).toNat) := ⟨_, rfl⟩
                                replace H : (if y113.length + y116.length < 2932031007402 then ((some (y113 ++ y116 : List (S27))).bind fun y121 => ((some (([(⟨t103, t106⟩ : S27)] : List (S27)) : List (S27))).bind fun y124 => (if y121.length + y124.length < 2932031007402 then ((some (y121 ++ y124 : List (S27))).bind fun y127 => ((some (x7_1.drop (x10_2 : Int).toNat : List (S27))).bind fun y130 => (if y127.length + y130.length < 2932031007402 then (scarfjointref07_All.l0 kj37 (l0_0.length : Int) (l0_1.length : Int) (y127 ++ y130) (wrap64 (x8_1 + 1)) l0_0 l0_1) else (none)))) else (none)))) else (none)) = some (r1, r2) := by first | (rw [hy116]; with_reducible exact H) | (have H2_ := (Option.bind_some _ _).symm.trans H; rw [hy116]; with_reducible exact H2_) | (have H2_ := (Option.bind_some _ _).symm.trans H; with_reducible exact H2_) | with_reducible exact H | (rw [hy116]; exact H) | exact H
                                have Ny116 := Aside0.mk hy116
                                clear hy116
                                by_cases c50 : y113.length + y116.length < 2932031007402
                                · rw [if_pos c50] at H
                                  have LMc50 := Aside0.mk c50
                                  clear c50
                                  obtain ⟨y121, hy121⟩ : ∃ y_ : List (S27), y_ = (y113 ++ y116) := ⟨_, rfl⟩
                                  replace H : ((some (([(⟨t103, t106⟩ : S27)] : List (S27)) : List (S27))).bind fun y124 => (if y121.length + y124.length < 2932031007402 then ((some (y121 ++ y124 : List (S27))).bind fun y127 => ((some (x7_1.drop (x10_2 : Int).toNat : List (S27))).bind fun y130 => (if y127.length + y130.length < 2932031007402 then (scarfjointref07_All.l0 kj37 (l0_0.length : Int) (l0_1.length : Int) (y127 ++ y130) (wrap64 (x8_1 + 1)) l0_0 l0_1) else (none)))) else (none))) = some (r1, r2) := by first | (rw [hy121]; with_reducible exact H) | (have H2_ := (Option.bind_some _ _).symm.trans H; rw [hy121]; with_reducible exact H2_) | (have H2_ := (Option.bind_some _ _).symm.trans H; with_reducible exact H2_) | with_reducible exact H | (rw [hy121]; exact H) | exact H
                                  have Ny121 := Aside0.mk hy121
                                  clear hy121
                                  obtain ⟨y124, hy124⟩ : ∃ y_ : List (S27), y_ = (([(⟨t103, t106⟩ : S27)] : List (S27))) := ⟨_, rfl⟩
                                  replace H : (if y121.length + y124.length < 2932031007402 then ((some (y121 ++ y124 : List (S27))).bind fun y127 => ((some (x7_1.drop (x10_2 : Int).toNat : List (S27))).bind fun y130 => (if y127.length + y130.length < 2932031007402 then (scarfjointref07_All.l0 kj37 (l0_0.length : Int) (l0_1.length : Int) (y127 ++ y130) (wrap64 (x8_1 + 1)) l0_0 l0_1) else (none)))) else (none)) = some (r1, r2) := by first | (rw [hy124]; with_reducible exact H) | (have H2_ := (Option.bind_some _ _).symm.trans H; rw [hy124]; with_reducible exact H2_) | (have H2_ := (Option.bind_some _ _).symm.trans H; with_reducible exact H2_) | with_reducible exact H | (rw [hy124]; exact H) | exact H
                                  have Ny124 := Aside0.mk hy124
                                  clear hy124
                                  by_cases c51 : y121.length + y124.length < 2932031007402
                                  · rw [if_pos c51] at H
                                    have LMc51 := Aside0.mk c51
                                    clear c51
                                    obtain ⟨y127, hy127⟩ : ∃ y_ : List (S27), y_ = (y121 ++ y124) := ⟨_, rfl⟩
                                    replace H : ((some (x7_1.drop (x10_2 : Int).toNat : List (S27))).bind fun y130 => (if y127.length + y130.length < 2932031007402 then (scarfjointref07_All.l0 kj37 (l0_0.length : Int) (l0_1.length : Int) (y127 ++ y130) (wrap64 (x8_1 + 1)) l0_0 l0_1) else (none))) = some (r1, r2) := by first | (rw [hy127]; with_reducible exact H) | (have H2_ := (Option.bind_some _ _).symm.trans H; rw [hy127]; with_reducible exact H2_) | (have H2_ := (Option.bind_some _ _).symm.trans H; with_reducible exact H2_) | with_reducible exact H | (rw [hy127]; exact H) | exact H
                                    have Ny127 := Aside0.mk hy127
                                    clear hy127
                                    have c52b0 := eq_true (of_decide_eq_true (by first | (with_reducible assumption) | assumption) : 0 ≤ x10_2)
                                    have c53b0 := eq_true (of_decide_eq_true (by first | (with_reducible assumption) | assumption) : x10_2 ≤ (x7_1.length : Int))
                                    obtain ⟨y130, hy130⟩ : ∃ y_ : List (S27), y_ = (x7_1.drop (x10_2 : Int).toNat) := ⟨_, rfl⟩
                                    replace H : (if y127.length + y130.length < 2932031007402 then (scarfjointref07_All.l0 kj37 (l0_0.length : Int) (l0_1.length : Int) (y127 ++ y130) (wrap64 (x8_1 + 1)) l0_0 l0_1) else (none)) = some (r1, r2) := by first | (rw [hy130]; with_reducible exact H) | (have H2_ := (Option.bind_some _ _).symm.trans H; rw [hy130]; with_reducible exact H2_) | (have H2_ := (Option.bind_some _ _).symm.trans H; with_reducible exact H2_) | with_reducible exact H | (rw [hy130]; exact H) | exact H
                                    have Ny130 := Aside0.mk hy130
                                    clear hy130
                                    by_cases c54 : y127.length + y130.length < 2932031007402
                                    · rw [if_pos c54] at H
                                      have LMc54 := Aside0.mk c54
                                      clear c54
                                      obtain ⟨y135, hy135⟩ : ∃ y_ : List (S27), y_ = (y127 ++ y130) := ⟨_, rfl⟩
                                      replace H : (scarfjointref07_All.l0 kj37 (l0_0.length : Int) (l0_1.length : Int) y135 (wrap64 (x8_1 + 1)) l0_0 l0_1) = some (r1, r2) := by first | (rw [hy135]; with_reducible exact H) | (have H2_ := (Option.bind_some _ _).symm.trans H; rw [hy135]; with_reducible exact H2_) | (have H2_ := (Option.bind_some _ _).symm.trans H; with_reducible exact H2_) | with_reducible exact H | (rw [hy135]; exact H) | exact H
                                      have Ny135 := Aside0.mk hy135
                                      clear hy135
                                      have H' := Aside0.mk H
                                      clear H
                                      try go_wp2
                                      have n0_ := Aside0.mk (Kd.N_drew HO_7.out)
                                      have n1_ := Aside0.mk (Kd.R_drew HO_110000.out)
                                      have n2_ := Aside0.mk (Kd.R_drew HO_110001.out)
                                      have n3_ := Aside0.mk (blk_drew BK101.out)
                                      have n4_ := Aside0.mk (blk_drew BK109.out)
                                      have n5_ := Aside0.mk (below_drew1 HB.out)
                                      clear HO_7
                                      clear HO_110000
                                      clear HO_110001
                                      clear BK101
                                      clear BK109
                                      clear HB
                                      have HO_7 := n0_
                                      have HO_110000 := n1_
                                      have HO_110001 := n2_
                                      have BK101 := n3_
                                      have BK109 := n4_
                                      have HB := n5_
                                      clear n0_ n1_ n2_ n3_ n4_ n5_
                                      obtain ⟨Ao57, co57, eo57⟩ := Kd.N_slice HO_7.out
                                      (first | subst eo57 | (injection eo57 with f1_ f2_ f3_; have f4_ := f1_.symm; have f5_ := f3_.symm; clear f1_ f2_ f3_; subst f4_; subst f5_))
                                      have q56 : (x10_2 : Int) ≤ ((x7_1.length : Int) : Int) := of_decide_eq_true (by first | (with_reducible assumption) | assumption)
                                      obtain ⟨i056, hi056, _, hsz56, _⟩ := info_parts info27
                                      have hroom56 : x7_1.length ≤ co57 := (Kd.N_reads' HO_7.out).2.1
                                      have hC56 : Kd.F k27 _ _ Ao57 x7_1.length x7_1 := (Kd.V_at (base := w.heap.size) (Kd.N_V HO_7.out)).2.2
                                      have hcut56 := cut_to (P := Try.prog) 42 27 .i64 Try.underlying42 hi056 Ao57 x7_1.length co57 x10_2 (of_decide_eq_true (by first | (with_reducible assumption) | assumption)) q56 hroom56
                                      have hr56 := Kd.F_take (m := (x10_2 : Int).toNat) hC56 (by omega)
                                      have hy56 : y116.length = (x10_2 : Int).toNat := (by rw [Ny116.out, List.length_take]; omega)
                                      rw [← Ny116.out] at hr56
                                      rw [← hy56] at hcut56
                                      have HO120 := Aside0.mk (show Kd.V k27 27 _ w.heap.size _ (.slice Ao57 y116.length co57) y116 from Kd.V_mk (by omega) hr56)
                                      have HC120 := Aside0.mk (show y116.length ≤ co57 from by omega)
                                      clear hr56 hC56 hroom56 hi056 hsz56
                                      have KY56 := Aside0.mk hy56
                                      clear hy56
                                      replace q56 := eq_true q56
                                      have q58 : (x10_2 : Int) ≤ ((x7_1.length : Int) : Int) := of_decide_eq_true (by first | (with_reducible assumption) | assumption)
                                      obtain ⟨i058, hi058, _, hsz58, _⟩ := info_parts info27
                                      have hroom58 : x7_1.length ≤ co57 := (Kd.N_reads' HO_7.out).2.1
                                      have hC58 : Kd.F k27 _ _ Ao57 x7_1.length x7_1 := (Kd.V_at (base := w.heap.size) (Kd.N_V HO_7.out)).2.2
                                      have q058 : (0 : Int) ≤ (x10_2 : Int) := of_decide_eq_true (by first | (with_reducible assumption) | assumption)
                                      have hcut58 := cut_from (P := Try.prog) 42 27 .i64 Try.underlying42 hi058 2 hsz58 Ao57 x7_1.length co57 x10_2 q058 q58
                                      have hr58 := Kd.F_cut (m := (x10_2 : Int).toNat) (c := co57) hC58 (by omega) hroom58
                                      obtain ⟨A58, hA58⟩ : ∃ A1, A1 = (if co57 = (x10_2 : Int).toNat then Ao57 else (Ao57 : Option Addr).map (·.add ((x10_2 : Int).toNat * 2))) := ⟨_, rfl⟩
                                      obtain ⟨c58, hc58⟩ : ∃ c1, c1 = co57 - (x10_2 : Int).toNat := ⟨_, rfl⟩
                                      have hy58 : y130.length = x7_1.length - (x10_2 : Int).toNat := (by rw [Ny130.out, List.length_drop] <;> omega)
                                      rw [show (x7_1).drop (x10_2 : Int).toNat = y130 from Ny130.out.symm] at hr58
                                      replace hr58 : Kd.F k27 _ _ A58 y130.length y130 := (by rw [hA58]; exact hr58)
                                      rw [← hy58, ← hA58, ← hc58] at hcut58
                                      have HO134 := Aside0.mk (show Kd.V k27 27 _ w.heap.size _ (.slice A58 y130.length c58) y130 from Kd.V_mk (by rw [hy58, hc58]; exact Nat.sub_le_sub_right hroom58 _) hr58)
                                      have HC134 := Aside0.mk (show y130.length ≤ c58 from by rw [hy58, hc58]; exact Nat.sub_le_sub_right hroom58 _)
                                      clear hr58 hC58 hroom58 hi058 hsz58 hc58
                                      have KY58 := Aside0.mk hy58
                                      have KA58 := Aside0.mk hA58
                                      clear hy58 hA58
                                      replace q58 := eq_true q58
                                      refine start_ (n := 13) (S := fun w' => w'.cell? ⟨gb109, 0, none⟩ = some (.slice Ao31 t103.length co31) ∧ w'.cell? ⟨gb109, 1, none⟩ = some (.slice Ao30 t106.length co30)) (ds := []) #[false, false, false, false, false, false, false, false, false, false, false, false, false] (by kernel_rfl) rfl rfl ⟨(blk_cell BK109.out 0).trans rfl, (blk_cell BK109.out 1).trans rfl⟩ (fun hHeld => ?_); refine with_tabW scarfjointref07_All.tab16 scarfjointref07_All.bits16 (fun HT_ HW_ => ?_)
                                      generalize wc.drew = w55 at HO_7 HO_110000 HO_110001 BK101 BK109 HB HO120 HO134 hHeld ⊢
                                      refine pure_ (i := 1) (N := some 63) (v := ?_) (a' := ?_) #[false, true, false, false, false, false, false, false, false, false, false, false, false] rfl rfl (any_of HT_.out (by kernel_rfl)) (fun _ _ _ h => h) (Or.inl ⟨by rfl, ?_⟩) ?_ ?_
                                      rotate_left
                                      · intro w'
                                        go_simp
                                        with_reducible rfl
                                      rotate_left
                                      · simp only [Act.put, List.setIfInBounds_toArray, List.set_cons_zero, List.set_cons_succ, i64_w, i32_w]
                                        rfl
                                      refine pure_ (i := 2) (N := some 64) (v := ?_) (a' := ?_) #[false, true, true, false, false, false, false, false, false, false, false, false, false] rfl rfl (any_of HT_.out (by kernel_rfl)) (fun _ _ _ h => h) (Or.inl ⟨by rfl, ?_⟩) ?_ ?_
                                      rotate_left
                                      · intro w'
                                        go_simp
                                        with_reducible rfl
                                      rotate_left
                                      · simp only [Act.put, List.setIfInBounds_toArray, List.set_cons_zero, List.set_cons_succ, i64_w, i32_w]
                                        rfl
                                      refine pure_ (i := 3) (N := some 65) (v := ?_) (a' := ?_) #[false, true, true, true, false, false, false, false, false, false, false, false, false] rfl rfl (any_of HT_.out (by kernel_rfl)) (fun _ _ _ h => h) (Or.inl ⟨by rfl, ?_⟩) ?_ ?_
                                      rotate_left
                                      · intro w'
                                        go_simp
                                        with_reducible rfl
                                      rotate_left
                                      · simp only [Act.put, List.setIfInBounds_toArray, List.set_cons_zero, List.set_cons_succ, i64_w, i32_w]
                                        rfl
                                      refine pure_ (i := 8) (N := some 70) (v := ?_) (a' := ?_) #[false, true, true, true, false, false, false, false, true, false, false, false, false] rfl rfl (any_of HT_.out (by kernel_rfl)) (fun _ _ _ h => h) (Or.inl ⟨by rfl, ?_⟩) ?_ ?_
                                      rotate_left
                                      · intro w'
                                        go_simp
                                        with_reducible rfl
                                      rotate_left
                                      · simp only [Act.put, List.setIfInBounds_toArray, List.set_cons_zero, List.set_cons_succ, i64_w, i32_w]
                                        rfl
                                      refine pure_ (i := 9) (N := some 71) (v := ?_) (a' := ?_) #[false, true, true, true, false, false, false, false, true, true, false, false, false] rfl rfl (any_of HT_.out (by kernel_rfl)) (fun _ _ _ h => h) (Or.inl ⟨by rfl, ?_⟩) ?_ ?_
                                      rotate_left
                                      · intro w'
                                        go_simp
                                        with_reducible rfl
                                      rotate_left
                                      · simp only [Act.put, List.setIfInBounds_toArray, List.set_cons_zero, List.set_cons_succ, i64_w, i32_w]
                                        rfl
                                      refine pure_ (i := 10) (N := some 72) (v := ?_) (a' := ?_) #[false, true, true, true, false, false, false, false, true, true, true, false, false] rfl rfl (any_of HT_.out (by kernel_rfl)) (fun _ _ _ h => h) (Or.inl ⟨by rfl, ?_⟩) ?_ ?_
                                      rotate_left
                                      · intro w'
                                        go_simp
                                        with_reducible rfl
                                      rotate_left
                                      · simp only [Act.put, List.setIfInBounds_toArray, List.set_cons_zero, List.set_cons_succ, i64_w, i32_w]
                                        rfl
                                      refine take_ (i := 5) (N := some 67) (v := ?_) (a' := ?_) #[false, true, true, true, false, true, false, false, true, true, true, false, false] rfl rfl (take_ofW HT_.out HW_.out (by kernel_rfl)) (fun _ _ _ h => h) (Or.inl ⟨by rfl, ?_⟩) hHeld ?_ ?_
                                      rotate_left
                                      · rintro w' ⟨s0, s1⟩
                                        go_simp
                                        with_reducible rfl
                                      rotate_left
                                      · simp only [Act.put, List.setIfInBounds_toArray, List.set_cons_zero, List.set_cons_succ, i64_w, i32_w]
                                        rfl
                                      refine join_ (σ := Value × Value × Value) 3 #[true, true, true, true, true, true, true, false, true, true, true, false, false] (fun s_ => [(62, s_.1), (66, s_.2.1), (68, s_.2.2)]) (fun s_ w' => (w'.cell? ⟨gb109, 0, none⟩ = some (.slice Ao31 t103.length co31) ∧ w'.cell? ⟨gb109, 1, none⟩ = some (.slice Ao30 t106.length co30)) ∧ (Kd.V k27 27 w' w.heap.size (fun k_ => (w.heap.size ≤ k_) ∧ some k_ ≠ (s_.2.1 : Value).ownBlock ∧ some k_ ≠ (s_.2.2 : Value).ownBlock ∧ k_ ≠ gb101 ∧ k_ ≠ gb109) (.slice Ao57 y116.length co57) y116) ∧ (Kd.N k27 27 w' w.heap.size (fun k_ => (w.heap.size ≤ k_) ∧ some k_ ≠ (s_.2.2 : Value).ownBlock ∧ k_ ≠ gb101 ∧ k_ ≠ gb109) s_.2.1 y121) ∧ (Kd.N k27 27 w' w.heap.size (fun k_ => (w.heap.size ≤ k_) ∧ some k_ ≠ (s_.2.1 : Value).ownBlock ∧ some k_ ≠ (.slice Ao57 x7_1.length co57 : Value).ownBlock ∧ k_ ≠ gb101 ∧ k_ ≠ gb109) s_.2.2 y124) ∧ (Kd.V k27 27 w' w.heap.size (fun k_ => (w.heap.size ≤ k_) ∧ some k_ ≠ (s_.2.1 : Value).ownBlock ∧ some k_ ≠ (s_.2.2 : Value).ownBlock ∧ k_ ≠ gb101 ∧ k_ ≠ gb109) (.slice A58 y130.length c58) y130) ∧ (Kd.N k27 27 w' w.heap.size (fun k_ => (w.heap.size ≤ k_) ∧ some k_ ≠ (s_.2.1 : Value).ownBlock ∧ some k_ ≠ (s_.2.2 : Value).ownBlock ∧ k_ ≠ gb101 ∧ k_ ≠ gb109) (.slice Ao57 x7_1.length co57) x7_1) ∧ (w'.heap[gb101]? = some (.cells #[.slice A0_0 l0_0.length c0_0, .slice A0_1 l0_1.length c0_1] 25 (0, 0))) ∧ (w'.heap[gb109]? = some (.cells #[.slice Ao31 t103.length co31, .slice Ao30 t106.length co30] 27 (0, 0))) ∧ (Below w.heap.size w w')) ?_ ?_
                                      rotate_left
                                      · intro hCont
                                        refine two_ (i := 0) (j := 6) (Ni := some 62) (Nj := some 68) #[true, true, true, true, false, true, false, false, true, true, true, false, false] #[false, true, true, true, false, true, true, false, true, true, true, false, false] rfl rfl rfl rfl (two_of HT_.out (by kernel_rfl)) (by decide) (by decide) (fun K hK => ?_) (fun K hK => ?_)
                                        · skip
                                          refine Kd.N_lit_step k27 _ 27 ?hg (N' := 62) ?hd (xs := ([] : List (S27))) (inner := []) (ok := (fun k_ => (w.heap.size ≤ k_) ∧ some k_ ≠ (.slice Ao57 x7_1.length co57 : Value).ownBlock ∧ some k_ ≠ (.slice Ao31 t103.length co31 : Value).ownBlock ∧ some k_ ≠ (.slice Ao30 t106.length co30 : Value).ownBlock ∧ k_ ≠ gb101 ∧ k_ ≠ gb109)) (okp := (fun k_ => (w.heap.size ≤ k_) ∧ some k_ ≠ (.slice Ao57 x7_1.length co57 : Value).ownBlock ∧ some k_ ≠ (.slice Ao31 t103.length co31 : Value).ownBlock ∧ some k_ ≠ (.slice Ao30 t106.length co30 : Value).ownBlock ∧ k_ ≠ gb101 ∧ k_ ≠ gb109)) ?hr ?hp (fun _ hk => hk) ((show ∀ k_, w55.heap.size ≤ k_ → (fun k_ => (w.heap.size ≤ k_) ∧ some k_ ≠ (.slice Ao57 x7_1.length co57 : Value).ownBlock ∧ some k_ ≠ (.slice Ao31 t103.length co31 : Value).ownBlock ∧ some k_ ≠ (.slice Ao30 t106.length co30 : Value).ownBlock ∧ k_ ≠ gb101 ∧ k_ ≠ gb109) k_ from fun k_ hk => ⟨(Nat.le_trans (below_size (by repeat (first | (with_reducible first | exact HB.out | apply below_alloc | apply pw_below_drewN | apply below_drew1 | refine below_set ?_ GE101.out | refine below_set ?_ GE109.out) | exact HB.out))) hk), Kd.fresh' (Kd.N_lt (by (with_reducible repeat (first | apply Kd.N_alloc | apply Kd.N_drewN | apply Kd.N_drew)); exact HO_7.out)) k_ hk, Kd.fresh' (Kd.R_lt (by (with_reducible repeat (first | apply Kd.R_alloc | apply Kd.R_drewN | apply Kd.R_drew)); exact HO_110000.out)) k_ hk, Kd.fresh' (Kd.R_lt (by (with_reducible repeat (first | apply Kd.R_alloc | apply Kd.R_drewN | apply Kd.R_drew)); exact HO_110001.out)) k_ hk, Kd.freshB (g := gb101) (o := .cells #[.slice A0_0 l0_0.length c0_0, .slice A0_1 l0_1.length c0_1] 25 (0, 0)) (by (with_reducible repeat (first | refine blk_drewN ?_ _ | refine blk_drew ?_ | refine blk_alloc ?_ _)); exact BK101.out) k_ hk, Kd.freshB (g := gb109) (o := .cells #[.slice Ao31 t103.length co31, .slice Ao30 t106.length co30] 27 (0, 0)) (by (with_reducible repeat (first | refine blk_drewN ?_ _ | refine blk_drew ?_ | refine blk_alloc ?_ _)); exact BK109.out) k_ hk⟩) _ (Nat.le_refl _)) (Below.refl _ _) (Nat.le_refl _) (by simp) ?_; (case hd => rfl); (case hg => rfl); (case hr => first | (go_simp; done) | (go_simp; rfl)); (case hp => exact (Reps.none _ _))
                                          intro v114 w59 ho60 hb hg_ hnew_
                                          clear hg_ hnew_
                                          (first | rw [← Ny113.out] at ho60 | (simp only [Int.reduceToNat] at ho60; rw [← Ny113.out] at ho60))
                                          have n0_ := Aside0.mk (Kd.N_elder' (by (with_reducible repeat (first | apply Kd.N_alloc | apply Kd.N_drewN | apply Kd.N_drew)); exact HO_7.out) (Kd.N_base ho60) hb)
                                          have n1_ := Aside0.mk (Kd.R_below (by (with_reducible repeat (first | apply Kd.R_alloc | apply Kd.R_drewN | apply Kd.R_drew)); exact HO_110000.out) hb)
                                          have n2_ := Aside0.mk (Kd.R_below (by (with_reducible repeat (first | apply Kd.R_alloc | apply Kd.R_drewN | apply Kd.R_drew)); exact HO_110001.out) hb)
                                          have n3_ := Aside0.mk (Kd.V_elder' (by (with_reducible repeat (first | apply Kd.V_alloc | apply Kd.V_drewN | apply Kd.V_drew)); exact HO120.out) (Kd.N_base ho60) hb)
                                          have n4_ := Aside0.mk (Kd.V_elder' (by (with_reducible repeat (first | apply Kd.V_alloc | apply Kd.V_drewN | apply Kd.V_drew)); exact HO134.out) (Kd.N_base ho60) hb)
                                          have n5_ := Aside0.mk (Kd.N_lower ho60 (below_size (by repeat (first | (with_reducible first | exact HB.out | apply below_alloc | apply pw_below_drewN | apply below_drew1 | refine below_set ?_ GE101.out | refine below_set ?_ GE109.out) | exact HB.out))))
                                          have n6_ := Aside0.mk (blk_below (g := gb101) (o := .cells #[.slice A0_0 l0_0.length c0_0, .slice A0_1 l0_1.length c0_1] 25 (0, 0)) (by (with_reducible repeat (first | refine blk_drewN ?_ _ | refine blk_drew ?_ | refine blk_alloc ?_ _)); exact BK101.out) hb)
                                          have n7_ := Aside0.mk (blk_below (g := gb109) (o := .cells #[.slice Ao31 t103.length co31, .slice Ao30 t106.length co30] 27 (0, 0)) (by (with_reducible repeat (first | refine blk_drewN ?_ _ | refine blk_drew ?_ | refine blk_alloc ?_ _)); exact BK109.out) hb)
                                          have n8_ := Aside0.mk (below_step (by repeat (first | (with_reducible first | exact HB.out | apply below_alloc | apply pw_below_drewN | apply below_drew1 | refine below_set ?_ GE101.out | refine below_set ?_ GE109.out) | exact HB.out)) hb)
                                          clear HO_7
                                          clear HO_110000
                                          clear HO_110001
                                          clear HO120
                                          clear HO134
                                          clear BK101
                                          clear BK109
                                          clear HB
                                          have HO_7 := n0_
                                          have HO_110000 := n1_
                                          have HO_110001 := n2_
                                          have HO120 := n3_
                                          have HO134 := n4_
                                          have HO115 := n5_
                                          have BK101 := n6_
                                          have BK109 := n7_
                                          have HB := n8_
                                          clear n0_ n1_ n2_ n3_ n4_ n5_ n6_ n7_ n8_
                                          clear hb ho60
                                          refine hK.out _ _ ⟨(blk_cell BK109.out 0).trans rfl, (blk_cell BK109.out 1).trans rfl⟩ (fun hHeld => ?_)
                                          clear hK K
                                          refine norm_ (a' := ?_) ?_ ?_
                                          rotate_left
                                          · show Act.put _ (some 62) _ = _
                                            simp only [Act.put, List.setIfInBounds_toArray, List.set_cons_zero, List.set_cons_succ, i64_w, i32_w]
                                            rfl
                                          refine two_ (i := 4) (j := 6) (Ni := some 66) (Nj := some 68) #[true, true, true, true, true, true, false, false, true, true, true, false, false] #[true, true, true, true, false, true, true, false, true, true, true, false, false] rfl rfl rfl rfl (two_of HT_.out (by kernel_rfl)) (by decide) (by decide) (fun K hK => ?_) (fun K hK => ?_)
                                          · skip
                                            refine Kd.N_append_rows_step k27 (w0 := w) w.heap.size (by rfl) (.tmp 62) (.tmp 65) 42 27 (.agg #[(.slice none 0 0), (.slice none 0 0)]) 48 rfl Try.underlying42 info27 rfl (by decide) (by omega) v114 y113 y116 _ _ _ (fun k_ => (w.heap.size ≤ k_) ∧ some k_ ≠ (.slice Ao31 t103.length co31 : Value).ownBlock ∧ some k_ ≠ (.slice Ao30 t106.length co30 : Value).ownBlock ∧ k_ ≠ gb101 ∧ k_ ≠ gb109) (fun k_ => ((fun k_ => (w.heap.size ≤ k_) ∧ some k_ ≠ (.slice Ao31 t103.length co31 : Value).ownBlock ∧ some k_ ≠ (.slice Ao30 t106.length co30 : Value).ownBlock ∧ k_ ≠ gb101 ∧ k_ ≠ gb109)) k_ ∧ some k_ ≠ (v114 : Value).ownBlock) rfl rfl ?aO ?aR (fun _ hk => hk) ?aF ?aB ?aS ?aL ?_
                                            (case aR => exact (by skip; exact Kd.V_F (Kd.V_mono (ok' := (fun k_ => ((fun k_ => (w.heap.size ≤ k_) ∧ some k_ ≠ (.slice Ao31 t103.length co31 : Value).ownBlock ∧ some k_ ≠ (.slice Ao30 t106.length co30 : Value).ownBlock ∧ k_ ≠ gb101 ∧ k_ ≠ gb109)) k_ ∧ some k_ ≠ (v114 : Value).ownBlock)) (HO120.out) (fun k_ hk => ⟨⟨hk.1.1, ⟨hk.1.2.1, ⟨hk.1.2.2.1, ⟨hk.1.2.2.2.1, hk.1.2.2.2.2⟩⟩⟩⟩, hk.2⟩))))
                                            (case aB => exact (by repeat (first | (with_reducible first | exact HB.out | apply below_alloc | apply pw_below_drewN | apply below_drew1 | refine below_set ?_ GE101.out | refine below_set ?_ GE109.out) | exact HB.out)))
                                            (case aF => exact (fun k_ hk => ⟨(Nat.le_trans (below_size (by repeat (first | (with_reducible first | exact HB.out | apply below_alloc | apply pw_below_drewN | apply below_drew1 | refine below_set ?_ GE101.out | refine below_set ?_ GE109.out) | exact HB.out))) hk), Kd.fresh' (Kd.R_lt (by (with_reducible repeat (first | apply Kd.R_alloc | apply Kd.R_drewN | apply Kd.R_drew)); exact HO_110000.out)) k_ hk, Kd.fresh' (Kd.R_lt (by (with_reducible repeat (first | apply Kd.R_alloc | apply Kd.R_drewN | apply Kd.R_drew)); exact HO_110001.out)) k_ hk, Kd.freshB (g := gb101) (o := .cells #[.slice A0_0 l0_0.length c0_0, .slice A0_1 l0_1.length c0_1] 25 (0, 0)) (by (with_reducible repeat (first | refine blk_drewN ?_ _ | refine blk_drew ?_ | refine blk_alloc ?_ _)); exact BK101.out) k_ hk, Kd.freshB (g := gb109) (o := .cells #[.slice Ao31 t103.length co31, .slice Ao30 t106.length co30] 27 (0, 0)) (by (with_reducible repeat (first | refine blk_drewN ?_ _ | refine blk_drew ?_ | refine blk_alloc ?_ _)); exact BK109.out) k_ hk⟩))
                                            (case aO => exact (by (with_reducible repeat (first | apply Kd.N_alloc | apply Kd.N_drewN | apply Kd.N_drew)); exact Kd.N_mono HO115.out (fun _ hk => ⟨hk.1, ⟨hk.2.2.1, ⟨hk.2.2.2.1, ⟨hk.2.2.2.2.1, hk.2.2.2.2.2⟩⟩⟩⟩)))
                                            (case aS => exact (below_size (by repeat (first | (with_reducible first | exact HB.out | apply below_alloc | apply pw_below_drewN | apply below_drew1 | refine below_set ?_ GE101.out | refine below_set ?_ GE109.out) | exact HB.out))))
                                            (case aL => have := LMc50.out; omega)
                                            intro v122 w61 ho hb hg hat
                                            rw [← Ny121.out] at ho
                                            have n0_ := Aside0.mk (Kd.N_afterv (ok := (fun k_ => (w.heap.size ≤ k_) ∧ some k_ ≠ (.slice Ao31 t103.length co31 : Value).ownBlock ∧ some k_ ≠ (.slice Ao30 t106.length co30 : Value).ownBlock ∧ k_ ≠ gb101 ∧ k_ ≠ gb109)) (by (with_reducible repeat (first | apply Kd.N_alloc | apply Kd.N_drewN | apply Kd.N_drew)); exact HO_7.out) hg hat)
                                            have n1_ := Aside0.mk (Kd.R_over' (by (with_reducible repeat (first | apply Kd.R_alloc | apply Kd.R_drewN | apply Kd.R_drew)); exact HO_110000.out) (Kd.N_typed (by (with_reducible repeat (first | apply Kd.N_alloc | apply Kd.N_drewN | apply Kd.N_drew)); exact HO115.out)) (by decide) hg)
                                            have n2_ := Aside0.mk (Kd.R_over' (by (with_reducible repeat (first | apply Kd.R_alloc | apply Kd.R_drewN | apply Kd.R_drew)); exact HO_110001.out) (Kd.N_typed (by (with_reducible repeat (first | apply Kd.N_alloc | apply Kd.N_drewN | apply Kd.N_drew)); exact HO115.out)) (by decide) hg)
                                            have n3_ := Aside0.mk (blk_grown (g := gb101) (o := .cells #[.slice A0_0 l0_0.length c0_0, .slice A0_1 l0_1.length c0_1] 25 (0, 0)) (by (with_reducible repeat (first | refine blk_drewN ?_ _ | refine blk_drew ?_ | refine blk_alloc ?_ _)); exact BK101.out) hg (Kd.N_ne HO115.out BK101.out (by decide)))
                                            have n4_ := Aside0.mk (blk_grown (g := gb109) (o := .cells #[.slice Ao31 t103.length co31, .slice Ao30 t106.length co30] 27 (0, 0)) (by (with_reducible repeat (first | refine blk_drewN ?_ _ | refine blk_drew ?_ | refine blk_alloc ?_ _)); exact BK109.out) hg (Kd.N_away HO115.out (fun _ hk => hk.2.2.2.2.2)))
                                            have n5_ := Aside0.mk (Kd.V_afterv (ok := (fun k_ => (w.heap.size ≤ k_) ∧ some k_ ≠ (.slice Ao31 t103.length co31 : Value).ownBlock ∧ some k_ ≠ (.slice Ao30 t106.length co30 : Value).ownBlock ∧ k_ ≠ gb101 ∧ k_ ≠ gb109)) (by (with_reducible repeat (first | apply Kd.V_alloc | apply Kd.V_drewN | apply Kd.V_drew)); exact HO120.out) hg hat)
                                            have n6_ := Aside0.mk (Kd.V_afterv (ok := (fun k_ => (w.heap.size ≤ k_) ∧ some k_ ≠ (.slice Ao31 t103.length co31 : Value).ownBlock ∧ some k_ ≠ (.slice Ao30 t106.length co30 : Value).ownBlock ∧ k_ ≠ gb101 ∧ k_ ≠ gb109)) (by (with_reducible repeat (first | apply Kd.V_alloc | apply Kd.V_drewN | apply Kd.V_drew)); exact HO134.out) hg hat)
                                            have n7_ := Aside0.mk (hb)
                                            have n8_ := Aside0.mk (ho)
                                            clear HO_7
                                            clear HO_110000
                                            clear HO_110001
                                            clear BK101
                                            clear BK109
                                            clear HO120
                                            clear HO134
                                            clear HB
                                            clear HO115
                                            have HO_7 := n0_
                                            have HO_110000 := n1_
                                            have HO_110001 := n2_
                                            have BK101 := n3_
                                            have BK109 := n4_
                                            have HO120 := n5_
                                            have HO134 := n6_
                                            have HB := n7_
                                            have HO123 := n8_
                                            clear n0_ n1_ n2_ n3_ n4_ n5_ n6_ n7_ n8_
                                            clear ho hb hg hat
                                            refine hK.out _ _ ⟨(blk_cell BK109.out 0).trans rfl, (blk_cell BK109.out 1).trans rfl⟩ (fun hHeld => ?_)
                                            clear hK K
                                            refine norm_ (a' := ?_) ?_ ?_
                                            rotate_left
                                            · show Act.put _ (some 66) _ = _
                                              simp only [Act.put, List.setIfInBounds_toArray, List.set_cons_zero, List.set_cons_succ, i64_w, i32_w]
                                              rfl
                                            refine one_ (i := 6) (N := some 68) #[true, true, true, true, true, true, true, false, true, true, true, false, false] rfl rfl (one_of HT_.out (by kernel_rfl)) (by decide) (fun K hK => ?_)
                                            refine Kd.N_lit_step k27 _ 27 ?hg (N' := 68) ?hd (xs := ([(⟨t103, t106⟩ : S27)] : List (S27))) (inner := [.slice Ao31 t103.length co31, .slice Ao30 t106.length co30]) (ok := (fun k_ => (w.heap.size ≤ k_) ∧ some k_ ≠ (.slice Ao57 x7_1.length co57 : Value).ownBlock ∧ some k_ ≠ (v122 : Value).ownBlock ∧ k_ ≠ gb101 ∧ k_ ≠ gb109)) (okp := (fun k_ => (w.heap.size ≤ k_) ∧ some k_ ≠ (.slice Ao57 x7_1.length co57 : Value).ownBlock ∧ some k_ ≠ (v122 : Value).ownBlock ∧ k_ ≠ gb101 ∧ k_ ≠ gb109)) ?hr ?hp (fun _ hk => hk) ((show ∀ k_, w61.heap.size ≤ k_ → (fun k_ => (w.heap.size ≤ k_) ∧ some k_ ≠ (.slice Ao57 x7_1.length co57 : Value).ownBlock ∧ some k_ ≠ (v122 : Value).ownBlock ∧ k_ ≠ gb101 ∧ k_ ≠ gb109) k_ from fun k_ hk => ⟨(Nat.le_trans (below_size (by repeat (first | (with_reducible first | exact HB.out | apply below_alloc | apply pw_below_drewN | apply below_drew1 | refine below_set ?_ GE101.out | refine below_set ?_ GE109.out) | exact HB.out))) hk), Kd.fresh' (Kd.N_lt (by (with_reducible repeat (first | apply Kd.N_alloc | apply Kd.N_drewN | apply Kd.N_drew)); exact HO_7.out)) k_ hk, Kd.fresh' (Kd.N_lt (by (with_reducible repeat (first | apply Kd.N_alloc | apply Kd.N_drewN | apply Kd.N_drew)); exact HO123.out)) k_ hk, Kd.freshB (g := gb101) (o := .cells #[.slice A0_0 l0_0.length c0_0, .slice A0_1 l0_1.length c0_1] 25 (0, 0)) (by (with_reducible repeat (first | refine blk_drewN ?_ _ | refine blk_drew ?_ | refine blk_alloc ?_ _)); exact BK101.out) k_ hk, Kd.freshB (g := gb109) (o := .cells #[.slice Ao31 t103.length co31, .slice Ao30 t106.length co30] 27 (0, 0)) (by (with_reducible repeat (first | refine blk_drewN ?_ _ | refine blk_drew ?_ | refine blk_alloc ?_ _)); exact BK109.out) k_ hk⟩) _ (Nat.le_refl _)) (Below.refl _ _) (Nat.le_refl _) (by simp) ?_; (case hd => rfl); (case hg => rfl); (case hr => first | (go_simp; done) | (go_simp; rfl)); (case hp => exact (Reps.c2 (show Kd.FK k27 _ _ (⟨t103, t106⟩ : S27) [.slice Ao31 t103.length co31, .slice Ao30 t106.length co30] from (k27_mkF _ _ (⟨t103, t106⟩ : S27) (Kd.R_reads' (Kd.R_mono (ok' := (fun k_ => (w.heap.size ≤ k_) ∧ some k_ ≠ (.slice Ao57 x7_1.length co57 : Value).ownBlock ∧ some k_ ≠ (v122 : Value).ownBlock ∧ k_ ≠ gb101 ∧ k_ ≠ gb109)) (Kd.R_types (Kd.R_types (Kd.R_apart' (Kd.R_apart' (HO_110000.out) (Kd.N_typed HO_7.out) (by decide)) (Kd.N_typed HO123.out) (by decide)) BK101.out (by decide)) BK109.out (by decide)) (fun k_ hk => ⟨hk.1.1.1.1.1, ⟨hk.1.1.1.2, ⟨hk.1.1.2, ⟨hk.1.2, hk.2⟩⟩⟩⟩))).2.1 (Kd.R_F (Kd.R_mono (ok' := (fun k_ => (w.heap.size ≤ k_) ∧ some k_ ≠ (.slice Ao57 x7_1.length co57 : Value).ownBlock ∧ some k_ ≠ (v122 : Value).ownBlock ∧ k_ ≠ gb101 ∧ k_ ≠ gb109)) (Kd.R_types (Kd.R_types (Kd.R_apart' (Kd.R_apart' (HO_110000.out) (Kd.N_typed HO_7.out) (by decide)) (Kd.N_typed HO123.out) (by decide)) BK101.out (by decide)) BK109.out (by decide)) (fun k_ hk => ⟨hk.1.1.1.1.1, ⟨hk.1.1.1.2, ⟨hk.1.1.2, ⟨hk.1.2, hk.2⟩⟩⟩⟩))) (Kd.R_reads' (Kd.R_mono (ok' := (fun k_ => (w.heap.size ≤ k_) ∧ some k_ ≠ (.slice Ao57 x7_1.length co57 : Value).ownBlock ∧ some k_ ≠ (v122 : Value).ownBlock ∧ k_ ≠ gb101 ∧ k_ ≠ gb109)) (Kd.R_types (Kd.R_types (Kd.R_apart' (Kd.R_apart' (HO_110001.out) (Kd.N_typed HO_7.out) (by decide)) (Kd.N_typed HO123.out) (by decide)) BK101.out (by decide)) BK109.out (by decide)) (fun k_ hk => ⟨hk.1.1.1.1.1, ⟨hk.1.1.1.2, ⟨hk.1.1.2, ⟨hk.1.2, hk.2⟩⟩⟩⟩))).2.1 (Kd.R_F (Kd.R_mono (ok' := (fun k_ => (w.heap.size ≤ k_) ∧ some k_ ≠ (.slice Ao57 x7_1.length co57 : Value).ownBlock ∧ some k_ ≠ (v122 : Value).ownBlock ∧ k_ ≠ gb101 ∧ k_ ≠ gb109)) (Kd.R_types (Kd.R_types (Kd.R_apart' (Kd.R_apart' (HO_110001.out) (Kd.N_typed HO_7.out) (by decide)) (Kd.N_typed HO123.out) (by decide)) BK101.out (by decide)) BK109.out (by decide)) (fun k_ hk => ⟨hk.1.1.1.1.1, ⟨hk.1.1.1.2, ⟨hk.1.1.2, ⟨hk.1.2, hk.2⟩⟩⟩⟩))))) (Reps.none _ _)))
                                            intro v125 w62 ho63 hb hg_ hnew_
                                            clear hg_ hnew_
                                            (first | rw [← Ny124.out] at ho63 | (simp only [Int.reduceToNat] at ho63; rw [← Ny124.out] at ho63))
                                            have n0_ := Aside0.mk (Kd.N_elder' (by (with_reducible repeat (first | apply Kd.N_alloc | apply Kd.N_drewN | apply Kd.N_drew)); exact HO_7.out) (Kd.N_base ho63) hb)
                                            have n1_ := Aside0.mk (Kd.V_elder' (by (with_reducible repeat (first | apply Kd.V_alloc | apply Kd.V_drewN | apply Kd.V_drew)); exact HO120.out) (Kd.N_base ho63) hb)
                                            have n2_ := Aside0.mk (Kd.V_elder' (by (with_reducible repeat (first | apply Kd.V_alloc | apply Kd.V_drewN | apply Kd.V_drew)); exact HO134.out) (Kd.N_base ho63) hb)
                                            have n3_ := Aside0.mk (Kd.N_elder' (by (with_reducible repeat (first | apply Kd.N_alloc | apply Kd.N_drewN | apply Kd.N_drew)); exact HO123.out) (Kd.N_base ho63) hb)
                                            have n4_ := Aside0.mk (Kd.N_lower ho63 (below_size (by repeat (first | (with_reducible first | exact HB.out | apply below_alloc | apply pw_below_drewN | apply below_drew1 | refine below_set ?_ GE101.out | refine below_set ?_ GE109.out) | exact HB.out))))
                                            have n5_ := Aside0.mk (blk_below (g := gb101) (o := .cells #[.slice A0_0 l0_0.length c0_0, .slice A0_1 l0_1.length c0_1] 25 (0, 0)) (by (with_reducible repeat (first | refine blk_drewN ?_ _ | refine blk_drew ?_ | refine blk_alloc ?_ _)); exact BK101.out) hb)
                                            have n6_ := Aside0.mk (blk_below (g := gb109) (o := .cells #[.slice Ao31 t103.length co31, .slice Ao30 t106.length co30] 27 (0, 0)) (by (with_reducible repeat (first | refine blk_drewN ?_ _ | refine blk_drew ?_ | refine blk_alloc ?_ _)); exact BK109.out) hb)
                                            have n7_ := Aside0.mk (below_step (by repeat (first | (with_reducible first | exact HB.out | apply below_alloc | apply pw_below_drewN | apply below_drew1 | refine below_set ?_ GE101.out | refine below_set ?_ GE109.out) | exact HB.out)) hb)
                                            clear HO_7
                                            clear HO120
                                            clear HO134
                                            clear HO123
                                            clear BK101
                                            clear BK109
                                            clear HB
                                            clear HO_110000
                                            clear HO_110001
                                            have HO_7 := n0_
                                            have HO120 := n1_
                                            have HO134 := n2_
                                            have HO123 := n3_
                                            have HO126 := n4_
                                            have BK101 := n5_
                                            have BK109 := n6_
                                            have HB := n7_
                                            clear n0_ n1_ n2_ n3_ n4_ n5_ n6_ n7_
                                            clear hb ho63
                                            refine hK.out _ _ ⟨(blk_cell BK109.out 0).trans rfl, (blk_cell BK109.out 1).trans rfl⟩ (fun hHeld => ?_)
                                            clear hK K
                                            refine norm_ (a' := ?_) ?_ ?_
                                            rotate_left
                                            · show Act.put _ (some 68) _ = _
                                              simp only [Act.put, List.setIfInBounds_toArray, List.set_cons_zero, List.set_cons_succ, i64_w, i32_w]
                                              rfl
                                            exact norm_ (by simp only [putAll, Act.put, List.setIfInBounds_toArray, List.set_cons_zero, List.set_cons_succ]) (hCont (v114, v122, v125) _ ⟨hHeld, (by (with_reducible repeat (first | apply Kd.V_alloc | apply Kd.V_drewN | apply Kd.V_drew)); exact Kd.V_mono HO120.out (fun _ hk => ⟨hk.1.1.1, ⟨hk.1.2, ⟨hk.2, ⟨hk.1.1.2.2.2.1, hk.1.1.2.2.2.2⟩⟩⟩⟩)), (by (with_reducible repeat (first | apply Kd.N_alloc | apply Kd.N_drewN | apply Kd.N_drew)); exact Kd.N_mono HO123.out (fun _ hk => ⟨hk.1.1, ⟨hk.2, ⟨hk.1.2.2.2.1, hk.1.2.2.2.2⟩⟩⟩)), (by (with_reducible repeat (first | apply Kd.N_alloc | apply Kd.N_drewN | apply Kd.N_drew)); exact Kd.N_mono HO126.out (fun _ hk => ⟨hk.1, ⟨hk.2.2.1, ⟨hk.2.1, ⟨hk.2.2.2.1, hk.2.2.2.2⟩⟩⟩⟩)), (by (with_reducible repeat (first | apply Kd.V_alloc | apply Kd.V_drewN | apply Kd.V_drew)); exact Kd.V_mono HO134.out (fun _ hk => ⟨hk.1.1.1, ⟨hk.1.2, ⟨hk.2, ⟨hk.1.1.2.2.2.1, hk.1.1.2.2.2.2⟩⟩⟩⟩)), (by (with_reducible repeat (first | apply Kd.N_alloc | apply Kd.N_drewN | apply Kd.N_drew)); exact Kd.N_mono HO_7.out (fun _ hk => ⟨hk.1.1.1, ⟨hk.1.2, ⟨hk.2, ⟨hk.1.1.2.2.2.1, hk.1.1.2.2.2.2⟩⟩⟩⟩)), (by (with_reducible repeat (first | refine blk_drewN ?_ _ | refine blk_drew ?_ | refine blk_alloc ?_ _)); exact BK101.out), (by (with_reducible repeat (first | refine blk_drewN ?_ _ | refine blk_drew ?_ | refine blk_alloc ?_ _)); exact BK109.out), (by repeat (first | (with_reducible first | exact HB.out | apply below_alloc | apply pw_below_drewN | apply below_drew1 | refine below_set ?_ GE101.out | refine below_set ?_ GE109.out) | exact HB.out))⟩)
                                          · skip
                                            refine Kd.N_lit_step k27 _ 27 ?hg (N' := 68) ?hd (xs := ([(⟨t103, t106⟩ : S27)] : List (S27))) (inner := [.slice Ao31 t103.length co31, .slice Ao30 t106.length co30]) (ok := (fun k_ => (w.heap.size ≤ k_) ∧ some k_ ≠ (.slice Ao57 x7_1.length co57 : Value).ownBlock ∧ some k_ ≠ (v114 : Value).ownBlock ∧ k_ ≠ gb101 ∧ k_ ≠ gb109)) (okp := (fun k_ => (w.heap.size ≤ k_) ∧ some k_ ≠ (.slice Ao57 x7_1.length co57 : Value).ownBlock ∧ some k_ ≠ (v114 : Value).ownBlock ∧ k_ ≠ gb101 ∧ k_ ≠ gb109)) ?hr ?hp (fun _ hk => hk) ((show ∀ k_, w59.heap.size ≤ k_ → (fun k_ => (w.heap.size ≤ k_) ∧ some k_ ≠ (.slice Ao57 x7_1.length co57 : Value).ownBlock ∧ some k_ ≠ (v114 : Value).ownBlock ∧ k_ ≠ gb101 ∧ k_ ≠ gb109) k_ from fun k_ hk => ⟨(Nat.le_trans (below_size (by repeat (first | (with_reducible first | exact HB.out | apply below_alloc | apply pw_below_drewN | apply below_drew1 | refine below_set ?_ GE101.out | refine below_set ?_ GE109.out) | exact HB.out))) hk), Kd.fresh' (Kd.N_lt (by (with_reducible repeat (first | apply Kd.N_alloc | apply Kd.N_drewN | apply Kd.N_drew)); exact HO_7.out)) k_ hk, Kd.fresh' (Kd.N_lt (by (with_reducible repeat (first | apply Kd.N_alloc | apply Kd.N_drewN | apply Kd.N_drew)); exact HO115.out)) k_ hk, Kd.freshB (g := gb101) (o := .cells #[.slice A0_0 l0_0.length c0_0, .slice A0_1 l0_1.length c0_1] 25 (0, 0)) (by (with_reducible repeat (first | refine blk_drewN ?_ _ | refine blk_drew ?_ | refine blk_alloc ?_ _)); exact BK101.out) k_ hk, Kd.freshB (g := gb109) (o := .cells #[.slice Ao31 t103.length co31, .slice Ao30 t106.length co30] 27 (0, 0)) (by (with_reducible repeat (first | refine blk_drewN ?_ _ | refine blk_drew ?_ | refine blk_alloc ?_ _)); exact BK109.out) k_ hk⟩) _ (Nat.le_refl _)) (Below.refl _ _) (Nat.le_refl _) (by simp) ?_; (case hd => rfl); (case hg => rfl); (case hr => first | (go_simp; done) | (go_simp; rfl)); (case hp => exact (Reps.c2 (show Kd.FK k27 _ _ (⟨t103, t106⟩ : S27) [.slice Ao31 t103.length co31, .slice Ao30 t106.length co30] from (k27_mkF _ _ (⟨t103, t106⟩ : S27) (Kd.R_reads' (Kd.R_mono (ok' := (fun k_ => (w.heap.size ≤ k_) ∧ some k_ ≠ (.slice Ao57 x7_1.length co57 : Value).ownBlock ∧ some k_ ≠ (v114 : Value).ownBlock ∧ k_ ≠ gb101 ∧ k_ ≠ gb109)) (Kd.R_types (Kd.R_types (Kd.R_apart' (Kd.R_apart' (HO_110000.out) (Kd.N_typed HO_7.out) (by decide)) (Kd.N_typed HO115.out) (by decide)) BK101.out (by decide)) BK109.out (by decide)) (fun k_ hk => ⟨hk.1.1.1.1.1, ⟨hk.1.1.1.2, ⟨hk.1.1.2, ⟨hk.1.2, hk.2⟩⟩⟩⟩))).2.1 (Kd.R_F (Kd.R_mono (ok' := (fun k_ => (w.heap.size ≤ k_) ∧ some k_ ≠ (.slice Ao57 x7_1.length co57 : Value).ownBlock ∧ some k_ ≠ (v114 : Value).ownBlock ∧ k_ ≠ gb101 ∧ k_ ≠ gb109)) (Kd.R_types (Kd.R_types (Kd.R_apart' (Kd.R_apart' (HO_110000.out) (Kd.N_typed HO_7.out) (by decide)) (Kd.N_typed HO115.out) (by decide)) BK101.out (by decide)) BK109.out (by decide)) (fun k_ hk => ⟨hk.1.1.1.1.1, ⟨hk.1.1.1.2, ⟨hk.1.1.2, ⟨hk.1.2, hk.2⟩⟩⟩⟩))) (Kd.R_reads' (Kd.R_mono (ok' := (fun k_ => (w.heap.size ≤ k_) ∧ some k_ ≠ (.slice Ao57 x7_1.length co57 : Value).ownBlock ∧ some k_ ≠ (v114 : Value).ownBlock ∧ k_ ≠ gb101 ∧ k_ ≠ gb109)) (Kd.R_types (Kd.R_types (Kd.R_apart' (Kd.R_apart' (HO_110001.out) (Kd.N_typed HO_7.out) (by decide)) (Kd.N_typed HO115.out) (by decide)) BK101.out (by decide)) BK109.out (by decide)) (fun k_ hk => ⟨hk.1.1.1.1.1, ⟨hk.1.1.1.2, ⟨hk.1.1.2, ⟨hk.1.2, hk.2⟩⟩⟩⟩))).2.1 (Kd.R_F (Kd.R_mono (ok' := (fun k_ => (w.heap.size ≤ k_) ∧ some k_ ≠ (.slice Ao57 x7_1.length co57 : Value).ownBlock ∧ some k_ ≠ (v114 : Value).ownBlock ∧ k_ ≠ gb101 ∧ k_ ≠ gb109)) (Kd.R_types (Kd.R_types (Kd.R_apart' (Kd.R_apart' (HO_110001.out) (Kd.N_typed HO_7.out) (by decide)) (Kd.N_typed HO115.out) (by decide)) BK101.out (by decide)) BK109.out (by decide)) (fun k_ hk => ⟨hk.1.1.1.1.1, ⟨hk.1.1.1.2, ⟨hk.1.1.2, ⟨hk.1.2, hk.2⟩⟩⟩⟩))))) (Reps.none _ _)))
                                            intro v125 w61 ho62 hb hg_ hnew_
                                            clear hg_ hnew_
                                            (first | rw [← Ny124.out] at ho62 | (simp only [Int.reduceToNat] at ho62; rw [← Ny124.out] at ho62))
                                            have n0_ := Aside0.mk (Kd.N_elder' (by (with_reducible repeat (first | apply Kd.N_alloc | apply Kd.N_drewN | apply Kd.N_drew)); exact HO_7.out) (Kd.N_base ho62) hb)
                                            have n1_ := Aside0.mk (Kd.V_elder' (by (with_reducible repeat (first | apply Kd.V_alloc | apply Kd.V_drewN | apply Kd.V_drew)); exact HO120.out) (Kd.N_base ho62) hb)
                                            have n2_ := Aside0.mk (Kd.V_elder' (by (with_reducible repeat (first | apply Kd.V_alloc | apply Kd.V_drewN | apply Kd.V_drew)); exact HO134.out) (Kd.N_base ho62) hb)
                                            have n3_ := Aside0.mk (Kd.N_elder' (by (with_reducible repeat (first | apply Kd.N_alloc | apply Kd.N_drewN | apply Kd.N_drew)); exact HO115.out) (Kd.N_base ho62) hb)
                                            have n4_ := Aside0.mk (Kd.N_lower ho62 (below_size (by repeat (first | (with_reducible first | exact HB.out | apply below_alloc | apply pw_below_drewN | apply below_drew1 | refine below_set ?_ GE101.out | refine below_set ?_ GE109.out) | exact HB.out))))
                                            have n5_ := Aside0.mk (blk_below (g := gb101) (o := .cells #[.slice A0_0 l0_0.length c0_0, .slice A0_1 l0_1.length c0_1] 25 (0, 0)) (by (with_reducible repeat (first | refine blk_drewN ?_ _ | refine blk_drew ?_ | refine blk_alloc ?_ _)); exact BK101.out) hb)
                                            have n6_ := Aside0.mk (blk_below (g := gb109) (o := .cells #[.slice Ao31 t103.length co31, .slice Ao30 t106.length co30] 27 (0, 0)) (by (with_reducible repeat (first | refine blk_drewN ?_ _ | refine blk_drew ?_ | refine blk_alloc ?_ _)); exact BK109.out) hb)
                                            have n7_ := Aside0.mk (below_step (by repeat (first | (with_reducible first | exact HB.out | apply below_alloc | apply pw_below_drewN | apply below_drew1 | refine below_set ?_ GE101.out | refine below_set ?_ GE109.out) | exact HB.out)) hb)
                                            clear HO_7
                                            clear HO120
                                            clear HO134
                                            clear HO115
                                            clear BK101
                                            clear BK109
                                            clear HB
                                            clear HO_110000
                                            clear HO_110001
                                            have HO_7 := n0_
                                            have HO120 := n1_
                                            have HO134 := n2_
                                            have HO115 := n3_
                                            have HO126 := n4_
                                            have BK101 := n5_
                                            have BK109 := n6_
                                            have HB := n7_
                                            clear n0_ n1_ n2_ n3_ n4_ n5_ n6_ n7_
                                            clear hb ho62
                                            refine hK.out _ _ ⟨(blk_cell BK109.out 0).trans rfl, (blk_cell BK109.out 1).trans rfl⟩ (fun hHeld => ?_)
                                            clear hK K
                                            refine norm_ (a' := ?_) ?_ ?_
                                            rotate_left
                                            · show Act.put _ (some 68) _ = _
                                              simp only [Act.put, List.setIfInBounds_toArray, List.set_cons_zero, List.set_cons_succ, i64_w, i32_w]
                                              rfl
                                            refine one_ (i := 4) (N := some 66) #[true, true, true, true, true, true, true, false, true, true, true, false, false] rfl rfl (one_of HT_.out (by kernel_rfl)) (by decide) (fun K hK => ?_)
                                            refine Kd.N_append_rows_step k27 (w0 := w) w.heap.size (by rfl) (.tmp 62) (.tmp 65) 42 27 (.agg #[(.slice none 0 0), (.slice none 0 0)]) 48 rfl Try.underlying42 info27 rfl (by decide) (by omega) v114 y113 y116 _ _ _ (fun k_ => (w.heap.size ≤ k_) ∧ some k_ ≠ (v125 : Value).ownBlock ∧ k_ ≠ gb101 ∧ k_ ≠ gb109) (fun k_ => ((fun k_ => (w.heap.size ≤ k_) ∧ some k_ ≠ (v125 : Value).ownBlock ∧ k_ ≠ gb101 ∧ k_ ≠ gb109)) k_ ∧ some k_ ≠ (v114 : Value).ownBlock) rfl rfl ?aO ?aR (fun _ hk => hk) ?aF ?aB ?aS ?aL ?_
                                            (case aR => exact (by skip; exact Kd.V_F (Kd.V_mono (ok' := (fun k_ => ((fun k_ => (w.heap.size ≤ k_) ∧ some k_ ≠ (v125 : Value).ownBlock ∧ k_ ≠ gb101 ∧ k_ ≠ gb109)) k_ ∧ some k_ ≠ (v114 : Value).ownBlock)) (HO120.out) (fun k_ hk => ⟨⟨hk.1.1.1, ⟨hk.2, ⟨hk.1.1.2.2.2.1, hk.1.1.2.2.2.2⟩⟩⟩, hk.1.2⟩))))
                                            (case aB => exact (by repeat (first | (with_reducible first | exact HB.out | apply below_alloc | apply pw_below_drewN | apply below_drew1 | refine below_set ?_ GE101.out | refine below_set ?_ GE109.out) | exact HB.out)))
                                            (case aF => exact (fun k_ hk => ⟨(Nat.le_trans (below_size (by repeat (first | (with_reducible first | exact HB.out | apply below_alloc | apply pw_below_drewN | apply below_drew1 | refine below_set ?_ GE101.out | refine below_set ?_ GE109.out) | exact HB.out))) hk), Kd.fresh' (Kd.N_lt (by (with_reducible repeat (first | apply Kd.N_alloc | apply Kd.N_drewN | apply Kd.N_drew)); exact HO126.out)) k_ hk, Kd.freshB (g := gb101) (o := .cells #[.slice A0_0 l0_0.length c0_0, .slice A0_1 l0_1.length c0_1] 25 (0, 0)) (by (with_reducible repeat (first | refine blk_drewN ?_ _ | refine blk_drew ?_ | refine blk_alloc ?_ _)); exact BK101.out) k_ hk, Kd.freshB (g := gb109) (o := .cells #[.slice Ao31 t103.length co31, .slice Ao30 t106.length co30] 27 (0, 0)) (by (with_reducible repeat (first | refine blk_drewN ?_ _ | refine blk_drew ?_ | refine blk_alloc ?_ _)); exact BK109.out) k_ hk⟩))
                                            (case aO => exact (by (with_reducible repeat (first | apply Kd.N_alloc | apply Kd.N_drewN | apply Kd.N_drew)); exact Kd.N_mono HO115.out (fun _ hk => ⟨hk.1.1, ⟨hk.2, ⟨hk.1.2.2.2.2.1, hk.1.2.2.2.2.2⟩⟩⟩)))
                                            (case aS => exact (below_size (by repeat (first | (with_reducible first | exact HB.out | apply below_alloc | apply pw_below_drewN | apply below_drew1 | refine below_set ?_ GE101.out | refine below_set ?_ GE109.out) | exact HB.out))))
                                            (case aL => have := LMc50.out; omega)
                                            intro v122 w63 ho hb hg hat
                                            rw [← Ny121.out] at ho
                                            have n0_ := Aside0.mk (Kd.N_afterv (ok := (fun k_ => (w.heap.size ≤ k_) ∧ some k_ ≠ (v125 : Value).ownBlock ∧ k_ ≠ gb101 ∧ k_ ≠ gb109)) (by (with_reducible repeat (first | apply Kd.N_alloc | apply Kd.N_drewN | apply Kd.N_drew)); exact Kd.N_mono HO_7.out (fun _ hk => ⟨⟨hk.1.1.1, ⟨hk.2, ⟨hk.1.1.2.2.2.1, hk.1.1.2.2.2.2⟩⟩⟩, hk.1.2⟩)) hg hat)
                                            have n1_ := Aside0.mk (blk_grown (g := gb101) (o := .cells #[.slice A0_0 l0_0.length c0_0, .slice A0_1 l0_1.length c0_1] 25 (0, 0)) (by (with_reducible repeat (first | refine blk_drewN ?_ _ | refine blk_drew ?_ | refine blk_alloc ?_ _)); exact BK101.out) hg (Kd.N_ne HO115.out BK101.out (by decide)))
                                            have n2_ := Aside0.mk (blk_grown (g := gb109) (o := .cells #[.slice Ao31 t103.length co31, .slice Ao30 t106.length co30] 27 (0, 0)) (by (with_reducible repeat (first | refine blk_drewN ?_ _ | refine blk_drew ?_ | refine blk_alloc ?_ _)); exact BK109.out) hg (Kd.N_away HO115.out (fun _ hk => hk.1.2.2.2.2.2)))
                                            have n3_ := Aside0.mk (Kd.V_afterv (ok := (fun k_ => (w.heap.size ≤ k_) ∧ some k_ ≠ (v125 : Value).ownBlock ∧ k_ ≠ gb101 ∧ k_ ≠ gb109)) (by (with_reducible repeat (first | apply Kd.V_alloc | apply Kd.V_drewN | apply Kd.V_drew)); exact Kd.V_mono HO120.out (fun _ hk => ⟨⟨hk.1.1.1, ⟨hk.2, ⟨hk.1.1.2.2.2.1, hk.1.1.2.2.2.2⟩⟩⟩, hk.1.2⟩)) hg hat)
                                            have n4_ := Aside0.mk (Kd.V_afterv (ok := (fun k_ => (w.heap.size ≤ k_) ∧ some k_ ≠ (v125 : Value).ownBlock ∧ k_ ≠ gb101 ∧ k_ ≠ gb109)) (by (with_reducible repeat (first | apply Kd.V_alloc | apply Kd.V_drewN | apply Kd.V_drew)); exact Kd.V_mono HO134.out (fun _ hk => ⟨⟨hk.1.1.1, ⟨hk.2, ⟨hk.1.1.2.2.2.1, hk.1.1.2.2.2.2⟩⟩⟩, hk.1.2⟩)) hg hat)
                                            have n5_ := Aside0.mk (Kd.N_afterv (ok := (fun k_ => (w.heap.size ≤ k_) ∧ some k_ ≠ (.slice Ao57 x7_1.length co57 : Value).ownBlock ∧ k_ ≠ gb101 ∧ k_ ≠ gb109)) (by (with_reducible repeat (first | apply Kd.N_alloc | apply Kd.N_drewN | apply Kd.N_drew)); exact Kd.N_mono HO126.out (fun _ hk => ⟨⟨hk.1, ⟨hk.2.1, ⟨hk.2.2.2.1, hk.2.2.2.2⟩⟩⟩, hk.2.2.1⟩)) hg hat)
                                            have n6_ := Aside0.mk (hb)
                                            have n7_ := Aside0.mk (ho)
                                            clear HO_7
                                            clear BK101
                                            clear BK109
                                            clear HO120
                                            clear HO134
                                            clear HO126
                                            clear HB
                                            clear HO115
                                            have HO_7 := n0_
                                            have BK101 := n1_
                                            have BK109 := n2_
                                            have HO120 := n3_
                                            have HO134 := n4_
                                            have HO126 := n5_
                                            have HB := n6_
                                            have HO123 := n7_
                                            clear n0_ n1_ n2_ n3_ n4_ n5_ n6_ n7_
                                            clear ho hb hg hat
                                            refine hK.out _ _ ⟨(blk_cell BK109.out 0).trans rfl, (blk_cell BK109.out 1).trans rfl⟩ (fun hHeld => ?_)
                                            clear hK K
                                            refine norm_ (a' := ?_) ?_ ?_
                                            rotate_left
                                            · show Act.put _ (some 66) _ = _
                                              simp only [Act.put, List.setIfInBounds_toArray, List.set_cons_zero, List.set_cons_succ, i64_w, i32_w]
                                              rfl
                                            exact norm_ (by simp only [putAll, Act.put, List.setIfInBounds_toArray, List.set_cons_zero, List.set_cons_succ]) (hCont (v114, v122, v125) _ ⟨hHeld, (by (with_reducible repeat (first | apply Kd.V_alloc | apply Kd.V_drewN | apply Kd.V_drew)); exact Kd.V_mono HO120.out (fun _ hk => ⟨hk.1.1, ⟨hk.2, ⟨hk.1.2.1, ⟨hk.1.2.2.1, hk.1.2.2.2⟩⟩⟩⟩)), (by (with_reducible repeat (first | apply Kd.N_alloc | apply Kd.N_drewN | apply Kd.N_drew)); exact HO123.out), (by (with_reducible repeat (first | apply Kd.N_alloc | apply Kd.N_drewN | apply Kd.N_drew)); exact Kd.N_mono HO126.out (fun _ hk => ⟨hk.1.1, ⟨hk.2, ⟨hk.1.2.1, ⟨hk.1.2.2.1, hk.1.2.2.2⟩⟩⟩⟩)), (by (with_reducible repeat (first | apply Kd.V_alloc | apply Kd.V_drewN | apply Kd.V_drew)); exact Kd.V_mono HO134.out (fun _ hk => ⟨hk.1.1, ⟨hk.2, ⟨hk.1.2.1, ⟨hk.1.2.2.1, hk.1.2.2.2⟩⟩⟩⟩)), (by (with_reducible repeat (first | apply Kd.N_alloc | apply Kd.N_drewN | apply Kd.N_drew)); exact Kd.N_mono HO_7.out (fun _ hk => ⟨hk.1.1, ⟨hk.2, ⟨hk.1.2.1, ⟨hk.1.2.2.1, hk.1.2.2.2⟩⟩⟩⟩)), (by (with_reducible repeat (first | refine blk_drewN ?_ _ | refine blk_drew ?_ | refine blk_alloc ?_ _)); exact BK101.out), (by (with_reducible repeat (first | refine blk_drewN ?_ _ | refine blk_drew ?_ | refine blk_alloc ?_ _)); exact BK109.out), (by repeat (first | (with_reducible first | exact HB.out | apply below_alloc | apply pw_below_drewN | apply below_drew1 | refine below_set ?_ GE101.out | refine below_set ?_ GE109.out) | exact HB.out))⟩)
                                        · skip
                                          refine Kd.N_lit_step k27 _ 27 ?hg (N' := 68) ?hd (xs := ([(⟨t103, t106⟩ : S27)] : List (S27))) (inner := [.slice Ao31 t103.length co31, .slice Ao30 t106.length co30]) (ok := (fun k_ => (w.heap.size ≤ k_) ∧ some k_ ≠ (.slice Ao57 x7_1.length co57 : Value).ownBlock ∧ k_ ≠ gb101 ∧ k_ ≠ gb109)) (okp := (fun k_ => (w.heap.size ≤ k_) ∧ some k_ ≠ (.slice Ao57 x7_1.length co57 : Value).ownBlock ∧ k_ ≠ gb101 ∧ k_ ≠ gb109)) ?hr ?hp (fun _ hk => hk) ((show ∀ k_, w55.heap.size ≤ k_ → (fun k_ => (w.heap.size ≤ k_) ∧ some k_ ≠ (.slice Ao57 x7_1.length co57 : Value).ownBlock ∧ k_ ≠ gb101 ∧ k_ ≠ gb109) k_ from fun k_ hk => ⟨(Nat.le_trans (below_size (by repeat (first | (with_reducible first | exact HB.out | apply below_alloc | apply pw_below_drewN | apply below_drew1 | refine below_set ?_ GE101.out | refine below_set ?_ GE109.out) | exact HB.out))) hk), Kd.fresh' (Kd.N_lt (by (with_reducible repeat (first | apply Kd.N_alloc | apply Kd.N_drewN | apply Kd.N_drew)); exact HO_7.out)) k_ hk, Kd.freshB (g := gb101) (o := .cells #[.slice A0_0 l0_0.length c0_0, .slice A0_1 l0_1.length c0_1] 25 (0, 0)) (by (with_reducible repeat (first | refine blk_drewN ?_ _ | refine blk_drew ?_ | refine blk_alloc ?_ _)); exact BK101.out) k_ hk, Kd.freshB (g := gb109) (o := .cells #[.slice Ao31 t103.length co31, .slice Ao30 t106.length co30] 27 (0, 0)) (by (with_reducible repeat (first | refine blk_drewN ?_ _ | refine blk_drew ?_ | refine blk_alloc ?_ _)); exact BK109.out) k_ hk⟩) _ (Nat.le_refl _)) (Below.refl _ _) (Nat.le_refl _) (by simp) ?_; (case hd => rfl); (case hg => rfl); (case hr => first | (go_simp; done) | (go_simp; rfl)); (case hp => exact (Reps.c2 (show Kd.FK k27 _ _ (⟨t103, t106⟩ : S27) [.slice Ao31 t103.length co31, .slice Ao30 t106.length co30] from (k27_mkF _ _ (⟨t103, t106⟩ : S27) (Kd.R_reads' (Kd.R_mono (ok' := (fun k_ => (w.heap.size ≤ k_) ∧ some k_ ≠ (.slice Ao57 x7_1.length co57 : Value).ownBlock ∧ k_ ≠ gb101 ∧ k_ ≠ gb109)) (Kd.R_types (Kd.R_types (Kd.R_apart' (HO_110000.out) (Kd.N_typed HO_7.out) (by decide)) BK101.out (by decide)) BK109.out (by decide)) (fun k_ hk => ⟨hk.1.1.1.1, ⟨hk.1.1.2, ⟨hk.1.2, hk.2⟩⟩⟩))).2.1 (Kd.R_F (Kd.R_mono (ok' := (fun k_ => (w.heap.size ≤ k_) ∧ some k_ ≠ (.slice Ao57 x7_1.length co57 : Value).ownBlock ∧ k_ ≠ gb101 ∧ k_ ≠ gb109)) (Kd.R_types (Kd.R_types (Kd.R_apart' (HO_110000.out) (Kd.N_typed HO_7.out) (by decide)) BK101.out (by decide)) BK109.out (by decide)) (fun k_ hk => ⟨hk.1.1.1.1, ⟨hk.1.1.2, ⟨hk.1.2, hk.2⟩⟩⟩))) (Kd.R_reads' (Kd.R_mono (ok' := (fun k_ => (w.heap.size ≤ k_) ∧ some k_ ≠ (.slice Ao57 x7_1.length co57 : Value).ownBlock ∧ k_ ≠ gb101 ∧ k_ ≠ gb109)) (Kd.R_types (Kd.R_types (Kd.R_apart' (HO_110001.out) (Kd.N_typed HO_7.out) (by decide)) BK101.out (by decide)) BK109.out (by decide)) (fun k_ hk => ⟨hk.1.1.1.1, ⟨hk.1.1.2, ⟨hk.1.2, hk.2⟩⟩⟩))).2.1 (Kd.R_F (Kd.R_mono (ok' := (fun k_ => (w.heap.size ≤ k_) ∧ some k_ ≠ (.slice Ao57 x7_1.length co57 : Value).ownBlock ∧ k_ ≠ gb101 ∧ k_ ≠ gb109)) (Kd.R_types (Kd.R_types (Kd.R_apart' (HO_110001.out) (Kd.N_typed HO_7.out) (by decide)) BK101.out (by decide)) BK109.out (by decide)) (fun k_ hk => ⟨hk.1.1.1.1, ⟨hk.1.1.2, ⟨hk.1.2, hk.2⟩⟩⟩))))) (Reps.none _ _)))
                                          intro v125 w59 ho60 hb hg_ hnew_
                                          clear hg_ hnew_
                                          (first | rw [← Ny124.out] at ho60 | (simp only [Int.reduceToNat] at ho60; rw [← Ny124.out] at ho60))
                                          have n0_ := Aside0.mk (Kd.N_elder' (by (with_reducible repeat (first | apply Kd.N_alloc | apply Kd.N_drewN | apply Kd.N_drew)); exact HO_7.out) (Kd.N_base ho60) hb)
                                          have n1_ := Aside0.mk (Kd.V_elder' (by (with_reducible repeat (first | apply Kd.V_alloc | apply Kd.V_drewN | apply Kd.V_drew)); exact HO120.out) (Kd.N_base ho60) hb)
                                          have n2_ := Aside0.mk (Kd.V_elder' (by (with_reducible repeat (first | apply Kd.V_alloc | apply Kd.V_drewN | apply Kd.V_drew)); exact HO134.out) (Kd.N_base ho60) hb)
                                          have n3_ := Aside0.mk (Kd.N_lower ho60 (below_size (by repeat (first | (with_reducible first | exact HB.out | apply below_alloc | apply pw_below_drewN | apply below_drew1 | refine below_set ?_ GE101.out | refine below_set ?_ GE109.out) | exact HB.out))))
                                          have n4_ := Aside0.mk (blk_below (g := gb101) (o := .cells #[.slice A0_0 l0_0.length c0_0, .slice A0_1 l0_1.length c0_1] 25 (0, 0)) (by (with_reducible repeat (first | refine blk_drewN ?_ _ | refine blk_drew ?_ | refine blk_alloc ?_ _)); exact BK101.out) hb)
                                          have n5_ := Aside0.mk (blk_below (g := gb109) (o := .cells #[.slice Ao31 t103.length co31, .slice Ao30 t106.length co30] 27 (0, 0)) (by (with_reducible repeat (first | refine blk_drewN ?_ _ | refine blk_drew ?_ | refine blk_alloc ?_ _)); exact BK109.out) hb)
                                          have n6_ := Aside0.mk (below_step (by repeat (first | (with_reducible first | exact HB.out | apply below_alloc | apply pw_below_drewN | apply below_drew1 | refine below_set ?_ GE101.out | refine below_set ?_ GE109.out) | exact HB.out)) hb)
                                          clear HO_7
                                          clear HO120
                                          clear HO134
                                          clear BK101
                                          clear BK109
                                          clear HB
                                          clear HO_110000
                                          clear HO_110001
                                          have HO_7 := n0_
                                          have HO120 := n1_
                                          have HO134 := n2_
                                          have HO126 := n3_
                                          have BK101 := n4_
                                          have BK109 := n5_
                                          have HB := n6_
                                          clear n0_ n1_ n2_ n3_ n4_ n5_ n6_
                                          clear hb ho60
                                          refine hK.out _ _ ⟨(blk_cell BK109.out 0).trans rfl, (blk_cell BK109.out 1).trans rfl⟩ (fun hHeld => ?_)
                                          clear hK K
                                          refine norm_ (a' := ?_) ?_ ?_
                                          rotate_left
                                          · show Act.put _ (some 68) _ = _
                                            simp only [Act.put, List.setIfInBounds_toArray, List.set_cons_zero, List.set_cons_succ, i64_w, i32_w]
                                            rfl
                                          refine one_ (i := 0) (N := some 62) #[true, true, true, true, false, true, true, false, true, true, true, false, false] rfl rfl (one_of HT_.out (by kernel_rfl)) (by decide) (fun K hK => ?_)
                                          refine Kd.N_lit_step k27 _ 27 ?hg (N' := 62) ?hd (xs := ([] : List (S27))) (inner := []) (ok := (fun k_ => (w.heap.size ≤ k_) ∧ some k_ ≠ (.slice Ao57 x7_1.length co57 : Value).ownBlock ∧ some k_ ≠ (v125 : Value).ownBlock ∧ k_ ≠ gb101 ∧ k_ ≠ gb109)) (okp := (fun k_ => (w.heap.size ≤ k_) ∧ some k_ ≠ (.slice Ao57 x7_1.length co57 : Value).ownBlock ∧ some k_ ≠ (v125 : Value).ownBlock ∧ k_ ≠ gb101 ∧ k_ ≠ gb109)) ?hr ?hp (fun _ hk => hk) ((show ∀ k_, w59.heap.size ≤ k_ → (fun k_ => (w.heap.size ≤ k_) ∧ some k_ ≠ (.slice Ao57 x7_1.length co57 : Value).ownBlock ∧ some k_ ≠ (v125 : Value).ownBlock ∧ k_ ≠ gb101 ∧ k_ ≠ gb109) k_ from fun k_ hk => ⟨(Nat.le_trans (below_size (by repeat (first | (with_reducible first | exact HB.out | apply below_alloc | apply pw_below_drewN | apply below_drew1 | refine below_set ?_ GE101.out | refine below_set ?_ GE109.out) | exact HB.out))) hk), Kd.fresh' (Kd.N_lt (by (with_reducible repeat (first | apply Kd.N_alloc | apply Kd.N_drewN | apply Kd.N_drew)); exact HO_7.out)) k_ hk, Kd.fresh' (Kd.N_lt (by (with_reducible repeat (first | apply Kd.N_alloc | apply Kd.N_drewN | apply Kd.N_drew)); exact HO126.out)) k_ hk, Kd.freshB (g := gb101) (o := .cells #[.slice A0_0 l0_0.length c0_0, .slice A0_1 l0_1.length c0_1] 25 (0, 0)) (by (with_reducible repeat (first | refine blk_drewN ?_ _ | refine blk_drew ?_ | refine blk_alloc ?_ _)); exact BK101.out) k_ hk, Kd.freshB (g := gb109) (o := .cells #[.slice Ao31 t103.length co31, .slice Ao30 t106.length co30] 27 (0, 0)) (by (with_reducible repeat (first | refine blk_drewN ?_ _ | refine blk_drew ?_ | refine blk_alloc ?_ _)); exact BK109.out) k_ hk⟩) _ (Nat.le_refl _)) (Below.refl _ _) (Nat.le_refl _) (by simp) ?_; (case hd => rfl); (case hg => rfl); (case hr => first | (go_simp; done) | (go_simp; rfl)); (case hp => exact (Reps.none _ _))
                                          intro v114 w61 ho62 hb hg_ hnew_
                                          clear hg_ hnew_
                                          (first | rw [← Ny113.out] at ho62 | (simp only [Int.reduceToNat] at ho62; rw [← Ny113.out] at ho62))
                                          have n0_ := Aside0.mk (Kd.N_elder' (by (with_reducible repeat (first | apply Kd.N_alloc | apply Kd.N_drewN | apply Kd.N_drew)); exact HO_7.out) (Kd.N_base ho62) hb)
                                          have n1_ := Aside0.mk (Kd.V_elder' (by (with_reducible repeat (first | apply Kd.V_alloc | apply Kd.V_drewN | apply Kd.V_drew)); exact HO120.out) (Kd.N_base ho62) hb)
                                          have n2_ := Aside0.mk (Kd.V_elder' (by (with_reducible repeat (first | apply Kd.V_alloc | apply Kd.V_drewN | apply Kd.V_drew)); exact HO134.out) (Kd.N_base ho62) hb)
                                          have n3_ := Aside0.mk (Kd.N_elder' (by (with_reducible repeat (first | apply Kd.N_alloc | apply Kd.N_drewN | apply Kd.N_drew)); exact HO126.out) (Kd.N_base ho62) hb)
                                          have n4_ := Aside0.mk (Kd.N_lower ho62 (below_size (by repeat (first | (with_reducible first | exact HB.out | apply below_alloc | apply pw_below_drewN | apply below_drew1 | refine below_set ?_ GE101.out | refine below_set ?_ GE109.out) | exact HB.out))))
                                          have n5_ := Aside0.mk (blk_below (g := gb101) (o := .cells #[.slice A0_0 l0_0.length c0_0, .slice A0_1 l0_1.length c0_1] 25 (0, 0)) (by (with_reducible repeat (first | refine blk_drewN ?_ _ | refine blk_drew ?_ | refine blk_alloc ?_ _)); exact BK101.out) hb)
                                          have n6_ := Aside0.mk (blk_below (g := gb109) (o := .cells #[.slice Ao31 t103.length co31, .slice Ao30 t106.length co30] 27 (0, 0)) (by (with_reducible repeat (first | refine blk_drewN ?_ _ | refine blk_drew ?_ | refine blk_alloc ?_ _)); exact BK109.out) hb)
                                          have n7_ := Aside0.mk (below_step (by repeat (first | (with_reducible first | exact HB.out | apply below_alloc | apply pw_below_drewN | apply below_drew1 | refine below_set ?_ GE101.out | refine below_set ?_ GE109.out) | exact HB.out)) hb)
                                          clear HO_7
                                          clear HO120
                                          clear HO134
                                          clear HO126
                                          clear BK101
                                          clear BK109
                                          clear HB
                                          have HO_7 := n0_
                                          have HO120 := n1_
                                          have HO134 := n2_
                                          have HO126 := n3_
                                          have HO115 := n4_
                                          have BK101 := n5_
                                          have BK109 := n6_
                                          have HB := n7_
                                          clear n0_ n1_ n2_ n3_ n4_ n5_ n6_ n7_
                                          clear hb ho62
                                          refine hK.out _ _ ⟨(blk_cell BK109.out 0).trans rfl, (blk_cell BK109.out 1).trans rfl⟩ (fun hHeld => ?_)
                                          clear hK K
                                          refine norm_ (a' := ?_) ?_ ?_
                                          rotate_left
                                          · show Act.put _ (some 62) _ = _
                                            simp only [Act.put, List.setIfInBounds_toArray, List.set_cons_zero, List.set_cons_succ, i64_w, i32_w]
                                            rfl
                                          refine one_ (i := 4) (N := some 66) #[true, true, true, true, true, true, true, false, true, true, true, false, false] rfl rfl (one_of HT_.out (by kernel_rfl)) (by decide) (fun K hK => ?_)
                                          refine Kd.N_append_rows_step k27 (w0 := w) w.heap.size (by rfl) (.tmp 62) (.tmp 65) 42 27 (.agg #[(.slice none 0 0), (.slice none 0 0)]) 48 rfl Try.underlying42 info27 rfl (by decide) (by omega) v114 y113 y116 _ _ _ (fun k_ => (w.heap.size ≤ k_) ∧ some k_ ≠ (v125 : Value).ownBlock ∧ k_ ≠ gb101 ∧ k_ ≠ gb109) (fun k_ => ((fun k_ => (w.heap.size ≤ k_) ∧ some k_ ≠ (v125 : Value).ownBlock ∧ k_ ≠ gb101 ∧ k_ ≠ gb109)) k_ ∧ some k_ ≠ (v114 : Value).ownBlock) rfl rfl ?aO ?aR (fun _ hk => hk) ?aF ?aB ?aS ?aL ?_
                                          (case aR => exact (by skip; exact Kd.V_F (Kd.V_mono (ok' := (fun k_ => ((fun k_ => (w.heap.size ≤ k_) ∧ some k_ ≠ (v125 : Value).ownBlock ∧ k_ ≠ gb101 ∧ k_ ≠ gb109)) k_ ∧ some k_ ≠ (v114 : Value).ownBlock)) (HO120.out) (fun k_ hk => ⟨⟨hk.1.1.1, ⟨hk.1.2, ⟨hk.1.1.2.2.2.1, hk.1.1.2.2.2.2⟩⟩⟩, hk.2⟩))))
                                          (case aB => exact (by repeat (first | (with_reducible first | exact HB.out | apply below_alloc | apply pw_below_drewN | apply below_drew1 | refine below_set ?_ GE101.out | refine below_set ?_ GE109.out) | exact HB.out)))
                                          (case aF => exact (fun k_ hk => ⟨(Nat.le_trans (below_size (by repeat (first | (with_reducible first | exact HB.out | apply below_alloc | apply pw_below_drewN | apply below_drew1 | refine below_set ?_ GE101.out | refine below_set ?_ GE109.out) | exact HB.out))) hk), Kd.fresh' (Kd.N_lt (by (with_reducible repeat (first | apply Kd.N_alloc | apply Kd.N_drewN | apply Kd.N_drew)); exact HO126.out)) k_ hk, Kd.freshB (g := gb101) (o := .cells #[.slice A0_0 l0_0.length c0_0, .slice A0_1 l0_1.length c0_1] 25 (0, 0)) (by (with_reducible repeat (first | refine blk_drewN ?_ _ | refine blk_drew ?_ | refine blk_alloc ?_ _)); exact BK101.out) k_ hk, Kd.freshB (g := gb109) (o := .cells #[.slice Ao31 t103.length co31, .slice Ao30 t106.length co30] 27 (0, 0)) (by (with_reducible repeat (first | refine blk_drewN ?_ _ | refine blk_drew ?_ | refine blk_alloc ?_ _)); exact BK109.out) k_ hk⟩))
                                          (case aO => exact (by (with_reducible repeat (first | apply Kd.N_alloc | apply Kd.N_drewN | apply Kd.N_drew)); exact Kd.N_mono HO115.out (fun _ hk => ⟨hk.1, ⟨hk.2.2.1, ⟨hk.2.2.2.1, hk.2.2.2.2⟩⟩⟩)))
                                          (case aS => exact (below_size (by repeat (first | (with_reducible first | exact HB.out | apply below_alloc | apply pw_below_drewN | apply below_drew1 | refine below_set ?_ GE101.out | refine below_set ?_ GE109.out) | exact HB.out))))
                                          (case aL => have := LMc50.out; omega)
                                          intro v122 w63 ho hb hg hat
                                          rw [← Ny121.out] at ho
                                          have n0_ := Aside0.mk (Kd.N_afterv (ok := (fun k_ => (w.heap.size ≤ k_) ∧ some k_ ≠ (v125 : Value).ownBlock ∧ k_ ≠ gb101 ∧ k_ ≠ gb109)) (by (with_reducible repeat (first | apply Kd.N_alloc | apply Kd.N_drewN | apply Kd.N_drew)); exact Kd.N_mono HO_7.out (fun _ hk => ⟨⟨hk.1.1.1, ⟨hk.1.2, ⟨hk.1.1.2.2.2.1, hk.1.1.2.2.2.2⟩⟩⟩, hk.2⟩)) hg hat)
                                          have n1_ := Aside0.mk (blk_grown (g := gb101) (o := .cells #[.slice A0_0 l0_0.length c0_0, .slice A0_1 l0_1.length c0_1] 25 (0, 0)) (by (with_reducible repeat (first | refine blk_drewN ?_ _ | refine blk_drew ?_ | refine blk_alloc ?_ _)); exact BK101.out) hg (Kd.N_ne HO115.out BK101.out (by decide)))
                                          have n2_ := Aside0.mk (blk_grown (g := gb109) (o := .cells #[.slice Ao31 t103.length co31, .slice Ao30 t106.length co30] 27 (0, 0)) (by (with_reducible repeat (first | refine blk_drewN ?_ _ | refine blk_drew ?_ | refine blk_alloc ?_ _)); exact BK109.out) hg (Kd.N_away HO115.out (fun _ hk => hk.2.2.2.2)))
                                          have n3_ := Aside0.mk (Kd.V_afterv (ok := (fun k_ => (w.heap.size ≤ k_) ∧ some k_ ≠ (v125 : Value).ownBlock ∧ k_ ≠ gb101 ∧ k_ ≠ gb109)) (by (with_reducible repeat (first | apply Kd.V_alloc | apply Kd.V_drewN | apply Kd.V_drew)); exact Kd.V_mono HO120.out (fun _ hk => ⟨⟨hk.1.1.1, ⟨hk.1.2, ⟨hk.1.1.2.2.2.1, hk.1.1.2.2.2.2⟩⟩⟩, hk.2⟩)) hg hat)
                                          have n4_ := Aside0.mk (Kd.V_afterv (ok := (fun k_ => (w.heap.size ≤ k_) ∧ some k_ ≠ (v125 : Value).ownBlock ∧ k_ ≠ gb101 ∧ k_ ≠ gb109)) (by (with_reducible repeat (first | apply Kd.V_alloc | apply Kd.V_drewN | apply Kd.V_drew)); exact Kd.V_mono HO134.out (fun _ hk => ⟨⟨hk.1.1.1, ⟨hk.1.2, ⟨hk.1.1.2.2.2.1, hk.1.1.2.2.2.2⟩⟩⟩, hk.2⟩)) hg hat)
                                          have n5_ := Aside0.mk (Kd.N_afterv (ok := (fun k_ => (w.heap.size ≤ k_) ∧ some k_ ≠ (.slice Ao57 x7_1.length co57 : Value).ownBlock ∧ k_ ≠ gb101 ∧ k_ ≠ gb109)) (by (with_reducible repeat (first | apply Kd.N_alloc | apply Kd.N_drewN | apply Kd.N_drew)); exact HO126.out) hg hat)
                                          have n6_ := Aside0.mk (hb)
                                          have n7_ := Aside0.mk (ho)
                                          clear HO_7
                                          clear BK101
                                          clear BK109
                                          clear HO120
                                          clear HO134
                                          clear HO126
                                          clear HB
                                          clear HO115
                                          have HO_7 := n0_
                                          have BK101 := n1_
                                          have BK109 := n2_
                                          have HO120 := n3_
                                          have HO134 := n4_
                                          have HO126 := n5_
                                          have HB := n6_
                                          have HO123 := n7_
                                          clear n0_ n1_ n2_ n3_ n4_ n5_ n6_ n7_
                                          clear ho hb hg hat
                                          refine hK.out _ _ ⟨(blk_cell BK109.out 0).trans rfl, (blk_cell BK109.out 1).trans rfl⟩ (fun hHeld => ?_)
                                          clear hK K
                                          refine norm_ (a' := ?_) ?_ ?_
                                          rotate_left
                                          · show Act.put _ (some 66) _ = _
                                            simp only [Act.put, List.setIfInBounds_toArray, List.set_cons_zero, List.set_cons_succ, i64_w, i32_w]
                                            rfl
                                          exact norm_ (by simp only [putAll, Act.put, List.setIfInBounds_toArray, List.set_cons_zero, List.set_cons_succ]) (hCont (v114, v122, v125) _ ⟨hHeld, (by (with_reducible repeat (first | apply Kd.V_alloc | apply Kd.V_drewN | apply Kd.V_drew)); exact Kd.V_mono HO120.out (fun _ hk => ⟨hk.1.1, ⟨hk.2, ⟨hk.1.2.1, ⟨hk.1.2.2.1, hk.1.2.2.2⟩⟩⟩⟩)), (by (with_reducible repeat (first | apply Kd.N_alloc | apply Kd.N_drewN | apply Kd.N_drew)); exact HO123.out), (by (with_reducible repeat (first | apply Kd.N_alloc | apply Kd.N_drewN | apply Kd.N_drew)); exact Kd.N_mono HO126.out (fun _ hk => ⟨hk.1.1, ⟨hk.2, ⟨hk.1.2.1, ⟨hk.1.2.2.1, hk.1.2.2.2⟩⟩⟩⟩)), (by (with_reducible repeat (first | apply Kd.V_alloc | apply Kd.V_drewN | apply Kd.V_drew)); exact Kd.V_mono HO134.out (fun _ hk => ⟨hk.1.1, ⟨hk.2, ⟨hk.1.2.1, ⟨hk.1.2.2.1, hk.1.2.2.2⟩⟩⟩⟩)), (by (with_reducible repeat (first | apply Kd.N_alloc | apply Kd.N_drewN | apply Kd.N_drew)); exact Kd.N_mono HO_7.out (fun _ hk => ⟨hk.1.1, ⟨hk.2, ⟨hk.1.2.1, ⟨hk.1.2.2.1, hk.1.2.2.2⟩⟩⟩⟩)), (by (with_reducible repeat (first | refine blk_drewN ?_ _ | refine blk_drew ?_ | refine blk_alloc ?_ _)); exact BK101.out), (by (with_reducible repeat (first | refine blk_drewN ?_ _ | refine blk_drew ?_ | refine blk_alloc ?_ _)); exact BK109.out), (by repeat (first | (with_reducible first | exact HB.out | apply below_alloc | apply pw_below_drewN | apply below_drew1 | refine below_set ?_ GE101.out | refine below_set ?_ GE109.out) | exact HB.out))⟩)
                                      rintro ⟨v114, v122, v125⟩ w64 ⟨hS_, h0_, h1_, h2_, h3_, h4_, h5_, h6_, h7_⟩
                                      have n0_ : Aside0 (Kd.V k27 27 w64 w.heap.size (fun k_ => (w.heap.size ≤ k_) ∧ some k_ ≠ (v122 : Value).ownBlock ∧ some k_ ≠ (v125 : Value).ownBlock ∧ k_ ≠ gb101 ∧ k_ ≠ gb109) (.slice Ao57 y116.length co57) y116) := ⟨h0_⟩
                                      have n1_ : Aside0 (Kd.N k27 27 w64 w.heap.size (fun k_ => (w.heap.size ≤ k_) ∧ some k_ ≠ (v125 : Value).ownBlock ∧ k_ ≠ gb101 ∧ k_ ≠ gb109) v122 y121) := ⟨h1_⟩
                                      have n2_ : Aside0 (Kd.N k27 27 w64 w.heap.size (fun k_ => (w.heap.size ≤ k_) ∧ some k_ ≠ (v122 : Value).ownBlock ∧ some k_ ≠ (.slice Ao57 x7_1.length co57 : Value).ownBlock ∧ k_ ≠ gb101 ∧ k_ ≠ gb109) v125 y124) := ⟨h2_⟩
                                      have n3_ : Aside0 (Kd.V k27 27 w64 w.heap.size (fun k_ => (w.heap.size ≤ k_) ∧ some k_ ≠ (v122 : Value).ownBlock ∧ some k_ ≠ (v125 : Value).ownBlock ∧ k_ ≠ gb101 ∧ k_ ≠ gb109) (.slice A58 y130.length c58) y130) := ⟨h3_⟩
                                      have n4_ : Aside0 (Kd.N k27 27 w64 w.heap.size (fun k_ => (w.heap.size ≤ k_) ∧ some k_ ≠ (v122 : Value).ownBlock ∧ some k_ ≠ (v125 : Value).ownBlock ∧ k_ ≠ gb101 ∧ k_ ≠ gb109) (.slice Ao57 x7_1.length co57) x7_1) := ⟨h4_⟩
                                      have n5_ : Aside0 (w64.heap[gb101]? = some (.cells #[.slice A0_0 l0_0.length c0_0, .slice A0_1 l0_1.length c0_1] 25 (0, 0))) := ⟨h5_⟩
                                      have n6_ : Aside0 (w64.heap[gb109]? = some (.cells #[.slice Ao31 t103.length co31, .slice Ao30 t106.length co30] 27 (0, 0))) := ⟨h6_⟩
                                      have n7_ : Aside0 (Below w.heap.size w w64) := ⟨h7_⟩
                                      clear HO_7
                                      clear HO_110000
                                      clear HO_110001
                                      clear BK101
                                      clear BK109
                                      clear HB
                                      clear h0_ h1_ h2_ h3_ h4_ h5_ h6_ h7_
                                      have HO120 := n0_
                                      have HO123 := n1_
                                      have HO126 := n2_
                                      have HO134 := n3_
                                      have HO_7 := n4_
                                      have BK101 := n5_
                                      have BK109 := n6_
                                      have HB := n7_
                                      clear n0_ n1_ n2_ n3_ n4_ n5_ n6_ n7_
                                      have hHeld : w64.cell? ⟨gb109, 0, none⟩ = some (.slice Ao31 t103.length co31) ∧ w64.cell? ⟨gb109, 1, none⟩ = some (.slice Ao30 t106.length co30) := hS_
                                      obtain ⟨Ao66, co66, eo66⟩ := Kd.N_slice HO126.out
                                      (first | subst eo66 | (injection eo66 with f1_ f2_ f3_; have f4_ := f1_.symm; have f5_ := f3_.symm; clear f1_ f2_ f3_; subst f4_; subst f5_))
                                      refine norm_ (a' := ?_) ?_ ?_
                                      rotate_left
                                      · simp only [putAll, Act.put, List.setIfInBounds_toArray, List.set_cons_zero, List.set_cons_succ]
                                        rfl
                                      refine one_ (i := 7) (N := some 69) #[true, true, true, true, true, true, true, true, true, true, true, false, false] rfl rfl (one_of HT_.out (by kernel_rfl)) (by decide) (fun K hK => ?_)
                                      refine Kd.N_append_rows_step k27 (w0 := w) w.heap.size (by rfl) (.tmp 66) (.tmp 68) 42 27 (.agg #[(.slice none 0 0), (.slice none 0 0)]) 48 rfl Try.underlying42 info27 rfl (by decide) (by omega) v122 y121 y124 _ _ _ (fun k_ => (w.heap.size ≤ k_) ∧ k_ ≠ gb101 ∧ k_ ≠ gb109) (fun k_ => ((fun k_ => (w.heap.size ≤ k_) ∧ k_ ≠ gb101 ∧ k_ ≠ gb109)) k_ ∧ some k_ ≠ (v122 : Value).ownBlock) rfl rfl ?aO ?aR (fun _ hk => hk) ?aF ?aB ?aS ?aL ?_
                                      (case aR => exact (by skip; exact Kd.N_F (Kd.N_mono (ok' := (fun k_ => ((fun k_ => (w.heap.size ≤ k_) ∧ k_ ≠ gb101 ∧ k_ ≠ gb109)) k_ ∧ some k_ ≠ (v122 : Value).ownBlock)) (HO126.out) (fun k_ hk => ⟨⟨hk.1, ⟨hk.2.2.2.1, hk.2.2.2.2⟩⟩, hk.2.1⟩))))
                                      (case aB => exact (by repeat (first | (with_reducible first | exact HB.out | apply below_alloc | apply pw_below_drewN | apply below_drew1 | refine below_set ?_ GE101.out | refine below_set ?_ GE109.out) | exact HB.out)))
                                      (case aF => exact (fun k_ hk => ⟨(Nat.le_trans (below_size (by repeat (first | (with_reducible first | exact HB.out | apply below_alloc | apply pw_below_drewN | apply below_drew1 | refine below_set ?_ GE101.out | refine below_set ?_ GE109.out) | exact HB.out))) hk), Kd.freshB (g := gb101) (o := .cells #[.slice A0_0 l0_0.length c0_0, .slice A0_1 l0_1.length c0_1] 25 (0, 0)) (by (with_reducible repeat (first | refine blk_drewN ?_ _ | refine blk_drew ?_ | refine blk_alloc ?_ _)); exact BK101.out) k_ hk, Kd.freshB (g := gb109) (o := .cells #[.slice Ao31 t103.length co31, .slice Ao30 t106.length co30] 27 (0, 0)) (by (with_reducible repeat (first | refine blk_drewN ?_ _ | refine blk_drew ?_ | refine blk_alloc ?_ _)); exact BK109.out) k_ hk⟩))
                                      (case aO => exact (by (with_reducible repeat (first | apply Kd.N_alloc | apply Kd.N_drewN | apply Kd.N_drew)); exact Kd.N_mono HO123.out (fun _ hk => ⟨hk.1, ⟨hk.2.2.1, hk.2.2.2⟩⟩)))
                                      (case aS => exact (below_size (by repeat (first | (with_reducible first | exact HB.out | apply below_alloc | apply pw_below_drewN | apply below_drew1 | refine below_set ?_ GE101.out | refine below_set ?_ GE109.out) | exact HB.out))))
                                      (case aL => have := LMc51.out; omega)
                                      intro v128 w65 ho hb hg hat
                                      rw [← Ny127.out] at ho
                                      have n0_ := Aside0.mk (Kd.N_afterv (ok := (fun k_ => (w.heap.size ≤ k_) ∧ some k_ ≠ (.slice Ao66 y124.length co66 : Value).ownBlock ∧ k_ ≠ gb101 ∧ k_ ≠ gb109)) (by (with_reducible repeat (first | apply Kd.N_alloc | apply Kd.N_drewN | apply Kd.N_drew)); exact Kd.N_mono HO_7.out (fun _ hk => ⟨⟨hk.1, ⟨hk.2.2.1, ⟨hk.2.2.2.1, hk.2.2.2.2⟩⟩⟩, hk.2.1⟩)) hg hat)
                                      have n1_ := Aside0.mk (blk_grown (g := gb101) (o := .cells #[.slice A0_0 l0_0.length c0_0, .slice A0_1 l0_1.length c0_1] 25 (0, 0)) (by (with_reducible repeat (first | refine blk_drewN ?_ _ | refine blk_drew ?_ | refine blk_alloc ?_ _)); exact BK101.out) hg (Kd.N_ne HO123.out BK101.out (by decide)))
                                      have n2_ := Aside0.mk (blk_grown (g := gb109) (o := .cells #[.slice Ao31 t103.length co31, .slice Ao30 t106.length co30] 27 (0, 0)) (by (with_reducible repeat (first | refine blk_drewN ?_ _ | refine blk_drew ?_ | refine blk_alloc ?_ _)); exact BK109.out) hg (Kd.N_away HO123.out (fun _ hk => hk.2.2.2)))
                                      have n3_ := Aside0.mk (Kd.V_afterv (ok := (fun k_ => (w.heap.size ≤ k_) ∧ some k_ ≠ (.slice Ao66 y124.length co66 : Value).ownBlock ∧ k_ ≠ gb101 ∧ k_ ≠ gb109)) (by (with_reducible repeat (first | apply Kd.V_alloc | apply Kd.V_drewN | apply Kd.V_drew)); exact Kd.V_mono HO120.out (fun _ hk => ⟨⟨hk.1, ⟨hk.2.2.1, ⟨hk.2.2.2.1, hk.2.2.2.2⟩⟩⟩, hk.2.1⟩)) hg hat)
                                      have n4_ := Aside0.mk (Kd.V_afterv (ok := (fun k_ => (w.heap.size ≤ k_) ∧ some k_ ≠ (.slice Ao66 y124.length co66 : Value).ownBlock ∧ k_ ≠ gb101 ∧ k_ ≠ gb109)) (by (with_reducible repeat (first | apply Kd.V_alloc | apply Kd.V_drewN | apply Kd.V_drew)); exact Kd.V_mono HO134.out (fun _ hk => ⟨⟨hk.1, ⟨hk.2.2.1, ⟨hk.2.2.2.1, hk.2.2.2.2⟩⟩⟩, hk.2.1⟩)) hg hat)
                                      have n5_ := Aside0.mk (Kd.N_afterv (ok := (fun k_ => (w.heap.size ≤ k_) ∧ some k_ ≠ (.slice Ao57 x7_1.length co57 : Value).ownBlock ∧ k_ ≠ gb101 ∧ k_ ≠ gb109)) (by (with_reducible repeat (first | apply Kd.N_alloc | apply Kd.N_drewN | apply Kd.N_drew)); exact Kd.N_mono HO126.out (fun _ hk => ⟨⟨hk.1, ⟨hk.2.2.1, ⟨hk.2.2.2.1, hk.2.2.2.2⟩⟩⟩, hk.2.1⟩)) hg hat)
                                      have n6_ := Aside0.mk (hb)
                                      have n7_ := Aside0.mk (ho)
                                      clear HO_7
                                      clear BK101
                                      clear BK109
                                      clear HO120
                                      clear HO134
                                      clear HO126
                                      clear HB
                                      clear HO123
                                      have HO_7 := n0_
                                      have BK101 := n1_
                                      have BK109 := n2_
                                      have HO120 := n3_
                                      have HO134 := n4_
                                      have HO126 := n5_
                                      have HB := n6_
                                      have HO129 := n7_
                                      clear n0_ n1_ n2_ n3_ n4_ n5_ n6_ n7_
                                      clear ho hb hg hat
                                      refine hK.out _ _ ⟨(blk_cell BK109.out 0).trans rfl, (blk_cell BK109.out 1).trans rfl⟩ (fun hHeld => ?_)
                                      clear hK K
                                      refine norm_ (a' := ?_) ?_ ?_
                                      rotate_left
                                      · show Act.put _ (some 69) _ = _
                                        simp only [Act.put, List.setIfInBounds_toArray, List.set_cons_zero, List.set_cons_succ, i64_w, i32_w]
                                        rfl
                                      refine one_ (i := 11) (N := some 73) #[true, true, true, true, true, true, true, true, true, true, true, true, false] rfl rfl (one_of HT_.out (by kernel_rfl)) (by decide) (fun K hK => ?_)
                                      refine Kd.N_append_rows_step k27 (w0 := w) w.heap.size (by rfl) (.tmp 69) (.tmp 72) 42 27 (.agg #[(.slice none 0 0), (.slice none 0 0)]) 48 rfl Try.underlying42 info27 rfl (by decide) (by omega) v128 y127 y130 _ _ _ (fun k_ => (w.heap.size ≤ k_) ∧ k_ ≠ gb101 ∧ k_ ≠ gb109) (fun k_ => ((fun k_ => (w.heap.size ≤ k_) ∧ k_ ≠ gb101 ∧ k_ ≠ gb109)) k_ ∧ some k_ ≠ (v128 : Value).ownBlock) rfl rfl ?aO ?aR (fun _ hk => hk) ?aF ?aB ?aS ?aL ?_
                                      (case aR => exact (by skip; exact Kd.V_F (Kd.V_mono (ok' := (fun k_ => ((fun k_ => (w.heap.size ≤ k_) ∧ k_ ≠ gb101 ∧ k_ ≠ gb109)) k_ ∧ some k_ ≠ (v128 : Value).ownBlock)) (HO134.out) (fun k_ hk => ⟨⟨hk.1.1, ⟨hk.1.2.2.1, hk.1.2.2.2⟩⟩, hk.2⟩))))
                                      (case aB => exact (by repeat (first | (with_reducible first | exact HB.out | apply below_alloc | apply pw_below_drewN | apply below_drew1 | refine below_set ?_ GE101.out | refine below_set ?_ GE109.out) | exact HB.out)))
                                      (case aF => exact (fun k_ hk => ⟨(Nat.le_trans (below_size (by repeat (first | (with_reducible first | exact HB.out | apply below_alloc | apply pw_below_drewN | apply below_drew1 | refine below_set ?_ GE101.out | refine below_set ?_ GE109.out) | exact HB.out))) hk), Kd.freshB (g := gb101) (o := .cells #[.slice A0_0 l0_0.length c0_0, .slice A0_1 l0_1.length c0_1] 25 (0, 0)) (by (with_reducible repeat (first | refine blk_drewN ?_ _ | refine blk_drew ?_ | refine blk_alloc ?_ _)); exact BK101.out) k_ hk, Kd.freshB (g := gb109) (o := .cells #[.slice Ao31 t103.length co31, .slice Ao30 t106.length co30] 27 (0, 0)) (by (with_reducible repeat (first | refine blk_drewN ?_ _ | refine blk_drew ?_ | refine blk_alloc ?_ _)); exact BK109.out) k_ hk⟩))
                                      (case aO => exact (by (with_reducible repeat (first | apply Kd.N_alloc | apply Kd.N_drewN | apply Kd.N_drew)); exact HO129.out))
                                      (case aS => exact (below_size (by repeat (first | (with_reducible first | exact HB.out | apply below_alloc | apply pw_below_drewN | apply below_drew1 | refine below_set ?_ GE101.out | refine below_set ?_ GE109.out) | exact HB.out))))
                                      (case aL => have := LMc54.out; omega)
                                      intro v136 w67 ho hb hg hat
                                      rw [← Ny135.out] at ho
                                      have n0_ := Aside0.mk (Kd.N_afterv (ok := (fun k_ => (w.heap.size ≤ k_) ∧ some k_ ≠ (.slice Ao66 y124.length co66 : Value).ownBlock ∧ k_ ≠ gb101 ∧ k_ ≠ gb109)) (by (with_reducible repeat (first | apply Kd.N_alloc | apply Kd.N_drewN | apply Kd.N_drew)); exact HO_7.out) hg hat)
                                      have n1_ := Aside0.mk (blk_grown (g := gb101) (o := .cells #[.slice A0_0 l0_0.length c0_0, .slice A0_1 l0_1.length c0_1] 25 (0, 0)) (by (with_reducible repeat (first | refine blk_drewN ?_ _ | refine blk_drew ?_ | refine blk_alloc ?_ _)); exact BK101.out) hg (Kd.N_ne HO129.out BK101.out (by decide)))
                                      have n2_ := Aside0.mk (blk_grown (g := gb109) (o := .cells #[.slice Ao31 t103.length co31, .slice Ao30 t106.length co30] 27 (0, 0)) (by (with_reducible repeat (first | refine blk_drewN ?_ _ | refine blk_drew ?_ | refine blk_alloc ?_ _)); exact BK109.out) hg (Kd.N_away HO129.out (fun _ hk => hk.2.2)))
                                      have n3_ := Aside0.mk (Kd.V_afterv (ok := (fun k_ => (w.heap.size ≤ k_) ∧ some k_ ≠ (.slice Ao66 y124.length co66 : Value).ownBlock ∧ k_ ≠ gb101 ∧ k_ ≠ gb109)) (by (with_reducible repeat (first | apply Kd.V_alloc | apply Kd.V_drewN | apply Kd.V_drew)); exact HO120.out) hg hat)
                                      have n4_ := Aside0.mk (Kd.V_afterv (ok := (fun k_ => (w.heap.size ≤ k_) ∧ some k_ ≠ (.slice Ao66 y124.length co66 : Value).ownBlock ∧ k_ ≠ gb101 ∧ k_ ≠ gb109)) (by (with_reducible repeat (first | apply Kd.V_alloc | apply Kd.V_drewN | apply Kd.V_drew)); exact HO134.out) hg hat)
                                      have n5_ := Aside0.mk (Kd.N_afterv (ok := (fun k_ => (w.heap.size ≤ k_) ∧ some k_ ≠ (.slice Ao57 x7_1.length co57 : Value).ownBlock ∧ k_ ≠ gb101 ∧ k_ ≠ gb109)) (by (with_reducible repeat (first | apply Kd.N_alloc | apply Kd.N_drewN | apply Kd.N_drew)); exact HO126.out) hg hat)
                                      have n6_ := Aside0.mk (hb)
                                      have n7_ := Aside0.mk (ho)
                                      clear HO_7
                                      clear BK101
                                      clear BK109
                                      clear HO120
                                      clear HO134
                                      clear HO126
                                      clear HB
                                      clear HO129
                                      have HO_7 := n0_
                                      have BK101 := n1_
                                      have BK109 := n2_
                                      have HO120 := n3_
                                      have HO134 := n4_
                                      have HO126 := n5_
                                      have HB := n6_
                                      have HO137 := n7_
                                      clear n0_ n1_ n2_ n3_ n4_ n5_ n6_ n7_
                                      clear ho hb hg hat
                                      refine hK.out _ _ ⟨(blk_cell BK109.out 0).trans rfl, (blk_cell BK109.out 1).trans rfl⟩ (fun hHeld => ?_)
                                      clear hK K
                                      refine norm_ (a' := ?_) ?_ ?_
                                      rotate_left
                                      · show Act.put _ (some 73) _ = _
                                        simp only [Act.put, List.setIfInBounds_toArray, List.set_cons_zero, List.set_cons_succ, i64_w, i32_w]
                                        rfl
                                      refine pure_ (i := 12) (N := some 7) (v := ?_) (a' := ?_) #[true, true, true, true, true, true, true, true, true, true, true, true, true] rfl rfl (any_of HT_.out (by kernel_rfl)) (fun _ _ _ h => h) (Or.inl ⟨by rfl, ?_⟩) ?_ ?_
                                      rotate_left
                                      · intro w'
                                        go_simp
                                        with_reducible rfl
                                      rotate_left
                                      · simp only [Act.put, List.setIfInBounds_toArray, List.set_cons_zero, List.set_cons_succ, i64_w, i32_w]
                                        rfl
                                      refine done_ (done_of HT_.out (by kernel_rfl)) ?_
                                      try go_wp2
                                      try rw [← hji13]
                                      go_roundg kj37
                                      case measure => have := HK1.out; have := HK2.out; have := HJ37.out; omega
                                      case rel => exact ⟨(y135), (wrap64 (x8_1 + 1)), (by first | rfl | (simp; done) | (simp [*]; done)), H', ⟨by have := HK1.out; have := HK2.out; have := HJ37.out; omega⟩, ⟨by (with_reducible repeat (first | apply Kd.N_alloc | apply Kd.N_drewN | apply Kd.N_drew)); exact Kd.N_mono HO137.out (fun _ hk => ⟨hk.1, hk.2.1⟩)⟩, ⟨by (with_reducible repeat (first | refine blk_drewN ?_ _ | refine blk_drew ?_ | refine blk_alloc ?_ _)); exact BK101.out⟩, ⟨by repeat (first | (with_reducible first | exact HB.out | apply below_alloc | apply pw_below_drewN | apply below_drew1 | refine below_set ?_ GE101.out | refine below_set ?_ GE109.out) | exact HB.out)⟩⟩
                                    · rw [if_neg c54] at H
                                      exact absurd H (by simp)
                                  · rw [if_neg c51] at H
                                    exact absurd H (by simp)
                                · rw [if_neg c50] at H
                                  exact absurd H (by simp)
                              · rw [if_neg c49] at H
                                exact absurd H (by simp)
                            · rw [if_neg c48] at H
                              exact absurd H (by simp)
                · rw [if_neg c22] at H
                  have c22b0 : (t110 == 0) = false := beq_eq_false_iff_ne.mpr c22
                  have c22b1 : (t110 != 0) = true := bne_iff_ne.mpr c22
                  have H' := Aside0.mk H
                  clear H
                  try go_wp2
                  have n0_ := Aside0.mk (Kd.N_drew HO_7.out)
                  have n1_ := Aside0.mk (blk_drew BK101.out)
                  have n2_ := Aside0.mk (below_drew1 HB.out)
                  clear HO_7
                  clear BK101
                  clear HB
                  have HO_7 := n0_
                  have BK101 := n1_
                  have HB := n2_
                  clear n0_ n1_ n2_
                  refine start_ (n := 11) (S := fun w' => True) (ds := []) #[false, false, false, false, false, false, false, false, false, false, false] (by kernel_rfl) rfl rfl trivial (fun hHeld => ?_); refine with_tabW scarfjointref07_All.tab11 scarfjointref07_All.bits11 (fun HT_ HW_ => ?_)
                  generalize wr.drew = w68 at HO_7 BK101 HB hHeld ⊢
                  refine pure_ (i := 0) (N := some 34) (v := ?_) (a' := ?_) #[true, false, false, false, false, false, false, false, false, false, false] rfl rfl (any_of HT_.out (by kernel_rfl)) (fun _ _ _ h => h) (Or.inl ⟨by rfl, ?_⟩) ?_ ?_
                  rotate_left
                  · intro w'
                    go_simp
                    with_reducible rfl
                  rotate_left
                  · simp only [Act.put, List.setIfInBounds_toArray, List.set_cons_zero, List.set_cons_succ, i64_w, i32_w]
                    rfl
                  refine pure_ (i := 1) (N := some 35) (v := ?_) (a' := ?_) #[true, true, false, false, false, false, false, false, false, false, false] rfl rfl (any_of HT_.out (by kernel_rfl)) (fun _ _ _ h => h) (Or.inl ⟨by rfl, ?_⟩) ?_ ?_
                  rotate_left
                  · intro w'
                    go_simp
                    with_reducible rfl
                  rotate_left
                  · simp only [Act.put, List.setIfInBounds_toArray, List.set_cons_zero, List.set_cons_succ, i64_w, i32_w]
                    rfl
                  refine pure_ (i := 3) (N := some 37) (v := ?_) (a' := ?_) #[true, true, false, true, false, false, false, false, false, false, false] rfl rfl (any_of HT_.out (by kernel_rfl)) (fun _ _ _ h => h) (Or.inl ⟨by rfl, ?_⟩) ?_ ?_
                  rotate_left
                  · intro w'
                    go_simp
                    with_reducible rfl
                  rotate_left
                  · simp only [Act.put, List.setIfInBounds_toArray, List.set_cons_zero, List.set_cons_succ, i64_w, i32_w]
                    rfl
                  refine pure_ (i := 4) (N := some 38) (v := ?_) (a' := ?_) #[true, true, false, true, true, false, false, false, false, false, false] rfl rfl (any_of HT_.out (by kernel_rfl)) (fun _ _ _ h => h) (Or.inl ⟨by rfl, ?_⟩) ?_ ?_
                  rotate_left
                  · intro w'
                    go_simp
                    with_reducible rfl
                  rotate_left
                  · simp only [Act.put, List.setIfInBounds_toArray, List.set_cons_zero, List.set_cons_succ, i64_w, i32_w]
                    rfl
                  refine pure_ (i := 5) (N := some 39) (v := ?_) (a' := ?_) #[true, true, false, true, true, true, false, false, false, false, false] rfl rfl (any_of HT_.out (by kernel_rfl)) (fun _ _ _ h => h) (Or.inl ⟨by rfl, ?_⟩) ?_ ?_
                  rotate_left
                  · intro w'
                    go_simp
                    with_reducible rfl
                  rotate_left
                  · simp only [Act.put, List.setIfInBounds_toArray, List.set_cons_zero, List.set_cons_succ, i64_w, i32_w]
                    rfl
                  refine pure_ (i := 6) (N := some 40) (v := ?_) (a' := ?_) #[true, true, false, true, true, true, true, false, false, false, false] rfl rfl (any_of HT_.out (by kernel_rfl)) (fun _ _ _ h => h) (Or.inl ⟨by rfl, ?_⟩) ?_ ?_
                  rotate_left
                  · intro w'
                    go_simp
                    with_reducible rfl
                  rotate_left
                  · simp only [Act.put, List.setIfInBounds_toArray, List.set_cons_zero, List.set_cons_succ, i64_w, i32_w]
                    rfl
                  refine join_ (σ := Value × Value × Nat) 1 #[true, true, true, true, true, true, true, true, true, true, false] (fun s_ => [(36, s_.1), (41, s_.2.1), (9, .pointer (some ⟨s_.2.2, 0, none⟩)), (42, .agg #[s_.1, s_.2.1])]) (fun s_ w' => (Kd.R (Kd.int .i64) 3 w' w.heap.size (fun k_ => (w.heap.size ≤ k_) ∧ some k_ ≠ (s_.2.1 : Value).ownBlock) s_.1 t103) ∧ (Kd.R (Kd.int .i64) 3 w' w.heap.size (fun k_ => (w.heap.size ≤ k_) ∧ some k_ ≠ (s_.1 : Value).ownBlock) s_.2.1 t106) ∧ (Kd.N k27 27 w' w.heap.size (fun k_ => (w.heap.size ≤ k_) ∧ some k_ ≠ (s_.1 : Value).ownBlock ∧ some k_ ≠ (s_.2.1 : Value).ownBlock ∧ k_ ≠ gb101 ∧ k_ ≠ s_.2.2) u7 x7_1) ∧ (w'.heap[gb101]? = some (.cells #[.slice A0_0 l0_0.length c0_0, .slice A0_1 l0_1.length c0_1] 25 (0, 0))) ∧ (w'.heap[s_.2.2]? = some (.cells #[.slice none 0 0, .slice none 0 0] 27 (0, 0))) ∧ (w.heap.size ≤ s_.2.2) ∧ (w.heap.size ≤ s_.2.2) ∧ (gb101 ≠ s_.2.2) ∧ (s_.2.2 ≠ gb101) ∧ (Below w.heap.size w w')) ?_ ?_
                  rotate_left
                  · intro hCont
                    refine two_ (i := 2) (j := 9) (Ni := some 36) (Nj := some 9) #[true, true, true, true, true, true, true, false, false, false, false] #[true, true, false, true, true, true, true, false, false, true, false] rfl rfl rfl rfl (two_of HT_.out (by kernel_rfl)) (by decide) (by decide) (fun K hK => ?_) (fun K hK => ?_)
                    · skip
                      refine goes_ Try.func69 (by kernel_rfl) rfl #[.int .i64 (l0_0.length : Int), .int .i64 x8_1] (by rfl) rfl rfl (by (try simp only [List.map_toArray, List.map_cons, List.map_nil]); first | done | rfl | (simp only [List.length_drop, List.length_take]; rfl)) ?_
                      with_reducible refine (scarfjointref07_bits.calls k1 (l0_0.length : Int) x8_1 t103 _ A17.out).mono ?_
                      rintro e w69 ⟨v104, rfl, ho0, hb⟩
                      refine ⟨_, rfl, ?_⟩
                      have n0_ := Aside0.mk (Kd.N_elder' (by (with_reducible repeat (first | apply Kd.N_alloc | apply Kd.N_drewN | apply Kd.N_drew)); exact HO_7.out) (Kd.R_base ho0) hb)
                      have n1_ := Aside0.mk (Kd.R_lower (Kd.R_newM (M := fun k_ => (w.heap.size ≤ k_)) ho0 (below_size (by repeat (first | (with_reducible first | exact HB.out | apply below_alloc | apply pw_below_drewN | apply below_drew1 | refine below_set ?_ GE101.out) | exact HB.out))) (fun k_ h_ => h_)) (below_size (by repeat (first | (with_reducible first | exact HB.out | apply below_alloc | apply pw_below_drewN | apply below_drew1 | refine below_set ?_ GE101.out) | exact HB.out))))
                      have n2_ := Aside0.mk (blk_below (g := gb101) (o := .cells #[.slice A0_0 l0_0.length c0_0, .slice A0_1 l0_1.length c0_1] 25 (0, 0)) (by (with_reducible repeat (first | refine blk_drewN ?_ _ | refine blk_drew ?_ | refine blk_alloc ?_ _)); exact BK101.out) hb)
                      have n3_ := Aside0.mk (below_step (by repeat (first | (with_reducible first | exact HB.out | apply below_alloc | apply pw_below_drewN | apply below_drew1 | refine below_set ?_ GE101.out) | exact HB.out)) hb)
                      clear HO_7
                      clear BK101
                      clear HB
                      have HO_7 := n0_
                      have HO105 := n1_
                      have BK101 := n2_
                      have HB := n3_
                      clear n0_ n1_ n2_ n3_
                      (try clear hb)
                      (try clear hb2)
                      (try clear hk)
                      (try clear hi)
                      (try clear ho0)
                      refine hK.out _ _ trivial (fun hHeld => ?_)
                      clear hK K
                      refine norm_ (a' := ?_) ?_ ?_
                      rotate_left
                      · show Act.put _ (some 36) _ = _
                        simp only [Act.put, List.setIfInBounds_toArray, List.set_cons_zero, List.set_cons_succ, i64_w, i32_w]
                        rfl
                      refine two_ (i := 7) (j := 9) (Ni := some 41) (Nj := some 9) #[true, true, true, true, true, true, true, true, false, false, false] #[true, true, true, true, true, true, true, false, false, true, false] rfl rfl rfl rfl (two_of HT_.out (by kernel_rfl)) (by decide) (by decide) (fun K hK => ?_) (fun K hK => ?_)
                      · skip
                        refine goes_ Try.func69 (by kernel_rfl) rfl #[.int .i64 (l0_1.length : Int), .int .i64 ji19] (by rfl) rfl rfl (by (try simp only [List.map_toArray, List.map_cons, List.map_nil]); first | done | (simp only [hji19]; rfl) | rfl | (simp only [List.length_drop, List.length_take]; rfl)) ?_
                        with_reducible refine (scarfjointref07_bits.calls k1 (l0_1.length : Int) ji19 t106 _ A20.out).mono ?_
                        rintro e w70 ⟨v107, rfl, ho0, hb⟩
                        refine ⟨_, rfl, ?_⟩
                        have n0_ := Aside0.mk (Kd.N_elder' (by (with_reducible repeat (first | apply Kd.N_alloc | apply Kd.N_drewN | apply Kd.N_drew)); exact HO_7.out) (Kd.R_base ho0) hb)
                        have n1_ := Aside0.mk (Kd.R_elder' (by (with_reducible repeat (first | apply Kd.R_alloc | apply Kd.R_drewN | apply Kd.R_drew)); exact HO105.out) (Kd.R_base ho0) hb)
                        have n2_ := Aside0.mk (Kd.R_lower (Kd.R_new' (Kd.R_newM (M := fun k_ => (w.heap.size ≤ k_)) ho0 (below_size (by repeat (first | (with_reducible first | exact HB.out | apply below_alloc | apply pw_below_drewN | apply below_drew1 | refine below_set ?_ GE101.out) | exact HB.out))) (fun k_ h_ => h_)) (Kd.R_lt (by (with_reducible repeat (first | apply Kd.R_alloc | apply Kd.R_drewN | apply Kd.R_drew)); exact HO105.out))) (below_size (by repeat (first | (with_reducible first | exact HB.out | apply below_alloc | apply pw_below_drewN | apply below_drew1 | refine below_set ?_ GE101.out) | exact HB.out))))
                        have n3_ := Aside0.mk (blk_below (g := gb101) (o := .cells #[.slice A0_0 l0_0.length c0_0, .slice A0_1 l0_1.length c0_1] 25 (0, 0)) (by (with_reducible repeat (first | refine blk_drewN ?_ _ | refine blk_drew ?_ | refine blk_alloc ?_ _)); exact BK101.out) hb)
                        have n4_ := Aside0.mk (below_step (by repeat (first | (with_reducible first | exact HB.out | apply below_alloc | apply pw_below_drewN | apply below_drew1 | refine below_set ?_ GE101.out) | exact HB.out)) hb)
                        clear HO_7
                        clear HO105
                        clear BK101
                        clear HB
                        have HO_7 := n0_
                        have HO105 := n1_
                        have HO108 := n2_
                        have BK101 := n3_
                        have HB := n4_
                        clear n0_ n1_ n2_ n3_ n4_
                        (try clear hb)
                        (try clear hb2)
                        (try clear hk)
                        (try clear hi)
                        (try clear ho0)
                        obtain ⟨Ao71, co71, eo71⟩ := Kd.R_slice HO108.out
                        (first | subst eo71 | (injection eo71 with f1_ f2_ f3_; have f4_ := f1_.symm; have f5_ := f3_.symm; clear f1_ f2_ f3_; subst f4_; subst f5_))
                        obtain ⟨Ao72, co72, eo72⟩ := Kd.R_slice HO105.out
                        (first | subst eo72 | (injection eo72 with f1_ f2_ f3_; have f4_ := f1_.symm; have f5_ := f3_.symm; clear f1_ f2_ f3_; subst f4_; subst f5_))
                        refine hK.out _ _ trivial (fun hHeld => ?_)
                        clear hK K
                        refine norm_ (a' := ?_) ?_ ?_
                        rotate_left
                        · show Act.put _ (some 41) _ = _
                          simp only [Act.put, List.setIfInBounds_toArray, List.set_cons_zero, List.set_cons_succ, i64_w, i32_w]
                          rfl
                        refine pure_ (i := 8) (N := some 42) (v := ?_) (a' := ?_) #[true, true, true, true, true, true, true, true, true, false, false] rfl rfl (any_of HT_.out (by kernel_rfl)) (fun _ _ _ h => h) (Or.inl ⟨by rfl, ?_⟩) ?_ ?_
                        rotate_left
                        · intro w'
                          go_simp
                          with_reducible rfl
                        rotate_left
                        · simp only [Act.put, List.setIfInBounds_toArray, List.set_cons_zero, List.set_cons_succ, i64_w, i32_w]
                          rfl
                        refine one_ (i := 9) (N := some 9) #[true, true, true, true, true, true, true, true, true, true, false] rfl rfl (one_of HT_.out (by kernel_rfl)) (by decide) (fun K hK => ?_)
                        refine box_step ?hg (N := 9) ?hd (cs := #[.slice none 0 0, .slice none 0 0]) (t := 27) ?hr ?_; (case hd => rfl); (case hg => rfl); (case hr => first | (go_simp; done) | (go_simp; rfl))
                        intro gb109 hg w73 hbox hb
                        have n0_ := Aside0.mk (Kd.N_below (Kd.N_elderB (by (with_reducible repeat (first | apply Kd.N_alloc | apply Kd.N_drewN | apply Kd.N_drew)); exact HO_7.out) gb109 (Nat.le_of_eq hg.symm)) hb)
                        have n1_ := Aside0.mk (Kd.R_below (by (with_reducible repeat (first | apply Kd.R_alloc | apply Kd.R_drewN | apply Kd.R_drew)); exact HO105.out) hb)
                        have n2_ := Aside0.mk (Kd.R_below (by (with_reducible repeat (first | apply Kd.R_alloc | apply Kd.R_drewN | apply Kd.R_drew)); exact HO108.out) hb)
                        have n3_ := Aside0.mk (blk_below (g := gb101) (o := .cells #[.slice A0_0 l0_0.length c0_0, .slice A0_1 l0_1.length c0_1] 25 (0, 0)) (by (with_reducible repeat (first | refine blk_drewN ?_ _ | refine blk_drew ?_ | refine blk_alloc ?_ _)); exact BK101.out) hb)
                        have n4_ := Aside0.mk (below_step (by repeat (first | (with_reducible first | exact HB.out | apply below_alloc | apply pw_below_drewN | apply below_drew1 | refine below_set ?_ GE101.out) | exact HB.out)) hb)
                        have n5_ := Aside0.mk (hbox)
                        have n6_ := Aside0.mk ((by rw [hg]; exact (below_size (by repeat (first | (with_reducible first | exact HB.out | apply below_alloc | apply pw_below_drewN | apply below_drew1 | refine below_set ?_ GE101.out) | exact HB.out))) : w.heap.size ≤ gb109))
                        have n7_ := Aside0.mk ((by rw [hg]; exact (below_size (by repeat (first | (with_reducible first | exact HB.out | apply below_alloc | apply pw_below_drewN | apply below_drew1 | refine below_set ?_ GE101.out) | exact HB.out))) : w.heap.size ≤ gb109))
                        have n8_ := Aside0.mk ((by rw [hg]; exact Nat.ne_of_lt (blk_lt (g := gb101) (o := .cells #[.slice A0_0 l0_0.length c0_0, .slice A0_1 l0_1.length c0_1] 25 (0, 0)) (by (with_reducible repeat (first | refine blk_drewN ?_ _ | refine blk_drew ?_ | refine blk_alloc ?_ _)); exact BK101.out)) : gb101 ≠ gb109))
                        have n9_ := Aside0.mk ((by rw [hg]; exact Nat.ne_of_gt (blk_lt (g := gb101) (o := .cells #[.slice A0_0 l0_0.length c0_0, .slice A0_1 l0_1.length c0_1] 25 (0, 0)) (by (with_reducible repeat (first | refine blk_drewN ?_ _ | refine blk_drew ?_ | refine blk_alloc ?_ _)); exact BK101.out)) : gb109 ≠ gb101))
                        clear HO_7
                        clear HO105
                        clear HO108
                        clear BK101
                        clear HB
                        have HO_7 := n0_
                        have HO105 := n1_
                        have HO108 := n2_
                        have BK101 := n3_
                        have HB := n4_
                        have BK109 := n5_
                        have GW109 := n6_
                        have GE109 := n7_
                        have NB101_109 := n8_
                        have NB109_101 := n9_
                        clear n0_ n1_ n2_ n3_ n4_ n5_ n6_ n7_ n8_ n9_
                        clear hb hbox hg
                        refine hK.out _ _ trivial (fun hHeld => ?_)
                        clear hK K
                        refine norm_ (a' := ?_) ?_ ?_
                        rotate_left
                        · show Act.put _ (some 9) _ = _
                          simp only [Act.put, List.setIfInBounds_toArray, List.set_cons_zero, List.set_cons_succ, i64_w, i32_w]
                          rfl
                        exact norm_ (by simp only [putAll, Act.put, List.setIfInBounds_toArray, List.set_cons_zero, List.set_cons_succ]) (hCont (.slice Ao72 t103.length co72, .slice Ao71 t106.length co71, gb109) _ ⟨(by (with_reducible repeat (first | apply Kd.R_alloc | apply Kd.R_drewN | apply Kd.R_drew)); exact Kd.R_mono HO105.out (fun _ hk => ⟨hk.1.1, hk.2⟩)), (by (with_reducible repeat (first | apply Kd.R_alloc | apply Kd.R_drewN | apply Kd.R_drew)); exact Kd.R_mono HO108.out (fun _ hk => ⟨hk.1.1, hk.2⟩)), (by (with_reducible repeat (first | apply Kd.N_alloc | apply Kd.N_drewN | apply Kd.N_drew)); exact Kd.N_mono HO_7.out (fun _ hk => ⟨hk.1.1.1.1, ⟨hk.1.1.2, ⟨hk.1.2, ⟨hk.1.1.1.2, hk.2⟩⟩⟩⟩)), (by (with_reducible repeat (first | refine blk_drewN ?_ _ | refine blk_drew ?_ | refine blk_alloc ?_ _)); exact BK101.out), (by (with_reducible repeat (first | refine blk_drewN ?_ _ | refine blk_drew ?_ | refine blk_alloc ?_ _)); exact BK109.out), GW109.out, GE109.out, NB101_109.out, NB109_101.out, (by repeat (first | (with_reducible first | exact HB.out | apply below_alloc | apply pw_below_drewN | apply below_drew1 | refine below_set ?_ GE101.out | refine below_set ?_ GE109.out) | exact HB.out))⟩)
                      · skip
                        refine box_step ?hg (N := 9) ?hd (cs := #[.slice none 0 0, .slice none 0 0]) (t := 27) ?hr ?_; (case hd => rfl); (case hg => rfl); (case hr => first | (go_simp; done) | (go_simp; rfl))
                        intro gb109 hg w70 hbox hb
                        have n0_ := Aside0.mk (Kd.N_below (Kd.N_elderB (by (with_reducible repeat (first | apply Kd.N_alloc | apply Kd.N_drewN | apply Kd.N_drew)); exact HO_7.out) gb109 (Nat.le_of_eq hg.symm)) hb)
                        have n1_ := Aside0.mk (Kd.R_below (by (with_reducible repeat (first | apply Kd.R_alloc | apply Kd.R_drewN | apply Kd.R_drew)); exact HO105.out) hb)
                        have n2_ := Aside0.mk (blk_below (g := gb101) (o := .cells #[.slice A0_0 l0_0.length c0_0, .slice A0_1 l0_1.length c0_1] 25 (0, 0)) (by (with_reducible repeat (first | refine blk_drewN ?_ _ | refine blk_drew ?_ | refine blk_alloc ?_ _)); exact BK101.out) hb)
                        have n3_ := Aside0.mk (below_step (by repeat (first | (with_reducible first | exact HB.out | apply below_alloc | apply pw_below_drewN | apply below_drew1 | refine below_set ?_ GE101.out) | exact HB.out)) hb)
                        have n4_ := Aside0.mk (hbox)
                        have n5_ := Aside0.mk ((by rw [hg]; exact (below_size (by repeat (first | (with_reducible first | exact HB.out | apply below_alloc | apply pw_below_drewN | apply below_drew1 | refine below_set ?_ GE101.out) | exact HB.out))) : w.heap.size ≤ gb109))
                        have n6_ := Aside0.mk ((by rw [hg]; exact (below_size (by repeat (first | (with_reducible first | exact HB.out | apply below_alloc | apply pw_below_drewN | apply below_drew1 | refine below_set ?_ GE101.out) | exact HB.out))) : w.heap.size ≤ gb109))
                        have n7_ := Aside0.mk ((by rw [hg]; exact Nat.ne_of_lt (blk_lt (g := gb101) (o := .cells #[.slice A0_0 l0_0.length c0_0, .slice A0_1 l0_1.length c0_1] 25 (0, 0)) (by (with_reducible repeat (first | refine blk_drewN ?_ _ | refine blk_drew ?_ | refine blk_alloc ?_ _)); exact BK101.out)) : gb101 ≠ gb109))
                        have n8_ := Aside0.mk ((by rw [hg]; exact Nat.ne_of_gt (blk_lt (g := gb101) (o := .cells #[.slice A0_0 l0_0.length c0_0, .slice A0_1 l0_1.length c0_1] 25 (0, 0)) (by (with_reducible repeat (first | refine blk_drewN ?_ _ | refine blk_drew ?_ | refine blk_alloc ?_ _)); exact BK101.out)) : gb109 ≠ gb101))
                        clear HO_7
                        clear HO105
                        clear BK101
                        clear HB
                        have HO_7 := n0_
                        have HO105 := n1_
                        have BK101 := n2_
                        have HB := n3_
                        have BK109 := n4_
                        have GW109 := n5_
                        have GE109 := n6_
                        have NB101_109 := n7_
                        have NB109_101 := n8_
                        clear n0_ n1_ n2_ n3_ n4_ n5_ n6_ n7_ n8_
                        clear hb hbox hg
                        refine hK.out _ _ trivial (fun hHeld => ?_)
                        clear hK K
                        refine norm_ (a' := ?_) ?_ ?_
                        rotate_left
                        · show Act.put _ (some 9) _ = _
                          simp only [Act.put, List.setIfInBounds_toArray, List.set_cons_zero, List.set_cons_succ, i64_w, i32_w]
                          rfl
                        refine one_ (i := 7) (N := some 41) #[true, true, true, true, true, true, true, true, false, true, false] rfl rfl (one_of HT_.out (by kernel_rfl)) (by decide) (fun K hK => ?_)
                        refine goes_ Try.func69 (by kernel_rfl) rfl #[.int .i64 (l0_1.length : Int), .int .i64 ji19] (by rfl) rfl rfl (by (try simp only [List.map_toArray, List.map_cons, List.map_nil]); first | done | (simp only [hji19]; rfl) | rfl | (simp only [List.length_drop, List.length_take]; rfl)) ?_
                        with_reducible refine (scarfjointref07_bits.calls k1 (l0_1.length : Int) ji19 t106 _ A20.out).mono ?_
                        rintro e w71 ⟨v107, rfl, ho0, hb⟩
                        refine ⟨_, rfl, ?_⟩
                        have n0_ := Aside0.mk (Kd.N_elder' (by (with_reducible repeat (first | apply Kd.N_alloc | apply Kd.N_drewN | apply Kd.N_drew)); exact HO_7.out) (Kd.R_base ho0) hb)
                        have n1_ := Aside0.mk (Kd.R_elder' (by (with_reducible repeat (first | apply Kd.R_alloc | apply Kd.R_drewN | apply Kd.R_drew)); exact HO105.out) (Kd.R_base ho0) hb)
                        have n2_ := Aside0.mk (Kd.R_lower (Kd.R_new' (Kd.R_newM (M := fun k_ => (w.heap.size ≤ k_)) ho0 (below_size (by repeat (first | (with_reducible first | exact HB.out | apply below_alloc | apply pw_below_drewN | apply below_drew1 | refine below_set ?_ GE101.out | refine below_set ?_ GE109.out) | exact HB.out))) (fun k_ h_ => h_)) (Kd.R_lt (by (with_reducible repeat (first | apply Kd.R_alloc | apply Kd.R_drewN | apply Kd.R_drew)); exact HO105.out))) (below_size (by repeat (first | (with_reducible first | exact HB.out | apply below_alloc | apply pw_below_drewN | apply below_drew1 | refine below_set ?_ GE101.out | refine below_set ?_ GE109.out) | exact HB.out))))
                        have n3_ := Aside0.mk (blk_below (g := gb101) (o := .cells #[.slice A0_0 l0_0.length c0_0, .slice A0_1 l0_1.length c0_1] 25 (0, 0)) (by (with_reducible repeat (first | refine blk_drewN ?_ _ | refine blk_drew ?_ | refine blk_alloc ?_ _)); exact BK101.out) hb)
                        have n4_ := Aside0.mk (blk_below (g := gb109) (o := .cells #[.slice none 0 0, .slice none 0 0] 27 (0, 0)) (by (with_reducible repeat (first | refine blk_drewN ?_ _ | refine blk_drew ?_ | refine blk_alloc ?_ _)); exact BK109.out) hb)
                        have n5_ := Aside0.mk (below_step (by repeat (first | (with_reducible first | exact HB.out | apply below_alloc | apply pw_below_drewN | apply below_drew1 | refine below_set ?_ GE101.out | refine below_set ?_ GE109.out) | exact HB.out)) hb)
                        clear HO_7
                        clear HO105
                        clear BK101
                        clear BK109
                        clear HB
                        have HO_7 := n0_
                        have HO105 := n1_
                        have HO108 := n2_
                        have BK101 := n3_
                        have BK109 := n4_
                        have HB := n5_
                        clear n0_ n1_ n2_ n3_ n4_ n5_
                        (try clear hb)
                        (try clear hb2)
                        (try clear hk)
                        (try clear hi)
                        (try clear ho0)
                        obtain ⟨Ao72, co72, eo72⟩ := Kd.R_slice HO108.out
                        (first | subst eo72 | (injection eo72 with f1_ f2_ f3_; have f4_ := f1_.symm; have f5_ := f3_.symm; clear f1_ f2_ f3_; subst f4_; subst f5_))
                        obtain ⟨Ao73, co73, eo73⟩ := Kd.R_slice HO105.out
                        (first | subst eo73 | (injection eo73 with f1_ f2_ f3_; have f4_ := f1_.symm; have f5_ := f3_.symm; clear f1_ f2_ f3_; subst f4_; subst f5_))
                        refine hK.out _ _ trivial (fun hHeld => ?_)
                        clear hK K
                        refine norm_ (a' := ?_) ?_ ?_
                        rotate_left
                        · show Act.put _ (some 41) _ = _
                          simp only [Act.put, List.setIfInBounds_toArray, List.set_cons_zero, List.set_cons_succ, i64_w, i32_w]
                          rfl
                        refine pure_ (i := 8) (N := some 42) (v := ?_) (a' := ?_) #[true, true, true, true, true, true, true, true, true, true, false] rfl rfl (any_of HT_.out (by kernel_rfl)) (fun _ _ _ h => h) (Or.inl ⟨by rfl, ?_⟩) ?_ ?_
                        rotate_left
                        · intro w'
                          go_simp
                          with_reducible rfl
                        rotate_left
                        · simp only [Act.put, List.setIfInBounds_toArray, List.set_cons_zero, List.set_cons_succ, i64_w, i32_w]
                          rfl
                        exact norm_ (by simp only [putAll, Act.put, List.setIfInBounds_toArray, List.set_cons_zero, List.set_cons_succ]) (hCont (.slice Ao73 t103.length co73, .slice Ao72 t106.length co72, gb109) _ ⟨(by (with_reducible repeat (first | apply Kd.R_alloc | apply Kd.R_drewN | apply Kd.R_drew)); exact Kd.R_mono HO105.out (fun _ hk => ⟨hk.1.1, hk.2⟩)), (by (with_reducible repeat (first | apply Kd.R_alloc | apply Kd.R_drewN | apply Kd.R_drew)); exact Kd.R_mono HO108.out (fun _ hk => ⟨hk.1.1, hk.2⟩)), (by (with_reducible repeat (first | apply Kd.N_alloc | apply Kd.N_drewN | apply Kd.N_drew)); exact Kd.N_mono HO_7.out (fun _ hk => ⟨hk.1.1.1.1, ⟨hk.1.1.2, ⟨hk.2, ⟨hk.1.1.1.2, hk.1.2⟩⟩⟩⟩)), (by (with_reducible repeat (first | refine blk_drewN ?_ _ | refine blk_drew ?_ | refine blk_alloc ?_ _)); exact BK101.out), (by (with_reducible repeat (first | refine blk_drewN ?_ _ | refine blk_drew ?_ | refine blk_alloc ?_ _)); exact BK109.out), GW109.out, GE109.out, NB101_109.out, NB109_101.out, (by repeat (first | (with_reducible first | exact HB.out | apply below_alloc | apply pw_below_drewN | apply below_drew1 | refine below_set ?_ GE101.out | refine below_set ?_ GE109.out) | exact HB.out))⟩)
                    · skip
                      refine box_step ?hg (N := 9) ?hd (cs := #[.slice none 0 0, .slice none 0 0]) (t := 27) ?hr ?_; (case hd => rfl); (case hg => rfl); (case hr => first | (go_simp; done) | (go_simp; rfl))
                      intro gb109 hg w69 hbox hb
                      have n0_ := Aside0.mk (Kd.N_below (Kd.N_elderB (by (with_reducible repeat (first | apply Kd.N_alloc | apply Kd.N_drewN | apply Kd.N_drew)); exact HO_7.out) gb109 (Nat.le_of_eq hg.symm)) hb)
                      have n1_ := Aside0.mk (blk_below (g := gb101) (o := .cells #[.slice A0_0 l0_0.length c0_0, .slice A0_1 l0_1.length c0_1] 25 (0, 0)) (by (with_reducible repeat (first | refine blk_drewN ?_ _ | refine blk_drew ?_ | refine blk_alloc ?_ _)); exact BK101.out) hb)
                      have n2_ := Aside0.mk (below_step (by repeat (first | (with_reducible first | exact HB.out | apply below_alloc | apply pw_below_drewN | apply below_drew1 | refine below_set ?_ GE101.out) | exact HB.out)) hb)
                      have n3_ := Aside0.mk (hbox)
                      have n4_ := Aside0.mk ((by rw [hg]; exact (below_size (by repeat (first | (with_reducible first | exact HB.out | apply below_alloc | apply pw_below_drewN | apply below_drew1 | refine below_set ?_ GE101.out) | exact HB.out))) : w.heap.size ≤ gb109))
                      have n5_ := Aside0.mk ((by rw [hg]; exact (below_size (by repeat (first | (with_reducible first | exact HB.out | apply below_alloc | apply pw_below_drewN | apply below_drew1 | refine below_set ?_ GE101.out) | exact HB.out))) : w.heap.size ≤ gb109))
                      have n6_ := Aside0.mk ((by rw [hg]; exact Nat.ne_of_lt (blk_lt (g := gb101) (o := .cells #[.slice A0_0 l0_0.length c0_0, .slice A0_1 l0_1.length c0_1] 25 (0, 0)) (by (with_reducible repeat (first | refine blk_drewN ?_ _ | refine blk_drew ?_ | refine blk_alloc ?_ _)); exact BK101.out)) : gb101 ≠ gb109))
                      have n7_ := Aside0.mk ((by rw [hg]; exact Nat.ne_of_gt (blk_lt (g := gb101) (o := .cells #[.slice A0_0 l0_0.length c0_0, .slice A0_1 l0_1.length c0_1] 25 (0, 0)) (by (with_reducible repeat (first | refine blk_drewN ?_ _ | refine blk_drew ?_ | refine blk_alloc ?_ _)); exact BK101.out)) : gb109 ≠ gb101))
                      clear HO_7
                      clear BK101
                      clear HB
                      have HO_7 := n0_
                      have BK101 := n1_
                      have HB := n2_
                      have BK109 := n3_
                      have GW109 := n4_
                      have GE109 := n5_
                      have NB101_109 := n6_
                      have NB109_101 := n7_
                      clear n0_ n1_ n2_ n3_ n4_ n5_ n6_ n7_
                      clear hb hbox hg
                      refine hK.out _ _ trivial (fun hHeld => ?_)
                      clear hK K
                      refine norm_ (a' := ?_) ?_ ?_
                      rotate_left
                      · show Act.put _ (some 9) _ = _
                        simp only [Act.put, List.setIfInBounds_toArray, List.set_cons_zero, List.set_cons_succ, i64_w, i32_w]
                        rfl
                      refine one_ (i := 2) (N := some 36) #[true, true, true, true, true, true, true, false, false, true, false] rfl rfl (one_of HT_.out (by kernel_rfl)) (by decide) (fun K hK => ?_)
                      refine goes_ Try.func69 (by kernel_rfl) rfl #[.int .i64 (l0_0.length : Int), .int .i64 x8_1] (by rfl) rfl rfl (by (try simp only [List.map_toArray, List.map_cons, List.map_nil]); first | done | rfl | (simp only [List.length_drop, List.length_take]; rfl)) ?_
                      with_reducible refine (scarfjointref07_bits.calls k1 (l0_0.length : Int) x8_1 t103 _ A17.out).mono ?_
                      rintro e w70 ⟨v104, rfl, ho0, hb⟩
                      refine ⟨_, rfl, ?_⟩
                      have n0_ := Aside0.mk (Kd.N_elder' (by (with_reducible repeat (first | apply Kd.N_alloc | apply Kd.N_drewN | apply Kd.N_drew)); exact HO_7.out) (Kd.R_base ho0) hb)
                      have n1_ := Aside0.mk (Kd.R_lower (Kd.R_newM (M := fun k_ => (w.heap.size ≤ k_)) ho0 (below_size (by repeat (first | (with_reducible first | exact HB.out | apply below_alloc | apply pw_below_drewN | apply below_drew1 | refine below_set ?_ GE101.out | refine below_set ?_ GE109.out) | exact HB.out))) (fun k_ h_ => h_)) (below_size (by repeat (first | (with_reducible first | exact HB.out | apply below_alloc | apply pw_below_drewN | apply below_drew1 | refine below_set ?_ GE101.out | refine below_set ?_ GE109.out) | exact HB.out))))
                      have n2_ := Aside0.mk (blk_below (g := gb101) (o := .cells #[.slice A0_0 l0_0.length c0_0, .slice A0_1 l0_1.length c0_1] 25 (0, 0)) (by (with_reducible repeat (first | refine blk_drewN ?_ _ | refine blk_drew ?_ | refine blk_alloc ?_ _)); exact BK101.out) hb)
                      have n3_ := Aside0.mk (blk_below (g := gb109) (o := .cells #[.slice none 0 0, .slice none 0 0] 27 (0, 0)) (by (with_reducible repeat (first | refine blk_drewN ?_ _ | refine blk_drew ?_ | refine blk_alloc ?_ _)); exact BK109.out) hb)
                      have n4_ := Aside0.mk (below_step (by repeat (first | (with_reducible first | exact HB.out | apply below_alloc | apply pw_below_drewN | apply below_drew1 | refine below_set ?_ GE101.out | refine below_set ?_ GE109.out) | exact HB.out)) hb)
                      clear HO_7
                      clear BK101
                      clear BK109
                      clear HB
                      have HO_7 := n0_
                      have HO105 := n1_
                      have BK101 := n2_
                      have BK109 := n3_
                      have HB := n4_
                      clear n0_ n1_ n2_ n3_ n4_
                      (try clear hb)
                      (try clear hb2)
                      (try clear hk)
                      (try clear hi)
                      (try clear ho0)
                      refine hK.out _ _ trivial (fun hHeld => ?_)
                      clear hK K
                      refine norm_ (a' := ?_) ?_ ?_
                      rotate_left
                      · show Act.put _ (some 36) _ = _
                        simp only [Act.put, List.setIfInBounds_toArray, List.set_cons_zero, List.set_cons_succ, i64_w, i32_w]
                        rfl
                      refine one_ (i := 7) (N := some 41) #[true, true, true, true, true, true, true, true, false, true, false] rfl rfl (one_of HT_.out (by kernel_rfl)) (by decide) (fun K hK => ?_)
                      refine goes_ Try.func69 (by kernel_rfl) rfl #[.int .i64 (l0_1.length : Int), .int .i64 ji19] (by rfl) rfl rfl (by (try simp only [List.map_toArray, List.map_cons, List.map_nil]); first | done | (simp only [hji19]; rfl) | rfl | (simp only [List.length_drop, List.length_take]; rfl)) ?_
                      with_reducible refine (scarfjointref07_bits.calls k1 (l0_1.length : Int) ji19 t106 _ A20.out).mono ?_
                      rintro e w71 ⟨v107, rfl, ho0, hb⟩
                      refine ⟨_, rfl, ?_⟩
                      have n0_ := Aside0.mk (Kd.N_elder' (by (with_reducible repeat (first | apply Kd.N_alloc | apply Kd.N_drewN | apply Kd.N_drew)); exact HO_7.out) (Kd.R_base ho0) hb)
                      have n1_ := Aside0.mk (Kd.R_elder' (by (with_reducible repeat (first | apply Kd.R_alloc | apply Kd.R_drewN | apply Kd.R_drew)); exact HO105.out) (Kd.R_base ho0) hb)
                      have n2_ := Aside0.mk (Kd.R_lower (Kd.R_new' (Kd.R_newM (M := fun k_ => (w.heap.size ≤ k_)) ho0 (below_size (by repeat (first | (with_reducible first | exact HB.out | apply below_alloc | apply pw_below_drewN | apply below_drew1 | refine below_set ?_ GE101.out | refine below_set ?_ GE109.out) | exact HB.out))) (fun k_ h_ => h_)) (Kd.R_lt (by (with_reducible repeat (first | apply Kd.R_alloc | apply Kd.R_drewN | apply Kd.R_drew)); exact HO105.out))) (below_size (by repeat (first | (with_reducible first | exact HB.out | apply below_alloc | apply pw_below_drewN | apply below_drew1 | refine below_set ?_ GE101.out | refine below_set ?_ GE109.out) | exact HB.out))))
                      have n3_ := Aside0.mk (blk_below (g := gb101) (o := .cells #[.slice A0_0 l0_0.length c0_0, .slice A0_1 l0_1.length c0_1] 25 (0, 0)) (by (with_reducible repeat (first | refine blk_drewN ?_ _ | refine blk_drew ?_ | refine blk_alloc ?_ _)); exact BK101.out) hb)
                      have n4_ := Aside0.mk (blk_below (g := gb109) (o := .cells #[.slice none 0 0, .slice none 0 0] 27 (0, 0)) (by (with_reducible repeat (first | refine blk_drewN ?_ _ | refine blk_drew ?_ | refine blk_alloc ?_ _)); exact BK109.out) hb)
                      have n5_ := Aside0.mk (below_step (by repeat (first | (with_reducible first | exact HB.out | apply below_alloc | apply pw_below_drewN | apply below_drew1 | refine below_set ?_ GE101.out | refine below_set ?_ GE109.out) | exact HB.out)) hb)
                      clear HO_7
                      clear HO105
                      clear BK101
                      clear BK109
                      clear HB
                      have HO_7 := n0_
                      have HO105 := n1_
                      have HO108 := n2_
                      have BK101 := n3_
                      have BK109 := n4_
                      have HB := n5_
                      clear n0_ n1_ n2_ n3_ n4_ n5_
                      (try clear hb)
                      (try clear hb2)
                      (try clear hk)
                      (try clear hi)
                      (try clear ho0)
                      obtain ⟨Ao72, co72, eo72⟩ := Kd.R_slice HO108.out
                      (first | subst eo72 | (injection eo72 with f1_ f2_ f3_; have f4_ := f1_.symm; have f5_ := f3_.symm; clear f1_ f2_ f3_; subst f4_; subst f5_))
                      obtain ⟨Ao73, co73, eo73⟩ := Kd.R_slice HO105.out
                      (first | subst eo73 | (injection eo73 with f1_ f2_ f3_; have f4_ := f1_.symm; have f5_ := f3_.symm; clear f1_ f2_ f3_; subst f4_; subst f5_))
                      refine hK.out _ _ trivial (fun hHeld => ?_)
                      clear hK K
                      refine norm_ (a' := ?_) ?_ ?_
                      rotate_left
                      · show Act.put _ (some 41) _ = _
                        simp only [Act.put, List.setIfInBounds_toArray, List.set_cons_zero, List.set_cons_succ, i64_w, i32_w]
                        rfl
                      refine pure_ (i := 8) (N := some 42) (v := ?_) (a' := ?_) #[true, true, true, true, true, true, true, true, true, true, false] rfl rfl (any_of HT_.out (by kernel_rfl)) (fun _ _ _ h => h) (Or.inl ⟨by rfl, ?_⟩) ?_ ?_
                      rotate_left
                      · intro w'
                        go_simp
                        with_reducible rfl
                      rotate_left
                      · simp only [Act.put, List.setIfInBounds_toArray, List.set_cons_zero, List.set_cons_succ, i64_w, i32_w]
                        rfl
                      exact norm_ (by simp only [putAll, Act.put, List.setIfInBounds_toArray, List.set_cons_zero, List.set_cons_succ]) (hCont (.slice Ao73 t103.length co73, .slice Ao72 t106.length co72, gb109) _ ⟨(by (with_reducible repeat (first | apply Kd.R_alloc | apply Kd.R_drewN | apply Kd.R_drew)); exact Kd.R_mono HO105.out (fun _ hk => ⟨hk.1.1, hk.2⟩)), (by (with_reducible repeat (first | apply Kd.R_alloc | apply Kd.R_drewN | apply Kd.R_drew)); exact Kd.R_mono HO108.out (fun _ hk => ⟨hk.1.1, hk.2⟩)), (by (with_reducible repeat (first | apply Kd.N_alloc | apply Kd.N_drewN | apply Kd.N_drew)); exact Kd.N_mono HO_7.out (fun _ hk => ⟨hk.1.1.1.1, ⟨hk.1.2, ⟨hk.2, ⟨hk.1.1.1.2, hk.1.1.2⟩⟩⟩⟩)), (by (with_reducible repeat (first | refine blk_drewN ?_ _ | refine blk_drew ?_ | refine blk_alloc ?_ _)); exact BK101.out), (by (with_reducible repeat (first | refine blk_drewN ?_ _ | refine blk_drew ?_ | refine blk_alloc ?_ _)); exact BK109.out), GW109.out, GE109.out, NB101_109.out, NB109_101.out, (by repeat (first | (with_reducible first | exact HB.out | apply below_alloc | apply pw_below_drewN | apply below_drew1 | refine below_set ?_ GE101.out | refine below_set ?_ GE109.out) | exact HB.out))⟩)
                  rintro ⟨v104, v107, gb109⟩ w74 ⟨h0_, h1_, h2_, h3_, h4_, h5_, h6_, h7_, h8_, h9_⟩
                  have n0_ : Aside0 (Kd.R (Kd.int .i64) 3 w74 w.heap.size (fun k_ => (w.heap.size ≤ k_) ∧ some k_ ≠ (v107 : Value).ownBlock) v104 t103) := ⟨h0_⟩
                  have n1_ : Aside0 (Kd.R (Kd.int .i64) 3 w74 w.heap.size (fun k_ => (w.heap.size ≤ k_) ∧ some k_ ≠ (v104 : Value).ownBlock) v107 t106) := ⟨h1_⟩
                  have n2_ : Aside0 (Kd.N k27 27 w74 w.heap.size (fun k_ => (w.heap.size ≤ k_) ∧ some k_ ≠ (v104 : Value).ownBlock ∧ some k_ ≠ (v107 : Value).ownBlock ∧ k_ ≠ gb101 ∧ k_ ≠ gb109) u7 x7_1) := ⟨h2_⟩
                  have n3_ : Aside0 (w74.heap[gb101]? = some (.cells #[.slice A0_0 l0_0.length c0_0, .slice A0_1 l0_1.length c0_1] 25 (0, 0))) := ⟨h3_⟩
                  have n4_ : Aside0 (w74.heap[gb109]? = some (.cells #[.slice none 0 0, .slice none 0 0] 27 (0, 0))) := ⟨h4_⟩
                  have n5_ : Aside0 (w.heap.size ≤ gb109) := ⟨h5_⟩
                  have n6_ : Aside0 (w.heap.size ≤ gb109) := ⟨h6_⟩
                  have n7_ : Aside0 (gb101 ≠ gb109) := ⟨h7_⟩
                  have n8_ : Aside0 (gb109 ≠ gb101) := ⟨h8_⟩
                  have n9_ : Aside0 (Below w.heap.size w w74) := ⟨h9_⟩
                  clear HO_7
                  clear BK101
                  clear HB
                  clear h0_ h1_ h2_ h3_ h4_ h5_ h6_ h7_ h8_ h9_
                  have HO105 := n0_
                  have HO108 := n1_
                  have HO_7 := n2_
                  have BK101 := n3_
                  have BK109 := n4_
                  have GW109 := n5_
                  have GE109 := n6_
                  have NB101_109 := n7_
                  have NB109_101 := n8_
                  have HB := n9_
                  clear n0_ n1_ n2_ n3_ n4_ n5_ n6_ n7_ n8_ n9_
                  have hHeld := trivial
                  obtain ⟨Ao75, co75, eo75⟩ := Kd.R_slice HO108.out
                  (first | subst eo75 | (injection eo75 with f1_ f2_ f3_; have f4_ := f1_.symm; have f5_ := f3_.symm; clear f1_ f2_ f3_; subst f4_; subst f5_))
                  obtain ⟨Ao76, co76, eo76⟩ := Kd.R_slice HO105.out
                  (first | subst eo76 | (injection eo76 with f1_ f2_ f3_; have f4_ := f1_.symm; have f5_ := f3_.symm; clear f1_ f2_ f3_; subst f4_; subst f5_))
                  refine norm_ (a' := ?_) ?_ ?_
                  rotate_left
                  · simp only [putAll, Act.put, List.setIfInBounds_toArray, List.set_cons_zero, List.set_cons_succ]
                    rfl
                  refine one_ (i := 10) (N := none) #[true, true, true, true, true, true, true, true, true, true, true] rfl rfl (one_of HT_.out (by kernel_rfl)) (by decide) (fun K hK => ?_)
                  have hs77 : w74.cell? ⟨gb109, 0, none⟩ = some (.slice none 0 0) := (blk_cell BK109.out 0).trans rfl
                  have hfs77 := blk_frozen BK109.out 0
                  have hns77_0 := NB101_109.out
                  have hms77_0 := NB109_101.out
                  have hs78 : w74.cell? ⟨gb109, 1, none⟩ = some (.slice none 0 0) := (blk_cell BK109.out 1).trans rfl
                  have hfs78 := blk_frozen BK109.out 1
                  have hns78_0 := NB101_109.out
                  have hms78_0 := NB109_101.out
                  refine skip_ (w1 := ?_) (by rfl) rfl ?_ ?_
                  rotate_left
                  · go_simp
                    rfl
                  refine hK.out _ _ trivial (fun hHeld => ?_)
                  clear hK K
                  refine done_ (done_of HT_.out (by kernel_rfl)) ?_
                  have hnb79 := NB101_109.out
                  have hnc79 := NB109_101.out
                  have hcz80_0 : w74.cell? ⟨gb101, 0, none⟩ = some (.slice A0_0 l0_0.length c0_0) := (blk_cell BK101.out 0).trans rfl
                  have hcz80_1 : w74.cell? ⟨gb101, 1, none⟩ = some (.slice A0_1 l0_1.length c0_1) := (blk_cell BK101.out 1).trans rfl
                  have hfz80_0 := blk_frozen BK101.out 0
                  have hfz80_1 := blk_frozen BK101.out 1
                  have hcz81_0 : w74.cell? ⟨gb109, 0, none⟩ = some (.slice none 0 0) := (blk_cell BK109.out 0).trans rfl
                  have hcz81_1 : w74.cell? ⟨gb109, 1, none⟩ = some (.slice none 0 0) := (blk_cell BK109.out 1).trans rfl
                  have hfz81_0 := blk_frozen BK109.out 0
                  have hfz81_1 := blk_frozen BK109.out 1
                  try go_wp2_with (first | ((with_reducible refine gate_callee (f := 70) rfl ?_); refine goesL_ (some 45) rfl rfl Try.func70 (by kernel_rfl) rfl #[.agg #[.slice A0_0 l0_0.length c0_0, .slice A0_1 l0_1.length c0_1], .agg #[.slice Ao76 t103.length co76, .slice Ao75 t106.length co75]] rfl (by (try simp only [List.map_toArray, List.map_cons, List.map_nil]); first | done | rfl | (simp only [List.length_drop, List.length_take]; rfl)) ?_; (with_reducible refine (scarfjointref07_Right.calls k1 _ _ l0_0 _ _ l0_1 _ _ t103 _ _ t106 t110 _ ?side1 ?side2 ?side3 ?side4 ?side5 ?side6 ?side7 ?side8 A21.out).mono ?_); (case side1 => exact Kd.C_below HR0_0.out (by repeat (first | (with_reducible first | exact HB.out | apply below_alloc | apply pw_below_drewN | apply below_drew1 | refine below_set ?_ GE101.out | refine below_set ?_ GE109.out) | exact HB.out))); (case side2 => exact HC0_0.out); (case side3 => exact Kd.C_below HR0_1.out (by repeat (first | (with_reducible first | exact HB.out | apply below_alloc | apply pw_below_drewN | apply below_drew1 | refine below_set ?_ GE101.out | refine below_set ?_ GE109.out) | exact HB.out))); (case side4 => exact HC0_1.out); (case side5 => refine (Kd.R_reads' (e := 3) (base := w.heap.size) (ok := fun k_ => ((w.heap.size ≤ k_) ∧ some k_ ≠ (.slice Ao75 t106.length co75 : Value).ownBlock)) (n := t103.length) (c := co76) ?_).2.2; exact (by (with_reducible repeat (first | apply Kd.R_alloc | apply Kd.R_drewN | apply Kd.R_drew)); exact (Kd.R_mono (Kd.R_far (p := ⟨gb109, 1, none⟩) (Kd.R_far (p := ⟨gb109, 0, none⟩) (Kd.R_types HO105.out BK109.out (by decide)) (fun _ hk => hk.2) (.slice Ao76 t103.length co76)) (fun _ hk => hk.2) (.slice Ao75 t106.length co75)) (fun _ h_ => h_.1)))); (case side6 => exact (Kd.R_reads' HO105.out).2.1); (case side7 => refine (Kd.R_reads' (e := 3) (base := w.heap.size) (ok := fun k_ => ((w.heap.size ≤ k_) ∧ some k_ ≠ (.slice Ao76 t103.length co76 : Value).ownBlock)) (n := t106.length) (c := co75) ?_).2.2; exact (by (with_reducible repeat (first | apply Kd.R_alloc | apply Kd.R_drewN | apply Kd.R_drew)); exact (Kd.R_mono (Kd.R_far (p := ⟨gb109, 1, none⟩) (Kd.R_far (p := ⟨gb109, 0, none⟩) (Kd.R_types HO108.out BK109.out (by decide)) (fun _ hk => hk.2) (.slice Ao76 t103.length co76)) (fun _ hk => hk.2) (.slice Ao75 t106.length co75)) (fun _ h_ => h_.1)))); (case side8 => exact (Kd.R_reads' HO108.out).2.1); rintro e w82 ⟨rfl, hb⟩; refine ⟨_, rfl, ?_⟩; have n0_ := Aside0.mk (Kd.N_below (by (with_reducible repeat (first | apply Kd.N_alloc | apply Kd.N_drewN | apply Kd.N_drew)); exact (Kd.N_mono (Kd.N_far (p := ⟨gb109, 1, none⟩) (Kd.N_far (p := ⟨gb109, 0, none⟩) (Kd.N_mono HO_7.out (fun k_ hk => (⟨hk, hk.2.2.2.2⟩ : _ ∧ k_ ≠ gb109))) (fun _ hk => hk.2) (.slice Ao76 t103.length co76)) (fun _ hk => hk.2) (.slice Ao75 t106.length co75)) (fun _ h_ => h_.1))) hb); have n1_ := Aside0.mk (Kd.R_below (by (with_reducible repeat (first | apply Kd.R_alloc | apply Kd.R_drewN | apply Kd.R_drew)); exact (Kd.R_mono (Kd.R_far (p := ⟨gb109, 1, none⟩) (Kd.R_far (p := ⟨gb109, 0, none⟩) (Kd.R_types HO105.out BK109.out (by decide)) (fun _ hk => hk.2) (.slice Ao76 t103.length co76)) (fun _ hk => hk.2) (.slice Ao75 t106.length co75)) (fun _ h_ => h_.1))) hb); have n2_ := Aside0.mk (Kd.R_below (by (with_reducible repeat (first | apply Kd.R_alloc | apply Kd.R_drewN | apply Kd.R_drew)); exact (Kd.R_mono (Kd.R_far (p := ⟨gb109, 1, none⟩) (Kd.R_far (p := ⟨gb109, 0, none⟩) (Kd.R_types HO108.out BK109.out (by decide)) (fun _ hk => hk.2) (.slice Ao76 t103.length co76)) (fun _ hk => hk.2) (.slice Ao75 t106.length co75)) (fun _ h_ => h_.1))) hb); have n3_ := Aside0.mk (blk_below (g := gb101) (o := .cells #[.slice A0_0 l0_0.length c0_0, .slice A0_1 l0_1.length c0_1] 25 (0, 0)) (by (with_reducible repeat (first | refine blk_drewN ?_ _ | refine blk_drew ?_ | refine blk_alloc ?_ _)); refine blk_far ?_ NB101_109.out _; (with_reducible repeat (first | refine blk_drewN ?_ _ | refine blk_drew ?_ | refine blk_alloc ?_ _)); refine blk_far ?_ NB101_109.out _; (with_reducible repeat (first | refine blk_drewN ?_ _ | refine blk_drew ?_ | refine blk_alloc ?_ _)); exact BK101.out) hb); have n4_ := Aside0.mk (blk_below (g := gb109) (o := .cells #[.slice Ao76 t103.length co76, .slice Ao75 t106.length co75] 27 (0, 0)) (by (with_reducible repeat (first | refine blk_drewN ?_ _ | refine blk_drew ?_ | refine blk_alloc ?_ _)); refine blk_put (cs := #[.slice Ao76 t103.length co76, .slice none 0 0]) ?_ 1 _ rfl; (with_reducible repeat (first | refine blk_drewN ?_ _ | refine blk_drew ?_ | refine blk_alloc ?_ _)); refine blk_put (cs := #[.slice none 0 0, .slice none 0 0]) ?_ 0 _ rfl; (with_reducible repeat (first | refine blk_drewN ?_ _ | refine blk_drew ?_ | refine blk_alloc ?_ _)); exact BK109.out) hb); have n5_ := Aside0.mk (below_step (by repeat (first | (with_reducible first | exact HB.out | apply below_alloc | apply pw_below_drewN | apply below_drew1 | refine below_set ?_ GE101.out | refine below_set ?_ GE109.out) | exact HB.out)) hb); clear HO_7; clear HO105; clear HO108; clear BK101; clear BK109; clear HB; have HO_7 := n0_; have HO105 := n1_; have HO108 := n2_; have BK101 := n3_; have BK109 := n4_; have HB := n5_; clear n0_ n1_ n2_ n3_ n4_ n5_; (try clear hb); (try clear hb2); (try clear hk); (try clear hi)))
                  try rw [← hji13]
                  go_roundg k1
                  case measure => have := HK1.out; omega
                  case rel => exact ⟨(x7_1), (wrap64 (x8_1 + 1)), (by first | rfl | (simp; done) | (simp [*]; done)), H', ⟨by have := HK1.out; omega⟩, ⟨by (with_reducible repeat (first | apply Kd.N_alloc | apply Kd.N_drewN | apply Kd.N_drew)); exact Kd.N_mono HO_7.out (fun _ hk => ⟨hk.1, hk.2.2.2.1⟩)⟩, ⟨by (with_reducible repeat (first | refine blk_drewN ?_ _ | refine blk_drew ?_ | refine blk_alloc ?_ _)); exact BK101.out⟩, ⟨by repeat (first | (with_reducible first | exact HB.out | apply below_alloc | apply pw_below_drewN | apply below_drew1 | refine below_set ?_ GE101.out | refine below_set ?_ GE109.out) | exact HB.out)⟩⟩
              · rw [if_neg c18] at H
                exact absurd H (by simp)
            · rw [if_neg c16] at H
              have c16b0 : decide (x8_1 < (ji15)) = false := decide_eq_false c16
              clear c16
              simp only [Option.some.injEq, Prod.mk.injEq] at H
              obtain ⟨rfl, rfl⟩ := H
              go_wp2
              go_ret2
              exact ⟨_, by first | rfl | (simp [errW_none, errW_some] <;> rfl) | (simp only [← hji13, ← hji15]; first | rfl | (simp [errW_none, errW_some] <;> rfl)) | (simp [*, errW_none, errW_some] <;> rfl), by (with_reducible repeat (first | apply Kd.N_alloc | apply Kd.N_drewN | apply Kd.N_drew)); exact Kd.N_mono HO_7.out (fun _ hk => hk.1), by repeat (first | (with_reducible first | exact HB.out | apply below_alloc | apply pw_below_drewN | apply below_drew1 | refine below_set ?_ GE101.out) | exact HB.out)⟩
          · rw [if_neg c14] at H
            exact absurd H (by simp)
  · rw [if_neg c3] at H
    have c3b0 : (t102 == 0) = false := beq_eq_false_iff_ne.mpr c3
    have c3b1 : (t102 != 0) = true := bne_iff_ne.mpr c3
    simp only [Option.some.injEq, Prod.mk.injEq] at H
    obtain ⟨rfl, rfl⟩ := H
    go_enter Try.func25, Try.ntmps25
    go_wp2_with (first | ((with_reducible refine gate_dst (N := 1) rfl ?_); refine box_event ?hg (N := 1) ?hd (cs := #[.slice A0_0 l0_0.length c0_0, .slice A0_1 l0_1.length c0_1]) (t := 25) ?hr ?_; (case hd => rfl); (case hg => rfl); (case hr => first | (go_simp; done) | (go_simp; rfl)); intro gb101 hg w83 hbox hb; have n0_ := Aside0.mk (below_step (by repeat (first | (with_reducible first | exact HB.out | apply below_alloc | apply pw_below_drewN | apply below_drew1) | exact HB.out)) hb); have n1_ := Aside0.mk (hbox); have n2_ := Aside0.mk ((by rw [hg]; exact (below_size (by repeat (first | (with_reducible first | exact HB.out | apply below_alloc | apply pw_below_drewN | apply below_drew1) | exact HB.out))) : w.heap.size ≤ gb101)); have n3_ := Aside0.mk ((by rw [hg]; exact (below_size (by repeat (first | (with_reducible first | exact HB.out | apply below_alloc | apply pw_below_drewN | apply below_drew1) | exact HB.out))) : w.heap.size ≤ gb101)); clear HB; have HB := n0_; have BK101 := n1_; have GW101 := n2_; have GE101 := n3_; clear n0_ n1_ n2_ n3_; clear hb hbox hg; have hcz84_0 : w83.cell? ⟨gb101, 0, none⟩ = some (.slice A0_0 l0_0.length c0_0) := (blk_cell BK101.out 0).trans rfl; have hcz84_1 : w83.cell? ⟨gb101, 1, none⟩ = some (.slice A0_1 l0_1.length c0_1) := (blk_cell BK101.out 1).trans rfl; have hfz84_0 := blk_frozen BK101.out 0; have hfz84_1 := blk_frozen BK101.out 1) | ((with_reducible refine gate_callee (f := 20) rfl ?_); refine goesL_ (some 12) rfl rfl Try.func20 (by kernel_rfl) rfl #[.agg #[.slice A0_0 l0_0.length c0_0, .slice A0_1 l0_1.length c0_1]] rfl (by (try simp only [List.map_toArray, List.map_cons, List.map_nil]); first | done | rfl | (simp only [List.length_drop, List.length_take]; rfl)) ?_; (with_reducible refine (scarfjointref05_Valid.calls k _ _ l0_0 _ _ l0_1 t102 _ ?side1 ?side2 ?side3 ?side4 A2.out).mono ?_); (case side1 => repeat (first | exact (Kd.C_below HR0_0.out HB.out) | (with_reducible refine Kd.C_alloc ?_ _) | (with_reducible refine Kd.C_drewN ?_ _) | (with_reducible refine Kd.C_drew ?_))); (case side2 => exact HC0_0.out); (case side3 => repeat (first | exact (Kd.C_below HR0_1.out HB.out) | (with_reducible refine Kd.C_alloc ?_ _) | (with_reducible refine Kd.C_drewN ?_ _) | (with_reducible refine Kd.C_drew ?_))); (case side4 => exact HC0_1.out); rintro e w85 ⟨rfl, hb⟩; refine ⟨_, rfl, ?_⟩; have n0_ := Aside0.mk (blk_below (g := gb101) (o := .cells #[.slice A0_0 l0_0.length c0_0, .slice A0_1 l0_1.length c0_1] 25 (0, 0)) (by (with_reducible repeat (first | refine blk_drewN ?_ _ | refine blk_drew ?_ | refine blk_alloc ?_ _)); exact BK101.out) hb); have n1_ := Aside0.mk (below_step (by repeat (first | (with_reducible first | exact HB.out | apply below_alloc | apply pw_below_drewN | apply below_drew1 | refine below_set ?_ GE101.out) | exact HB.out)) hb); clear BK101; clear HB; have BK101 := n0_; have HB := n1_; clear n0_ n1_; (try clear hb); (try clear hb2); (try clear hk); (try clear hi)))
    go_ret2
    exact ⟨_, by first | rfl | (simp [errW_none, errW_some] <;> rfl) | (simp [*, errW_none, errW_some] <;> rfl), by first | exact Kd.S_nil _ _ _ _ _ | exact Kd.N_nil _ _ _ _ _ | exact Kd.V_nil _ _ _ _ _ | exact Kd.Q_nil _ _ _ _ _ | exact Kd.R_nil _ _ _ _ _, by repeat (first | (with_reducible first | exact HB.out | apply below_alloc | apply pw_below_drewN | apply below_drew1 | refine below_set ?_ GE101.out) | exact HB.out)⟩
end Go.Proofs.Ytonipihlpbaknaa.Print

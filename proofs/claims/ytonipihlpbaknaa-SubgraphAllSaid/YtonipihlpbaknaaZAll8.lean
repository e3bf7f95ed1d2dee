/- A part of the proof that the law returns true at every input; what the walked functions compute. -/
import Derived.Lib.Hide
import Derived.Shelf.Abstract
import Derived.Test.YtonipihlpbaknaaZAll0
import Derived.Test.YtonipihlpbaknaaZAll1
import Derived.Test.YtonipihlpbaknaaZAll2
import Derived.Test.YtonipihlpbaknaaZAll3
import Derived.Test.YtonipihlpbaknaaZAll4
import Derived.Test.YtonipihlpbaknaaZAll5
import Derived.Test.YtonipihlpbaknaaZAll6
import Derived.Test.YtonipihlpbaknaaZAll7
namespace Go.Proofs.Ytonipihlpbaknaa.Print
open Go.RowKit Go.Proofs.YtonipihlpbaknaaW.PrintWords Go.Proofs.YtonipihlpbaknaaW.PrintLast Go.Proofs.YtonipihlpbaknaaW.PrintMore
attribute [local go_sem] max2_int min2_int max_two min_two max_three min_three max_four min_four   -- for this text's walks alone
set_option linter.unusedVariables false
set_option linter.unusedSimpArgs false
mutual
def scarfjointref05_SameParts.l0 : Nat → List (S27) → List (S27) → Int → Option (Bool)
  | 0, _, _, _ => none
  | k + 1, x0, x1, x5 => if x5 < (x0.length : Int) then (if 0 ≤ x5 then (if x5 < (x1.length : Int) then ((scarfjointref05_SameInts.f k ((rd_T27 x0 x5).f0) ((rd_T27 x1 x5).f0)).bind fun t103 => (if t103 = true then ((scarfjointref05_SameInts.f k ((rd_T27 x0 x5).f1) ((rd_T27 x1 x5).f1)).bind fun t106 => (scarfjointref05_SameParts.j1 k x0 x1 x5 (!t106))) else (scarfjointref05_SameParts.j1 k x0 x1 x5 true))) else (none)) else (none)) else (some true)
def scarfjointref05_SameParts.j1 : Nat → List (S27) → List (S27) → Int → Bool → Option (Bool)
  | 0, _, _, _, _ => none
  | k + 1, x0, x1, x5, x42 => if x42 = true then (some false) else (scarfjointref05_SameParts.l0 k x0 x1 (wrap64 (x5 + 1)))
end
def scarfjointref05_SameParts.f (k : Nat) (l0 : List (S27)) (l1 : List (S27)) : Option (Bool) := if (l0.length : Int) = (l1.length : Int) then (scarfjointref05_SameParts.l0 k l0 l1 0) else (some false)
set_option maxHeartbeats 8000000 in
set_option maxRecDepth 100000 in
theorem scarfjointref05_SameParts.calls (k : Nat) (A0 : Option Addr) (c0 : Nat) (l0 : List (S27)) (A1 : Option Addr) (c1 : Nat) (l1 : List (S27)) (r : Bool) (w : World) (hr0 : Kd.C k27 w A0 l0.length l0) (hc0 : l0.length ≤ c0) (hr1 : Kd.C k27 w A1 l1.length l1) (hc1 : l1.length ≤ c1) (h : scarfjointref05_SameParts.f k l0 l1 = some r) :
    Calls Try.prog 26 #[.slice A0 l0.length c0, .slice A1 l1.length c1] w fun e w' => e = .returned (.bool r) ∧ Drawn0 w w' := by
  have HR0 := Aside0.mk hr0
  have HC0 := Aside0.mk hc0
  clear hr0 hc0
  have HR1 := Aside0.mk hr1
  have HC1 := Aside0.mk hc1
  clear hr1 hc1
  have H : (if (l0.length : Int) = (l1.length : Int) then (scarfjointref05_SameParts.l0 k l0 l1 0) else (some false)) = some r := h
  clear h
  by_cases c3 : (l0.length : Int) = (l1.length : Int)
  · rw [if_pos c3] at H
    have c3b0 : ((l0.length : Int) == (l1.length : Int)) = true := beq_iff_eq.mpr c3
    have c3b1 : ((l0.length : Int) != (l1.length : Int)) = false := bne_eq_false_iff_eq.mpr c3
    have c3b2 : (l0.length == l1.length) = true := by first | simpa using c3 | (simp at c3 ⊢; omega)
    clear c3
    have H' := Aside0.mk H
    clear H
    go_enter Try.func26, Try.ntmps26
    go_wp2
    repeat (go_quiet (fail); try go_wp2)
    go_loopg [5] k (fun kq v5 w' => ∃ (x5_1 : Int), v5 = .int .i64 x5_1 ∧ Aside0 (scarfjointref05_SameParts.l0 kq l0 l1 x5_1 = some r) ∧ Aside0 (kq ≤ k) ∧ Drawn0 w w')
    case atStart => exact ⟨(0), (by first | rfl | (simp; done) | (simp [*]; done)), H', ⟨Nat.le_refl _⟩, by repeat (first | exact Drawn0.refl _ | apply Drawn0.step)⟩
    case round =>
      clear H'
      try clear c1
      try clear c2
      try clear p2
      try clear c3
      try clear c3b0
      try clear c3b1
      try clear c3b2
      obtain ⟨x5_1, rfl, HA, HK1, ⟨m1, rfl⟩⟩ := hrel
      cases gk with
      | zero => exact absurd HA.out (by simp [scarfjointref05_SameParts.l0])
      | succ k1 =>
        have H := HA.out
        clear HA
        simp only [scarfjointref05_SameParts.l0] at H
        by_cases c4 : x5_1 < (l0.length : Int)
        · rw [if_pos c4] at H
          have c4b0 : decide (x5_1 < (l0.length : Int)) = true := decide_eq_true c4
          clear c4
          have HC5 := Aside0.mk H
          clear H
          go_upto_region 6 with (fail)
          repeat (go_quiet (fail); go_upto_region 6 with (fail))
          go_cut [42] (fun v42 wc => ∃ (kq : Nat) (x42_4 : Bool), v42 = .bool x42_4 ∧ Aside0 (scarfjointref05_SameParts.j1 kq l0 l1 x5_1 x42_4 = some r) ∧ Aside0 (kq ≤ k1) ∧ Drawn0 w wc)
          case first =>
            have H := HC5.out
            clear HC5
            by_cases c6 : 0 ≤ x5_1
            · rw [if_pos c6] at H
              have c6b0 : decide (0 ≤ x5_1) = true := decide_eq_true c6
              clear c6
              (first | rw [c6b0] | (simp only [i64_w, i32_w]; rw [c6b0]) | skip)
              by_cases c7 : x5_1 < (l1.length : Int)
              · rw [if_pos c7] at H
                have c7b0 : decide (x5_1 < (l1.length : Int)) = true := decide_eq_true c7
                clear c7
                replace H := Option.bind_eq_some_iff.mp H
                obtain ⟨t103, A80, H⟩ := H
                replace H : (if t103 = true then ((scarfjointref05_SameInts.f k1 ((rd_T27 l0 x5_1).f1) ((rd_T27 l1 x5_1).f1)).bind fun t106 => (scarfjointref05_SameParts.j1 k1 l0 l1 x5_1 (!t106))) else (scarfjointref05_SameParts.j1 k1 l0 l1 x5_1 true)) = some r := H
                have A8 := Aside0.mk A80
                clear A80
                by_cases c9 : t103 = true
                · subst c9
                  have H1 : ((scarfjointref05_SameInts.f k1 ((rd_T27 l0 x5_1).f1) ((rd_T27 l1 x5_1).f1)).bind fun t106 => (scarfjointref05_SameParts.j1 k1 l0 l1 x5_1 (!t106))) = some r := by rw [if_pos rfl] at H; exact H
                  clear H
                  have H := H1
                  clear H1
                  replace H := Option.bind_eq_some_iff.mp H
                  obtain ⟨t106, A100, H⟩ := H
                  replace H : (scarfjointref05_SameParts.j1 k1 l0 l1 x5_1 (!t106)) = some r := H
                  have A10 := Aside0.mk A100
                  clear A100
                  have H' := Aside0.mk H
                  clear H
                  have p101 : 0 ≤ (x5_1 : Int) := of_decide_eq_true (by first | (with_reducible assumption) | assumption)
                  have q101 : x5_1 < (l0.length : Int) := of_decide_eq_true (by first | (with_reducible assumption) | assumption)
                  obtain ⟨ad101, A101_0, c101_0, A101_1, c101_1, e101, hx101_0, hx101_1, hl101_0, hi101_0, hl101_1, hi101_1⟩ := at_T27 HR0.out x5_1 p101 q101
                  cases e101
                  have HR101_0 := Aside0.mk hi101_0
                  have HC101_0 := Aside0.mk hl101_0
                  clear hi101_0 hl101_0
                  have HR101_1 := Aside0.mk hi101_1
                  have HC101_1 := Aside0.mk hl101_1
                  clear hi101_1 hl101_1
                  replace p101 := eq_true p101
                  replace q101 := eq_true q101
                  have p102 : 0 ≤ (x5_1 : Int) := of_decide_eq_true (by first | (with_reducible assumption) | assumption)
                  have q102 : x5_1 < (l1.length : Int) := of_decide_eq_true (by first | (with_reducible assumption) | assumption)
                  obtain ⟨ad102, A102_0, c102_0, A102_1, c102_1, e102, hx102_0, hx102_1, hl102_0, hi102_0, hl102_1, hi102_1⟩ := at_T27 HR1.out x5_1 p102 q102
                  cases e102
                  have HR102_0 := Aside0.mk hi102_0
                  have HC102_0 := Aside0.mk hl102_0
                  clear hi102_0 hl102_0
                  have HR102_1 := Aside0.mk hi102_1
                  have HC102_1 := Aside0.mk hl102_1
                  clear hi102_1 hl102_1
                  replace p102 := eq_true p102
                  replace q102 := eq_true q102
                  go_wp2_with (first | (go_at_call 59; (with_reducible refine (scarfjointref05_SameInts.calls k1 _ _ ((rd_T27 l0 x5_1).f0) _ _ ((rd_T27 l1 x5_1).f0) true _ ?side1 ?side2 ?side3 ?side4 A8.out).mono ?_); (case side1 => repeat (first | exact HR101_0.out | (with_reducible refine Kd.C_alloc ?_ _) | (with_reducible refine Kd.C_drewN ?_ _) | (with_reducible refine Kd.C_drew ?_))); (case side2 => exact HC101_0.out); (case side3 => repeat (first | exact HR102_0.out | (with_reducible refine Kd.C_alloc ?_ _) | (with_reducible refine Kd.C_drewN ?_ _) | (with_reducible refine Kd.C_drew ?_))); (case side4 => exact HC102_0.out); rintro e w' ⟨rfl, ⟨nd, rfl⟩⟩; (try first | exact ⟨rfl, _, World.drewN_drewN _ _ _⟩ | exact ⟨rfl, _, Eq.trans (World.drewN_drewN _ _ _) (congrArg (World.drewN _) (Nat.add_assoc _ _ _))⟩); have p104 : 0 ≤ (x5_1 : Int) := of_decide_eq_true (by first | (with_reducible assumption) | assumption); have q104 : x5_1 < (l0.length : Int) := of_decide_eq_true (by first | (with_reducible assumption) | assumption); obtain ⟨ad104, A104_0, c104_0, A104_1, c104_1, e104, hx104_0, hx104_1, hl104_0, hi104_0, hl104_1, hi104_1⟩ := at_T27 HR0.out x5_1 p104 q104; obtain rfl : ad101 = ad104 := (by injection e104); have HR104_0 := Aside0.mk hi104_0; have HC104_0 := Aside0.mk hl104_0; clear hi104_0 hl104_0; have HR104_1 := Aside0.mk hi104_1; have HC104_1 := Aside0.mk hl104_1; clear hi104_1 hl104_1; replace p104 := eq_true p104; replace q104 := eq_true q104; have ea_ := Option.some.inj (hx101_0.symm.trans hx104_0); injection ea_ with ea_ en_ ec_; subst ea_; subst ec_; clear en_; have ea_ := Option.some.inj (hx101_1.symm.trans hx104_1); injection ea_ with ea_ en_ ec_; subst ea_; subst ec_; clear en_; have p105 : 0 ≤ (x5_1 : Int) := of_decide_eq_true (by first | (with_reducible assumption) | assumption); have q105 : x5_1 < (l1.length : Int) := of_decide_eq_true (by first | (with_reducible assumption) | assumption); obtain ⟨ad105, A105_0, c105_0, A105_1, c105_1, e105, hx105_0, hx105_1, hl105_0, hi105_0, hl105_1, hi105_1⟩ := at_T27 HR1.out x5_1 p105 q105; obtain rfl : ad102 = ad105 := (by injection e105); have HR105_0 := Aside0.mk hi105_0; have HC105_0 := Aside0.mk hl105_0; clear hi105_0 hl105_0; have HR105_1 := Aside0.mk hi105_1; have HC105_1 := Aside0.mk hl105_1; clear hi105_1 hl105_1; replace p105 := eq_true p105; replace q105 := eq_true q105; have ea_ := Option.some.inj (hx102_0.symm.trans hx105_0); injection ea_ with ea_ en_ ec_; subst ea_; subst ec_; clear en_; have ea_ := Option.some.inj (hx102_1.symm.trans hx105_1); injection ea_ with ea_ en_ ec_; subst ea_; subst ec_; clear en_) | (go_at_call 59; (with_reducible refine (scarfjointref05_SameInts.calls k1 _ _ ((rd_T27 l0 x5_1).f1) _ _ ((rd_T27 l1 x5_1).f1) t106 _ ?side1 ?side2 ?side3 ?side4 A10.out).mono ?_); (case side1 => repeat (first | exact HR104_1.out | (with_reducible refine Kd.C_alloc ?_ _) | (with_reducible refine Kd.C_drewN ?_ _) | (with_reducible refine Kd.C_drew ?_))); (case side2 => exact HC104_1.out); (case side3 => repeat (first | exact HR105_1.out | (with_reducible refine Kd.C_alloc ?_ _) | (with_reducible refine Kd.C_drewN ?_ _) | (with_reducible refine Kd.C_drew ?_))); (case side4 => exact HC105_1.out); rintro e w' ⟨rfl, ⟨nd, rfl⟩⟩; (try first | exact ⟨rfl, _, World.drewN_drewN _ _ _⟩ | exact ⟨rfl, _, Eq.trans (World.drewN_drewN _ _ _) (congrArg (World.drewN _) (Nat.add_assoc _ _ _))⟩)))
                  repeat (go_quiet (first | (go_at_call 59; (with_reducible refine (scarfjointref05_SameInts.calls k1 _ _ ((rd_T27 l0 x5_1).f0) _ _ ((rd_T27 l1 x5_1).f0) true _ ?side1 ?side2 ?side3 ?side4 A8.out).mono ?_); (case side1 => repeat (first | exact HR101_0.out | (with_reducible refine Kd.C_alloc ?_ _) | (with_reducible refine Kd.C_drewN ?_ _) | (with_reducible refine Kd.C_drew ?_))); (case side2 => exact HC101_0.out); (case side3 => repeat (first | exact HR102_0.out | (with_reducible refine Kd.C_alloc ?_ _) | (with_reducible refine Kd.C_drewN ?_ _) | (with_reducible refine Kd.C_drew ?_))); (case side4 => exact HC102_0.out); rintro e w' ⟨rfl, ⟨nd, rfl⟩⟩; (try first | exact ⟨rfl, _, World.drewN_drewN _ _ _⟩ | exact ⟨rfl, _, Eq.trans (World.drewN_drewN _ _ _) (congrArg (World.drewN _) (Nat.add_assoc _ _ _))⟩); have p104 : 0 ≤ (x5_1 : Int) := of_decide_eq_true (by first | (with_reducible assumption) | assumption); have q104 : x5_1 < (l0.length : Int) := of_decide_eq_true (by first | (with_reducible assumption) | assumption); obtain ⟨ad104, A104_0, c104_0, A104_1, c104_1, e104, hx104_0, hx104_1, hl104_0, hi104_0, hl104_1, hi104_1⟩ := at_T27 HR0.out x5_1 p104 q104; obtain rfl : ad101 = ad104 := (by injection e104); have HR104_0 := Aside0.mk hi104_0; have HC104_0 := Aside0.mk hl104_0; clear hi104_0 hl104_0; have HR104_1 := Aside0.mk hi104_1; have HC104_1 := Aside0.mk hl104_1; clear hi104_1 hl104_1; replace p104 := eq_true p104; replace q104 := eq_true q104; have ea_ := Option.some.inj (hx101_0.symm.trans hx104_0); injection ea_ with ea_ en_ ec_; subst ea_; subst ec_; clear en_; have ea_ := Option.some.inj (hx101_1.symm.trans hx104_1); injection ea_ with ea_ en_ ec_; subst ea_; subst ec_; clear en_; have p105 : 0 ≤ (x5_1 : Int) := of_decide_eq_true (by first | (with_reducible assumption) | assumption); have q105 : x5_1 < (l1.length : Int) := of_decide_eq_true (by first | (with_reducible assumption) | assumption); obtain ⟨ad105, A105_0, c105_0, A105_1, c105_1, e105, hx105_0, hx105_1, hl105_0, hi105_0, hl105_1, hi105_1⟩ := at_T27 HR1.out x5_1 p105 q105; obtain rfl : ad102 = ad105 := (by injection e105); have HR105_0 := Aside0.mk hi105_0; have HC105_0 := Aside0.mk hl105_0; clear hi105_0 hl105_0; have HR105_1 := Aside0.mk hi105_1; have HC105_1 := Aside0.mk hl105_1; clear hi105_1 hl105_1; replace p105 := eq_true p105; replace q105 := eq_true q105; have ea_ := Option.some.inj (hx102_0.symm.trans hx105_0); injection ea_ with ea_ en_ ec_; subst ea_; subst ec_; clear en_; have ea_ := Option.some.inj (hx102_1.symm.trans hx105_1); injection ea_ with ea_ en_ ec_; subst ea_; subst ec_; clear en_) | (go_at_call 59; (with_reducible refine (scarfjointref05_SameInts.calls k1 _ _ ((rd_T27 l0 x5_1).f1) _ _ ((rd_T27 l1 x5_1).f1) t106 _ ?side1 ?side2 ?side3 ?side4 A10.out).mono ?_); (case side1 => repeat (first | exact HR104_1.out | (with_reducible refine Kd.C_alloc ?_ _) | (with_reducible refine Kd.C_drewN ?_ _) | (with_reducible refine Kd.C_drew ?_))); (case side2 => exact HC104_1.out); (case side3 => repeat (first | exact HR105_1.out | (with_reducible refine Kd.C_alloc ?_ _) | (with_reducible refine Kd.C_drewN ?_ _) | (with_reducible refine Kd.C_drew ?_))); (case side4 => exact HC105_1.out); rintro e w' ⟨rfl, ⟨nd, rfl⟩⟩; (try first | exact ⟨rfl, _, World.drewN_drewN _ _ _⟩ | exact ⟨rfl, _, Eq.trans (World.drewN_drewN _ _ _) (congrArg (World.drewN _) (Nat.add_assoc _ _ _))⟩))); try go_wp2_with (first | (go_at_call 59; (with_reducible refine (scarfjointref05_SameInts.calls k1 _ _ ((rd_T27 l0 x5_1).f0) _ _ ((rd_T27 l1 x5_1).f0) true _ ?side1 ?side2 ?side3 ?side4 A8.out).mono ?_); (case side1 => repeat (first | exact HR101_0.out | (with_reducible refine Kd.C_alloc ?_ _) | (with_reducible refine Kd.C_drewN ?_ _) | (with_reducible refine Kd.C_drew ?_))); (case side2 => exact HC101_0.out); (case side3 => repeat (first | exact HR102_0.out | (with_reducible refine Kd.C_alloc ?_ _) | (with_reducible refine Kd.C_drewN ?_ _) | (with_reducible refine Kd.C_drew ?_))); (case side4 => exact HC102_0.out); rintro e w' ⟨rfl, ⟨nd, rfl⟩⟩; (try first | exact ⟨rfl, _, World.drewN_drewN _ _ _⟩ | exact ⟨rfl, _, Eq.trans (World.drewN_drewN _ _ _) (congrArg (World.drewN _) (Nat.add_assoc _ _ _))⟩); have p104 : 0 ≤ (x5_1 : Int) := of_decide_eq_true (by first | (with_reducible assumption) | assumption); have q104 : x5_1 < (l0.length : Int) := of_decide_eq_true (by first | (with_reducible assumption) | assumption); obtain ⟨ad104, A104_0, c104_0, A104_1, c104_1, e104, hx104_0, hx104_1, hl104_0, hi104_0, hl104_1, hi104_1⟩ := at_T27 HR0.out x5_1 p104 q104; obtain rfl : ad101 = ad104 := (by injection e104); have HR104_0 := Aside0.mk hi104_0; have HC104_0 := Aside0.mk hl104_0; clear hi104_0 hl104_0; have HR104_1 := Aside0.mk hi104_1; have HC104_1 := Aside0.mk hl104_1; clear hi104_1 hl104_1; replace p104 := eq_true p104; replace q104 := eq_true q104; have ea_ := Option.some.inj (hx101_0.symm.trans hx104_0); injection ea_ with ea_ en_ ec_; subst ea_; subst ec_; clear en_; have ea_ := Option.some.inj (hx101_1.symm.trans hx104_1); injection ea_ with ea_ en_ ec_; subst ea_; subst ec_; clear en_; have p105 : 0 ≤ (x5_1 : Int) := of_decide_eq_true (by first | (with_reducible assumption) | assumption); have q105 : x5_1 < (l1.length : Int) := of_decide_eq_true (by first | (with_reducible assumption) | assumption); obtain ⟨ad105, A105_0, c105_0, A105_1, c105_1, e105, hx105_0, hx105_1, hl105_0, hi105_0, hl105_1, hi105_1⟩ := at_T27 HR1.out x5_1 p105 q105; obtain rfl : ad102 = ad105 := (by injection e105); have HR105_0 := Aside0.mk hi105_0; have HC105_0 := Aside0.mk hl105_0; clear hi105_0 hl105_0; have HR105_1 := Aside0.mk hi105_1; have HC105_1 := Aside0.mk hl105_1; clear hi105_1 hl105_1; replace p105 := eq_true p105; replace q105 := eq_true q105; have ea_ := Option.some.inj (hx102_0.symm.trans hx105_0); injection ea_ with ea_ en_ ec_; subst ea_; subst ec_; clear en_; have ea_ := Option.some.inj (hx102_1.symm.trans hx105_1); injection ea_ with ea_ en_ ec_; subst ea_; subst ec_; clear en_) | (go_at_call 59; (with_reducible refine (scarfjointref05_SameInts.calls k1 _ _ ((rd_T27 l0 x5_1).f1) _ _ ((rd_T27 l1 x5_1).f1) t106 _ ?side1 ?side2 ?side3 ?side4 A10.out).mono ?_); (case side1 => repeat (first | exact HR104_1.out | (with_reducible refine Kd.C_alloc ?_ _) | (with_reducible refine Kd.C_drewN ?_ _) | (with_reducible refine Kd.C_drew ?_))); (case side2 => exact HC104_1.out); (case side3 => repeat (first | exact HR105_1.out | (with_reducible refine Kd.C_alloc ?_ _) | (with_reducible refine Kd.C_drewN ?_ _) | (with_reducible refine Kd.C_drew ?_))); (case side4 => exact HC105_1.out); rintro e w' ⟨rfl, ⟨nd, rfl⟩⟩; (try first | exact ⟨rfl, _, World.drewN_drewN _ _ _⟩ | exact ⟨rfl, _, Eq.trans (World.drewN_drewN _ _ _) (congrArg (World.drewN _) (Nat.add_assoc _ _ _))⟩))))
                  go_meet
                  case rel => exact ⟨_, (!t106), (by first | rfl | (simp; done) | (simp [*]; done)), H', ⟨by have := HK1.out; first | omega | exact Nat.le_refl _⟩, by repeat (first | exact Drawn0.refl _ | apply Drawn0.step)⟩
                · replace c9 := Bool.eq_false_iff.mpr c9
                  subst c9
                  have H1 : (scarfjointref05_SameParts.j1 k1 l0 l1 x5_1 true) = some r := by rw [if_neg (show ¬ (false = true) by decide)] at H; exact H
                  clear H
                  have H := H1
                  clear H1
                  have H' := Aside0.mk H
                  clear H
                  have p101 : 0 ≤ (x5_1 : Int) := of_decide_eq_true (by first | (with_reducible assumption) | assumption)
                  have q101 : x5_1 < (l0.length : Int) := of_decide_eq_true (by first | (with_reducible assumption) | assumption)
                  obtain ⟨ad101, A101_0, c101_0, A101_1, c101_1, e101, hx101_0, hx101_1, hl101_0, hi101_0, hl101_1, hi101_1⟩ := at_T27 HR0.out x5_1 p101 q101
                  cases e101
                  have HR101_0 := Aside0.mk hi101_0
                  have HC101_0 := Aside0.mk hl101_0
                  clear hi101_0 hl101_0
                  have HR101_1 := Aside0.mk hi101_1
                  have HC101_1 := Aside0.mk hl101_1
                  clear hi101_1 hl101_1
                  replace p101 := eq_true p101
                  replace q101 := eq_true q101
                  have p102 : 0 ≤ (x5_1 : Int) := of_decide_eq_true (by first | (with_reducible assumption) | assumption)
                  have q102 : x5_1 < (l1.length : Int) := of_decide_eq_true (by first | (with_reducible assumption) | assumption)
                  obtain ⟨ad102, A102_0, c102_0, A102_1, c102_1, e102, hx102_0, hx102_1, hl102_0, hi102_0, hl102_1, hi102_1⟩ := at_T27 HR1.out x5_1 p102 q102
                  cases e102
                  have HR102_0 := Aside0.mk hi102_0
                  have HC102_0 := Aside0.mk hl102_0
                  clear hi102_0 hl102_0
                  have HR102_1 := Aside0.mk hi102_1
                  have HC102_1 := Aside0.mk hl102_1
                  clear hi102_1 hl102_1
                  replace p102 := eq_true p102
                  replace q102 := eq_true q102
                  go_wp2_with (first | (go_at_call 59; (with_reducible refine (scarfjointref05_SameInts.calls k1 _ _ ((rd_T27 l0 x5_1).f0) _ _ ((rd_T27 l1 x5_1).f0) false _ ?side1 ?side2 ?side3 ?side4 A8.out).mono ?_); (case side1 => repeat (first | exact HR101_0.out | (with_reducible refine Kd.C_alloc ?_ _) | (with_reducible refine Kd.C_drewN ?_ _) | (with_reducible refine Kd.C_drew ?_))); (case side2 => exact HC101_0.out); (case side3 => repeat (first | exact HR102_0.out | (with_reducible refine Kd.C_alloc ?_ _) | (with_reducible refine Kd.C_drewN ?_ _) | (with_reducible refine Kd.C_drew ?_))); (case side4 => exact HC102_0.out); rintro e w' ⟨rfl, ⟨nd, rfl⟩⟩; (try first | exact ⟨rfl, _, World.drewN_drewN _ _ _⟩ | exact ⟨rfl, _, Eq.trans (World.drewN_drewN _ _ _) (congrArg (World.drewN _) (Nat.add_assoc _ _ _))⟩)))
                  repeat (go_quiet (first | (go_at_call 59; (with_reducible refine (scarfjointref05_SameInts.calls k1 _ _ ((rd_T27 l0 x5_1).f0) _ _ ((rd_T27 l1 x5_1).f0) false _ ?side1 ?side2 ?side3 ?side4 A8.out).mono ?_); (case side1 => repeat (first | exact HR101_0.out | (with_reducible refine Kd.C_alloc ?_ _) | (with_reducible refine Kd.C_drewN ?_ _) | (with_reducible refine Kd.C_drew ?_))); (case side2 => exact HC101_0.out); (case side3 => repeat (first | exact HR102_0.out | (with_reducible refine Kd.C_alloc ?_ _) | (with_reducible refine Kd.C_drewN ?_ _) | (with_reducible refine Kd.C_drew ?_))); (case side4 => exact HC102_0.out); rintro e w' ⟨rfl, ⟨nd, rfl⟩⟩; (try first | exact ⟨rfl, _, World.drewN_drewN _ _ _⟩ | exact ⟨rfl, _, Eq.trans (World.drewN_drewN _ _ _) (congrArg (World.drewN _) (Nat.add_assoc _ _ _))⟩))); try go_wp2_with (first | (go_at_call 59; (with_reducible refine (scarfjointref05_SameInts.calls k1 _ _ ((rd_T27 l0 x5_1).f0) _ _ ((rd_T27 l1 x5_1).f0) false _ ?side1 ?side2 ?side3 ?side4 A8.out).mono ?_); (case side1 => repeat (first | exact HR101_0.out | (with_reducible refine Kd.C_alloc ?_ _) | (with_reducible refine Kd.C_drewN ?_ _) | (with_reducible refine Kd.C_drew ?_))); (case side2 => exact HC101_0.out); (case side3 => repeat (first | exact HR102_0.out | (with_reducible refine Kd.C_alloc ?_ _) | (with_reducible refine Kd.C_drewN ?_ _) | (with_reducible refine Kd.C_drew ?_))); (case side4 => exact HC102_0.out); rintro e w' ⟨rfl, ⟨nd, rfl⟩⟩; (try first | exact ⟨rfl, _, World.drewN_drewN _ _ _⟩ | exact ⟨rfl, _, Eq.trans (World.drewN_drewN _ _ _) (congrArg (World.drewN _) (Nat.add_assoc _ _ _))⟩))))
                  go_meet
                  case rel => exact ⟨_, (true), (by first | rfl | (simp; done) | (simp [*]; done)), H', ⟨by have := HK1.out; first | omega | exact Nat.le_refl _⟩, by repeat (first | exact Drawn0.refl _ | apply Drawn0.step)⟩
              · rw [if_neg c7] at H
                exact absurd H (by simp)
            · rw [if_neg c6] at H
              exact absurd H (by simp)
          case rest =>
            clear HC5
            try clear c1
            try clear p1
            try clear q1
            try clear hx1
            try clear c2
            try clear p2
            try clear c3
            try clear c3b0
            try clear c3b1
            try clear c3b2
            try clear c4
            try clear c4b0
            try clear c6
            try clear c6b0
            try clear c7
            try clear c7b0
            try clear c9
            try clear c10
            try clear p10
            try clear q10
            try clear hx10
            try clear hx101_0
            try clear hx101_1
            try clear hx102_0
            try clear hx102_1
            try clear hx104_0
            try clear hx104_1
            try clear hx105_0
            try clear hx105_1
            try clear p101
            try clear p102
            try clear p104
            try clear p105
            try clear p2
            try clear q101
            try clear q102
            try clear q104
            try clear q105
            obtain ⟨kq, x42_4, rfl, HA, HJ4, ⟨mc4, rfl⟩⟩ := hcut
            cases kq with
            | zero => exact absurd HA.out (by simp [scarfjointref05_SameParts.j1])
            | succ kj4 =>
              have H := HA.out
              clear HA
              simp only [scarfjointref05_SameParts.j1] at H
              by_cases c11 : x42_4 = true
              · subst c11
                have H1 : (some false) = some r := by rw [if_pos rfl] at H; exact H
                clear H
                have H := H1
                clear H1
                obtain rfl := Option.some.inj H
                go_wp2
                repeat (go_quiet (fail); try go_wp2)
                go_ret
                exact ⟨by first | rfl | (simp; done) | (simp [*]; done), by repeat (first | exact Drawn0.refl _ | apply Drawn0.step)⟩
              · replace c11 := Bool.eq_false_iff.mpr c11
                subst c11
                have H1 : (scarfjointref05_SameParts.l0 kj4 l0 l1 (wrap64 (x5_1 + 1))) = some r := by rw [if_neg (show ¬ (false = true) by decide)] at H; exact H
                clear H
                have H := H1
                clear H1
                have H' := Aside0.mk H
                clear H
                go_wp2
                repeat (go_quiet (fail); try go_wp2)
                go_roundg kj4
                case measure => have := HK1.out; have := HJ4.out; omega
                case rel => exact ⟨(wrap64 (x5_1 + 1)), (by first | rfl | (simp; done) | (simp [*]; done)), H', ⟨by have := HK1.out; have := HJ4.out; omega⟩, by repeat (first | exact Drawn0.refl _ | apply Drawn0.step)⟩
        · rw [if_neg c4] at H
          have c4b0 : decide (x5_1 < (l0.length : Int)) = false := decide_eq_false c4
          clear c4
          obtain rfl := Option.some.inj H
          go_wp2
          repeat (go_quiet (fail); try go_wp2)
          go_ret
          exact ⟨by first | rfl | (simp; done) | (simp [*]; done), by repeat (first | exact Drawn0.refl _ | apply Drawn0.step)⟩
  · rw [if_neg c3] at H
    have c3b0 : ((l0.length : Int) == (l1.length : Int)) = false := beq_eq_false_iff_ne.mpr c3
    have c3b1 : ((l0.length : Int) != (l1.length : Int)) = true := bne_iff_ne.mpr c3
    have c3b2 : (l0.length == l1.length) = false := by first | simpa using c3 | (simp at c3 ⊢; omega)
    obtain rfl := Option.some.inj H
    go_enter Try.func26, Try.ntmps26
    go_wp2
    repeat (go_quiet (fail); try go_wp2)
    go_ret
    exact ⟨by first | rfl | (simp; done) | (simp [*]; done), by repeat (first | exact Drawn0.refl _ | apply Drawn0.step)⟩
end Go.Proofs.Ytonipihlpbaknaa.Print
namespace Go.Proofs.Ytonipihlpbaknaa.Print
set_option linter.unusedVariables false
set_option linter.unusedSimpArgs false
open Go.RowKit Go.Proofs.YtonipihlpbaknaaW.PrintWords Go.Proofs.YtonipihlpbaknaaW.PrintLast Go.Proofs.YtonipihlpbaknaaW.PrintMore
def lowL (l : List Int) : Prop := l.length < 4294967296 ∧ ∀ x ∈ l, 0 ≤ x ∧ x < 4294967296
theorem cmp_l (a b : List Int) (ha : lowL a) (hb : lowL b) (hl : a.length = b.length) : ∀ (d k i : Nat), i + d = a.length → d < k →
    ∃ c, scarfjointref07_compare.l0 k a b i = some c ∧ (c < 0 ↔ lexC (a.drop i) (b.drop i) < 0) ∧ (c = 0 ↔ lexC (a.drop i) (b.drop i) = 0) := by
  intro d
  induction d with
  | zero =>
    intro k i hi hk
    obtain ⟨k, rfl⟩ : ∃ m, k = m + 1 := ⟨k - 1, by omega⟩
    rw [scarfjointref07_compare.l0, if_neg (by omega), List.drop_of_length_le (by omega), List.drop_of_length_le (by omega)]
    exact ⟨0, rfl, by simp [lexC], by simp [lexC]⟩
  | succ d ih =>
    intro k i hi hk
    obtain ⟨k, rfl⟩ : ∃ m, k = m + 1 := ⟨k - 1, by omega⟩
    have h1 : i < a.length := by omega
    have h2 : i < b.length := by omega
    have hal := ha.1
    rw [scarfjointref07_compare.l0, if_pos (by omega), if_pos (by omega), if_pos (by omega), rd_get a i h1, rd_get b i h2, List.drop_eq_getElem_cons h1, List.drop_eq_getElem_cons h2]
    have q1 := ha.2 _ (List.getElem_mem h1)
    have q2 := hb.2 _ (List.getElem_mem h2)
    by_cases h : a[i] = b[i]
    · rw [if_pos h, succ_ok i (by omega)]
      obtain ⟨c, g1, g2, g3⟩ := ih k (i + 1) (by omega) (by omega)
      refine ⟨c, g1, ?_⟩
      rw [show lexC (a[i] :: a.drop (i + 1)) (b[i] :: b.drop (i + 1)) = lexC (a.drop (i + 1)) (b.drop (i + 1)) by rw [lexC, if_neg (by omega), if_neg (by omega)]]
      exact ⟨g2, g3⟩
    · rw [if_neg h]
      have e : wrap64 (a[i] - b[i]) = a[i] - b[i] := by unfold wrap64; omega
      refine ⟨_, rfl, ?_⟩
      rw [e, lexC]
      by_cases h3 : a[i] < b[i]
      · rw [if_pos h3]
        omega
      · rw [if_neg h3, if_pos (by omega)]
        omega
theorem cmp_ok (a b : List Int) (ha : lowL a) (hb : lowL b) (k : Nat) (hk : a.length < k) : ∃ c, scarfjointref07_compare.f k a b = some c ∧ (c < 0 ↔ lenC a b < 0) ∧ (c = 0 ↔ lenC a b = 0) := by
  unfold scarfjointref07_compare.f lenC
  have h1 := ha.1
  have h2 := hb.1
  by_cases h : (a.length : Int) = (b.length : Int)
  · rw [if_pos h, if_neg (by omega), if_neg (by omega)]
    have := cmp_l a b ha hb (by omega) a.length k 0 (by omega) hk
    simpa using this
  · rw [if_neg h]
    have e : wrap64 ((a.length : Int) - (b.length : Int)) = (a.length : Int) - (b.length : Int) := by unfold wrap64; omega
    refine ⟨_, rfl, ?_⟩
    rw [e]
    by_cases h3 : a.length < b.length
    · rw [if_pos h3]
      omega
    · rw [if_neg h3, if_pos (by omega)]
      omega
def cmpP (p q : S27) : Int := if lenC p.f0 q.f0 = 0 then lenC p.f1 q.f1 else lenC p.f0 q.f0
def lowP (p : S27) : Prop := lowL p.f0 ∧ lowL p.f1
theorem compareP_ok (p q : S27) (hp : lowP p) (hq : lowP q) (k : Nat) (hk : p.f0.length + p.f1.length < k) : ∃ c, scarfjointref07_Compare.f k p.f0 p.f1 q.f0 q.f1 = some c ∧ (c < 0 ↔ cmpP p q < 0) := by
  obtain ⟨c, h1, h2, h3⟩ := cmp_ok p.f0 q.f0 hp.1 hq.1 k (by omega)
  obtain ⟨d, g1, g2, g3⟩ := cmp_ok p.f1 q.f1 hp.2 hq.2 k (by omega)
  unfold scarfjointref07_Compare.f cmpP
  rw [h1, Option.bind_some, g1, Option.bind_some]
  by_cases h : c = 0
  · rw [if_pos h, if_pos (h3.1 h)]
    exact ⟨d, rfl, g2⟩
  · rw [if_neg h, if_neg (fun e => h (h3.2 e))]
    exact ⟨c, rfl, h2⟩
theorem cmpP_swap (p q : S27) : cmpP q p = - cmpP p q := by
  unfold cmpP
  rw [lenC_tot.swap p.f0 q.f0, lenC_tot.swap p.f1 q.f1]
  by_cases h : lenC p.f0 q.f0 = 0
  · rw [if_pos h, if_pos (by omega)]
  · rw [if_neg h, if_neg (by omega)]
theorem cmpP_zero (p q : S27) (h : cmpP p q = 0) : p = q := by
  unfold cmpP at h
  split at h
  · rename_i h1
    cases p; cases q
    simp only [S27.mk.injEq]
    exact ⟨lenC_tot.zero _ _ h1, lenC_tot.zero _ _ h⟩
  · rename_i h1
    exact absurd h h1
theorem cmpP_trans (p q r : S27) (h1 : cmpP p q < 0) (h2 : cmpP q r < 0) : cmpP p r < 0 := by
  unfold cmpP at *
  have t0 := lenC_tot.trans p.f0 q.f0 r.f0
  have t1 := lenC_tot.trans p.f1 q.f1 r.f1
  have z1 := lenC_tot.zero p.f0 q.f0
  have z2 := lenC_tot.zero q.f0 r.f0
  by_cases e1 : lenC p.f0 q.f0 = 0
  · rw [if_pos e1] at h1
    rw [z1 e1]
    by_cases e2 : lenC q.f0 r.f0 = 0
    · rw [if_pos e2] at h2 ⊢
      exact (t1 (by omega) (by omega)).2 (.inl h1)
    · rw [if_neg e2] at h2 ⊢
      exact h2
  · rw [if_neg e1] at h1
    by_cases e2 : lenC q.f0 r.f0 = 0
    · rw [← z2 e2, if_neg e1]
      exact h1
    · rw [if_neg e2] at h2
      have := (t0 (by omega) (by omega)).2 (.inl h1)
      rw [if_neg (by omega)]
      exact this
def insP (p : S27) : List S27 → List S27
  | [] => [p]
  | q :: out => if cmpP q p < 0 then q :: insP p out else p :: q :: out
theorem mem_insP {p x : S27} {out : List S27} : x ∈ insP p out ↔ x = p ∨ x ∈ out := by
  induction out with
  | nil => simp [insP]
  | cons q out ih =>
    unfold insP
    by_cases h : cmpP q p < 0
    · rw [if_pos h, List.mem_cons, ih, List.mem_cons]
      constructor
      · rintro (h | h | h)
        · exact .inr (.inl h)
        · exact .inl h
        · exact .inr (.inr h)
      · rintro (h | h | h)
        · exact .inr (.inl h)
        · exact .inl h
        · exact .inr (.inr h)
    · rw [if_neg h]
      simp
theorem insP_asc {p : S27} {out : List S27} (h : out.Pairwise (fun a b => cmpP a b < 0)) (hp : p ∉ out) : (insP p out).Pairwise (fun a b => cmpP a b < 0) := by
  induction out with
  | nil => simp [insP]
  | cons q out ih =>
    obtain ⟨h1, h2⟩ := List.pairwise_cons.1 h
    unfold insP
    by_cases hq : cmpP q p < 0
    · rw [if_pos hq]
      refine List.pairwise_cons.2 ⟨fun x hx => ?_, ih h2 (fun hm => hp (List.mem_cons_of_mem _ hm))⟩
      rcases mem_insP.1 hx with rfl | hx
      · exact hq
      · exact h1 x hx
    · rw [if_neg hq]
      have hpq : cmpP p q < 0 := by
        have e := cmpP_swap p q
        rcases Int.lt_trichotomy (cmpP p q) 0 with h3 | h3 | h3
        · exact h3
        · exact absurd (cmpP_zero _ _ h3) (fun e => hp (e ▸ List.mem_cons_self))
        · omega
      refine List.pairwise_cons.2 ⟨fun x hx => ?_, h⟩
      rcases List.mem_cons.1 hx with rfl | hx
      · exact hpq
      · exact cmpP_trans _ _ _ hpq (h1 x hx)
theorem ascP_ext {a b : List S27} (ha : a.Pairwise (fun a b => cmpP a b < 0)) (hb : b.Pairwise (fun a b => cmpP a b < 0)) (h : ∀ x, x ∈ a ↔ x ∈ b) : a = b := by
  have nd : ∀ {l : List S27}, l.Pairwise (fun a b => cmpP a b < 0) → l.Nodup := fun hl => hl.imp (fun {a b} hab e => by
    subst e
    have := cmpP_swap a a
    omega)
  refine List.Perm.eq_of_pairwise (le := fun x y => cmpP x y < 0) ?_ ha hb ((List.perm_ext_iff_of_nodup (nd ha) (nd hb)).2 h)
  intro x y _ _ p q
  have := cmpP_swap x y
  omega
end Go.Proofs.Ytonipihlpbaknaa.Print
namespace Go.Proofs.Ytonipihlpbaknaa.Print
set_option linter.unusedVariables false
set_option linter.unusedSimpArgs false
open Go.RowKit Go.Proofs.YtonipihlpbaknaaW.PrintWords Go.Proofs.YtonipihlpbaknaaW.PrintLast Go.Proofs.YtonipihlpbaknaaW.PrintMore
theorem rbits_run (s i : Nat) (hs : s < 64) (hi : i < 7) : Go.bits .and .i64 (shr .i64 (s : Int) (i : Int)) 1 = if bitB s i then 1 else 0 := by
  have : ∀ s : Fin 64, ∀ i : Fin 7, Go.bits .and .i64 (shr .i64 ((s : Nat) : Int) ((i : Nat) : Int)) 1 = if bitB s i then 1 else 0 := by decide +kernel
  exact this ⟨s, hs⟩ ⟨i, hi⟩
theorem shr_run (s i : Nat) (hs : s < 64) (hi : i < 7) : shr .i64 (s : Int) (i : Int) = ((s / 2 ^ i : Nat) : Int) := by
  have : ∀ s : Fin 64, ∀ i : Fin 7, shr .i64 ((s : Nat) : Int) ((i : Nat) : Int) = (((s : Nat) / 2 ^ (i : Nat) : Nat) : Int) := by decide +kernel
  exact this ⟨s, hs⟩ ⟨i, hi⟩
theorem shl_run (i : Nat) (hi : i < 7) : shl .i64 1 (i : Int) = ((2 ^ i : Nat) : Int) := by
  have : ∀ i : Fin 7, shl .i64 1 ((i : Nat) : Int) = ((2 ^ (i : Nat) : Nat) : Int) := by decide +kernel
  exact this ⟨i, hi⟩
theorem rbits_l (n s : Nat) (hn : n ≤ 6) (hs : s < 64) : ∀ (d k i : Nat) (acc : List Int), i + d = n → d < k → acc.length ≤ i →
    scarfjointref07_bits.l0 k n s acc i = some (acc ++ ((List.range' i d).filter (bitB s)).map fun (j : Nat) => (j : Int)) := by
  intro d
  induction d with
  | zero =>
    intro k i acc hi hk ha
    obtain ⟨k, rfl⟩ : ∃ m, k = m + 1 := ⟨k - 1, by omega⟩
    rw [scarfjointref07_bits.l0, if_neg (by omega)]
    simp
  | succ d ih =>
    intro k i acc hi hk ha
    obtain ⟨k, rfl⟩ : ∃ m, k = m + 1 := ⟨k - 1, by omega⟩
    rw [scarfjointref07_bits.l0, if_pos (by omega), if_pos (by omega), rbits_run s i hs (by omega), List.range'_succ, List.filter_cons]
    by_cases h : bitB s i = true
    · rw [if_pos h, if_pos rfl, if_pos (by omega), if_pos h, succ_ok i (by omega), ih k (i + 1) _ (by omega) (by omega) (by simp; omega)]
      simp
    · rw [if_neg h, if_neg (by omega), if_neg h, succ_ok i (by omega), ih k (i + 1) _ (by omega) (by omega) (by omega)]
theorem rbits_ok (n s k : Nat) (hn : n ≤ 6) (hs : s < 64) (hk : n < k) : scarfjointref07_bits.f k n s = some (bitsL n s) := by
  have h := rbits_l n s hn hs n k 0 [] (by omega) hk (by simp)
  simpa [scarfjointref07_bits.f, bitsL, List.range_eq_range'] using h
theorem mem_bitsL {n s : Nat} {x : Int} : x ∈ bitsL n s ↔ ∃ i, i < n ∧ s.testBit i = true ∧ x = (i : Int) := by
  unfold bitsL bitB
  simp only [List.mem_map, List.mem_filter, List.mem_range]
  constructor
  · rintro ⟨i, ⟨h1, h2⟩, rfl⟩
    exact ⟨i, h1, h2, rfl⟩
  · rintro ⟨i, h1, h2, rfl⟩
    exact ⟨i, ⟨h1, h2⟩, rfl⟩
theorem bit_mem {n s i : Nat} (h : i < n) : s.testBit i = true ↔ (i : Int) ∈ bitsL n s := by
  rw [mem_bitsL]
  constructor
  · intro h2
    exact ⟨i, h, h2, rfl⟩
  · rintro ⟨j, h1, h2, h3⟩
    obtain rfl : i = j := by omega
    exact h2
def partOf (n m s : Nat) : S27 := ⟨bitsL n s, bitsL m (s / 2 ^ n)⟩
theorem partOf_inj {n m s t : Nat} (hs : s < 2 ^ (n + m)) (ht : t < 2 ^ (n + m)) (h : partOf n m s = partOf n m t) : s = t := by
  unfold partOf at h
  simp only [S27.mk.injEq] at h
  obtain ⟨h0, h1⟩ := h
  refine Nat.eq_of_testBit_eq (fun i => ?_)
  rw [Bool.eq_iff_iff]
  by_cases hi : i < n
  · rw [bit_mem hi, bit_mem hi, h0]
  · by_cases hj : i < n + m
    · have e : ∀ u : Nat, u.testBit i = (u / 2 ^ n).testBit (i - n) := fun u => by
        rw [Nat.testBit_div_two_pow]
        congr 1
        omega
      rw [e s, e t, bit_mem (n := m) (by omega), bit_mem (n := m) (by omega), h1]
    · rw [Nat.testBit_lt_two_pow (Nat.lt_of_lt_of_le hs (Nat.pow_le_pow_right (by omega) (by omega))), Nat.testBit_lt_two_pow (Nat.lt_of_lt_of_le ht (Nat.pow_le_pow_right (by omega) (by omega)))]
theorem bitsL_low (n s : Nat) (hn : n ≤ 6) : lowL (bitsL n s) := by
  refine ⟨?_, fun x hx => ?_⟩
  · have := bitsL_len n s
    omega
  · obtain ⟨i, h1, _, rfl⟩ := mem_bitsL.1 hx
    omega
theorem partOf_low (n m s : Nat) (h : n + m ≤ 6) : lowP (partOf n m s) ∧ (partOf n m s).f0.length + (partOf n m s).f1.length ≤ 12 := by
  have h0 := bitsL_len n s
  have h1 := bitsL_len m (s / 2 ^ n)
  exact ⟨⟨bitsL_low n s (by omega), bitsL_low m _ (by omega)⟩, by simp only [partOf]; omega⟩
theorem insP_len (p : S27) (out : List S27) : (insP p out).length = out.length + 1 := by
  induction out with
  | nil => rfl
  | cons q out ih =>
    unfold insP
    split
    · simp [ih]
    · simp
theorem rdT27_get (l : List S27) (i : Nat) (h : i < l.length) : rd_T27 l (i : Int) = l[i] := by simp [rd_T27, List.getD_eq_getElem?_getD, h]
theorem all_in (n m : Nat) (l0 : List Int) (l1 : List S78) (p : S27) (hp : lowP p) (s : Int) (out : List S27) (ho : ∀ q ∈ out, lowP q ∧ q.f0.length + q.f1.length ≤ 12) (hlen : out.length ≤ 1000) : ∀ (d k i : Nat), i + d = out.length → 2 * d + 20 < k →
    ∃ k', k ≤ k' + 2 * d + 2 ∧ scarfjointref07_All.l1 k n m out s i l0 l1 p.f0 p.f1 = scarfjointref07_All.l0 k' n m (out.take i ++ insP p (out.drop i)) (wrap64 (s + 1)) l0 l1 := by
  have stop : ∀ (k i : Nat), i ≤ out.length → scarfjointref07_All.j2 (k + 1) n m out s i false l0 l1 p.f0 p.f1 = scarfjointref07_All.l0 k n m (out.take i ++ p :: out.drop i) (wrap64 (s + 1)) l0 l1 := by
    intro k i hi
    have e1 : (out.take i).length ≤ 1000 := by rw [List.length_take]; omega
    have e2 : (out.drop i).length ≤ 1000 := by rw [List.length_drop]; omega
    rw [scarfjointref07_All.j2, if_neg (by simp), Option.bind_some, if_pos (by omega), if_pos (by omega), Int.toNat_natCast, Option.bind_some, if_pos (by simp only [List.length_nil]; omega), Option.bind_some, Option.bind_some, if_pos (by simp only [List.length_append, List.length_nil, List.length_singleton]; omega), Option.bind_some, Option.bind_some, if_pos (by simp only [List.length_append, List.length_nil, List.length_singleton]; omega)]
    simp
  intro d
  induction d with
  | zero =>
    intro k i hi hk
    obtain ⟨k, rfl⟩ : ∃ m, k = m + 1 + 1 := ⟨k - 2, by omega⟩
    refine ⟨k, by omega, ?_⟩
    rw [scarfjointref07_All.l1, if_neg (by omega), stop k i (by omega), List.drop_of_length_le (by omega)]
    rfl
  | succ d ih =>
    intro k i hi hk
    obtain ⟨k, rfl⟩ : ∃ m, k = m + 1 + 1 := ⟨k - 2, by omega⟩
    have hlt : i < out.length := by omega
    have hq := ho _ (List.getElem_mem hlt)
    obtain ⟨c, h1, h2⟩ := compareP_ok out[i] p hq.1 hp (k + 1) (by omega)
    rw [scarfjointref07_All.l1, if_pos (by omega), if_pos (by omega), rdT27_get out i hlt, h1, Option.bind_some]
    by_cases h3 : c < 0
    · obtain ⟨k', g1, g2⟩ := ih k (i + 1) (by omega) (by omega)
      refine ⟨k', by omega, ?_⟩
      rw [decide_eq_true h3, scarfjointref07_All.j2, if_pos rfl, succ_ok i (by omega), g2, List.drop_eq_getElem_cons hlt, insP, if_pos (h2.1 h3), List.take_succ_eq_append_getElem hlt, List.append_assoc]
      rfl
    · refine ⟨k, by omega, ?_⟩
      rw [decide_eq_false h3, stop k i (by omega), List.drop_eq_getElem_cons hlt, insP, if_neg (fun h => h3 (h2.2 h))]
theorem all_l (n m : Nat) (l0 : List Int) (l1 : List S78) (hnm : n + m ≤ 6) : ∀ (d k s : Nat) (out : List S27), s + d = 2 ^ (n + m) → 150 * d + 100 < k → out.Pairwise (fun a b => cmpP a b < 0) → out.length ≤ s →
    (∀ x, x ∈ out ↔ ∃ t, t < s ∧ partE l0 l1 (bitsL n t) (bitsL m (t / 2 ^ n)) = 0 ∧ x = partOf n m t) →
    ∃ out', scarfjointref07_All.l0 k n m out s l0 l1 = some (out', 0) ∧ out'.Pairwise (fun a b => cmpP a b < 0) ∧ (∀ x, x ∈ out' ↔ ∃ t, t < 2 ^ (n + m) ∧ partE l0 l1 (bitsL n t) (bitsL m (t / 2 ^ n)) = 0 ∧ x = partOf n m t) := by
  have hp : 2 ^ (n + m) ≤ 64 := Nat.le_trans (Nat.pow_le_pow_right (by omega) hnm) (by decide)
  have ew : wrap64 ((n : Int) + (m : Int)) = ((n + m : Nat) : Int) := by unfold wrap64; omega
  intro d
  induction d with
  | zero =>
    intro k s out hs hk ha hl hm
    obtain ⟨k, rfl⟩ : ∃ m, k = m + 1 := ⟨k - 1, by omega⟩
    refine ⟨out, ?_, ha, ?_⟩
    · rw [scarfjointref07_All.l0, ew, if_pos (by omega), shl_run _ (by omega), if_neg (by omega)]
    · obtain rfl : s = 2 ^ (n + m) := by omega
      exact hm
  | succ d ih =>
    intro k s out hs hk ha hl hm
    obtain ⟨k, rfl⟩ : ∃ m, k = m + 1 := ⟨k - 1, by omega⟩
    have hs64 : s < 64 := by omega
    have hb0 := bitsL_len n s
    have hb1 := bitsL_len m (s / 2 ^ n)
    have hdiv : s / 2 ^ n < 64 := Nat.lt_of_le_of_lt (Nat.div_le_self _ _) hs64
    rw [scarfjointref07_All.l0, ew, if_pos (by omega), shl_run _ (by omega), if_pos (by omega), rbits_ok n s k (by omega) hs64 (by omega), Option.bind_some, if_pos (by omega), shr_run s n hs64 (by omega), rbits_ok m _ k (by omega) hdiv (by omega), Option.bind_some,
      rright_ok l0 l1 _ _ (by omega) (by omega) k (by omega), Option.bind_some]
    by_cases h : partE l0 l1 (bitsL n s) (bitsL m (s / 2 ^ n)) = 0
    · rw [if_pos h]
      have ho : ∀ q ∈ out, lowP q ∧ q.f0.length + q.f1.length ≤ 12 := fun q hq => by
        obtain ⟨t, _, _, rfl⟩ := (hm q).1 hq
        exact partOf_low n m t hnm
      obtain ⟨k', g1, g2⟩ := all_in n m l0 l1 (partOf n m s) (partOf_low n m s hnm).1 s out ho (by omega) out.length k 0 (by omega) (by omega)
      have e : scarfjointref07_All.l1 k n m out s 0 l0 l1 (bitsL n s) (bitsL m (s / 2 ^ n)) = scarfjointref07_All.l0 k' n m (insP (partOf n m s) out) ((s + 1 : Nat) : Int) l0 l1 := by
        have := g2
        rw [succ_ok s (by omega)] at this
        simpa [partOf] using this
      have hni : partOf n m s ∉ out := fun hin => by
        obtain ⟨t, ht, _, e⟩ := (hm _).1 hin
        have := partOf_inj (by omega) (by omega) e
        omega
      rw [e]
      have hlen := insP_len (partOf n m s) out
      exact ih k' (s + 1) _ (by omega) (by omega) (insP_asc ha hni) (by omega) (fun x => by
        rw [mem_insP, hm]
        constructor
        · rintro (rfl | ⟨t, h1, h2, h3⟩)
          · exact ⟨s, by omega, h, rfl⟩
          · exact ⟨t, by omega, h2, h3⟩
        · rintro ⟨t, h1, h2, h3⟩
          rcases Nat.lt_or_ge t s with h4 | h4
          · exact .inr ⟨t, h4, h2, h3⟩
          · obtain rfl : t = s := by omega
            exact .inl h3)
    · rw [if_neg h, succ_ok s (by omega)]
      exact ih k (s + 1) out (by omega) (by omega) ha (by omega) (fun x => by
        rw [hm]
        constructor
        · rintro ⟨t, h1, h2, h3⟩
          exact ⟨t, by omega, h2, h3⟩
        · rintro ⟨t, h1, h2, h3⟩
          rcases Nat.lt_or_ge t s with h4 | h4
          · exact ⟨t, h4, h2, h3⟩
          · obtain rfl : t = s := by omega
            exact absurd h2 h)
end Go.Proofs.Ytonipihlpbaknaa.Print
namespace Go.Proofs.Ytonipihlpbaknaa.Print
set_option linter.unusedVariables false
set_option linter.unusedSimpArgs false
open Go.RowKit Go.Proofs.YtonipihlpbaknaaW.PrintWords Go.Proofs.YtonipihlpbaknaaW.PrintLast Go.Proofs.YtonipihlpbaknaaW.PrintMore
theorem bitsL_inj {n s t : Nat} (hs : s < 2 ^ n) (ht : t < 2 ^ n) (h : bitsL n s = bitsL n t) : s = t := partOf_inj (n := n) (m := 0) (by simpa using hs) (by simpa using ht) (by simp only [partOf, h]; simp [bitsL])
theorem bitsL_mod (n s : Nat) : bitsL n (s % 2 ^ n) = bitsL n s := by
  unfold bitsL
  congr 1
  refine List.filter_congr (fun i hi => ?_)
  have := List.mem_range.1 hi
  simp [bitB, Nat.testBit_mod_two_pow, this]
theorem genL_nodup (n : Nat) : (genL n).Nodup := by
  unfold genL
  rw [List.nodup_iff_pairwise_ne, List.pairwise_map]
  refine List.Pairwise.imp_of_mem ?_ (List.pairwise_lt_range (n := 2 ^ n))
  intro a b ha hb hab e
  have := bitsL_inj (List.mem_range.1 ha) (List.mem_range.1 hb) e
  omega
theorem mem_subsetsL {n : Nat} {x : List Int} : x ∈ subsetsL n ↔ ∃ s, s < 2 ^ n ∧ x = bitsL n s := by
  unfold subsetsL
  rw [List.mem_mergeSort]
  unfold genL
  rw [List.mem_map]
  constructor
  · rintro ⟨s, h, rfl⟩
    exact ⟨s, List.mem_range.1 h, rfl⟩
  · rintro ⟨s, h, rfl⟩
    exact ⟨s, List.mem_range.2 h, rfl⟩
theorem subsetsL_asc (n : Nat) : (subsetsL n).Pairwise (fun a b => lenC a b < 0) := by
  have h1 : (subsetsL n).Pairwise (fun x y => leOf lenC x y = true) := by
    refine List.pairwise_mergeSort ?_ ?_ _
    · intro a b c p q
      simp only [leOf, Bool.not_eq_true'] at p q ⊢
      exact lenC_tot.swo.ntrans c b a q p
    · intro a b
      simp only [leOf, Bool.or_eq_true, Bool.not_eq_true']
      by_cases h : ltOf lenC b a = true
      · right
        exact lenC_tot.swo.asymmA h
      · left
        simpa using h
  have h2 : (subsetsL n).Nodup := (List.mergeSort_perm _ _).nodup_iff.2 (genL_nodup n)
  rw [List.nodup_iff_pairwise_ne] at h2
  refine List.Pairwise.imp ?_ (h1.and h2)
  rintro a b ⟨p, q⟩
  simp only [leOf, Bool.not_eq_true', ltOf, decide_eq_false_iff_not] at p
  have e := lenC_tot.swap a b
  rcases Int.lt_trichotomy (lenC a b) 0 with h3 | h3 | h3
  · exact h3
  · exact absurd (lenC_tot.zero _ _ h3) q
  · omega
theorem lenC_self (a : List Int) : lenC a a = 0 := by
  have := lenC_tot.swap a a
  omega
theorem partsL_asc (l0 : List Int) (l1 : List S78) : (partsL l0 l1).Pairwise (fun a b => cmpP a b < 0) := by
  unfold partsL
  rw [List.pairwise_flatMap]
  constructor
  · intro ns _
    unfold partsIn
    rw [List.pairwise_map]
    refine List.Pairwise.imp ?_ ((subsetsL_asc l1.length).filter _)
    intro a b h
    simp only [cmpP]
    rw [if_pos (lenC_self ns)]
    exact h
  · refine List.Pairwise.imp ?_ (subsetsL_asc l0.length)
    intro a b h x hx y hy
    unfold partsIn at hx hy
    obtain ⟨e, _, rfl⟩ := List.mem_map.1 hx
    obtain ⟨f, _, rfl⟩ := List.mem_map.1 hy
    simp only [cmpP]
    rw [if_neg (by omega)]
    exact h
theorem mem_partsL {l0 : List Int} {l1 : List S78} {x : S27} : x ∈ partsL l0 l1 ↔ ∃ t, t < 2 ^ (l0.length + l1.length) ∧ partE l0 l1 (bitsL l0.length t) (bitsL l1.length (t / 2 ^ l0.length)) = 0 ∧ x = partOf l0.length l1.length t := by
  unfold partsL partsIn
  simp only [List.mem_flatMap, List.mem_map, List.mem_filter, beq_iff_eq, mem_subsetsL]
  constructor
  · rintro ⟨_, ⟨s, hs, rfl⟩, _, ⟨⟨t, ht, rfl⟩, h⟩, rfl⟩
    have e1 : (s + 2 ^ l0.length * t) / 2 ^ l0.length = t := by
      rw [Nat.add_mul_div_left _ _ (Nat.two_pow_pos _), Nat.div_eq_of_lt hs]
      omega
    have e2 : bitsL l0.length (s + 2 ^ l0.length * t) = bitsL l0.length s := by
      rw [← bitsL_mod l0.length (s + _), Nat.add_mul_mod_self_left, bitsL_mod]
    refine ⟨s + 2 ^ l0.length * t, ?_, ?_, ?_⟩
    · rw [Nat.pow_add]
      have : 2 ^ l0.length * (t + 1) ≤ 2 ^ l0.length * 2 ^ l1.length := Nat.mul_le_mul_left _ ht
      rw [Nat.mul_succ] at this
      omega
    · rw [e1, e2]
      exact h
    · simp only [partOf]
      rw [e1, e2]
  · rintro ⟨t, ht, h, rfl⟩
    refine ⟨_, ⟨t % 2 ^ l0.length, Nat.mod_lt _ (Nat.two_pow_pos _), rfl⟩, _, ⟨⟨t / 2 ^ l0.length, ?_, rfl⟩, ?_⟩, ?_⟩
    · rw [Nat.div_lt_iff_lt_mul (Nat.two_pow_pos _), Nat.mul_comm, ← Nat.pow_add]
      exact ht
    · rw [bitsL_mod]
      exact h
    · simp only [partOf]
      rw [bitsL_mod]
theorem rall_ok (l0 : List Int) (l1 : List S78) (k : Nat) (hn0 : l0.length ≤ 1000) (hn : l1.length ≤ 1000) (hk : 20000 < k) : scarfjointref07_All.f k l0 l1 = subgraph_All.f l0 l1 := by
  unfold scarfjointref07_All.f subgraph_All.f
  rw [rvalid_ok l0 l1 k (by omega) (by omega) (by omega), Option.bind_some]
  have ew : wrap64 ((l0.length : Int) + (l1.length : Int)) = ((l0.length + l1.length : Nat) : Int) := by unfold wrap64; omega
  by_cases hv : validB l0 l1 = 0
  · rw [if_pos hv, if_pos hv, ew]
    by_cases h : 6 < l0.length + l1.length
    · rw [if_pos (by omega), if_pos h]
    · rw [if_neg (by omega), if_neg h]
      have hp : 2 ^ (l0.length + l1.length) ≤ 64 := Nat.le_trans (Nat.pow_le_pow_right (by omega) (by omega : l0.length + l1.length ≤ 6)) (by decide)
      obtain ⟨out, h1, h2, h3⟩ := all_l l0.length l1.length l0 l1 (by omega) (2 ^ (l0.length + l1.length)) k 0 [] (by omega) (by omega) List.Pairwise.nil (by simp) (by simp)
      have e := ascP_ext h2 (partsL_asc l0 l1) (fun x => (h3 x).trans mem_partsL.symm)
      rw [← e]
      exact h1
  · rw [if_neg hv, if_neg hv]
end Go.Proofs.Ytonipihlpbaknaa.Print
namespace Go.Proofs.Ytonipihlpbaknaa.Print
open Go.RowKit Go.Proofs.YtonipihlpbaknaaW.PrintWords Go.Proofs.YtonipihlpbaknaaW.PrintLast Go.Proofs.YtonipihlpbaknaaW.PrintMore
attribute [local go_sem] max2_int min2_int max_two min_two max_three min_three max_four min_four   -- for this text's walks alone
set_option linter.unusedVariables false
set_option linter.unusedSimpArgs false
def scarfjointlaw07_line.f  : Option (List Int × (List (S78))) := some ((([0, 0, 0] : List Int)), (([(⟨0, 0, 1⟩ : S78), (⟨0, 1, 2⟩ : S78)] : List (S78))))
set_option maxHeartbeats 8000000 in
set_option maxRecDepth 100000 in
theorem scarfjointlaw07_line.calls  (r1 : List Int) (r2 : List (S78)) (w : World) (h : scarfjointlaw07_line.f  = some (r1, r2)) :
    Calls Try.prog 49 #[] w fun e w' => ∃ v0_ v1_ : Value, e = .returned (.agg #[v0_, v1_]) ∧ Kd.R (Kd.int .i64) 3 w' w.heap.size (fun _ => True) v0_ r1 ∧ Kd.R k78 78 w' w.heap.size (fun _ => True) v1_ r2 ∧ Below w.heap.size w w' := by
  have hu25 := Try.underlying25
  have hu78 := Try.underlying78
  have HB := Aside0.mk (Below.refl w.heap.size w)
  have H : (some ((([0, 0, 0] : List Int)), (([(⟨0, 0, 1⟩ : S78), (⟨0, 1, 2⟩ : S78)] : List (S78))))) = some (r1, r2) := h
  clear h
  obtain ⟨y102, hy102⟩ : ∃ y_ : List Int, y_ = (([0, 0, 0] : List Int)) := ⟨_, rfl⟩
  replace H : (some (y102, (([(⟨0, 0, 1⟩ : S78), (⟨0, 1, 2⟩ : S78)] : List (S78))))) = some (r1, r2) := by first | (rw [hy102]; with_reducible exact H) | (have H2_ := (Option.bind_some _ _).symm.trans H; rw [hy102]; with_reducible exact H2_) | (have H2_ := (Option.bind_some _ _).symm.trans H; with_reducible exact H2_) | with_reducible exact H | (rw [hy102]; exact H) | exact H
  have Ny102 := Aside0.mk hy102
  clear hy102
  obtain ⟨y105, hy105⟩ : ∃ y_ : List (S78), y_ = (([(⟨0, 0, 1⟩ : S78), (⟨0, 1, 2⟩ : S78)] : List (S78))) := ⟨_, rfl⟩
  replace H : (some (y102, y105)) = some (r1, r2) := by first | (rw [hy105]; with_reducible exact H) | (have H2_ := (Option.bind_some _ _).symm.trans H; rw [hy105]; with_reducible exact H2_) | (have H2_ := (Option.bind_some _ _).symm.trans H; with_reducible exact H2_) | with_reducible exact H | (rw [hy105]; exact H) | exact H
  have Ny105 := Aside0.mk hy105
  clear hy105
  simp only [Option.some.injEq, Prod.mk.injEq] at H
  obtain ⟨rfl, rfl⟩ := H
  go_enter Try.func49, Try.ntmps49
  go_wp2_with (first | ((with_reducible refine gate_dst (N := 0) rfl ?_); refine box_event ?hg (N := 0) ?hd (cs := #[.slice none 0 0, .slice none 0 0]) (t := 25) ?hr ?_; (case hd => rfl); (case hg => rfl); (case hr => first | (go_simp; done) | (go_simp; rfl)); intro gb101 hg w1 hbox hb; have n0_ := Aside0.mk (below_step (by repeat (first | (with_reducible first | exact HB.out | apply below_alloc | apply pw_below_drewN | apply below_drew1) | exact HB.out)) hb); have n1_ := Aside0.mk (hbox); have n2_ := Aside0.mk ((by rw [hg]; exact (below_size (by repeat (first | (with_reducible first | exact HB.out | apply below_alloc | apply pw_below_drewN | apply below_drew1) | exact HB.out))) : w.heap.size ≤ gb101)); have n3_ := Aside0.mk ((by rw [hg]; exact (below_size (by repeat (first | (with_reducible first | exact HB.out | apply below_alloc | apply pw_below_drewN | apply below_drew1) | exact HB.out))) : w.heap.size ≤ gb101)); clear HB; have HB := n0_; have BK101 := n1_; have GW101 := n2_; have GE101 := n3_; clear n0_ n1_ n2_ n3_; clear hb hbox hg) | ((with_reducible refine gate_dst (N := 1) rfl ?_); refine Kd.R_lit (Kd.int .i64) _ 3 ?hg (N := 1) ?hd (xs := ([0, 0, 0] : List Int)) (inner := [.int .i64 0, .int .i64 0, .int .i64 0]) (ok := fun _ => True) (okp := fun _ => True) ?hr ?hp (fun _ hk => hk) trivial (Below.refl _ _) (Nat.le_refl _) (by simp) ?_; (case hd => rfl); (case hg => rfl); (case hr => first | (go_simp; done) | (go_simp; rfl)); (case hp => exact (Reps.one (show Kd.M (Kd.int .i64) _ _ _ 0 [.int .i64 0] from rfl) (Reps.one (show Kd.M (Kd.int .i64) _ _ _ 0 [.int .i64 0] from rfl) (Reps.one (show Kd.M (Kd.int .i64) _ _ _ 0 [.int .i64 0] from rfl) (Reps.none _ _))))); intro v103 w2 ho3 hb hg_ hnew_; clear hg_ hnew_; (first | rw [← Ny102.out] at ho3 | (simp only [Int.reduceToNat] at ho3; rw [← Ny102.out] at ho3)); have n0_ := Aside0.mk (Kd.R_lower ho3 (below_size (by repeat (first | (with_reducible first | exact HB.out | apply below_alloc | apply pw_below_drewN | apply below_drew1 | refine below_set ?_ GE101.out) | exact HB.out)))); have n1_ := Aside0.mk (blk_below (g := gb101) (o := .cells #[.slice none 0 0, .slice none 0 0] 25 (0, 0)) (by (with_reducible repeat (first | refine blk_drewN ?_ _ | refine blk_drew ?_ | refine blk_alloc ?_ _)); exact BK101.out) hb); have n2_ := Aside0.mk (below_step (by repeat (first | (with_reducible first | exact HB.out | apply below_alloc | apply pw_below_drewN | apply below_drew1 | refine below_set ?_ GE101.out) | exact HB.out)) hb); clear BK101; clear HB; have HO104 := n0_; have BK101 := n1_; have HB := n2_; clear n0_ n1_ n2_; clear hb ho3) | ((with_reducible refine gate_dst (N := 4) rfl ?_); refine Kd.R_lit k78 _ 78 ?hg (N := 4) ?hd (xs := ([(⟨0, 0, 1⟩ : S78), (⟨0, 1, 2⟩ : S78)] : List (S78))) (inner := [.int .i64 0, .int .i64 0, .int .i64 1, .int .i64 0, .int .i64 1, .int .i64 2]) (ok := fun _ => True) (okp := fun _ => True) ?hr ?hp (fun _ hk => hk) trivial (Below.refl _ _) (Nat.le_refl _) (by simp) ?_; (case hd => rfl); (case hg => rfl); (case hr => first | (go_simp; done) | (go_simp; rfl)); (case hp => exact (Reps.c3 (show Kd.M k78 _ _ _ (⟨0, 0, 1⟩ : S78) [.int .i64 0, .int .i64 0, .int .i64 1] from (k78_mkM _ _ _ (⟨0, 0, 1⟩ : S78) )) (Reps.c3 (show Kd.M k78 _ _ _ (⟨0, 1, 2⟩ : S78) [.int .i64 0, .int .i64 1, .int .i64 2] from (k78_mkM _ _ _ (⟨0, 1, 2⟩ : S78) )) (Reps.none _ _)))); intro v106 w4 ho5 hb hg_ hnew_; clear hg_ hnew_; (first | rw [← Ny105.out] at ho5 | (simp only [Int.reduceToNat] at ho5; rw [← Ny105.out] at ho5)); have n0_ := Aside0.mk (Kd.R_below (by (with_reducible repeat (first | apply Kd.R_alloc | apply Kd.R_drewN | apply Kd.R_drew)); exact HO104.out) hb); have n1_ := Aside0.mk (Kd.R_lower ho5 (below_size (by repeat (first | (with_reducible first | exact HB.out | apply below_alloc | apply pw_below_drewN | apply below_drew1 | refine below_set ?_ GE101.out) | exact HB.out)))); have n2_ := Aside0.mk (blk_below (g := gb101) (o := .cells #[.slice none 0 0, .slice none 0 0] 25 (0, 0)) (by (with_reducible repeat (first | refine blk_drewN ?_ _ | refine blk_drew ?_ | refine blk_alloc ?_ _)); exact BK101.out) hb); have n3_ := Aside0.mk (below_step (by repeat (first | (with_reducible first | exact HB.out | apply below_alloc | apply pw_below_drewN | apply below_drew1 | refine below_set ?_ GE101.out) | exact HB.out)) hb); clear HO104; clear BK101; clear HB; have HO104 := n0_; have HO107 := n1_; have BK101 := n2_; have HB := n3_; clear n0_ n1_ n2_ n3_; clear hb ho5; obtain ⟨Ao6, co6, eo6⟩ := Kd.R_slice HO107.out; subst eo6; obtain ⟨Ao7, co7, eo7⟩ := Kd.R_slice HO104.out; subst eo7; have hcz8_0 : w4.cell? ⟨gb101, 0, none⟩ = some (.slice none 0 0) := (blk_cell BK101.out 0).trans rfl; have hcz8_1 : w4.cell? ⟨gb101, 1, none⟩ = some (.slice none 0 0) := (blk_cell BK101.out 1).trans rfl; have hfz8_0 := blk_frozen BK101.out 0; have hfz8_1 := blk_frozen BK101.out 1))
  refine bodyPost_ret (results_cell_row rfl _ _ gb101 25 #[.slice Ao7 y102.length co7, .slice Ao6 y105.length co6] (0, 0) _ rfl (by (with_reducible repeat (first | refine blk_drewN ?_ _ | refine blk_drew ?_ | refine blk_alloc ?_ _)); refine blk_put (cs := #[.slice Ao7 y102.length co7, .slice none 0 0]) ?_ 1 _ rfl; (with_reducible repeat (first | refine blk_drewN ?_ _ | refine blk_drew ?_ | refine blk_alloc ?_ _)); refine blk_put (cs := #[.slice none 0 0, .slice none 0 0]) ?_ 0 _ rfl; (with_reducible repeat (first | refine blk_drewN ?_ _ | refine blk_drew ?_ | refine blk_alloc ?_ _)); exact BK101.out) Try.underlying25 rfl (by kernel_rfl)) rfl ?_
  exact ⟨_, _, by first | rfl | (simp [errW_none, errW_some] <;> rfl) | (simp [*, errW_none, errW_some] <;> rfl), by (with_reducible repeat (first | apply Kd.R_alloc | apply Kd.R_drewN | apply Kd.R_drew)); exact Kd.R_mono (Kd.R_far (p := ⟨gb101, 1, none⟩) (Kd.R_far (p := ⟨gb101, 0, none⟩) (Kd.R_types HO104.out BK101.out (by decide)) (fun _ hk => hk.2) (.slice Ao7 y102.length co7)) (fun _ hk => hk.2) (.slice Ao6 y105.length co6)) (fun _ hk => trivial), by (with_reducible repeat (first | apply Kd.R_alloc | apply Kd.R_drewN | apply Kd.R_drew)); exact Kd.R_mono (Kd.R_far (p := ⟨gb101, 1, none⟩) (Kd.R_far (p := ⟨gb101, 0, none⟩) (Kd.R_types HO107.out BK101.out (by decide)) (fun _ hk => hk.2) (.slice Ao7 y102.length co7)) (fun _ hk => hk.2) (.slice Ao6 y105.length co6)) (fun _ hk => trivial), by repeat (first | (with_reducible first | exact HB.out | apply below_alloc | apply pw_below_drewN | apply below_drew1 | refine below_set ?_ GE101.out) | exact HB.out)⟩
end Go.Proofs.Ytonipihlpbaknaa.Print
namespace Go.Proofs.Ytonipihlpbaknaa.Print
open Go.RowKit Go.Proofs.YtonipihlpbaknaaW.PrintWords Go.Proofs.YtonipihlpbaknaaW.PrintLast Go.Proofs.YtonipihlpbaknaaW.PrintMore
attribute [local go_sem] max2_int min2_int max_two min_two max_three min_three max_four min_four   -- for this text's walks alone
set_option linter.unusedVariables false
set_option linter.unusedSimpArgs false
def slices_Equal_int_int.l0 : Nat → List Int → List Int → Int → Int → Option (Bool)
  | 0, _, _, _, _ => none
  | k + 1, x0, x1, x12, x13 => if x13 < x12 then (if 0 ≤ x13 then (if x13 < (x0.length : Int) then (if x13 < (x1.length : Int) then (if (rd x0 x13) = (rd x1 x13) then (slices_Equal_int_int.l0 k x0 x1 x12 (wrap64 (x13 + 1))) else (some false)) else (none)) else (none)) else (none)) else (some true)
def slices_Equal_int_int.f (k : Nat) (l0 : List Int) (l1 : List Int) : Option (Bool) := if (l0.length : Int) = (l1.length : Int) then (slices_Equal_int_int.l0 k l0 l1 (l0.length : Int) 0) else (some false)
set_option maxHeartbeats 8000000 in
set_option maxRecDepth 100000 in
theorem slices_Equal_int_int.calls (k : Nat) (A0 : Option Addr) (c0 : Nat) (l0 : List Int) (A1 : Option Addr) (c1 : Nat) (l1 : List Int) (r : Bool) (w : World) (hr0 : Kd.C (Kd.int .i64) w A0 l0.length l0) (hc0 : l0.length ≤ c0) (hr1 : Kd.C (Kd.int .i64) w A1 l1.length l1) (hc1 : l1.length ≤ c1) (h : slices_Equal_int_int.f k l0 l1 = some r) :
    Calls Try.prog 36 #[.slice A0 l0.length c0, .slice A1 l1.length c1] w fun e w' => e = .returned (.bool r) ∧ Drawn0 w w' := by
  have HR0 := Aside0.mk hr0
  have HC0 := Aside0.mk hc0
  clear hr0 hc0
  have HR1 := Aside0.mk hr1
  have HC1 := Aside0.mk hc1
  clear hr1 hc1
  have H : (if (l0.length : Int) = (l1.length : Int) then (slices_Equal_int_int.l0 k l0 l1 (l0.length : Int) 0) else (some false)) = some r := h
  clear h
  by_cases c3 : (l0.length : Int) = (l1.length : Int)
  · rw [if_pos c3] at H
    have c3b0 : ((l0.length : Int) == (l1.length : Int)) = true := beq_iff_eq.mpr c3
    have c3b1 : ((l0.length : Int) != (l1.length : Int)) = false := bne_eq_false_iff_eq.mpr c3
    have c3b2 : (l0.length == l1.length) = true := by first | simpa using c3 | (simp at c3 ⊢; omega)
    clear c3
    have H' := Aside0.mk H
    clear H
    go_enter Try.func36, Try.ntmps36
    go_wp2
    repeat (go_quiet (fail); try go_wp2)
    go_loopg [13] k (fun kq v13 w' => ∃ (x13_1 : Int), v13 = .int .i64 x13_1 ∧ Aside0 (slices_Equal_int_int.l0 kq l0 l1 (l0.length : Int) x13_1 = some r) ∧ Aside0 (kq ≤ k) ∧ Drawn0 w w')
    case atStart => exact ⟨(0), (by first | rfl | (simp; done) | (simp [*]; done)), H', ⟨Nat.le_refl _⟩, by repeat (first | exact Drawn0.refl _ | apply Drawn0.step)⟩
    case round =>
      clear H'
      try clear c1
      try clear p2
      try clear c3
      try clear c3b0
      try clear c3b1
      try clear c3b2
      obtain ⟨x13_1, rfl, HA, HK1, ⟨m1, rfl⟩⟩ := hrel
      cases gk with
      | zero => exact absurd HA.out (by simp [slices_Equal_int_int.l0])
      | succ k1 =>
        have H := HA.out
        clear HA
        simp only [slices_Equal_int_int.l0] at H
        by_cases c4 : x13_1 < (l0.length : Int)
        · rw [if_pos c4] at H
          have c4b0 : decide (x13_1 < (l0.length : Int)) = true := decide_eq_true c4
          clear c4
          by_cases c5 : 0 ≤ x13_1
          · rw [if_pos c5] at H
            have c5b0 : decide (0 ≤ x13_1) = true := decide_eq_true c5
            clear c5
            by_cases c6 : x13_1 < (l0.length : Int)
            · rw [if_pos c6] at H
              have c6b0 : decide (x13_1 < (l0.length : Int)) = true := decide_eq_true c6
              clear c6
              by_cases c7 : x13_1 < (l1.length : Int)
              · rw [if_pos c7] at H
                have c7b0 : decide (x13_1 < (l1.length : Int)) = true := decide_eq_true c7
                clear c7
                by_cases c8 : (rd l0 x13_1) = (rd l1 x13_1)
                · rw [if_pos c8] at H
                  have c8b0 : ((rd l0 x13_1) == (rd l1 x13_1)) = true := beq_iff_eq.mpr c8
                  have c8b1 : ((rd l0 x13_1) != (rd l1 x13_1)) = false := bne_eq_false_iff_eq.mpr c8
                  clear c8
                  have H' := Aside0.mk H
                  clear H
                  have p101 : 0 ≤ (x13_1 : Int) := of_decide_eq_true (by first | (with_reducible assumption) | assumption)
                  have q101 : x13_1 < (l0.length : Int) := of_decide_eq_true (by first | (with_reducible assumption) | assumption)
                  obtain ⟨ad101, e101, hx101_0⟩ := Kd.at_int HR0.out x13_1 p101 q101
                  cases e101
                  replace p101 := eq_true p101
                  replace q101 := eq_true q101
                  have p102 : 0 ≤ (x13_1 : Int) := of_decide_eq_true (by first | (with_reducible assumption) | assumption)
                  have q102 : x13_1 < (l1.length : Int) := of_decide_eq_true (by first | (with_reducible assumption) | assumption)
                  obtain ⟨ad102, e102, hx102_0⟩ := Kd.at_int HR1.out x13_1 p102 q102
                  cases e102
                  replace p102 := eq_true p102
                  replace q102 := eq_true q102
                  go_wp2
                  repeat (go_quiet (fail); try go_wp2)
                  go_roundg k1
                  case measure => have := HK1.out; omega
                  case rel => exact ⟨(wrap64 (x13_1 + 1)), (by first | rfl | (simp; done) | (simp [*]; done)), H', ⟨by have := HK1.out; omega⟩, by repeat (first | exact Drawn0.refl _ | apply Drawn0.step)⟩
                · rw [if_neg c8] at H
                  have c8b0 : ((rd l0 x13_1) == (rd l1 x13_1)) = false := beq_eq_false_iff_ne.mpr c8
                  have c8b1 : ((rd l0 x13_1) != (rd l1 x13_1)) = true := bne_iff_ne.mpr c8
                  obtain rfl := Option.some.inj H
                  have p101 : 0 ≤ (x13_1 : Int) := of_decide_eq_true (by first | (with_reducible assumption) | assumption)
                  have q101 : x13_1 < (l0.length : Int) := of_decide_eq_true (by first | (with_reducible assumption) | assumption)
                  obtain ⟨ad101, e101, hx101_0⟩ := Kd.at_int HR0.out x13_1 p101 q101
                  cases e101
                  replace p101 := eq_true p101
                  replace q101 := eq_true q101
                  have p102 : 0 ≤ (x13_1 : Int) := of_decide_eq_true (by first | (with_reducible assumption) | assumption)
                  have q102 : x13_1 < (l1.length : Int) := of_decide_eq_true (by first | (with_reducible assumption) | assumption)
                  obtain ⟨ad102, e102, hx102_0⟩ := Kd.at_int HR1.out x13_1 p102 q102
                  cases e102
                  replace p102 := eq_true p102
                  replace q102 := eq_true q102
                  go_wp2
                  repeat (go_quiet (fail); try go_wp2)
                  go_ret
                  exact ⟨by first | rfl | (simp; done) | (simp [*]; done), by repeat (first | exact Drawn0.refl _ | apply Drawn0.step)⟩
              · rw [if_neg c7] at H
                exact absurd H (by simp)
            · rw [if_neg c6] at H
              exact absurd H (by simp)
          · rw [if_neg c5] at H
            exact absurd H (by simp)
        · rw [if_neg c4] at H
          have c4b0 : decide (x13_1 < (l0.length : Int)) = false := decide_eq_false c4
          clear c4
          obtain rfl := Option.some.inj H
          go_wp2
          repeat (go_quiet (fail); try go_wp2)
          go_ret
          exact ⟨by first | rfl | (simp; done) | (simp [*]; done), by repeat (first | exact Drawn0.refl _ | apply Drawn0.step)⟩
  · rw [if_neg c3] at H
    have c3b0 : ((l0.length : Int) == (l1.length : Int)) = false := beq_eq_false_iff_ne.mpr c3
    have c3b1 : ((l0.length : Int) != (l1.length : Int)) = true := bne_iff_ne.mpr c3
    have c3b2 : (l0.length == l1.length) = false := by first | simpa using c3 | (simp at c3 ⊢; omega)
    obtain rfl := Option.some.inj H
    go_enter Try.func36, Try.ntmps36
    go_wp2
    repeat (go_quiet (fail); try go_wp2)
    go_ret
    exact ⟨by first | rfl | (simp; done) | (simp [*]; done), by repeat (first | exact Drawn0.refl _ | apply Drawn0.step)⟩
end Go.Proofs.Ytonipihlpbaknaa.Print
namespace Go.Proofs.Ytonipihlpbaknaa.Print
set_option linter.unusedVariables false
set_option linter.unusedSimpArgs false
open Go.RowKit Go.Proofs.YtonipihlpbaknaaW.PrintWords Go.Proofs.YtonipihlpbaknaaW.PrintLast Go.Proofs.YtonipihlpbaknaaW.PrintMore
def lnN : List Int := [0, 0, 0]
def lnE : List S78 := [⟨0, 0, 1⟩, ⟨0, 1, 2⟩]
theorem sortI_asc (l : List Int) (h : l.Pairwise (· ≤ ·)) : sortI l = l := List.mergeSort_of_pairwise (h.imp (by simp))
theorem subs_ln (n : Nat) (L : List (List Int)) (h1 : L.Pairwise (fun x y => leOf lenC x y = true)) (h2 : L.Perm (genL n)) : subsetsL n = L := by
  unfold subsetsL
  refine List.Perm.eq_of_pairwise (le := fun x y => leOf lenC x y = true) ?_ ?_ h1 ((List.mergeSort_perm _ _).trans h2.symm)
  · intro a b _ _ p q
    simp only [leOf, Bool.not_eq_true'] at p q
    exact lenC_tot.tot a b q p
  · refine List.pairwise_mergeSort ?_ ?_ _
    · intro a b c p q
      simp only [leOf, Bool.not_eq_true'] at p q ⊢
      exact lenC_tot.swo.ntrans c b a q p
    · intro a b
      simp only [leOf, Bool.or_eq_true, Bool.not_eq_true']
      by_cases h : ltOf lenC b a = true
      · right
        exact lenC_tot.swo.asymmA h
      · left
        simpa using h
theorem subs2 : subsetsL 2 = [[], [0], [1], [0, 1]] := subs_ln 2 _ (by decide +kernel) (by decide +kernel)
theorem subs3 : subsetsL 3 = [[], [0], [1], [2], [0, 1], [0, 2], [1, 2], [0, 1, 2]] := subs_ln 3 _ (by decide +kernel) (by decide +kernel)
theorem parts_ln : (partsL lnN lnE).length = 13 := by
  unfold partsL
  rw [show lnN.length = 3 from rfl, show lnE.length = 2 from rfl, subs3, subs2]
  decide +kernel
theorem valid_ln : validB lnN lnE = 0 := by decide +kernel
theorem close_ln : subgraph_Close.f lnN lnE [] [0] = some ([0, 1], [0], 0) := by
  unfold subgraph_Close.f
  rw [if_pos (by decide), if_pos valid_ln, if_neg (by decide), if_neg (by decide), show ([] : List Int) ++ endsOf lnE [0] = [0, 1] from rfl, sortI_asc _ (by decide), sortI_asc _ (by decide)]
  decide +kernel
theorem bdry_ln : subgraph_Boundary.f 1000 lnN lnE [0, 1] [0] = some ([1], 0) := by
  rw [bdry_ok lnN lnE [0, 1] [0] (by decide) (by decide) 1000 (by decide), if_pos (by decide +kernel)]
  unfold bdryL
  rw [show outUpto lnE [0] lnE.length = [1, 2] by decide +kernel, sortI_asc _ (by decide)]
  decide +kernel
theorem all_ln : subgraph_All.f lnN lnE = some (partsL lnN lnE, 0) := by
  unfold subgraph_All.f
  rw [if_pos valid_ln, if_neg (by decide)]
theorem same_ln : scarfjointref07_Same.f 10 [0, 1] [0] [0, 1] [0] = some true := by decide +kernel
theorem equal_ln : slices_Equal_int_int.f 10 [1] [1] = some true := by decide +kernel
theorem line_ln : scarfjointlaw07_line.f = some (lnN, lnE) := rfl
set_option maxHeartbeats 2000000 in
set_option maxRecDepth 100000 in
theorem scarfjointlaw07_awake.calls0 (w : World) : Calls Try.prog 11 #[] w fun e w' => e = .returned (.bool true) ∧ Below w.heap.size w w' := by
  have L0 := Lib.hid (fun W => scarfjointlaw07_line.calls lnN lnE W line_ln)
  have eN : lnN.length = 3 := rfl
  go_enter Try.func11, Try.ntmps11
  go_wp2_with fail
  refine (L0.out _).mono ?_
  rintro e w1 ⟨v1, v2, rfl, ho1, ho2, hb⟩
  obtain ⟨A1, c1, rfl, m1, r1⟩ := Kd.R_reads ho1
  obtain ⟨A2, c2, rfl, m2, r2⟩ := Kd.R_reads ho2
  have R1 := Lib.hid r1
  have R2 := Lib.hid r2
  have M1 := Lib.hid m1
  have M2 := Lib.hid m2
  have B1 := Lib.hid hb
  clear ho1 ho2 r1 r2 hb eN m1 m2
  go_wp2_with (first
    | ((with_reducible refine gate_dst (N := 9) rfl ?_); refine Kd.R_lit (Kd.int .i64) _ 3 ?hg (N := 9) ?hd (xs := [0]) (inner := [.int .i64 0]) (ok := fun _ => True) (okp := fun _ => True) ?hr ?hp (fun _ hk => hk) trivial (Below.refl _ _) (Nat.le_refl _) (by simp) ?_; (case hd => rfl); (case hg => rfl); (case hr => first | (go_simp; done) | (go_simp; rfl)); (case hp => exact (Reps.one (show Kd.M (Kd.int .i64) _ _ _ 0 [.int .i64 0] from rfl) (Reps.none _ _))); intro v3 w2 ho hb hg_ hne; obtain ⟨A3, c3, rfl, m3, r3⟩ := Kd.R_reads ho; have R3 := Lib.hid r3; have M3 := Lib.hid m3; have R12 := Lib.hid (Kd.C_below R1.out hb); have R22 := Lib.hid (Kd.C_below R2.out hb); have B2 := Lib.hid (below_then B1.out B1.out.size hb); clear ho hb hg_ hne r3 m3 R1 R2 B1)
    | (go_at_call 13; refine (subgraph_Close.calls A1 c1 lnN A2 c2 lnE none 0 [] A3 c3 [0] [0, 1] [0] 0 _ R12.out M1.out R22.out M2.out (Kd.C_nil _ _) (Nat.le_refl _) R3.out M3.out close_ln).mono ?_; rintro e w3 ⟨v4, v5, rfl, ho4, ho5, hb⟩; obtain ⟨A4, c4, rfl, m4, r4⟩ := Kd.R_reads ho4; obtain ⟨A5, c5, rfl, m5, r5⟩ := Kd.R_reads ho5; have R4 := Lib.hid r4; have R5 := Lib.hid r5; have M4 := Lib.hid m4; have M5 := Lib.hid m5; have B3 := Lib.hid (below_then B2.out B2.out.size hb); clear ho4 ho5 r4 r5 m4 m5 hb R12 R22 R3 B2))
  have BK := Lib.hid (blk_new w3 (.cells #[.slice A4 2 c4, .slice A5 1 c5] 27))
  have R42 := Lib.hid (Kd.C_alloc R4.out (.cells #[.slice A4 2 c4, .slice A5 1 c5] 27))
  have R52 := Lib.hid (Kd.C_alloc R5.out (.cells #[.slice A4 2 c4, .slice A5 1 c5] 27))
  have B4 := Lib.hid (below_alloc (o := .cells #[.slice A4 2 c4, .slice A5 1 c5] 27) B3.out)
  clear R4 R5 B3
  generalize w3.heap.size = g at BK ⊢
  generalize w3.alloc (.cells #[.slice A4 2 c4, .slice A5 1 c5] 27) = w4 at BK R42 R52 B4 ⊢
  refine start_ (n := 8) (S := fun w' => w'.cell? ⟨g, 0, none⟩ = some (.slice A4 2 c4) ∧ w'.cell? ⟨g, 1, none⟩ = some (.slice A5 1 c5)) (ds := []) #[false, false, false, false, false, false, false, false] (by kernel_rfl) rfl rfl ⟨(blk_cell BK.out 0).trans rfl, (blk_cell BK.out 1).trans rfl⟩ (fun hHeld => ?_)
  refine take_ (i := 1) (N := some 15) (v := ?_) (a' := ?_) #[false, true, false, false, false, false, false, false] rfl rfl (by kernel_rfl) (fun _ _ _ h => h) (Or.inl ⟨by rfl, ?_⟩) hHeld ?_ ?_
  rotate_left
  · rintro w' ⟨s0, s1⟩
    go_simp
    with_reducible rfl
  rotate_left
  · simp only [Act.put, List.setIfInBounds_toArray, List.set_cons_zero, List.set_cons_succ, i64_w, i32_w]
    rfl
  refine one_ (i := 0) (N := some 14) #[true, true, false, false, false, false, false, false] rfl rfl (by kernel_rfl) (by decide) (fun K hK => ?_)
  refine goes_ Try.func49 (by kernel_rfl) rfl #[] (by rfl) rfl rfl (by (try simp only [List.map_toArray, List.map_cons, List.map_nil]); first | done | rfl) ?_
  refine (scarfjointlaw07_line.calls lnN lnE _ line_ln).mono ?_
  rintro e w5 ⟨v6, v7, rfl, ho6, ho7, hb⟩
  refine ⟨_, rfl, ?_⟩
  obtain ⟨A6, c6, rfl, m6, r6⟩ := Kd.R_reads ho6
  obtain ⟨A7, c7, rfl, m7, r7⟩ := Kd.R_reads ho7
  have R6 := Lib.hid r6
  have R7 := Lib.hid r7
  have M6 := Lib.hid m6
  have M7 := Lib.hid m7
  have R43 := Lib.hid (Kd.C_below (Kd.C_drew R42.out) hb)
  have R53 := Lib.hid (Kd.C_below (Kd.C_drew R52.out) hb)
  have BK2 := Lib.hid (blk_below (blk_drew BK.out) hb)
  have B5 := Lib.hid (below_then (below_drew1 B4.out) (below_drew1 B4.out).size hb)
  clear ho6 ho7 r6 r7 m6 m7 hb R42 R52 BK B4
  refine hK.out _ _ ⟨(blk_cell BK2.out 0).trans rfl, (blk_cell BK2.out 1).trans rfl⟩ (fun hHeld => ?_)
  clear hK K
  refine norm_ (a' := ?_) ?_ ?_
  rotate_left
  · show Act.put _ (some 14) _ = _
    simp only [Act.put, List.setIfInBounds_toArray, List.set_cons_zero, List.set_cons_succ, i64_w, i32_w]
    rfl
  refine one_ (i := 2) (N := some 16) #[true, true, true, false, false, false, false, false] rfl rfl (by kernel_rfl) (by decide) (fun K hK => ?_)
  refine goes_ Try.func21 (by kernel_rfl) rfl #[.agg #[.slice A6 lnN.length c6, .slice A7 lnE.length c7], .agg #[.slice A4 2 c4, .slice A5 1 c5]] (by rfl) rfl rfl (by (try simp only [List.map_toArray, List.map_cons, List.map_nil]); first | done | rfl) ?_
  refine (subgraph_Boundary.calls 1000 A6 c6 lnN A7 c7 lnE A4 c4 [0, 1] A5 c5 [0] [1] 0 _ R6.out M6.out R7.out M7.out R43.out M4.out R53.out M5.out bdry_ln).mono ?_
  rintro e w6 ⟨v8, rfl, ho8, hb⟩
  refine ⟨_, rfl, ?_⟩
  obtain ⟨A8, c8, rfl, m8, r8⟩ := Kd.R_reads ho8
  have R8 := Lib.hid r8
  have M8 := Lib.hid m8
  have R44 := Lib.hid (Kd.C_below R43.out hb)
  have R54 := Lib.hid (Kd.C_below R53.out hb)
  have BK3 := Lib.hid (blk_below BK2.out hb)
  have B6 := Lib.hid (below_then B5.out B5.out.size hb)
  clear ho8 r8 m8 hb R43 R53 R6 R7 M6 M7 BK2 B5
  refine hK.out _ _ ⟨(blk_cell BK3.out 0).trans rfl, (blk_cell BK3.out 1).trans rfl⟩ (fun hHeld => ?_)
  clear hK K
  refine norm_ (a' := ?_) ?_ ?_
  rotate_left
  · show Act.put _ (some 16) _ = _
    simp only [Act.put, List.setIfInBounds_toArray, List.set_cons_zero, List.set_cons_succ, i64_w, i32_w]
    rfl
  refine pure_ (i := 3) (N := some 13) (v := ?_) (a' := ?_) #[true, true, true, true, false, false, false, false] rfl rfl (by kernel_rfl) (fun _ _ _ h => h) (Or.inl ⟨by rfl, ?_⟩) ?_ ?_
  rotate_left
  · intro w'
    go_simp
    with_reducible rfl
  rotate_left
  · simp only [Act.put, List.setIfInBounds_toArray, List.set_cons_zero, List.set_cons_succ, i64_w, i32_w]
    rfl
  refine pure_ (i := 4) (N := some 17) (v := ?_) (a' := ?_) #[true, true, true, true, true, false, false, false] rfl rfl (by kernel_rfl) (fun _ _ _ h => h) (Or.inl ⟨by rfl, ?_⟩) ?_ ?_
  rotate_left
  · intro w'
    go_simp
    with_reducible rfl
  rotate_left
  · simp only [Act.put, List.setIfInBounds_toArray, List.set_cons_zero, List.set_cons_succ, i64_w, i32_w]
    rfl
  refine pure_ (i := 5) (N := some 18) (v := ?_) (a' := ?_) #[true, true, true, true, true, true, false, false] rfl rfl (by kernel_rfl) (fun _ _ _ h => h) (Or.inl ⟨by rfl, ?_⟩) ?_ ?_
  rotate_left
  · intro w'
    go_simp
    with_reducible rfl
  rotate_left
  · simp only [Act.put, List.setIfInBounds_toArray, List.set_cons_zero, List.set_cons_succ, i64_w, i32_w]
    rfl
  refine pure_ (i := 6) (N := some 3) (v := ?_) (a' := ?_) #[true, true, true, true, true, true, true, false] rfl rfl (by kernel_rfl) (fun _ _ _ h => h) (Or.inl ⟨by rfl, ?_⟩) ?_ ?_
  rotate_left
  · intro w'
    go_simp
    with_reducible rfl
  rotate_left
  · simp only [Act.put, List.setIfInBounds_toArray, List.set_cons_zero, List.set_cons_succ, i64_w, i32_w]
    rfl
  refine pure_ (i := 7) (N := some 4) (v := ?_) (a' := ?_) #[true, true, true, true, true, true, true, true] rfl rfl (by kernel_rfl) (fun _ _ _ h => h) (Or.inl ⟨by rfl, ?_⟩) ?_ ?_
  rotate_left
  · intro w'
    go_simp
    with_reducible rfl
  rotate_left
  · simp only [Act.put, List.setIfInBounds_toArray, List.set_cons_zero, List.set_cons_succ, i64_w, i32_w]
    rfl
  refine done_ (by kernel_rfl) ?_
  go_wp2_with fail
  refine (L0.out _).mono ?_
  rintro e w7 ⟨v9, v10, rfl, ho9, ho10, hb⟩
  obtain ⟨A9, c9, rfl, m9, r9⟩ := Kd.R_reads ho9
  obtain ⟨A10, c10, rfl, m10, r10⟩ := Kd.R_reads ho10
  have R9 := Lib.hid r9
  have R10 := Lib.hid r10
  have M9 := Lib.hid m9
  have M10 := Lib.hid m10
  have R82 := Lib.hid (Kd.C_below R8.out hb)
  have R45 := Lib.hid (Kd.C_below R44.out hb)
  have R55 := Lib.hid (Kd.C_below R54.out hb)
  have BK4 := Lib.hid (blk_below BK3.out hb)
  have B7 := Lib.hid (below_then B6.out B6.out.size hb)
  clear ho9 ho10 r9 r10 m9 m10 hb R8 R44 R54 BK3 B6
  go_wp2_with (first
    | (go_at_call 24; refine (subgraph_All.callsR A9 c9 lnN A10 c10 lnE (partsL lnN lnE) 0 _ R9.out M9.out R10.out M10.out all_ln).mono ?_; rintro e w8 ⟨v11, rfl, ho11, hb⟩; obtain ⟨A11, c11, rfl⟩ := Kd.R_slice ho11; rw [parts_ln]; have R83 := Lib.hid (Kd.C_below R82.out hb); have R46 := Lib.hid (Kd.C_below R45.out hb); have R56 := Lib.hid (Kd.C_below R55.out hb); have BK5 := Lib.hid (blk_below BK4.out hb); have B8 := Lib.hid (below_then B7.out B7.out.size hb); have C0 : w8.cell? ⟨g, 0, none⟩ = some (.slice A4 2 c4) := (blk_cell BK5.out 0).trans rfl; have C1 : w8.cell? ⟨g, 1, none⟩ = some (.slice A5 1 c5) := (blk_cell BK5.out 1).trans rfl; clear ho11 hb R82 R45 R55 BK4 B7)
    | ((with_reducible refine gate_dst (N := 36) rfl ?_); (try (refine gate_guard (by rfl) ?_; dsimp only)); refine Kd.R_lit (Kd.int .i64) _ 3 ?hg (N := 36) ?hd (xs := [0, 1]) (inner := [.int .i64 0, .int .i64 1]) (ok := fun _ => True) (okp := fun _ => True) ?hr ?hp (fun _ hk => hk) trivial (Below.refl _ _) (Nat.le_refl _) (by simp) ?_; (case hd => rfl); (case hg => rfl); (case hr => first | (go_simp; done) | (go_simp; rfl)); (case hp => exact (Reps.one (show Kd.M (Kd.int .i64) _ _ _ 0 [.int .i64 0] from rfl) (Reps.one (show Kd.M (Kd.int .i64) _ _ _ 1 [.int .i64 1] from rfl) (Reps.none _ _)))); intro v12 w9 ho hb hg_ hne; obtain ⟨A12, c12, rfl, m12, r12⟩ := Kd.R_reads ho; have R12 := Lib.hid r12; have M12 := Lib.hid m12; have R84 := Lib.hid (Kd.C_below R83.out hb); have R47 := Lib.hid (Kd.C_below R46.out hb); have R57 := Lib.hid (Kd.C_below R56.out hb); have B9 := Lib.hid (below_then B8.out B8.out.size hb); clear ho hb hg_ hne r12 m12 C0 C1 R83 R46 R56 B8)
    | ((with_reducible refine gate_dst (N := 37) rfl ?_); (try (refine gate_guard (by rfl) ?_; dsimp only)); refine Kd.R_lit (Kd.int .i64) _ 3 ?hg (N := 37) ?hd (xs := [0]) (inner := [.int .i64 0]) (ok := fun _ => True) (okp := fun _ => True) ?hr ?hp (fun _ hk => hk) trivial (Below.refl _ _) (Nat.le_refl _) (by simp) ?_; (case hd => rfl); (case hg => rfl); (case hr => first | (go_simp; done) | (go_simp; rfl)); (case hp => exact (Reps.one (show Kd.M (Kd.int .i64) _ _ _ 0 [.int .i64 0] from rfl) (Reps.none _ _))); intro v13 w10 ho hb hg_ hne; obtain ⟨A13, c13, rfl, m13, r13⟩ := Kd.R_reads ho; have R13 := Lib.hid r13; have M13 := Lib.hid m13; have R85 := Lib.hid (Kd.C_below R84.out hb); have R48 := Lib.hid (Kd.C_below R47.out hb); have R58 := Lib.hid (Kd.C_below R57.out hb); have R122 := Lib.hid (Kd.C_below R12.out hb); have B10 := Lib.hid (below_then B9.out B9.out.size hb); clear ho hb hg_ hne r13 m13 R84 R47 R57 B9 R12)
    | (go_at_call 17; refine (scarfjointref07_Same.calls 10 A4 c4 [0, 1] A5 c5 [0] A12 c12 [0, 1] A13 c13 [0] true _ R48.out M4.out R58.out M5.out R122.out M12.out R13.out M13.out same_ln).mono ?_; rintro e w11 ⟨rfl, hb⟩; have R86 := Lib.hid (Kd.C_below R85.out hb); have B11 := Lib.hid (below_then B10.out B10.out.size hb); clear hb R85 R48 R58 R122 R13 B10)
    | ((with_reducible refine gate_dst (N := 43) rfl ?_); (try (refine gate_guard (by rfl) ?_; dsimp only)); refine Kd.R_lit (Kd.int .i64) _ 3 ?hg (N := 43) ?hd (xs := [1]) (inner := [.int .i64 1]) (ok := fun _ => True) (okp := fun _ => True) ?hr ?hp (fun _ hk => hk) trivial (Below.refl _ _) (Nat.le_refl _) (by simp) ?_; (case hd => rfl); (case hg => rfl); (case hr => first | (go_simp; done) | (go_simp; rfl)); (case hp => exact (Reps.one (show Kd.M (Kd.int .i64) _ _ _ 1 [.int .i64 1] from rfl) (Reps.none _ _))); intro v14 w12 ho hb hg_ hne; obtain ⟨A14, c14, rfl, m14, r14⟩ := Kd.R_reads ho; have R14 := Lib.hid r14; have M14 := Lib.hid m14; have R87 := Lib.hid (Kd.C_below R86.out hb); have B12 := Lib.hid (below_then B11.out B11.out.size hb); clear ho hb hg_ hne r14 m14 R86 B11)
    | (go_at_call 36; refine (slices_Equal_int_int.calls 10 A8 c8 [1] A14 c14 [1] true _ R87.out M8.out R14.out M14.out equal_ln).mono ?_; rintro e w13 ⟨rfl, hb⟩; have B13 := Lib.hid (below_then B12.out B12.out.size hb.below); clear hb R87 R14 B12))
  exact bodyPost_ret (v := .bool true) (by simp [results, Try.f11, go_sem]) rfl ⟨rfl, B13.out⟩
end Go.Proofs.Ytonipihlpbaknaa.Print
namespace Go.Proofs.Ytonipihlpbaknaa.Print
open Go.RowKit Go.Proofs.YtonipihlpbaknaaW.PrintWords Go.Proofs.YtonipihlpbaknaaW.PrintLast Go.Proofs.YtonipihlpbaknaaW.PrintMore
attribute [local go_sem] max2_int min2_int max_two min_two max_three min_three max_four min_four   -- for this text's walks alone
set_option linter.unusedVariables false
set_option linter.unusedSimpArgs false
def scarfjointref07_Few.f (l0_0 : List Int) (l0_1 : List Int) (a1 : Int) : Option (Bool) := some (decide ((wrap64 ((l0_0.length : Int) + (l0_1.length : Int))) ≤ a1))
set_option maxHeartbeats 8000000 in
set_option maxRecDepth 100000 in
theorem scarfjointref07_Few.calls (A0_0 : Option Addr) (c0_0 : Nat) (l0_0 : List Int) (A0_1 : Option Addr) (c0_1 : Nat) (l0_1 : List Int) (a1 : Int) (r : Bool) (w : World) (hr0_0 : Kd.C (Kd.int .i64) w A0_0 l0_0.length l0_0) (hc0_0 : l0_0.length ≤ c0_0) (hr0_1 : Kd.C (Kd.int .i64) w A0_1 l0_1.length l0_1) (hc0_1 : l0_1.length ≤ c0_1) (h : scarfjointref07_Few.f l0_0 l0_1 a1 = some r) :
    Calls Try.prog 43 #[.agg #[.slice A0_0 l0_0.length c0_0, .slice A0_1 l0_1.length c0_1], .int .i64 a1] w fun e w' => e = .returned (.bool r) ∧ Below w.heap.size w w' := by
  have hu27 := Try.underlying27
  have HR0_0 := Aside0.mk hr0_0
  have HC0_0 := Aside0.mk hc0_0
  clear hr0_0 hc0_0
  have HR0_1 := Aside0.mk hr0_1
  have HC0_1 := Aside0.mk hc0_1
  clear hr0_1 hc0_1
  have HB := Aside0.mk (Below.refl w.heap.size w)
  have H : (some (decide ((wrap64 ((l0_0.length : Int) + (l0_1.length : Int))) ≤ a1))) = some r := h
  clear h
  obtain rfl := Option.some.inj H
  go_enter Try.func43, Try.ntmps43
  go_wp2_with (first | ((with_reducible refine gate_dst (N := 2) rfl ?_); refine box_event ?hg (N := 2) ?hd (cs := #[.slice A0_0 l0_0.length c0_0, .slice A0_1 l0_1.length c0_1]) (t := 27) ?hr ?_; (case hd => rfl); (case hg => rfl); (case hr => first | (go_simp; done) | (go_simp; rfl)); intro gb101 hg w3 hbox hb; have n0_ := Aside0.mk (below_step (by repeat (first | (with_reducible first | exact HB.out | apply below_alloc | apply pw_below_drewN | apply below_drew1) | exact HB.out)) hb); have n1_ := Aside0.mk (hbox); have n2_ := Aside0.mk ((by rw [hg]; exact (below_size (by repeat (first | (with_reducible first | exact HB.out | apply below_alloc | apply pw_below_drewN | apply below_drew1) | exact HB.out))) : w.heap.size ≤ gb101)); have n3_ := Aside0.mk ((by rw [hg]; exact (below_size (by repeat (first | (with_reducible first | exact HB.out | apply below_alloc | apply pw_below_drewN | apply below_drew1) | exact HB.out))) : w.heap.size ≤ gb101)); clear HB; have HB := n0_; have BK101 := n1_; have GW101 := n2_; have GE101 := n3_; clear n0_ n1_ n2_ n3_; clear hb hbox hg; have hcz4_0 : w3.cell? ⟨gb101, 0, none⟩ = some (.slice A0_0 l0_0.length c0_0) := (blk_cell BK101.out 0).trans rfl; have hcz4_1 : w3.cell? ⟨gb101, 1, none⟩ = some (.slice A0_1 l0_1.length c0_1) := (blk_cell BK101.out 1).trans rfl; have hfz4_0 := blk_frozen BK101.out 0; have hfz4_1 := blk_frozen BK101.out 1))
  go_ret
  exact ⟨by first | rfl | (simp [errW_none, errW_some] <;> rfl) | (simp [*, errW_none, errW_some] <;> rfl), by repeat (first | (with_reducible first | exact HB.out | apply below_alloc | apply pw_below_drewN | apply below_drew1 | refine below_set ?_ GE101.out) | exact HB.out)⟩
end Go.Proofs.Ytonipihlpbaknaa.Print
namespace Go.Proofs.Ytonipihlpbaknaa.Print
open Go.RowKit Go.Proofs.YtonipihlpbaknaaW.PrintWords Go.Proofs.YtonipihlpbaknaaW.PrintLast Go.Proofs.YtonipihlpbaknaaW.PrintMore
attribute [local go_sem] max2_int min2_int max_two min_two max_three min_three max_four min_four   -- for this text's walks alone
set_option linter.unusedVariables false
set_option linter.unusedSimpArgs false
def scarfjointref05_Few.f (l0_0 : List Int) (l0_1 : List (S78)) : Option (Bool) := if (l0_0.length : Int) ≤ 45 then (some (decide ((l0_1.length : Int) ≤ 90))) else (some false)
set_option maxHeartbeats 8000000 in
set_option maxRecDepth 100000 in
theorem scarfjointref05_Few.calls (A0_0 : Option Addr) (c0_0 : Nat) (l0_0 : List Int) (A0_1 : Option Addr) (c0_1 : Nat) (l0_1 : List (S78)) (r : Bool) (w : World) (hr0_0 : Kd.C (Kd.int .i64) w A0_0 l0_0.length l0_0) (hc0_0 : l0_0.length ≤ c0_0) (hr0_1 : Kd.C k78 w A0_1 l0_1.length l0_1) (hc0_1 : l0_1.length ≤ c0_1) (h : scarfjointref05_Few.f l0_0 l0_1 = some r) :
    Calls Try.prog 50 #[.agg #[.slice A0_0 l0_0.length c0_0, .slice A0_1 l0_1.length c0_1]] w fun e w' => e = .returned (.bool r) ∧ Below w.heap.size w w' := by
  have hu25 := Try.underlying25
  have HR0_0 := Aside0.mk hr0_0
  have HC0_0 := Aside0.mk hc0_0
  clear hr0_0 hc0_0
  have HR0_1 := Aside0.mk hr0_1
  have HC0_1 := Aside0.mk hc0_1
  clear hr0_1 hc0_1
  have HB := Aside0.mk (Below.refl w.heap.size w)
  have H : (if (l0_0.length : Int) ≤ 45 then (some (decide ((l0_1.length : Int) ≤ 90))) else (some false)) = some r := h
  clear h
  by_cases c2 : (l0_0.length : Int) ≤ 45
  · rw [if_pos c2] at H
    have c2b0 : decide ((l0_0.length : Int) ≤ 45) = true := decide_eq_true c2
    have c2b1 : decide (l0_0.length ≤ 45) = true := decide_eq_true (by omega)
    clear c2
    obtain rfl := Option.some.inj H
    go_enter Try.func50, Try.ntmps50
    go_wp2_with (first | ((with_reducible refine gate_dst (N := 1) rfl ?_); (try (refine gate_guard (by rfl) ?_; dsimp only)); refine box_event ?hg (N := 1) ?hd (cs := #[.slice A0_0 l0_0.length c0_0, .slice A0_1 l0_1.length c0_1]) (t := 25) ?hr ?_; (case hd => rfl); (case hg => rfl); (case hr => first | (go_simp; done) | (go_simp; rfl)); intro gb101 hg w3 hbox hb; have n0_ := Aside0.mk (below_step (by repeat (first | (with_reducible first | exact HB.out | apply below_alloc | apply pw_below_drewN | apply below_drew1) | exact HB.out)) hb); have n1_ := Aside0.mk (hbox); have n2_ := Aside0.mk ((by rw [hg]; exact (below_size (by repeat (first | (with_reducible first | exact HB.out | apply below_alloc | apply pw_below_drewN | apply below_drew1) | exact HB.out))) : w.heap.size ≤ gb101)); have n3_ := Aside0.mk ((by rw [hg]; exact (below_size (by repeat (first | (with_reducible first | exact HB.out | apply below_alloc | apply pw_below_drewN | apply below_drew1) | exact HB.out))) : w.heap.size ≤ gb101)); clear HB; have HB := n0_; have BK101 := n1_; have GW101 := n2_; have GE101 := n3_; clear n0_ n1_ n2_ n3_; clear hb hbox hg; have hcz4_0 : w3.cell? ⟨gb101, 0, none⟩ = some (.slice A0_0 l0_0.length c0_0) := (blk_cell BK101.out 0).trans rfl; have hcz4_1 : w3.cell? ⟨gb101, 1, none⟩ = some (.slice A0_1 l0_1.length c0_1) := (blk_cell BK101.out 1).trans rfl; have hfz4_0 := blk_frozen BK101.out 0; have hfz4_1 := blk_frozen BK101.out 1))
    go_ret
    exact ⟨by first | rfl | (simp [errW_none, errW_some] <;> rfl) | (simp [*, errW_none, errW_some] <;> rfl), by repeat (first | (with_reducible first | exact HB.out | apply below_alloc | apply pw_below_drewN | apply below_drew1 | refine below_set ?_ GE101.out) | exact HB.out)⟩
  · rw [if_neg c2] at H
    have c2b0 : decide ((l0_0.length : Int) ≤ 45) = false := decide_eq_false c2
    have c2b1 : decide (l0_0.length ≤ 45) = false := decide_eq_false (by omega)
    clear c2
    obtain rfl := Option.some.inj H
    go_enter Try.func50, Try.ntmps50
    go_wp2_with (first | ((with_reducible refine gate_dst (N := 1) rfl ?_); (try (refine gate_guard (by rfl) ?_; dsimp only)); refine box_event ?hg (N := 1) ?hd (cs := #[.slice A0_0 l0_0.length c0_0, .slice A0_1 l0_1.length c0_1]) (t := 25) ?hr ?_; (case hd => rfl); (case hg => rfl); (case hr => first | (go_simp; done) | (go_simp; rfl)); intro gb101 hg w5 hbox hb; have n0_ := Aside0.mk (below_step (by repeat (first | (with_reducible first | exact HB.out | apply below_alloc | apply pw_below_drewN | apply below_drew1) | exact HB.out)) hb); have n1_ := Aside0.mk (hbox); have n2_ := Aside0.mk ((by rw [hg]; exact (below_size (by repeat (first | (with_reducible first | exact HB.out | apply below_alloc | apply pw_below_drewN | apply below_drew1) | exact HB.out))) : w.heap.size ≤ gb101)); have n3_ := Aside0.mk ((by rw [hg]; exact (below_size (by repeat (first | (with_reducible first | exact HB.out | apply below_alloc | apply pw_below_drewN | apply below_drew1) | exact HB.out))) : w.heap.size ≤ gb101)); clear HB; have HB := n0_; have BK101 := n1_; have GW101 := n2_; have GE101 := n3_; clear n0_ n1_ n2_ n3_; clear hb hbox hg; have hcz6_0 : w5.cell? ⟨gb101, 0, none⟩ = some (.slice A0_0 l0_0.length c0_0) := (blk_cell BK101.out 0).trans rfl; have hcz6_1 : w5.cell? ⟨gb101, 1, none⟩ = some (.slice A0_1 l0_1.length c0_1) := (blk_cell BK101.out 1).trans rfl; have hfz6_0 := blk_frozen BK101.out 0; have hfz6_1 := blk_frozen BK101.out 1))
    go_ret
    exact ⟨by first | rfl | (simp [errW_none, errW_some] <;> rfl) | (simp [*, errW_none, errW_some] <;> rfl), by repeat (first | (with_reducible first | exact HB.out | apply below_alloc | apply pw_below_drewN | apply below_drew1 | refine below_set ?_ GE101.out) | exact HB.out)⟩
end Go.Proofs.Ytonipihlpbaknaa.Print
namespace Go.Proofs.Ytonipihlpbaknaa.Print
set_option linter.unusedVariables false
open Go.RowKit Go.Proofs.YtonipihlpbaknaaW.PrintWords Go.Proofs.YtonipihlpbaknaaW.PrintLast Go.Proofs.YtonipihlpbaknaaW.PrintMore
def fewB (x : S27) : Bool := decide (wrap64 ((x.f0.length : Int) + (x.f1.length : Int)) ≤ 150)
def smallG (l0 : List Int) (l1 : List S78) : Bool := decide ((l0.length : Int) ≤ 45) && decide ((l1.length : Int) ≤ 90)
def scarfjointlaw07_small.f (l0_0 : List Int) (l0_1 : List S78) (l1 : List S27) : Option Bool := some (smallG l0_0 l0_1 && !(l1.any fun x => !fewB x))
theorem small1 (x : S27) (A0 : Option Addr) (c0 : Nat) (A1 : Option Addr) (c1 : Nat) (W : World) (h0 : Kd.C (Kd.int .i64) W A0 x.f0.length x.f0) (hc0 : x.f0.length ≤ c0) (h1 : Kd.C (Kd.int .i64) W A1 x.f1.length x.f1) (hc1 : x.f1.length ≤ c1) :
    Calls Try.prog 52 #[.agg #[.slice A0 x.f0.length c0, .slice A1 x.f1.length c1]] W fun e w' => e = .returned (.bool (!fewB x)) ∧ Below W.heap.size W w' := by
  have H := fun (W' : World) (hb : Below W.heap.size W W') => scarfjointref07_Few.calls A0 c0 x.f0 A1 c1 x.f1 150 (fewB x) W' (Kd.C_below h0 hb) hc0 (Kd.C_below h1 hb) hc1 rfl
  have H1 := Lib.hid H
  clear H h0 h1 hc0 hc1
  generalize fewB x = b at H1 ⊢
  go_enter Try.func52, Try.ntmps52
  go_wp2_with fail
  refine (H1.out _ (by exact below_alloc (Below.refl _ _) _)).mono ?_
  rintro e w' ⟨rfl, hb⟩
  have X := Lib.hid (below_then (below_alloc (Below.refl W.heap.size W) (.cells #[.slice A0 x.f0.length c0, .slice A1 x.f1.length c1] 27)) (by simp) hb)
  clear hb H1
  go_wp2_with fail
  go_ret
  exact ⟨rfl, X.out⟩
set_option maxHeartbeats 1000000 in
theorem idx_parts (A : Option Addr) (c : Nat) (l : List S27) (w0 w : World) (hb : Below w0.heap.size w0 w) (hr : Kd.C k27 w0 A l.length l) :
    Calls Try.prog 85 #[.slice A l.length c, .func (.func 52) #[] #[]] w fun e w' => (∃ n : Int, e = .returned (.int .i64 n) ∧ decide (0 ≤ n) = l.any fun x => !fewB x) ∧ Below w0.heap.size w0 w' := by
  have eg : ∀ args w, (callFunc 52 args).run Try.prog w = .ok (.enter 52 args) w := enters_of Try.func52 (by kernel_rfl) rfl
  have hmx := Kd.C_max hr
  have HR := Lib.hid hr
  have HB := Lib.hid hb
  clear hr hb
  go_enter Try.func85, Try.ntmps85
  go_wp2
  go_loopg [5, 8] l.length (fun gg _ s8 wr => ∃ k : Nat, k ≤ l.length ∧ l.length - k ≤ gg ∧ s8 = .int .i64 k ∧ Aside0 (Below w0.heap.size w0 wr) ∧ Aside0 ((l.take k).any (fun x => !fewB x) = false))
  case atStart => exact ⟨0, Nat.zero_le _, by omega, rfl, ⟨HB.out⟩, ⟨by simp⟩⟩
  case round =>
    obtain ⟨k, hk, hg, rfl, BW, A1⟩ := hrel
    by_cases hlt : k < l.length
    · obtain ⟨ad, B0, d0, B1, d1, rfl, h0, h1, m0, g0, m1, g1⟩ := at_T27 HR.out (k : Int) (by omega) (by omega)
      have h0' := (BW.out.cell (World.block_lt_of_cell? w0 _ h0)).trans h0
      have h1' := (BW.out.cell (World.block_lt_of_cell? w0 _ h1)).trans h1
      clear h0 h1
      simp only [Int.toNat_natCast] at h0' h1'
      have hltz : (k : Int) < (l.length : Int) := by omega
      have hel : rd_T27 l k = l[k] := by simp [rd_T27, List.getD_eq_getElem?_getD, hlt]
      have hcall := (small1 (rd_T27 l k) B0 d0 B1 d1 wr (Kd.C_below g0 BW.out) m0 (Kd.C_below g1 BW.out) m1).mono (R' := fun e w' => e = .returned (.bool (!fewB (rd_T27 l k))) ∧ Below w0.heap.size w0 w') (by rintro e w' ⟨rfl, h⟩; exact ⟨rfl, below_then BW.out BW.out.size h⟩)
      clear m0 g0 m1 g1
      generalize rd_T27 l k = y at hel hcall h0' h1'
      have E1 := Lib.hid hel
      clear hel
      cases hq : fewB y with
      | false =>
        rw [hq] at hcall
        have E2 := Lib.hid hq
        clear hq
        go_wp2_with (go_at_fn 52; refine hcall.mono ?_; rintro e w' ⟨rfl, hb'⟩)
        go_ret
        refine ⟨⟨k, rfl, ?_⟩, hb'⟩
        have : (l.any fun x => !fewB x) = true := List.any_eq_true.2 ⟨l[k], List.getElem_mem _, by rw [← E1.out, E2.out]; rfl⟩
        rw [this]
        simp
      | true =>
        rw [hq] at hcall
        have E2 := Lib.hid hq
        clear hq
        go_wp2_with (go_at_fn 52; refine hcall.mono ?_; rintro e w' ⟨rfl, hb'⟩)
        go_roundg (l.length - (k + 1))
        case measure => omega
        case rel =>
          refine ⟨k + 1, by omega, by omega, by go_num, ⟨hb'⟩, ⟨?_⟩⟩
          rw [List.take_succ_eq_append_getElem hlt, List.any_append, A1.out, ← E1.out]
          simp [E2.out]
    · have hltz : ¬ (k : Int) < (l.length : Int) := by omega
      go_wp2
      go_ret
      refine ⟨⟨-1, rfl, ?_⟩, BW.out⟩
      have := A1.out
      rw [List.take_of_length_le (by omega)] at this
      rw [this]
      rfl
theorem contains_parts (A : Option Addr) (c : Nat) (l : List S27) (w0 w : World) (hb : Below w0.heap.size w0 w) (hr : Kd.C k27 w0 A l.length l) :
    Calls Try.prog 51 #[.slice A l.length c, .func (.func 52) #[] #[]] w fun e w' => e = .returned (.bool (l.any fun x => !fewB x)) ∧ Below w0.heap.size w0 w' := by
  have H := idx_parts A c l w0 w hb hr
  clear hb hr
  go_enter Try.func51, Try.ntmps51
  go_wp2_with (go_at_call 85; refine H.mono ?_; rintro e w' ⟨⟨n, rfl, hn⟩, hb'⟩)
  go_ret
  exact ⟨by first | rfl | simp_all, hb'⟩
set_option maxHeartbeats 1000000 in
theorem scarfjointlaw07_small.calls (A0_0 : Option Addr) (c0_0 : Nat) (l0_0 : List Int) (A0_1 : Option Addr) (c0_1 : Nat) (l0_1 : List (S78)) (A1 : Option Addr) (c1 : Nat) (l1 : List S27) (r : Bool) (w : World) (hr0_0 : Kd.C (Kd.int .i64) w A0_0 l0_0.length l0_0) (hc0_0 : l0_0.length ≤ c0_0) (hr0_1 : Kd.C k78 w A0_1 l0_1.length l0_1) (hc0_1 : l0_1.length ≤ c0_1) (hr1 : Kd.C k27 w A1 l1.length l1) (hc1 : l1.length ≤ c1) (h : scarfjointlaw07_small.f l0_0 l0_1 l1 = some r) :
    Calls Try.prog 12 #[.agg #[.slice A0_0 l0_0.length c0_0, .slice A0_1 l0_1.length c0_1], .slice A1 l1.length c1] w fun e w' => e = .returned (.bool r) ∧ Below w.heap.size w w' := by
  obtain rfl := Option.some.inj h
  have H0 := fun (W : World) (hb : Below w.heap.size w W) => scarfjointref05_Few.calls A0_0 c0_0 l0_0 A0_1 c0_1 l0_1 (smallG l0_0 l0_1) W (Kd.C_below hr0_0 hb) hc0_0 (Kd.C_below hr0_1 hb) hc0_1 (by
    unfold scarfjointref05_Few.f smallG
    by_cases e : (l0_0.length : Int) ≤ 45
    · rw [if_pos e, decide_eq_true e]
      simp
    · rw [if_neg e, decide_eq_false e]
      simp)
  have H1 := fun (W : World) (hb : Below w.heap.size w W) => contains_parts A1 c1 l1 w W hb hr1
  have D0 := Lib.hid H0
  have D1 := Lib.hid H1
  clear H0 H1 hr0_0 hr0_1 hr1 h
  generalize smallG l0_0 l0_1 = b0 at D0 ⊢
  generalize (l1.any fun x => !fewB x) = b1 at D1 ⊢
  cases b0 with
  | false =>
    go_enter Try.func12, Try.ntmps12
    go_wp2_with fail
    refine (D0.out _ (by exact below_alloc (Below.refl _ _) _)).mono ?_
    rintro e w1 ⟨rfl, hb⟩
    have X := Lib.hid (below_then (below_alloc (Below.refl w.heap.size w) (.cells #[.slice A0_0 l0_0.length c0_0, .slice A0_1 l0_1.length c0_1] 25)) (by simp) hb)
    clear hb
    go_wp2_with fail
    go_ret
    exact ⟨rfl, X.out⟩
  | true =>
    go_enter Try.func12, Try.ntmps12
    go_wp2_with fail
    refine (D0.out _ (by exact below_alloc (Below.refl _ _) _)).mono ?_
    rintro e w1 ⟨rfl, hb⟩
    have X := Lib.hid (below_then (below_alloc (Below.refl w.heap.size w) (.cells #[.slice A0_0 l0_0.length c0_0, .slice A0_1 l0_1.length c0_1] 25)) (by simp) hb)
    clear hb
    go_wp2_with fail
    refine (D1.out _ X.out).mono ?_
    rintro e w2 ⟨rfl, hb⟩
    have Y := Lib.hid hb
    clear hb
    go_wp2_with fail
    go_ret
    exact ⟨rfl, Y.out⟩
end Go.Proofs.Ytonipihlpbaknaa.Print
namespace Go.Proofs.Ytonipihlpbaknaa.Print
open Go.RowKit Go.Proofs.YtonipihlpbaknaaW.PrintWords Go.Proofs.YtonipihlpbaknaaW.PrintLast Go.Proofs.YtonipihlpbaknaaW.PrintMore
attribute [local go_sem] max2_int min2_int max_two min_two max_three min_three max_four min_four   -- for this text's walks alone
set_option linter.unusedVariables false
set_option linter.unusedSimpArgs false
def scarfjointref05_Copied.f (l0_0 : List Int) (l0_1 : List (S78)) : Option (List Int × (List (S78))) := (some (([] : List Int) : List Int)).bind fun y103 => (if y103.length + l0_0.length < 17592186044416 then ((some (([] : List (S78)) : List (S78))).bind fun y109 => (if y109.length + l0_1.length < 5864062014805 then (some ((y103 ++ l0_0), (y109 ++ l0_1))) else (none))) else (none))
def scarfjointref05_Copied.T1 : Bool × List (List Nat × List Nat) := (true, [([], []), ([], []), ([1], [1]), ([0, 2], [0, 2]), ([], []), ([], []), ([5], [5]), ([4, 6, 3], [4, 6]), ([3, 7], [3, 7]), ([8, 7, 0, 1, 2, 3, 4, 5, 6, 7, 8], [8])])
def scarfjointref05_Copied.B1 : List Nat := [0, 0, 2, 7, 0, 0, 32, 127, 255, 511]
theorem scarfjointref05_Copied.tab1 : rtab .any (opsOf Try.f14 1) = scarfjointref05_Copied.T1 := by kernel_rfl
theorem scarfjointref05_Copied.bits1 : waitsOk scarfjointref05_Copied.T1.2 scarfjointref05_Copied.B1 = true := by kernel_rfl
set_option maxHeartbeats 8000000 in
set_option maxRecDepth 100000 in
theorem scarfjointref05_Copied.calls (A0_0 : Option Addr) (c0_0 : Nat) (l0_0 : List Int) (A0_1 : Option Addr) (c0_1 : Nat) (l0_1 : List (S78)) (r1 : List Int) (r2 : List (S78)) (w : World) (hr0_0 : Kd.C (Kd.int .i64) w A0_0 l0_0.length l0_0) (hc0_0 : l0_0.length ≤ c0_0) (hr0_1 : Kd.C k78 w A0_1 l0_1.length l0_1) (hc0_1 : l0_1.length ≤ c0_1) (h : scarfjointref05_Copied.f l0_0 l0_1 = some (r1, r2)) :
    Calls Try.prog 14 #[.agg #[.slice A0_0 l0_0.length c0_0, .slice A0_1 l0_1.length c0_1]] w fun e w' => ∃ v0_ v1_ : Value, e = .returned (.agg #[v0_, v1_]) ∧ Kd.R (Kd.int .i64) 3 w' w.heap.size (fun _ => True) v0_ r1 ∧ Kd.R k78 78 w' w.heap.size (fun _ => True) v1_ r2 ∧ Below w.heap.size w w' := by
  have hu25 := Try.underlying25
  have HR0_0 := Aside0.mk hr0_0
  have HC0_0 := Aside0.mk hc0_0
  clear hr0_0 hc0_0
  have HR0_1 := Aside0.mk hr0_1
  have HC0_1 := Aside0.mk hc0_1
  clear hr0_1 hc0_1
  have HB := Aside0.mk (Below.refl w.heap.size w)
  have H : ((some (([] : List Int) : List Int)).bind fun y103 => (if y103.length + l0_0.length < 17592186044416 then ((some (([] : List (S78)) : List (S78))).bind fun y109 => (if y109.length + l0_1.length < 5864062014805 then (some ((y103 ++ l0_0), (y109 ++ l0_1))) else (none))) else (none))) = some (r1, r2) := h
  clear h
  obtain ⟨y103, hy103⟩ : ∃ y_ : List Int, y_ = (([] : List Int)) := ⟨_, rfl⟩
  replace H : (if y103.length + l0_0.length < 17592186044416 then ((some (([] : List (S78)) : List (S78))).bind fun y109 => (if y109.length + l0_1.length < 5864062014805 then (some ((y103 ++ l0_0), (y109 ++ l0_1))) else (none))) else (none)) = some (r1, r2) := by first | (rw [hy103]; with_reducible exact H) | (have H2_ := (Option.bind_some _ _).symm.trans H; rw [hy103]; with_reducible exact H2_) | (have H2_ := (Option.bind_some _ _).symm.trans H; with_reducible exact H2_) | with_reducible exact H | (rw [hy103]; exact H) | exact H
  have Ny103 := Aside0.mk hy103
  clear hy103
  by_cases c2 : y103.length + l0_0.length < 17592186044416
  · rw [if_pos c2] at H
    have LMc2 := Aside0.mk c2
    clear c2
    obtain ⟨y106, hy106⟩ : ∃ y_ : List Int, y_ = (y103 ++ l0_0) := ⟨_, rfl⟩
    replace H : ((some (([] : List (S78)) : List (S78))).bind fun y109 => (if y109.length + l0_1.length < 5864062014805 then (some (y106, (y109 ++ l0_1))) else (none))) = some (r1, r2) := by first | (rw [hy106]; with_reducible exact H) | (have H2_ := (Option.bind_some _ _).symm.trans H; rw [hy106]; with_reducible exact H2_) | (have H2_ := (Option.bind_some _ _).symm.trans H; with_reducible exact H2_) | with_reducible exact H | (rw [hy106]; exact H) | exact H
    have Ny106 := Aside0.mk hy106
    clear hy106
    obtain ⟨y109, hy109⟩ : ∃ y_ : List (S78), y_ = (([] : List (S78))) := ⟨_, rfl⟩
    replace H : (if y109.length + l0_1.length < 5864062014805 then (some (y106, (y109 ++ l0_1))) else (none)) = some (r1, r2) := by first | (rw [hy109]; with_reducible exact H) | (have H2_ := (Option.bind_some _ _).symm.trans H; rw [hy109]; with_reducible exact H2_) | (have H2_ := (Option.bind_some _ _).symm.trans H; with_reducible exact H2_) | with_reducible exact H | (rw [hy109]; exact H) | exact H
    have Ny109 := Aside0.mk hy109
    clear hy109
    by_cases c3 : y109.length + l0_1.length < 5864062014805
    · rw [if_pos c3] at H
      have LMc3 := Aside0.mk c3
      clear c3
      obtain ⟨y112, hy112⟩ : ∃ y_ : List (S78), y_ = (y109 ++ l0_1) := ⟨_, rfl⟩
      replace H : (some (y106, y112)) = some (r1, r2) := by first | (rw [hy112]; with_reducible exact H) | (have H2_ := (Option.bind_some _ _).symm.trans H; rw [hy112]; with_reducible exact H2_) | (have H2_ := (Option.bind_some _ _).symm.trans H; with_reducible exact H2_) | with_reducible exact H | (rw [hy112]; exact H) | exact H
      have Ny112 := Aside0.mk hy112
      clear hy112
      simp only [Option.some.injEq, Prod.mk.injEq] at H
      obtain ⟨rfl, rfl⟩ := H
      go_enter Try.func14, Try.ntmps14
      try go_wp2_with (first | ((with_reducible refine gate_dst (N := 1) rfl ?_); refine box_event ?hg (N := 1) ?hd (cs := #[.slice A0_0 l0_0.length c0_0, .slice A0_1 l0_1.length c0_1]) (t := 25) ?hr ?_; (case hd => rfl); (case hg => rfl); (case hr => first | (go_simp; done) | (go_simp; rfl)); intro gb101 hg w4 hbox hb; have n0_ := Aside0.mk (below_step (by repeat (first | (with_reducible first | exact HB.out | apply below_alloc | apply pw_below_drewN | apply below_drew1) | exact HB.out)) hb); have n1_ := Aside0.mk (hbox); have n2_ := Aside0.mk ((by rw [hg]; exact (below_size (by repeat (first | (with_reducible first | exact HB.out | apply below_alloc | apply pw_below_drewN | apply below_drew1) | exact HB.out))) : w.heap.size ≤ gb101)); have n3_ := Aside0.mk ((by rw [hg]; exact (below_size (by repeat (first | (with_reducible first | exact HB.out | apply below_alloc | apply pw_below_drewN | apply below_drew1) | exact HB.out))) : w.heap.size ≤ gb101)); clear HB; have HB := n0_; have BK101 := n1_; have GW101 := n2_; have GE101 := n3_; clear n0_ n1_ n2_ n3_; clear hb hbox hg) | ((with_reducible refine gate_dst (N := 2) rfl ?_); refine box_event ?hg (N := 2) ?hd (cs := #[.slice none 0 0, .slice none 0 0]) (t := 25) ?hr ?_; (case hd => rfl); (case hg => rfl); (case hr => first | (go_simp; done) | (go_simp; rfl)); intro gb102 hg w5 hbox hb; have n0_ := Aside0.mk (blk_below (g := gb101) (o := .cells #[.slice A0_0 l0_0.length c0_0, .slice A0_1 l0_1.length c0_1] 25 (0, 0)) (by (with_reducible repeat (first | refine blk_drewN ?_ _ | refine blk_drew ?_ | refine blk_alloc ?_ _)); exact BK101.out) hb); have n1_ := Aside0.mk (below_step (by repeat (first | (with_reducible first | exact HB.out | apply below_alloc | apply pw_below_drewN | apply below_drew1 | refine below_set ?_ GE101.out) | exact HB.out)) hb); have n2_ := Aside0.mk (hbox); have n3_ := Aside0.mk ((by rw [hg]; exact (below_size (by repeat (first | (with_reducible first | exact HB.out | apply below_alloc | apply pw_below_drewN | apply below_drew1 | refine below_set ?_ GE101.out) | exact HB.out))) : w.heap.size ≤ gb102)); have n4_ := Aside0.mk ((by rw [hg]; exact (below_size (by repeat (first | (with_reducible first | exact HB.out | apply below_alloc | apply pw_below_drewN | apply below_drew1 | refine below_set ?_ GE101.out) | exact HB.out))) : w.heap.size ≤ gb102)); have n5_ := Aside0.mk ((by rw [hg]; exact Nat.ne_of_lt (blk_lt (g := gb101) (o := .cells #[.slice A0_0 l0_0.length c0_0, .slice A0_1 l0_1.length c0_1] 25 (0, 0)) (by (with_reducible repeat (first | refine blk_drewN ?_ _ | refine blk_drew ?_ | refine blk_alloc ?_ _)); exact BK101.out)) : gb101 ≠ gb102)); have n6_ := Aside0.mk ((by rw [hg]; exact Nat.ne_of_gt (blk_lt (g := gb101) (o := .cells #[.slice A0_0 l0_0.length c0_0, .slice A0_1 l0_1.length c0_1] 25 (0, 0)) (by (with_reducible repeat (first | refine blk_drewN ?_ _ | refine blk_drew ?_ | refine blk_alloc ?_ _)); exact BK101.out)) : gb102 ≠ gb101)); clear BK101; clear HB; have BK101 := n0_; have HB := n1_; have BK102 := n2_; have GW102 := n3_; have GE102 := n4_; have NB101_102 := n5_; have NB102_101 := n6_; clear n0_ n1_ n2_ n3_ n4_ n5_ n6_; clear hb hbox hg))
      have n0_ := Aside0.mk (blk_drew BK101.out)
      have n1_ := Aside0.mk (blk_drew BK102.out)
      have n2_ := Aside0.mk (below_drew1 HB.out)
      clear BK101
      clear BK102
      clear HB
      have BK101 := n0_
      have BK102 := n1_
      have HB := n2_
      clear n0_ n1_ n2_
      refine start_ (n := 10) (S := fun w' => w'.cell? ⟨gb101, 0, none⟩ = some (.slice A0_0 l0_0.length c0_0) ∧ w'.cell? ⟨gb101, 1, none⟩ = some (.slice A0_1 l0_1.length c0_1)) (ds := []) #[false, false, false, false, false, false, false, false, false, false] (by kernel_rfl) rfl rfl ⟨(blk_cell BK101.out 0).trans rfl, (blk_cell BK101.out 1).trans rfl⟩ (fun hHeld => ?_); refine with_tabW scarfjointref05_Copied.tab1 scarfjointref05_Copied.bits1 (fun HT_ HW_ => ?_)
      generalize w5.drew = w6 at BK101 BK102 HB hHeld ⊢
      refine pure_ (i := 1) (N := some 4) (v := ?_) (a' := ?_) #[false, true, false, false, false, false, false, false, false, false] rfl rfl (any_of HT_.out (by kernel_rfl)) (fun _ _ _ h => h) (Or.inl ⟨by rfl, ?_⟩) ?_ ?_
      rotate_left
      · intro w'
        go_simp
        with_reducible rfl
      rotate_left
      · simp only [Act.put, List.setIfInBounds_toArray, List.set_cons_zero, List.set_cons_succ, i64_w, i32_w]
        rfl
      refine pure_ (i := 5) (N := some 8) (v := ?_) (a' := ?_) #[false, true, false, false, false, true, false, false, false, false] rfl rfl (any_of HT_.out (by kernel_rfl)) (fun _ _ _ h => h) (Or.inl ⟨by rfl, ?_⟩) ?_ ?_
      rotate_left
      · intro w'
        go_simp
        with_reducible rfl
      rotate_left
      · simp only [Act.put, List.setIfInBounds_toArray, List.set_cons_zero, List.set_cons_succ, i64_w, i32_w]
        rfl
      refine take_ (i := 2) (N := some 5) (v := ?_) (a' := ?_) #[false, true, true, false, false, true, false, false, false, false] rfl rfl (take_ofW HT_.out HW_.out (by kernel_rfl)) (fun _ _ _ h => h) (Or.inl ⟨by rfl, ?_⟩) hHeld ?_ ?_
      rotate_left
      · rintro w' ⟨s0, s1⟩
        go_simp
        with_reducible rfl
      rotate_left
      · simp only [Act.put, List.setIfInBounds_toArray, List.set_cons_zero, List.set_cons_succ, i64_w, i32_w]
        rfl
      refine take_ (i := 6) (N := some 9) (v := ?_) (a' := ?_) #[false, true, true, false, false, true, true, false, false, false] rfl rfl (take_ofW HT_.out HW_.out (by kernel_rfl)) (fun _ _ _ h => h) (Or.inl ⟨by rfl, ?_⟩) hHeld ?_ ?_
      rotate_left
      · rintro w' ⟨s0, s1⟩
        go_simp
        with_reducible rfl
      rotate_left
      · simp only [Act.put, List.setIfInBounds_toArray, List.set_cons_zero, List.set_cons_succ, i64_w, i32_w]
        rfl
      refine join_ (σ := Value × Value × Value) 3 #[true, true, true, true, true, true, true, false, false, false] (fun s_ => [(3, s_.1), (6, s_.2.1), (7, s_.2.2)]) (fun s_ w' => (w'.cell? ⟨gb101, 0, none⟩ = some (.slice A0_0 l0_0.length c0_0) ∧ w'.cell? ⟨gb101, 1, none⟩ = some (.slice A0_1 l0_1.length c0_1)) ∧ (Kd.R (Kd.int .i64) 3 w' w.heap.size (fun _ => True) s_.2.1 y106) ∧ (Kd.R k78 78 w' w.heap.size (fun _ => True) s_.2.2 y109) ∧ (w'.heap[gb101]? = some (.cells #[.slice A0_0 l0_0.length c0_0, .slice A0_1 l0_1.length c0_1] 25 (0, 0))) ∧ (w'.heap[gb102]? = some (.cells #[.slice none 0 0, .slice none 0 0] 25 (0, 0))) ∧ (Below w.heap.size w w')) ?_ ?_
      rotate_left
      · intro hCont
        refine two_ (i := 0) (j := 4) (Ni := some 3) (Nj := some 7) #[true, true, true, false, false, true, true, false, false, false] #[false, true, true, false, true, true, true, false, false, false] rfl rfl rfl rfl (two_of HT_.out (by kernel_rfl)) (by decide) (by decide) (fun K hK => ?_) (fun K hK => ?_)
        · skip
          refine Kd.R_lit_step (Kd.int .i64) _ 3 ?hg (N := 3) ?hd (xs := ([] : List Int)) (inner := []) (ok := fun _ => True) (okp := fun _ => True) ?hr ?hp (fun _ hk => hk) trivial (Below.refl _ _) (Nat.le_refl _) (by simp) ?_; (case hd => rfl); (case hg => rfl); (case hr => first | (go_simp; done) | (go_simp; rfl)); (case hp => exact (Reps.none _ _))
          intro v104 w7 ho8 hb hg_ hnew_
          clear hg_ hnew_
          (first | rw [← Ny103.out] at ho8 | (simp only [Int.reduceToNat] at ho8; rw [← Ny103.out] at ho8))
          have n0_ := Aside0.mk (Kd.R_lower ho8 (below_size (by repeat (first | (with_reducible first | exact HB.out | apply below_alloc | apply pw_below_drewN | apply below_drew1 | refine below_set ?_ GE101.out | refine below_set ?_ GE102.out) | exact HB.out))))
          have n1_ := Aside0.mk (blk_below (g := gb101) (o := .cells #[.slice A0_0 l0_0.length c0_0, .slice A0_1 l0_1.length c0_1] 25 (0, 0)) (by (with_reducible repeat (first | refine blk_drewN ?_ _ | refine blk_drew ?_ | refine blk_alloc ?_ _)); exact BK101.out) hb)
          have n2_ := Aside0.mk (blk_below (g := gb102) (o := .cells #[.slice none 0 0, .slice none 0 0] 25 (0, 0)) (by (with_reducible repeat (first | refine blk_drewN ?_ _ | refine blk_drew ?_ | refine blk_alloc ?_ _)); exact BK102.out) hb)
          have n3_ := Aside0.mk (below_step (by repeat (first | (with_reducible first | exact HB.out | apply below_alloc | apply pw_below_drewN | apply below_drew1 | refine below_set ?_ GE101.out | refine below_set ?_ GE102.out) | exact HB.out)) hb)
          clear BK101
          clear BK102
          clear HB
          have HO105 := n0_
          have BK101 := n1_
          have BK102 := n2_
          have HB := n3_
          clear n0_ n1_ n2_ n3_
          clear hb ho8
          refine hK.out _ _ ⟨(blk_cell BK101.out 0).trans rfl, (blk_cell BK101.out 1).trans rfl⟩ (fun hHeld => ?_)
          clear hK K
          refine norm_ (a' := ?_) ?_ ?_
          rotate_left
          · show Act.put _ (some 3) _ = _
            simp only [Act.put, List.setIfInBounds_toArray, List.set_cons_zero, List.set_cons_succ, i64_w, i32_w]
            rfl
          refine two_ (i := 3) (j := 4) (Ni := some 6) (Nj := some 7) #[true, true, true, true, false, true, true, false, false, false] #[true, true, true, false, true, true, true, false, false, false] rfl rfl rfl rfl (two_of HT_.out (by kernel_rfl)) (by decide) (by decide) (fun K hK => ?_) (fun K hK => ?_)
          · skip
            refine Kd.R_append_rows_step (Kd.int .i64) (w0 := w) w.heap.size (by rfl) (.tmp 3) (.tmp 5) 22 3 (.int .i64 0) 8 rfl Try.underlying22 info3 rfl (by decide) (by omega) v104 y103 l0_0 _ _ _ (fun _ => True) (fun _ => False) rfl rfl ?aO ?aR (fun _ _ h => h) (fun _ h => h.elim) ?aF ?aB ?aS ?aL ?_
            (case aR => repeat (first | exact (Kd.C_below HR0_0.out HB.out) | (with_reducible refine Kd.C_alloc ?_ _) | (with_reducible refine Kd.C_drewN ?_ _) | (with_reducible refine Kd.C_drew ?_)))
            (case aB => exact (by repeat (first | (with_reducible first | exact HB.out | apply below_alloc | apply pw_below_drewN | apply below_drew1 | refine below_set ?_ GE101.out | refine below_set ?_ GE102.out) | exact HB.out)))
            (case aF => exact (fun _ _ => trivial))
            (case aO => exact (by (with_reducible repeat (first | apply Kd.R_alloc | apply Kd.R_drewN | apply Kd.R_drew)); exact HO105.out))
            (case aS => exact (below_size (by repeat (first | (with_reducible first | exact HB.out | apply below_alloc | apply pw_below_drewN | apply below_drew1 | refine below_set ?_ GE101.out | refine below_set ?_ GE102.out) | exact HB.out))))
            (case aL => have := LMc2.out; omega)
            intro v107 w9 ho hb hg hat
            rw [← Ny106.out] at ho
            have n0_ := Aside0.mk (blk_grown (g := gb101) (o := .cells #[.slice A0_0 l0_0.length c0_0, .slice A0_1 l0_1.length c0_1] 25 (0, 0)) (by (with_reducible repeat (first | refine blk_drewN ?_ _ | refine blk_drew ?_ | refine blk_alloc ?_ _)); exact BK101.out) hg (Kd.R_ne HO105.out BK101.out (by decide)))
            have n1_ := Aside0.mk (blk_grown (g := gb102) (o := .cells #[.slice none 0 0, .slice none 0 0] 25 (0, 0)) (by (with_reducible repeat (first | refine blk_drewN ?_ _ | refine blk_drew ?_ | refine blk_alloc ?_ _)); exact BK102.out) hg (Kd.R_ne HO105.out BK102.out (by decide)))
            have n2_ := Aside0.mk (hb)
            have n3_ := Aside0.mk (ho)
            clear BK101
            clear BK102
            clear HB
            clear HO105
            have BK101 := n0_
            have BK102 := n1_
            have HB := n2_
            have HO108 := n3_
            clear n0_ n1_ n2_ n3_
            clear ho hb hg hat
            refine hK.out _ _ ⟨(blk_cell BK101.out 0).trans rfl, (blk_cell BK101.out 1).trans rfl⟩ (fun hHeld => ?_)
            clear hK K
            refine norm_ (a' := ?_) ?_ ?_
            rotate_left
            · show Act.put _ (some 6) _ = _
              simp only [Act.put, List.setIfInBounds_toArray, List.set_cons_zero, List.set_cons_succ, i64_w, i32_w]
              rfl
            refine one_ (i := 4) (N := some 7) #[true, true, true, true, true, true, true, false, false, false] rfl rfl (one_of HT_.out (by kernel_rfl)) (by decide) (fun K hK => ?_)
            refine Kd.R_lit_step k78 _ 78 ?hg (N := 7) ?hd (xs := ([] : List (S78))) (inner := []) (ok := fun _ => True) (okp := fun _ => True) ?hr ?hp (fun _ hk => hk) trivial (Below.refl _ _) (Nat.le_refl _) (by simp) ?_; (case hd => rfl); (case hg => rfl); (case hr => first | (go_simp; done) | (go_simp; rfl)); (case hp => exact (Reps.none _ _))
            intro v110 w10 ho11 hb hg_ hnew_
            clear hg_ hnew_
            (first | rw [← Ny109.out] at ho11 | (simp only [Int.reduceToNat] at ho11; rw [← Ny109.out] at ho11))
            have n0_ := Aside0.mk (Kd.R_below (by (with_reducible repeat (first | apply Kd.R_alloc | apply Kd.R_drewN | apply Kd.R_drew)); exact HO108.out) hb)
            have n1_ := Aside0.mk (Kd.R_lower ho11 (below_size (by repeat (first | (with_reducible first | exact HB.out | apply below_alloc | apply pw_below_drewN | apply below_drew1 | refine below_set ?_ GE101.out | refine below_set ?_ GE102.out) | exact HB.out))))
            have n2_ := Aside0.mk (blk_below (g := gb101) (o := .cells #[.slice A0_0 l0_0.length c0_0, .slice A0_1 l0_1.length c0_1] 25 (0, 0)) (by (with_reducible repeat (first | refine blk_drewN ?_ _ | refine blk_drew ?_ | refine blk_alloc ?_ _)); exact BK101.out) hb)
            have n3_ := Aside0.mk (blk_below (g := gb102) (o := .cells #[.slice none 0 0, .slice none 0 0] 25 (0, 0)) (by (with_reducible repeat (first | refine blk_drewN ?_ _ | refine blk_drew ?_ | refine blk_alloc ?_ _)); exact BK102.out) hb)
            have n4_ := Aside0.mk (below_step (by repeat (first | (with_reducible first | exact HB.out | apply below_alloc | apply pw_below_drewN | apply below_drew1 | refine below_set ?_ GE101.out | refine below_set ?_ GE102.out) | exact HB.out)) hb)
            clear HO108
            clear BK101
            clear BK102
            clear HB
            have HO108 := n0_
            have HO111 := n1_
            have BK101 := n2_
            have BK102 := n3_
            have HB := n4_
            clear n0_ n1_ n2_ n3_ n4_
            clear hb ho11
            refine hK.out _ _ ⟨(blk_cell BK101.out 0).trans rfl, (blk_cell BK101.out 1).trans rfl⟩ (fun hHeld => ?_)
            clear hK K
            refine norm_ (a' := ?_) ?_ ?_
            rotate_left
            · show Act.put _ (some 7) _ = _
              simp only [Act.put, List.setIfInBounds_toArray, List.set_cons_zero, List.set_cons_succ, i64_w, i32_w]
              rfl
            exact norm_ (by simp only [putAll, Act.put, List.setIfInBounds_toArray, List.set_cons_zero, List.set_cons_succ]) (hCont (v104, v107, v110) _ ⟨hHeld, (by (with_reducible repeat (first | apply Kd.R_alloc | apply Kd.R_drewN | apply Kd.R_drew)); exact HO108.out), (by (with_reducible repeat (first | apply Kd.R_alloc | apply Kd.R_drewN | apply Kd.R_drew)); exact HO111.out), (by (with_reducible repeat (first | refine blk_drewN ?_ _ | refine blk_drew ?_ | refine blk_alloc ?_ _)); exact BK101.out), (by (with_reducible repeat (first | refine blk_drewN ?_ _ | refine blk_drew ?_ | refine blk_alloc ?_ _)); exact BK102.out), (by repeat (first | (with_reducible first | exact HB.out | apply below_alloc | apply pw_below_drewN | apply below_drew1 | refine below_set ?_ GE101.out | refine below_set ?_ GE102.out) | exact HB.out))⟩)
          · skip
            refine Kd.R_lit_step k78 _ 78 ?hg (N := 7) ?hd (xs := ([] : List (S78))) (inner := []) (ok := fun _ => True) (okp := fun _ => True) ?hr ?hp (fun _ hk => hk) trivial (Below.refl _ _) (Nat.le_refl _) (by simp) ?_; (case hd => rfl); (case hg => rfl); (case hr => first | (go_simp; done) | (go_simp; rfl)); (case hp => exact (Reps.none _ _))
            intro v110 w9 ho10 hb hg_ hnew_
            clear hg_ hnew_
            (first | rw [← Ny109.out] at ho10 | (simp only [Int.reduceToNat] at ho10; rw [← Ny109.out] at ho10))
            have n0_ := Aside0.mk (Kd.R_below (by (with_reducible repeat (first | apply Kd.R_alloc | apply Kd.R_drewN | apply Kd.R_drew)); exact HO105.out) hb)
            have n1_ := Aside0.mk (Kd.R_lower ho10 (below_size (by repeat (first | (with_reducible first | exact HB.out | apply below_alloc | apply pw_below_drewN | apply below_drew1 | refine below_set ?_ GE101.out | refine below_set ?_ GE102.out) | exact HB.out))))
            have n2_ := Aside0.mk (blk_below (g := gb101) (o := .cells #[.slice A0_0 l0_0.length c0_0, .slice A0_1 l0_1.length c0_1] 25 (0, 0)) (by (with_reducible repeat (first | refine blk_drewN ?_ _ | refine blk_drew ?_ | refine blk_alloc ?_ _)); exact BK101.out) hb)
            have n3_ := Aside0.mk (blk_below (g := gb102) (o := .cells #[.slice none 0 0, .slice none 0 0] 25 (0, 0)) (by (with_reducible repeat (first | refine blk_drewN ?_ _ | refine blk_drew ?_ | refine blk_alloc ?_ _)); exact BK102.out) hb)
            have n4_ := Aside0.mk (below_step (by repeat (first | (with_reducible first | exact HB.out | apply below_alloc | apply pw_below_drewN | apply below_drew1 | refine below_set ?_ GE101.out | refine below_set ?_ GE102.out) | exact HB.out)) hb)
            clear HO105
            clear BK101
            clear BK102
            clear HB
            have HO105 := n0_
            have HO111 := n1_
            have BK101 := n2_
            have BK102 := n3_
            have HB := n4_
            clear n0_ n1_ n2_ n3_ n4_
            clear hb ho10
            refine hK.out _ _ ⟨(blk_cell BK101.out 0).trans rfl, (blk_cell BK101.out 1).trans rfl⟩ (fun hHeld => ?_)
            clear hK K
            refine norm_ (a' := ?_) ?_ ?_
            rotate_left
            · show Act.put _ (some 7) _ = _
              simp only [Act.put, List.setIfInBounds_toArray, List.set_cons_zero, List.set_cons_succ, i64_w, i32_w]
              rfl
            refine one_ (i := 3) (N := some 6) #[true, true, true, true, true, true, true, false, false, false] rfl rfl (one_of HT_.out (by kernel_rfl)) (by decide) (fun K hK => ?_)
            refine Kd.R_append_rows_step (Kd.int .i64) (w0 := w) w.heap.size (by rfl) (.tmp 3) (.tmp 5) 22 3 (.int .i64 0) 8 rfl Try.underlying22 info3 rfl (by decide) (by omega) v104 y103 l0_0 _ _ _ (fun _ => True) (fun _ => False) rfl rfl ?aO ?aR (fun _ _ h => h) (fun _ h => h.elim) ?aF ?aB ?aS ?aL ?_
            (case aR => repeat (first | exact (Kd.C_below HR0_0.out HB.out) | (with_reducible refine Kd.C_alloc ?_ _) | (with_reducible refine Kd.C_drewN ?_ _) | (with_reducible refine Kd.C_drew ?_)))
            (case aB => exact (by repeat (first | (with_reducible first | exact HB.out | apply below_alloc | apply pw_below_drewN | apply below_drew1 | refine below_set ?_ GE101.out | refine below_set ?_ GE102.out) | exact HB.out)))
            (case aF => exact (fun _ _ => trivial))
            (case aO => exact (by (with_reducible repeat (first | apply Kd.R_alloc | apply Kd.R_drewN | apply Kd.R_drew)); exact HO105.out))
            (case aS => exact (below_size (by repeat (first | (with_reducible first | exact HB.out | apply below_alloc | apply pw_below_drewN | apply below_drew1 | refine below_set ?_ GE101.out | refine below_set ?_ GE102.out) | exact HB.out))))
            (case aL => have := LMc2.out; omega)
            intro v107 w11 ho hb hg hat
            rw [← Ny106.out] at ho
            have n0_ := Aside0.mk (blk_grown (g := gb101) (o := .cells #[.slice A0_0 l0_0.length c0_0, .slice A0_1 l0_1.length c0_1] 25 (0, 0)) (by (with_reducible repeat (first | refine blk_drewN ?_ _ | refine blk_drew ?_ | refine blk_alloc ?_ _)); exact BK101.out) hg (Kd.R_ne HO105.out BK101.out (by decide)))
            have n1_ := Aside0.mk (blk_grown (g := gb102) (o := .cells #[.slice none 0 0, .slice none 0 0] 25 (0, 0)) (by (with_reducible repeat (first | refine blk_drewN ?_ _ | refine blk_drew ?_ | refine blk_alloc ?_ _)); exact BK102.out) hg (Kd.R_ne HO105.out BK102.out (by decide)))
            have n2_ := Aside0.mk (Kd.R_over' (by (with_reducible repeat (first | apply Kd.R_alloc | apply Kd.R_drewN | apply Kd.R_drew)); exact HO111.out) (Kd.R_typed (by (with_reducible repeat (first | apply Kd.R_alloc | apply Kd.R_drewN | apply Kd.R_drew)); exact HO105.out)) (by decide) hg)
            have n3_ := Aside0.mk (hb)
            have n4_ := Aside0.mk (ho)
            clear BK101
            clear BK102
            clear HO111
            clear HB
            clear HO105
            have BK101 := n0_
            have BK102 := n1_
            have HO111 := n2_
            have HB := n3_
            have HO108 := n4_
            clear n0_ n1_ n2_ n3_ n4_
            clear ho hb hg hat
            refine hK.out _ _ ⟨(blk_cell BK101.out 0).trans rfl, (blk_cell BK101.out 1).trans rfl⟩ (fun hHeld => ?_)
            clear hK K
            refine norm_ (a' := ?_) ?_ ?_
            rotate_left
            · show Act.put _ (some 6) _ = _
              simp only [Act.put, List.setIfInBounds_toArray, List.set_cons_zero, List.set_cons_succ, i64_w, i32_w]
              rfl
            exact norm_ (by simp only [putAll, Act.put, List.setIfInBounds_toArray, List.set_cons_zero, List.set_cons_succ]) (hCont (v104, v107, v110) _ ⟨hHeld, (by (with_reducible repeat (first | apply Kd.R_alloc | apply Kd.R_drewN | apply Kd.R_drew)); exact HO108.out), (by (with_reducible repeat (first | apply Kd.R_alloc | apply Kd.R_drewN | apply Kd.R_drew)); exact HO111.out), (by (with_reducible repeat (first | refine blk_drewN ?_ _ | refine blk_drew ?_ | refine blk_alloc ?_ _)); exact BK101.out), (by (with_reducible repeat (first | refine blk_drewN ?_ _ | refine blk_drew ?_ | refine blk_alloc ?_ _)); exact BK102.out), (by repeat (first | (with_reducible first | exact HB.out | apply below_alloc | apply pw_below_drewN | apply below_drew1 | refine below_set ?_ GE101.out | refine below_set ?_ GE102.out) | exact HB.out))⟩)
        · skip
          refine Kd.R_lit_step k78 _ 78 ?hg (N := 7) ?hd (xs := ([] : List (S78))) (inner := []) (ok := fun _ => True) (okp := fun _ => True) ?hr ?hp (fun _ hk => hk) trivial (Below.refl _ _) (Nat.le_refl _) (by simp) ?_; (case hd => rfl); (case hg => rfl); (case hr => first | (go_simp; done) | (go_simp; rfl)); (case hp => exact (Reps.none _ _))
          intro v110 w7 ho8 hb hg_ hnew_
          clear hg_ hnew_
          (first | rw [← Ny109.out] at ho8 | (simp only [Int.reduceToNat] at ho8; rw [← Ny109.out] at ho8))
          have n0_ := Aside0.mk (Kd.R_lower ho8 (below_size (by repeat (first | (with_reducible first | exact HB.out | apply below_alloc | apply pw_below_drewN | apply below_drew1 | refine below_set ?_ GE101.out | refine below_set ?_ GE102.out) | exact HB.out))))
          have n1_ := Aside0.mk (blk_below (g := gb101) (o := .cells #[.slice A0_0 l0_0.length c0_0, .slice A0_1 l0_1.length c0_1] 25 (0, 0)) (by (with_reducible repeat (first | refine blk_drewN ?_ _ | refine blk_drew ?_ | refine blk_alloc ?_ _)); exact BK101.out) hb)
          have n2_ := Aside0.mk (blk_below (g := gb102) (o := .cells #[.slice none 0 0, .slice none 0 0] 25 (0, 0)) (by (with_reducible repeat (first | refine blk_drewN ?_ _ | refine blk_drew ?_ | refine blk_alloc ?_ _)); exact BK102.out) hb)
          have n3_ := Aside0.mk (below_step (by repeat (first | (with_reducible first | exact HB.out | apply below_alloc | apply pw_below_drewN | apply below_drew1 | refine below_set ?_ GE101.out | refine below_set ?_ GE102.out) | exact HB.out)) hb)
          clear BK101
          clear BK102
          clear HB
          have HO111 := n0_
          have BK101 := n1_
          have BK102 := n2_
          have HB := n3_
          clear n0_ n1_ n2_ n3_
          clear hb ho8
          refine hK.out _ _ ⟨(blk_cell BK101.out 0).trans rfl, (blk_cell BK101.out 1).trans rfl⟩ (fun hHeld => ?_)
          clear hK K
          refine norm_ (a' := ?_) ?_ ?_
          rotate_left
          · show Act.put _ (some 7) _ = _
            simp only [Act.put, List.setIfInBounds_toArray, List.set_cons_zero, List.set_cons_succ, i64_w, i32_w]
            rfl
          refine one_ (i := 0) (N := some 3) #[true, true, true, false, true, true, true, false, false, false] rfl rfl (one_of HT_.out (by kernel_rfl)) (by decide) (fun K hK => ?_)
          refine Kd.R_lit_step (Kd.int .i64) _ 3 ?hg (N := 3) ?hd (xs := ([] : List Int)) (inner := []) (ok := fun _ => True) (okp := fun _ => True) ?hr ?hp (fun _ hk => hk) trivial (Below.refl _ _) (Nat.le_refl _) (by simp) ?_; (case hd => rfl); (case hg => rfl); (case hr => first | (go_simp; done) | (go_simp; rfl)); (case hp => exact (Reps.none _ _))
          intro v104 w9 ho10 hb hg_ hnew_
          clear hg_ hnew_
          (first | rw [← Ny103.out] at ho10 | (simp only [Int.reduceToNat] at ho10; rw [← Ny103.out] at ho10))
          have n0_ := Aside0.mk (Kd.R_below (by (with_reducible repeat (first | apply Kd.R_alloc | apply Kd.R_drewN | apply Kd.R_drew)); exact HO111.out) hb)
          have n1_ := Aside0.mk (Kd.R_lower ho10 (below_size (by repeat (first | (with_reducible first | exact HB.out | apply below_alloc | apply pw_below_drewN | apply below_drew1 | refine below_set ?_ GE101.out | refine below_set ?_ GE102.out) | exact HB.out))))
          have n2_ := Aside0.mk (blk_below (g := gb101) (o := .cells #[.slice A0_0 l0_0.length c0_0, .slice A0_1 l0_1.length c0_1] 25 (0, 0)) (by (with_reducible repeat (first | refine blk_drewN ?_ _ | refine blk_drew ?_ | refine blk_alloc ?_ _)); exact BK101.out) hb)
          have n3_ := Aside0.mk (blk_below (g := gb102) (o := .cells #[.slice none 0 0, .slice none 0 0] 25 (0, 0)) (by (with_reducible repeat (first | refine blk_drewN ?_ _ | refine blk_drew ?_ | refine blk_alloc ?_ _)); exact BK102.out) hb)
          have n4_ := Aside0.mk (below_step (by repeat (first | (with_reducible first | exact HB.out | apply below_alloc | apply pw_below_drewN | apply below_drew1 | refine below_set ?_ GE101.out | refine below_set ?_ GE102.out) | exact HB.out)) hb)
          clear HO111
          clear BK101
          clear BK102
          clear HB
          have HO111 := n0_
          have HO105 := n1_
          have BK101 := n2_
          have BK102 := n3_
          have HB := n4_
          clear n0_ n1_ n2_ n3_ n4_
          clear hb ho10
          refine hK.out _ _ ⟨(blk_cell BK101.out 0).trans rfl, (blk_cell BK101.out 1).trans rfl⟩ (fun hHeld => ?_)
          clear hK K
          refine norm_ (a' := ?_) ?_ ?_
          rotate_left
          · show Act.put _ (some 3) _ = _
            simp only [Act.put, List.setIfInBounds_toArray, List.set_cons_zero, List.set_cons_succ, i64_w, i32_w]
            rfl
          refine one_ (i := 3) (N := some 6) #[true, true, true, true, true, true, true, false, false, false] rfl rfl (one_of HT_.out (by kernel_rfl)) (by decide) (fun K hK => ?_)
          refine Kd.R_append_rows_step (Kd.int .i64) (w0 := w) w.heap.size (by rfl) (.tmp 3) (.tmp 5) 22 3 (.int .i64 0) 8 rfl Try.underlying22 info3 rfl (by decide) (by omega) v104 y103 l0_0 _ _ _ (fun _ => True) (fun _ => False) rfl rfl ?aO ?aR (fun _ _ h => h) (fun _ h => h.elim) ?aF ?aB ?aS ?aL ?_
          (case aR => repeat (first | exact (Kd.C_below HR0_0.out HB.out) | (with_reducible refine Kd.C_alloc ?_ _) | (with_reducible refine Kd.C_drewN ?_ _) | (with_reducible refine Kd.C_drew ?_)))
          (case aB => exact (by repeat (first | (with_reducible first | exact HB.out | apply below_alloc | apply pw_below_drewN | apply below_drew1 | refine below_set ?_ GE101.out | refine below_set ?_ GE102.out) | exact HB.out)))
          (case aF => exact (fun _ _ => trivial))
          (case aO => exact (by (with_reducible repeat (first | apply Kd.R_alloc | apply Kd.R_drewN | apply Kd.R_drew)); exact HO105.out))
          (case aS => exact (below_size (by repeat (first | (with_reducible first | exact HB.out | apply below_alloc | apply pw_below_drewN | apply below_drew1 | refine below_set ?_ GE101.out | refine below_set ?_ GE102.out) | exact HB.out))))
          (case aL => have := LMc2.out; omega)
          intro v107 w11 ho hb hg hat
          rw [← Ny106.out] at ho
          have n0_ := Aside0.mk (blk_grown (g := gb101) (o := .cells #[.slice A0_0 l0_0.length c0_0, .slice A0_1 l0_1.length c0_1] 25 (0, 0)) (by (with_reducible repeat (first | refine blk_drewN ?_ _ | refine blk_drew ?_ | refine blk_alloc ?_ _)); exact BK101.out) hg (Kd.R_ne HO105.out BK101.out (by decide)))
          have n1_ := Aside0.mk (blk_grown (g := gb102) (o := .cells #[.slice none 0 0, .slice none 0 0] 25 (0, 0)) (by (with_reducible repeat (first | refine blk_drewN ?_ _ | refine blk_drew ?_ | refine blk_alloc ?_ _)); exact BK102.out) hg (Kd.R_ne HO105.out BK102.out (by decide)))
          have n2_ := Aside0.mk (Kd.R_over' (by (with_reducible repeat (first | apply Kd.R_alloc | apply Kd.R_drewN | apply Kd.R_drew)); exact HO111.out) (Kd.R_typed (by (with_reducible repeat (first | apply Kd.R_alloc | apply Kd.R_drewN | apply Kd.R_drew)); exact HO105.out)) (by decide) hg)
          have n3_ := Aside0.mk (hb)
          have n4_ := Aside0.mk (ho)
          clear BK101
          clear BK102
          clear HO111
          clear HB
          clear HO105
          have BK101 := n0_
          have BK102 := n1_
          have HO111 := n2_
          have HB := n3_
          have HO108 := n4_
          clear n0_ n1_ n2_ n3_ n4_
          clear ho hb hg hat
          refine hK.out _ _ ⟨(blk_cell BK101.out 0).trans rfl, (blk_cell BK101.out 1).trans rfl⟩ (fun hHeld => ?_)
          clear hK K
          refine norm_ (a' := ?_) ?_ ?_
          rotate_left
          · show Act.put _ (some 6) _ = _
            simp only [Act.put, List.setIfInBounds_toArray, List.set_cons_zero, List.set_cons_succ, i64_w, i32_w]
            rfl
          exact norm_ (by simp only [putAll, Act.put, List.setIfInBounds_toArray, List.set_cons_zero, List.set_cons_succ]) (hCont (v104, v107, v110) _ ⟨hHeld, (by (with_reducible repeat (first | apply Kd.R_alloc | apply Kd.R_drewN | apply Kd.R_drew)); exact HO108.out), (by (with_reducible repeat (first | apply Kd.R_alloc | apply Kd.R_drewN | apply Kd.R_drew)); exact HO111.out), (by (with_reducible repeat (first | refine blk_drewN ?_ _ | refine blk_drew ?_ | refine blk_alloc ?_ _)); exact BK101.out), (by (with_reducible repeat (first | refine blk_drewN ?_ _ | refine blk_drew ?_ | refine blk_alloc ?_ _)); exact BK102.out), (by repeat (first | (with_reducible first | exact HB.out | apply below_alloc | apply pw_below_drewN | apply below_drew1 | refine below_set ?_ GE101.out | refine below_set ?_ GE102.out) | exact HB.out))⟩)
      rintro ⟨v104, v107, v110⟩ w12 ⟨hS_, h0_, h1_, h2_, h3_, h4_⟩
      have n0_ : Aside0 (Kd.R (Kd.int .i64) 3 w12 w.heap.size (fun _ => True) v107 y106) := ⟨h0_⟩
      have n1_ : Aside0 (Kd.R k78 78 w12 w.heap.size (fun _ => True) v110 y109) := ⟨h1_⟩
      have n2_ : Aside0 (w12.heap[gb101]? = some (.cells #[.slice A0_0 l0_0.length c0_0, .slice A0_1 l0_1.length c0_1] 25 (0, 0))) := ⟨h2_⟩
      have n3_ : Aside0 (w12.heap[gb102]? = some (.cells #[.slice none 0 0, .slice none 0 0] 25 (0, 0))) := ⟨h3_⟩
      have n4_ : Aside0 (Below w.heap.size w w12) := ⟨h4_⟩
      clear BK101
      clear BK102
      clear HB
      clear h0_ h1_ h2_ h3_ h4_
      have HO108 := n0_
      have HO111 := n1_
      have BK101 := n2_
      have BK102 := n3_
      have HB := n4_
      clear n0_ n1_ n2_ n3_ n4_
      have hHeld : w12.cell? ⟨gb101, 0, none⟩ = some (.slice A0_0 l0_0.length c0_0) ∧ w12.cell? ⟨gb101, 1, none⟩ = some (.slice A0_1 l0_1.length c0_1) := hS_
      refine norm_ (a' := ?_) ?_ ?_
      rotate_left
      · simp only [putAll, Act.put, List.setIfInBounds_toArray, List.set_cons_zero, List.set_cons_succ]
        rfl
      refine one_ (i := 7) (N := some 10) #[true, true, true, true, true, true, true, true, false, false] rfl rfl (one_of HT_.out (by kernel_rfl)) (by decide) (fun K hK => ?_)
      refine Kd.R_append_rows_step k78 (w0 := w) w.heap.size (by rfl) (.tmp 7) (.tmp 9) 23 78 (.agg #[(.int .i64 0), (.int .i64 0), (.int .i64 0)]) 24 rfl Try.underlying23 info78 rfl (by decide) (by omega) v110 y109 l0_1 _ _ _ (fun _ => True) (fun _ => False) rfl rfl ?aO ?aR (fun _ _ h => h) (fun _ h => h.elim) ?aF ?aB ?aS ?aL ?_
      (case aR => repeat (first | exact (Kd.C_below HR0_1.out HB.out) | (with_reducible refine Kd.C_alloc ?_ _) | (with_reducible refine Kd.C_drewN ?_ _) | (with_reducible refine Kd.C_drew ?_)))
      (case aB => exact (by repeat (first | (with_reducible first | exact HB.out | apply below_alloc | apply pw_below_drewN | apply below_drew1 | refine below_set ?_ GE101.out | refine below_set ?_ GE102.out) | exact HB.out)))
      (case aF => exact (fun _ _ => trivial))
      (case aO => exact (by (with_reducible repeat (first | apply Kd.R_alloc | apply Kd.R_drewN | apply Kd.R_drew)); exact HO111.out))
      (case aS => exact (below_size (by repeat (first | (with_reducible first | exact HB.out | apply below_alloc | apply pw_below_drewN | apply below_drew1 | refine below_set ?_ GE101.out | refine below_set ?_ GE102.out) | exact HB.out))))
      (case aL => have := LMc3.out; omega)
      intro v113 w13 ho hb hg hat
      rw [← Ny112.out] at ho
      have n0_ := Aside0.mk (blk_grown (g := gb101) (o := .cells #[.slice A0_0 l0_0.length c0_0, .slice A0_1 l0_1.length c0_1] 25 (0, 0)) (by (with_reducible repeat (first | refine blk_drewN ?_ _ | refine blk_drew ?_ | refine blk_alloc ?_ _)); exact BK101.out) hg (Kd.R_ne HO111.out BK101.out (by decide)))
      have n1_ := Aside0.mk (blk_grown (g := gb102) (o := .cells #[.slice none 0 0, .slice none 0 0] 25 (0, 0)) (by (with_reducible repeat (first | refine blk_drewN ?_ _ | refine blk_drew ?_ | refine blk_alloc ?_ _)); exact BK102.out) hg (Kd.R_ne HO111.out BK102.out (by decide)))
      have n2_ := Aside0.mk (Kd.R_over' (by (with_reducible repeat (first | apply Kd.R_alloc | apply Kd.R_drewN | apply Kd.R_drew)); exact HO108.out) (Kd.R_typed (by (with_reducible repeat (first | apply Kd.R_alloc | apply Kd.R_drewN | apply Kd.R_drew)); exact HO111.out)) (by decide) hg)
      have n3_ := Aside0.mk (hb)
      have n4_ := Aside0.mk (ho)
      clear BK101
      clear BK102
      clear HO108
      clear HB
      clear HO111
      have BK101 := n0_
      have BK102 := n1_
      have HO108 := n2_
      have HB := n3_
      have HO114 := n4_
      clear n0_ n1_ n2_ n3_ n4_
      clear ho hb hg hat
      obtain ⟨Ao14, co14, eo14⟩ := Kd.R_slice HO114.out
      (first | subst eo14 | (injection eo14 with f1_ f2_ f3_; have f4_ := f1_.symm; have f5_ := f3_.symm; clear f1_ f2_ f3_; subst f4_; subst f5_))
      obtain ⟨Ao15, co15, eo15⟩ := Kd.R_slice HO108.out
      (first | subst eo15 | (injection eo15 with f1_ f2_ f3_; have f4_ := f1_.symm; have f5_ := f3_.symm; clear f1_ f2_ f3_; subst f4_; subst f5_))
      refine hK.out _ _ ⟨(blk_cell BK101.out 0).trans rfl, (blk_cell BK101.out 1).trans rfl⟩ (fun hHeld => ?_)
      clear hK K
      refine norm_ (a' := ?_) ?_ ?_
      rotate_left
      · show Act.put _ (some 10) _ = _
        simp only [Act.put, List.setIfInBounds_toArray, List.set_cons_zero, List.set_cons_succ, i64_w, i32_w]
        rfl
      refine pure_ (i := 8) (N := some 11) (v := ?_) (a' := ?_) #[true, true, true, true, true, true, true, true, true, false] rfl rfl (any_of HT_.out (by kernel_rfl)) (fun _ _ _ h => h) (Or.inl ⟨by rfl, ?_⟩) ?_ ?_
      rotate_left
      · intro w'
        go_simp
        with_reducible rfl
      rotate_left
      · simp only [Act.put, List.setIfInBounds_toArray, List.set_cons_zero, List.set_cons_succ, i64_w, i32_w]
        rfl
      refine one_ (i := 9) (N := none) #[true, true, true, true, true, true, true, true, true, true] rfl rfl (one_of HT_.out (by kernel_rfl)) (by decide) (fun K hK => ?_)
      have hs16 : w13.cell? ⟨gb102, 0, none⟩ = some (.slice none 0 0) := (blk_cell BK102.out 0).trans rfl
      have hfs16 := blk_frozen BK102.out 0
      have hns16_0 := NB101_102.out
      have hms16_0 := NB102_101.out
      have hs17 : w13.cell? ⟨gb102, 1, none⟩ = some (.slice none 0 0) := (blk_cell BK102.out 1).trans rfl
      have hfs17 := blk_frozen BK102.out 1
      have hns17_0 := NB101_102.out
      have hms17_0 := NB102_101.out
      refine skip_ (w1 := ?_) (by rfl) rfl ?_ ?_
      rotate_left
      · go_simp
        rfl
      refine hK.out _ _ ⟨((cell_far (p := ⟨gb102, _, none⟩) NB101_102.out _).trans (((cell_far (p := ⟨gb102, _, none⟩) NB101_102.out _).trans (hHeld.1)))), ((cell_far (p := ⟨gb102, _, none⟩) NB101_102.out _).trans (((cell_far (p := ⟨gb102, _, none⟩) NB101_102.out _).trans (hHeld.2))))⟩ (fun hHeld => ?_)
      clear hK K
      refine done_ (done_of HT_.out (by kernel_rfl)) ?_
      try go_wp2
      refine bodyPost_ret (results_cell_row rfl _ _ gb102 25 #[.slice Ao15 y106.length co15, .slice Ao14 y112.length co14] (0, 0) _ rfl (by (with_reducible repeat (first | refine blk_drewN ?_ _ | refine blk_drew ?_ | refine blk_alloc ?_ _)); refine blk_put (cs := #[.slice Ao15 y106.length co15, .slice none 0 0]) ?_ 1 _ rfl; (with_reducible repeat (first | refine blk_drewN ?_ _ | refine blk_drew ?_ | refine blk_alloc ?_ _)); refine blk_put (cs := #[.slice none 0 0, .slice none 0 0]) ?_ 0 _ rfl; (with_reducible repeat (first | refine blk_drewN ?_ _ | refine blk_drew ?_ | refine blk_alloc ?_ _)); exact BK102.out) Try.underlying25 rfl (by kernel_rfl)) rfl ?_
      exact ⟨_, _, by first | rfl | (simp [errW_none, errW_some] <;> rfl) | (simp [*, errW_none, errW_some] <;> rfl), by (with_reducible repeat (first | apply Kd.R_alloc | apply Kd.R_drewN | apply Kd.R_drew)); exact Kd.R_mono (Kd.R_far (p := ⟨gb102, 1, none⟩) (Kd.R_far (p := ⟨gb102, 0, none⟩) (Kd.R_types HO108.out BK102.out (by decide)) (fun _ hk => hk.2) (.slice Ao15 y106.length co15)) (fun _ hk => hk.2) (.slice Ao14 y112.length co14)) (fun _ hk => trivial), by (with_reducible repeat (first | apply Kd.R_alloc | apply Kd.R_drewN | apply Kd.R_drew)); exact Kd.R_mono (Kd.R_far (p := ⟨gb102, 1, none⟩) (Kd.R_far (p := ⟨gb102, 0, none⟩) (Kd.R_types HO114.out BK102.out (by decide)) (fun _ hk => hk.2) (.slice Ao15 y106.length co15)) (fun _ hk => hk.2) (.slice Ao14 y112.length co14)) (fun _ hk => trivial), by repeat (first | (with_reducible first | exact HB.out | apply below_alloc | apply pw_below_drewN | apply below_drew1 | refine below_set ?_ GE101.out | refine below_set ?_ GE102.out) | exact HB.out)⟩
    · rw [if_neg c3] at H
      exact absurd H (by simp)
  · rw [if_neg c2] at H
    exact absurd H (by simp)
end Go.Proofs.Ytonipihlpbaknaa.Print
namespace Go.Proofs.Ytonipihlpbaknaa.Print
open Go.RowKit Go.Proofs.YtonipihlpbaknaaW.PrintWords Go.Proofs.YtonipihlpbaknaaW.PrintLast Go.Proofs.YtonipihlpbaknaaW.PrintMore
theorem smallG_len {l0 : List Int} {l1 : List S78} (h : smallG l0 l1 = true) : l0.length ≤ 45 ∧ l1.length ≤ 90 := by
  simp [smallG] at h
  omega
theorem copied_ok (l0 : List Int) (l1 : List S78) (h0 : l0.length ≤ 1000) (h1 : l1.length ≤ 1000) : scarfjointref05_Copied.f l0 l1 = some (l0, l1) := by
  unfold scarfjointref05_Copied.f
  rw [Option.bind_some, if_pos (by simp; omega), Option.bind_some, if_pos (by simp; omega)]
  rfl
theorem small_nil (l0 : List Int) (l1 : List S78) : scarfjointlaw07_small.f l0 l1 [] = some (smallG l0 l1) := by simp [scarfjointlaw07_small.f]
end Go.Proofs.Ytonipihlpbaknaa.Print
namespace Go.Proofs.Ytonipihlpbaknaa.Print
open Go.RowKit Go.Proofs.YtonipihlpbaknaaW.PrintWords Go.Proofs.YtonipihlpbaknaaW.PrintLast Go.Proofs.YtonipihlpbaknaaW.PrintMore
def scarfjointlaw07_awake.f : Option Bool := some true
theorem scarfjointlaw07_awake.calls (r : Bool) (w : World) (h : scarfjointlaw07_awake.f = some r) : Calls Try.prog 11 #[] w fun e w' => e = .returned (.bool r) ∧ Below w.heap.size w w' := by
  obtain rfl : true = r := by simpa [scarfjointlaw07_awake.f] using h
  exact scarfjointlaw07_awake.calls0 w
end Go.Proofs.Ytonipihlpbaknaa.Print

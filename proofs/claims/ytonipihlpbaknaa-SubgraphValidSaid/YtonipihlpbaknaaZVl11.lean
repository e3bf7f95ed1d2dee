/- A part of the proof that the law returns true at every input; what the walked functions compute. -/
import Derived.Test.YtonipihlpbaknaaRows
import Derived.WalkKit
import Derived.ProofKit
import Derived.OpenShut
import Derived.ShutString
import Derived.ChangeOld
import Derived.Below
import Derived.SizedLaws
import Derived.Carry
import Derived.Test.YtonipihlpbaknaaZVl0
import Derived.Test.YtonipihlpbaknaaZVl1
import Derived.Test.YtonipihlpbaknaaZVl2
import Derived.Test.YtonipihlpbaknaaZVl3
import Derived.Test.YtonipihlpbaknaaZVl4
import Derived.Test.YtonipihlpbaknaaZVl5
import Derived.Test.YtonipihlpbaknaaZVl6
import Derived.Test.YtonipihlpbaknaaZVl7
import Derived.Test.YtonipihlpbaknaaZVl8
import Derived.Test.YtonipihlpbaknaaZVl9
import Derived.Test.YtonipihlpbaknaaZVl10
namespace Go.Proofs.Ytonipihlpbaknaa.Print
set_option linter.unusedVariables false
set_option linter.unusedSimpArgs false
open Go.RowKit Go.Proofs.YtonipihlpbaknaaW.PrintWords Go.Proofs.YtonipihlpbaknaaW.PrintLast Go.Proofs.YtonipihlpbaknaaW.PrintMore
theorem extR_len (l0 : List Int) (l1 : List S78) (ns es : List Int) : (extR l0 l1 ns es).1.length ≤ ns.length ∧ (extR l0 l1 ns es).2.1.length ≤ es.length ∧ (extR l0 l1 ns es).2.2.1.length ≤ ns.length ∧ (extR l0 l1 ns es).2.2.2.1.length ≤ es.length := by
  unfold extR
  split <;> simp
theorem bdryL_len (l1 : List S78) (ns es : List Int) : (bdryL l1 ns es).length ≤ 2 * l1.length := by
  unfold bdryL; exact Nat.le_trans (List.length_filter_le _ _) (Nat.le_trans (compact_le _) (outUpto_len _ _ _))
theorem small_one (l0 : List Int) (l1 : List S78) (l2 l3 : List Int) : scarfjointlaw07_small.f l0 l1 [⟨l2, l3⟩] = some (smallG l0 l1 && fewB ⟨l2, l3⟩) := by simp [scarfjointlaw07_small.f]
theorem scarfjointlaw07_SubgraphValid.whole (A0 : Option Addr) (c0 : Nat) (l0 : List Int) (A1 : Option Addr) (c1 : Nat) (l1 : List S78) (A2 : Option Addr) (c2 : Nat) (l2 : List Int) (A3 : Option Addr) (c3 : Nat) (l3 : List Int) (w : World)
  (r0 : Kd.C (Kd.int .i64) w A0 l0.length l0) (m0 : l0.length ≤ c0) (r1 : Kd.C k78 w A1 l1.length l1) (m1 : l1.length ≤ c1) (r2 : Kd.C (Kd.int .i64) w A2 l2.length l2) (m2 : l2.length ≤ c2) (r3 : Kd.C (Kd.int .i64) w A3 l3.length l3) (m3 : l3.length ≤ c3) (z2 : l2.length ≤ 17592186044416) (z3 : l3.length ≤ 17592186044416) :
  Calls Try.prog 6 #[.agg #[.slice A0 l0.length c0, .slice A1 l1.length c1], .agg #[.slice A2 l2.length c2, .slice A3 l3.length c3]] w fun e w' => e = .returned (.bool true) ∧ Below w.heap.size w w' := by
 have hs := small_one l0 l1 l2 l3
 by_cases h : (smallG l0 l1 && fewB ⟨l2, l3⟩) = true
 ·rw [h] at hs
  rw [Bool.and_eq_true] at h; obtain ⟨q0, q1⟩ := smallG_len h.1
  have q2 : l2.length ≤ 1000 ∧ l3.length ≤ 1000 := by
   have := of_decide_eq_true h.2
   dsimp only at this
   unfold wrap64 at this
   omega
  have e1 := ext_ok l0 l1 l2 l3 q2.1 q2.2 20000 (by omega); have e2 := rext_ok l0 l1 l2 l3 (by omega) (by omega) q2.1 q2.2 20000 (by omega); have e3 := bdry_ok l0 l1 l2 l3 (by omega) (by omega) 20000 (by omega); have e4 := rbdry_ok l0 l1 l2 l3 (by omega) (by omega) q2.1 q2.2 20000 (by omega); have e5 := vald_ok l0 l1 l2 l3 (by omega) (by omega) 20000 (by omega); have e6 := rvald_ok l0 l1 l2 l3 (by omega) (by omega) (by omega) (by omega) 20000 (by omega) (by omega); have hl := extR_len l0 l1 l2 l3; generalize extR l0 l1 l2 l3 = X at e1 e2 hl; obtain ⟨a0, a1, n0, n1, er⟩ := X; obtain ⟨b1, b2, b3, b4⟩ := hl
  dsimp only at b1 b2 b3 b4
  have hb := bdryL_len l1 l2 l3
  have own : scarfjointlaw07_own.f l2 l3 = some (l2, l3) := by
   unfold scarfjointlaw07_own.f; rw [clone_ok _ q2.1, Option.bind_some, clone_ok _ q2.2, Option.bind_some]
  have cp := copied_ok l0 l1 (by omega) (by omega); have s7 := same05_ok a0 a1 (by omega) (by omega) 20000 (by omega); have s8 := same06_ok n0 n1 (by omega) (by omega) 20000 (by omega)
  by_cases hv : valE l0 l1 l2 l3 = 0
  ·rw [if_pos hv] at e3 e4
   exact scarfjointlaw07_SubgraphValid.ok 20000 A0 c0 l0 A1 c1 l1 A2 c2 l2 A3 c3 l3 a0 a1 n0 n1 _ er _ _ w r0 m0 r1 m1 r2 m2 r3 m3 hs cp own e1 e2 e3 e4 e5 e6 s7 s8 (equal_ok _ (by omega) 20000 (by omega))
  ·rw [if_neg hv] at e3 e4
   exact scarfjointlaw07_SubgraphValid.ok 20000 A0 c0 l0 A1 c1 l1 A2 c2 l2 A3 c3 l3 a0 a1 n0 n1 _ er _ _ w r0 m0 r1 m1 r2 m2 r3 m3 hs cp own e1 e2 e3 e4 e5 e6 s7 s8 (equal_ok _ (by simp) 20000 (by simp))
 ·simp only [Bool.not_eq_true] at h
  rw [h] at hs; exact scarfjointlaw07_SubgraphValid.big A0 c0 l0 A1 c1 l1 A2 c2 l2 A3 c3 l3 w r0 m0 r1 m1 r2 m2 r3 m3 hs
end Go.Proofs.Ytonipihlpbaknaa.Print
namespace Go.Proofs.Ytonipihlpbaknaa.subgraphValid
open Go.ChangeShapes Go.WideShapes Go.ChangeAt Go.RowKit Go.Proofs.Ytonipihlpbaknaa.Print
set_option linter.unusedVariables false
theorem own : ownKnob Try.prog.godebug = none := by kernel_rfl
theorem laidOut : laidOutB Try.prog = true := by kernel_rfl
set_option maxRecDepth 100000 in
theorem lifted (os : Os) (started : os.Started) (H : Type) (enc : TypeId × Value → H) :
  ReturnsInHanded {} Try.checked os 6 .any (Rows.subgraphValidSpec.pre6 enc Try.prog Try.f6 Rows.subgraphValidRow.domain false) (Rows.subgraphValidSpec.post enc Try.prog Try.f6 false true false false) := by
 refine returnsInHanded_of_change_sized (C := Try.checked) own started (by kernel_rfl) Try.func6
  (ChangeSpec.witness6 (enc := enc) (C := Try.checked) false ⟨#[], #[.agg #[.slice none 0 0, .slice none 0 0], .agg #[.slice none 0 0, .slice none 0 0]], []⟩ 8 (by kernel_rfl) (by kernel_rfl) (by kernel_rfl) (by kernel_rfl)) ?_
 intro W base args ds gs before hval0 hW hcnd hsz0 _
 have hval : ∀ (j : Nat) t v, Try.f6.params[j]? = some t → args[j]? = some v → Value.okWide Try.prog W .any base t v := hval0
 have hW' := hW; obtain ⟨p, q, hA0, hV, rfl, hfz, hnd⟩ := hW; have hA : DataW.TrodAll enc Try.prog W 0 (fun _ => true) true Try.f6.params.toList args.toList ds p := hA0; rw [Try.params6] at hA hval; obtain ⟨v0, vs0, d0, ds0, p0, q0, hargs, rfl, rfl, h0, r0⟩ := trodAll_cons hA; obtain ⟨v1, vs1, d1, ds1, p1, q1, rfl, rfl, rfl, h1, r1⟩ := trodAll_cons r0; obtain ⟨rfl, rfl, rfl⟩ := trodAll_nil r1
 obtain rfl : args = #[v0, v1] := by cases args; simp_all
 obtain ⟨rfl, rfl⟩ := trodVars_none hV; have k0 := h0
 have lt0 : ∀ x ∈ p0, x.block < W.heap.size := by obtain ⟨m, hm⟩ := k0; exact DataW.trod_lt m _ _ _ hm
 obtain ⟨A0a, c0a, l0a, A0b, c0b, l0b, rfl, ra0, ma0, rb0, mb0⟩ := open_graph (hval 0 25 v0 rfl rfl) h0; have k1 := h1
 have lt1 : ∀ x ∈ p1, x.block < W.heap.size := by obtain ⟨m, hm⟩ := k1; exact DataW.trod_lt m _ _ _ hm
 have hz1 : ∀ n ∈ d1.weights Try.prog 27, n ≤ reachBytes := fun n hn => of_decide_eq_true (List.all_eq_true.1 hsz0 n (DataW.weights_mem_each (j := 1) (t := 27) (d := d1) (by rw [Try.params6]; rfl) rfl n hn))
 obtain ⟨A1a, c1a, l1a, A1b, c1b, l1b, rfl, ra1, ma1, rb1, mb1, za1, zb1⟩ := open_partS (hval 1 27 v1 rfl rfl) h1 hz1; clear hA0 hval0 hsz0
 refine (scarfjointlaw07_SubgraphValid.whole A0a c0a l0a A0b c0b l0b A1a c1a l1a A1b c1b l1b W ra0 ma0 rb0 mb0 ra1 ma1 rb1 mb1 za1 zb1).mono fun e W' ⟨he, bel⟩ => ?_
 subst he; exact ⟨_, rfl, _, _, _, [], _, [], hW', trodAll_mk1 (shut_bool Try.underlying4 _), (trodAll_cons_mk (Below.trod laidOut (by kernel_rfl) (of_decide_eq_true (by kernel_rfl)) k0 bel lt0) (trodAll_cons_mk (Below.trod laidOut (by kernel_rfl) (of_decide_eq_true (by kernel_rfl)) k1 bel lt1) trodAll_mk0)), rfl, bel.frame _, fun h => by cases h⟩
theorem over : Rows.subgraphValidRow.holds Try.pinned (OpenSpec.ofChange Rows.subgraphValidSpec) :=
  OpenClaim.holds_of_wide 6 Try.f6 rfl rfl rfl rfl rfl rfl rfl ⟨rfl, rfl, rfl, rfl, rfl⟩ rfl rfl rfl rfl rfl (by kernel_rfl) Try.func6 (by kernel_rfl)
    (of_decide_eq_true (by kernel_rfl)) (by unfold Func.isWrapper; first | (rw [if_pos (by decide +kernel)]; kernel_rfl) | (rw [if_neg (by decide +kernel)]; exact ⟨rfl, rfl⟩))
    (fun os started H enc _ => lifted os started H enc)
theorem proved : Rows.SubgraphValidSaid := over
#print axioms proved
end Go.Proofs.Ytonipihlpbaknaa.subgraphValid
namespace Go.Proofs.Ytonipihlpbaknaa
/-- The row, under a short name, for the claim. -/
theorem subgraphValid_holds : Rows.SubgraphValidSaid := subgraphValid.proved
end Go.Proofs.Ytonipihlpbaknaa

/- A part of the proof that the law returns true at every input; what the walked functions compute. -/
import Derived.Test.YtonipihlpbaknaaRows
import Derived.WalkKit
import Derived.ProofKit
import Derived.OpenShut
import Derived.ShutString
import Derived.ChangeOld
import Derived.Below
import Derived.SizedLaws
import Derived.Carry
import Derived.Test.YtonipihlpbaknaaZJn0
import Derived.Test.YtonipihlpbaknaaZJn1
import Derived.Test.YtonipihlpbaknaaZJn2
import Derived.Test.YtonipihlpbaknaaZJn3
import Derived.Test.YtonipihlpbaknaaZJn4
import Derived.Test.YtonipihlpbaknaaZJn5
import Derived.Test.YtonipihlpbaknaaZJn6
import Derived.Test.YtonipihlpbaknaaZJn7
import Derived.Test.YtonipihlpbaknaaZJn8
import Derived.Test.YtonipihlpbaknaaZJn9
namespace Go.Proofs.Ytonipihlpbaknaa.Print
set_option linter.unusedVariables false
set_option linter.unusedSimpArgs false
open Go.RowKit Go.Proofs.YtonipihlpbaknaaW.PrintWords Go.Proofs.YtonipihlpbaknaaW.PrintLast Go.Proofs.YtonipihlpbaknaaW.PrintMore
theorem small_two (l0 : List Int) (l1 : List S78) (l2 l3 l4 l5 : List Int) : scarfjointlaw07_small.f l0 l1 [⟨l2, l3⟩, ⟨l4, l5⟩] = some (smallG l0 l1 && (fewB ⟨l2, l3⟩ && fewB ⟨l4, l5⟩)) := by simp [scarfjointlaw07_small.f]
theorem fewB_len {a b : List Int} (h : fewB ⟨a, b⟩ = true) (h0 : a.length ≤ 17592186044416) (h1 : b.length ≤ 17592186044416) : a.length + b.length ≤ 150 := by
  have := of_decide_eq_true h
  dsimp only at this
  unfold wrap64 at this
  omega
theorem asc_true {l : List Int} (h : l.Pairwise (· < ·)) : ascB l = true := decide_eq_true h
section
variable (l0 : List Int) (l1 : List S78) (l2 l3 l4 l5 : List Int)
theorem rjoin_ok (h0 : l0.length ≤ 1000) (h1 : l1.length ≤ 1000) (h2 : l2.length ≤ 1000) (h3 : l3.length ≤ 1000) (h4 : l4.length ≤ 1000) (h5 : l5.length ≤ 1000) (k : Nat) (hk : 10000 < k) :
    scarfjointref07_Join.f k l0 l1 l2 l3 l4 l5 = some (if bothE l0 l1 l2 l3 l4 l5 = 0 then (uniUpto l2 l4 l0.length, uniUpto l3 l5 l1.length, 0) else ([], [], bothE l0 l1 l2 l3 l4 l5)) := by
  unfold scarfjointref07_Join.f scarfjointref07_combined.f; rw [rboth_ok l0 l1 l2 l3 l4 l5 h0 h1 h2 h3 h4 h5 k hk, Option.bind_some]
  by_cases hb : bothE l0 l1 l2 l3 l4 l5 = 0
  · rw [if_pos hb, if_pos hb, mergedU_ok _ _ _ (by omega) (by omega) (by omega) k (by omega), Option.bind_some, mergedU_ok _ _ _ (by omega) (by omega) (by omega) k (by omega), Option.bind_some, Option.bind_some]
  · rw [if_neg hb, if_neg hb, Option.bind_some]
theorem rmeet_ok (h0 : l0.length ≤ 1000) (h1 : l1.length ≤ 1000) (h2 : l2.length ≤ 1000) (h3 : l3.length ≤ 1000) (h4 : l4.length ≤ 1000) (h5 : l5.length ≤ 1000) (k : Nat) (hk : 10000 < k) :
    scarfjointref07_Meet.f k l0 l1 l2 l3 l4 l5 = some (if bothE l0 l1 l2 l3 l4 l5 = 0 then (bothUpto l2 l4 l0.length, bothUpto l3 l5 l1.length, 0) else ([], [], bothE l0 l1 l2 l3 l4 l5)) := by
  unfold scarfjointref07_Meet.f scarfjointref07_combined.f; rw [rboth_ok l0 l1 l2 l3 l4 l5 h0 h1 h2 h3 h4 h5 k hk, Option.bind_some]
  by_cases hb : bothE l0 l1 l2 l3 l4 l5 = 0
  · rw [if_pos hb, if_pos hb, merged_ok _ _ _ (by omega) (by omega) (by omega) k (by omega), Option.bind_some, merged_ok _ _ _ (by omega) (by omega) (by omega) k (by omega), Option.bind_some, Option.bind_some]
  · rw [if_neg hb, if_neg hb, Option.bind_some]
theorem smeet_ok (h2 : l2.length ≤ 1000) (h3 : l3.length ≤ 1000) (h4 : l4.length ≤ 1000) (h5 : l5.length ≤ 1000) (k : Nat) (hk : 10000 < k) :
    subgraph_Meet.f k l0 l1 l2 l3 l4 l5 = some (if bothE l0 l1 l2 l3 l4 l5 = 0 then (bothUpto l2 l4 l0.length, bothUpto l3 l5 l1.length, 0) else ([], [], bothE l0 l1 l2 l3 l4 l5)) := by
  unfold subgraph_Meet.f; rw [sboth_ok l0 l1 l2 l3 l4 l5 h2 h3 h4 h5 k hk, Option.bind_some]
  by_cases hb : bothE l0 l1 l2 l3 l4 l5 = 0
  · obtain ⟨_, q1, q2⟩ := both_facts l0 l1 l2 l3 l4 l5 hb
    obtain ⟨a1, a2, a3, a4, a5⟩ := partE_facts l0 l1 l2 l3 q1; obtain ⟨b1, b2, b3, b4, b5⟩ := partE_facts l0 l1 l4 l5 q2; unfold subgraph_common.f; rw [if_pos hb, if_pos hb, if_pos ⟨by omega, by omega, asc_true b2⟩, Option.bind_some, if_pos ⟨by omega, by omega, asc_true b4⟩, Option.bind_some, cut_eq a1 a2, cut_eq a3 a4]
  · rw [if_neg hb, if_neg hb]
end
theorem scarfjointlaw07_SubgraphJoin.whole (A0 : Option Addr) (c0 : Nat) (l0 : List Int) (A1 : Option Addr) (c1 : Nat) (l1 : List S78) (A2 : Option Addr) (c2 : Nat) (l2 : List Int) (A3 : Option Addr) (c3 : Nat) (l3 : List Int) (A4 : Option Addr) (c4 : Nat) (l4 : List Int) (A5 : Option Addr) (c5 : Nat) (l5 : List Int) (w : World)
  (r0 : Kd.C (Kd.int .i64) w A0 l0.length l0) (m0 : l0.length ≤ c0) (r1 : Kd.C k78 w A1 l1.length l1) (m1 : l1.length ≤ c1) (r2 : Kd.C (Kd.int .i64) w A2 l2.length l2) (m2 : l2.length ≤ c2) (r3 : Kd.C (Kd.int .i64) w A3 l3.length l3) (m3 : l3.length ≤ c3) (r4 : Kd.C (Kd.int .i64) w A4 l4.length l4) (m4 : l4.length ≤ c4) (r5 : Kd.C (Kd.int .i64) w A5 l5.length l5) (m5 : l5.length ≤ c5)
  (z2 : l2.length ≤ 17592186044416) (z3 : l3.length ≤ 17592186044416) (z4 : l4.length ≤ 17592186044416) (z5 : l5.length ≤ 17592186044416) :
  Calls Try.prog 7 #[.agg #[.slice A0 l0.length c0, .slice A1 l1.length c1], .agg #[.slice A2 l2.length c2, .slice A3 l3.length c3], .agg #[.slice A4 l4.length c4, .slice A5 l5.length c5]] w fun e w' => e = .returned (.bool true) ∧ Below w.heap.size w w' := by
 have hs := small_two l0 l1 l2 l3 l4 l5
 by_cases h : (smallG l0 l1 && (fewB ⟨l2, l3⟩ && fewB ⟨l4, l5⟩)) = true
 ·rw [h] at hs
  simp only [Bool.and_eq_true] at h; obtain ⟨q0, q1⟩ := smallG_len h.1; have f1 := fewB_len h.2.1 z2 z3; have f2 := fewB_len h.2.2 z4 z5
  have own1 : scarfjointlaw07_own.f l2 l3 = some (l2, l3) := by
   unfold scarfjointlaw07_own.f; rw [clone_ok _ (by omega), Option.bind_some, clone_ok _ (by omega), Option.bind_some]
  have own2 : scarfjointlaw07_own.f l4 l5 = some (l4, l5) := by
   unfold scarfjointlaw07_own.f; rw [clone_ok _ (by omega), Option.bind_some, clone_ok _ (by omega), Option.bind_some]
  have cp := copied_ok l0 l1 (by omega) (by omega); have e0 := sboth_ok l0 l1 l2 l3 l4 l5 (by omega) (by omega) (by omega) (by omega) 20000 (by omega); have e1 := rjoin_ok l0 l1 l2 l3 l4 l5 (by omega) (by omega) (by omega) (by omega) (by omega) (by omega) 20000 (by omega); have e2 := smeet_ok l0 l1 l2 l3 l4 l5 (by omega) (by omega) (by omega) (by omega) 20000 (by omega); have e3 := rmeet_ok l0 l1 l2 l3 l4 l5 (by omega) (by omega) (by omega) (by omega) (by omega) (by omega) 20000 (by omega)
  by_cases hb : bothE l0 l1 l2 l3 l4 l5 = 0
  ·rw [if_pos hb] at e1 e2 e3
   rw [hb] at e0; obtain ⟨hv, p1, p2⟩ := both_facts l0 l1 l2 l3 l4 l5 hb; obtain ⟨a1, a2, a3, a4, a5⟩ := partE_facts l0 l1 l2 l3 p1; obtain ⟨b1, b2, b3, b4, b5⟩ := partE_facts l0 l1 l4 l5 p2; have u0 := uniUpto_len l2 l4 l0.length; have u1 := uniUpto_len l3 l5 l1.length; have d0 := bothUpto_len l2 l4 l0.length; have d1 := bothUpto_len l3 l5 l1.length; have up := uni_part l0 l1 l2 l3 l4 l5 p1 p2; have cpt := cut_part l0 l1 l2 l3 l4 l5 p1 p2; have hx := smeet_ok l0 l1 l2 l3 (uniUpto l2 l4 l0.length) (uniUpto l3 l5 l1.length) (by omega) (by omega) (by omega) (by omega) 20000 (by omega); rw [if_pos (both_of l0 l1 l2 l3 _ _ hv p1 up)] at hx; have hy := sboth_ok l0 l1 l2 l3 (bothUpto l2 l4 l0.length) (bothUpto l3 l5 l1.length) (by omega) (by omega) (by omega) (by omega) 20000 (by omega); rw [both_of l0 l1 l2 l3 _ _ hv p1 cpt] at hy
   have x0 : bothUpto l2 (uniUpto l2 l4 l0.length) l0.length = l2 := asc_ext (filtR_asc _ _) a2 fun x => by
    rw [show (x ∈ bothUpto l2 (uniUpto l2 l4 l0.length) l0.length) = _ from propext mem_both]; exact ⟨fun h => h.2.2.1, fun h => ⟨(a1 x h).1, (a1 x h).2, h, mem_uni.2 ⟨(a1 x h).1, (a1 x h).2, .inl h⟩⟩⟩
   have x1 : bothUpto l3 (uniUpto l3 l5 l1.length) l1.length = l3 := asc_ext (filtR_asc _ _) a4 fun x => by
    rw [show (x ∈ bothUpto l3 (uniUpto l3 l5 l1.length) l1.length) = _ from propext mem_both]; exact ⟨fun h => h.2.2.1, fun h => ⟨(a3 x h).1, (a3 x h).2, h, mem_uni.2 ⟨(a3 x h).1, (a3 x h).2, .inl h⟩⟩⟩
   rw [x0, x1] at hx
   have y0 : Lib.compact (sortI (l2 ++ bothUpto l2 l4 l0.length)) = l2 := asc_ext (comp_asc _) a2 fun x => by
    rw [mem_comp, List.mem_append]; exact ⟨fun h => h.elim id fun h => (mem_both.1 h).2.2.1, .inl⟩
   have y1 : Lib.compact (sortI (l3 ++ bothUpto l3 l5 l1.length)) = l3 := asc_ext (comp_asc _) a4 fun x => by
    rw [mem_comp, List.mem_append]; exact ⟨fun h => h.elim id fun h => (mem_both.1 h).2.2.1, .inl⟩
   refine scarfjointlaw07_SubgraphJoin.ok 20000 A0 c0 l0 A1 c1 l1 A2 c2 l2 A3 c3 l3 A4 c4 l4 A5 c5 l5 (uniUpto l2 l4 l0.length) (uniUpto l3 l5 l1.length) (bothUpto l2 l4 l0.length) (bothUpto l3 l5 l1.length) 0 0 w r0 m0 r1 m1 r2 m2 r3 m3 r4 m4 r5 m5 hs cp own1 own2
    (by omega) (by omega) (by omega) (by omega) (by omega) (by omega) e0 ?_ e1 e2 e3 ?_ ?_ (fun _ => ⟨hx, hy, ?_, ?_⟩)
   ·unfold joinB
    rw [if_pos rfl, uni_eq a1 b1, uni_eq a3 b3]
   ·rw [same_ok _ _ _ _ 20000 (by omega) (by omega) (by omega)]
    simp
   ·rw [same_ok _ _ _ _ 20000 (by omega) (by omega) (by omega)]
    simp
   ·unfold joinB
    rw [if_pos rfl, y0, y1]
   ·rw [same_ok _ _ _ _ 20000 (by omega) (by omega) (by omega)]
    simp
  ·rw [if_neg hb] at e1 e2 e3
   refine scarfjointlaw07_SubgraphJoin.ok 20000 A0 c0 l0 A1 c1 l1 A2 c2 l2 A3 c3 l3 A4 c4 l4 A5 c5 l5 [] [] [] [] _ _ w r0 m0 r1 m1 r2 m2 r3 m3 r4 m4 r5 m5 hs cp own1 own2
    (by omega) (by omega) (by omega) (by omega) (by simp) (by simp) e0 ?_ e1 e2 e3 ?_ ?_ (fun q => absurd q hb)
   ·unfold joinB
    rw [if_neg hb]
   ·rw [same_ok _ _ _ _ 20000 (by simp) (by simp) (by simp)]
    simp
   ·rw [same_ok _ _ _ _ 20000 (by simp) (by simp) (by simp)]
    simp
 ·simp only [Bool.not_eq_true] at h
  rw [h] at hs; exact scarfjointlaw07_SubgraphJoin.big A0 c0 l0 A1 c1 l1 A2 c2 l2 A3 c3 l3 A4 c4 l4 A5 c5 l5 w r0 m0 r1 m1 r2 m2 r3 m3 r4 m4 r5 m5 hs
end Go.Proofs.Ytonipihlpbaknaa.Print
namespace Go.Proofs.Ytonipihlpbaknaa.subgraphJoin
open Go.ChangeShapes Go.WideShapes Go.ChangeAt Go.RowKit Go.Proofs.Ytonipihlpbaknaa.Print
set_option linter.unusedVariables false
theorem own : ownKnob Try.prog.godebug = none := by kernel_rfl
theorem laidOut : laidOutB Try.prog = true := by kernel_rfl
set_option maxRecDepth 100000 in
theorem lifted (os : Os) (started : os.Started) (H : Type) (enc : TypeId × Value → H) :
  ReturnsInHanded {} Try.checked os 7 .any (Rows.subgraphJoinSpec.pre6 enc Try.prog Try.f7 Rows.subgraphJoinRow.domain false) (Rows.subgraphJoinSpec.post enc Try.prog Try.f7 false true false false) := by
 refine returnsInHanded_of_change_sized (C := Try.checked) own started (by kernel_rfl) Try.func7
  (ChangeSpec.witness6 (enc := enc) (C := Try.checked) false ⟨#[], #[.agg #[.slice none 0 0, .slice none 0 0], .agg #[.slice none 0 0, .slice none 0 0], .agg #[.slice none 0 0, .slice none 0 0]], []⟩ 8 (by kernel_rfl) (by kernel_rfl) (by kernel_rfl) (by kernel_rfl)) ?_
 intro W base args ds gs before hval0 hW hcnd hsz0 _
 have hval : ∀ (j : Nat) t v, Try.f7.params[j]? = some t → args[j]? = some v → Value.okWide Try.prog W .any base t v := hval0
 have hW' := hW; obtain ⟨p, q, hA0, hV, rfl, hfz, hnd⟩ := hW; have hA : DataW.TrodAll enc Try.prog W 0 (fun _ => true) true Try.f7.params.toList args.toList ds p := hA0; rw [Try.params7] at hA hval; obtain ⟨v0, vs0, d0, ds0, p0, q0, hargs, rfl, rfl, h0, r0⟩ := trodAll_cons hA; obtain ⟨v1, vs1, d1, ds1, p1, q1, rfl, rfl, rfl, h1, r1⟩ := trodAll_cons r0; obtain ⟨v2, vs2, d2, ds2, p2, q2, rfl, rfl, rfl, h2, r2⟩ := trodAll_cons r1; obtain ⟨rfl, rfl, rfl⟩ := trodAll_nil r2
 obtain rfl : args = #[v0, v1, v2] := by cases args; simp_all
 obtain ⟨rfl, rfl⟩ := trodVars_none hV; have k0 := h0
 have lt0 : ∀ x ∈ p0, x.block < W.heap.size := by obtain ⟨m, hm⟩ := k0; exact DataW.trod_lt m _ _ _ hm
 obtain ⟨A0a, c0a, l0a, A0b, c0b, l0b, rfl, ra0, ma0, rb0, mb0⟩ := open_graph (hval 0 25 v0 rfl rfl) h0; have k1 := h1
 have lt1 : ∀ x ∈ p1, x.block < W.heap.size := by obtain ⟨m, hm⟩ := k1; exact DataW.trod_lt m _ _ _ hm
 have hz1 : ∀ n ∈ d1.weights Try.prog 27, n ≤ reachBytes := fun n hn => of_decide_eq_true (List.all_eq_true.1 hsz0 n (DataW.weights_mem_each (j := 1) (t := 27) (d := d1) (by rw [Try.params7]; rfl) rfl n hn))
 obtain ⟨A1a, c1a, l1a, A1b, c1b, l1b, rfl, ra1, ma1, rb1, mb1, za1, zb1⟩ := open_partS (hval 1 27 v1 rfl rfl) h1 hz1; have k2 := h2
 have lt2 : ∀ x ∈ p2, x.block < W.heap.size := by obtain ⟨m, hm⟩ := k2; exact DataW.trod_lt m _ _ _ hm
 have hz2 : ∀ n ∈ d2.weights Try.prog 27, n ≤ reachBytes := fun n hn => of_decide_eq_true (List.all_eq_true.1 hsz0 n (DataW.weights_mem_each (j := 2) (t := 27) (d := d2) (by rw [Try.params7]; rfl) rfl n hn))
 obtain ⟨A2a, c2a, l2a, A2b, c2b, l2b, rfl, ra2, ma2, rb2, mb2, za2, zb2⟩ := open_partS (hval 2 27 v2 rfl rfl) h2 hz2; clear hA0 hval0 hsz0
 refine (scarfjointlaw07_SubgraphJoin.whole A0a c0a l0a A0b c0b l0b A1a c1a l1a A1b c1b l1b A2a c2a l2a A2b c2b l2b W ra0 ma0 rb0 mb0 ra1 ma1 rb1 mb1 ra2 ma2 rb2 mb2 za1 zb1 za2 zb2).mono fun e W' ⟨he, bel⟩ => ?_
 subst he; exact ⟨_, rfl, _, _, _, [], _, [], hW', trodAll_mk1 (shut_bool Try.underlying4 _), (trodAll_cons_mk (Below.trod laidOut (by kernel_rfl) (of_decide_eq_true (by kernel_rfl)) k0 bel lt0) (trodAll_cons_mk (Below.trod laidOut (by kernel_rfl) (of_decide_eq_true (by kernel_rfl)) k1 bel lt1) (trodAll_cons_mk (Below.trod laidOut (by kernel_rfl) (of_decide_eq_true (by kernel_rfl)) k2 bel lt2) trodAll_mk0))), rfl, bel.frame _, fun h => by cases h⟩
theorem over : Rows.subgraphJoinRow.holds Try.pinned (OpenSpec.ofChange Rows.subgraphJoinSpec) :=
  OpenClaim.holds_of_wide 7 Try.f7 rfl rfl rfl rfl rfl rfl rfl ⟨rfl, rfl, rfl, rfl, rfl⟩ rfl rfl rfl rfl rfl (by kernel_rfl) Try.func7 (by kernel_rfl)
    (of_decide_eq_true (by kernel_rfl)) (by unfold Func.isWrapper; first | (rw [if_pos (by decide +kernel)]; kernel_rfl) | (rw [if_neg (by decide +kernel)]; exact ⟨rfl, rfl⟩))
    (fun os started H enc _ => lifted os started H enc)
theorem proved : Rows.SubgraphJoinSaid := over
#print axioms proved
end Go.Proofs.Ytonipihlpbaknaa.subgraphJoin
namespace Go.Proofs.Ytonipihlpbaknaa
/-- The row, under a short name, for the claim. -/
theorem subgraphJoin_holds : Rows.SubgraphJoinSaid := subgraphJoin.proved
end Go.Proofs.Ytonipihlpbaknaa

/- A part of the proof that the law returns true at every input; what the walked functions compute. -/
import Derived.Test.YtonipihlpbaknaaRows
import Derived.WalkKit
import Derived.ProofKit
import Derived.OpenShut
import Derived.ShutString
import Derived.ChangeOld
import Derived.Below
import Derived.SizedLaws
import Derived.Carry
import Derived.Test.YtonipihlpbaknaaZBd0
import Derived.Test.YtonipihlpbaknaaZBd1
import Derived.Test.YtonipihlpbaknaaZBd2
import Derived.Test.YtonipihlpbaknaaZBd3
import Derived.Test.YtonipihlpbaknaaZBd4
import Derived.Test.YtonipihlpbaknaaZBd5
import Derived.Test.YtonipihlpbaknaaZBd6
import Derived.Test.YtonipihlpbaknaaZBd7
import Derived.Test.YtonipihlpbaknaaZBd8
import Derived.Test.YtonipihlpbaknaaZBd9
import Derived.Test.YtonipihlpbaknaaZBd10
namespace Go.Proofs.Ytonipihlpbaknaa.Print
set_option linter.unusedVariables false
set_option linter.unusedSimpArgs false
open Go.RowKit Go.Proofs.YtonipihlpbaknaaW.PrintWords Go.Proofs.YtonipihlpbaknaaW.PrintLast Go.Proofs.YtonipihlpbaknaaW.PrintMore
theorem mem_filtR {p : Nat → Bool} {n : Nat} {x : Int} : x ∈ ((List.range n).filter p).map (fun (j : Nat) => (j : Int)) ↔ 0 ≤ x ∧ x < n ∧ p x.toNat = true := by
  simp only [List.mem_map, List.mem_filter, List.mem_range]
  constructor
  · rintro ⟨j, ⟨h1, h2⟩, rfl⟩
    exact ⟨by omega, by omega, by simpa using h2⟩
  · rintro ⟨h1, h2, h3⟩
    exact ⟨x.toNat, ⟨by omega, h3⟩, by omega⟩
theorem filtR_asc (p : Nat → Bool) (n : Nat) : (((List.range n).filter p).map (fun (j : Nat) => (j : Int))).Pairwise (· < ·) := by
  rw [List.pairwise_map]
  exact (List.pairwise_lt_range.filter _).imp fun h => by omega
theorem mem_nds {L : List Int} {r : Int} {n : Nat} {x : Int} : x ∈ ndsUpto L r n ↔ 0 ≤ x ∧ x < n ∧ rd L x = r := by
  unfold ndsUpto
  rw [mem_filtR]
  constructor
  · rintro ⟨h1, h2, h3⟩
    simp only [decide_eq_true_eq, Int.toNat_of_nonneg h1] at h3
    exact ⟨h1, h2, h3⟩
  · rintro ⟨h1, h2, h3⟩
    exact ⟨h1, h2, by simp only [decide_eq_true_eq, Int.toNat_of_nonneg h1]; exact h3⟩
theorem mem_egs {l1 : List S78} {L : List Int} {r : Int} {n : Nat} {x : Int} : x ∈ egsUpto l1 L r n ↔ 0 ≤ x ∧ x < n ∧ rd L (rd_T78 l1 x).f1 = r := by
  unfold egsUpto
  rw [mem_filtR]
  constructor
  · rintro ⟨h1, h2, h3⟩
    simp only [decide_eq_true_eq, Int.toNat_of_nonneg h1] at h3
    exact ⟨h1, h2, h3⟩
  · rintro ⟨h1, h2, h3⟩
    exact ⟨h1, h2, by simp only [decide_eq_true_eq, Int.toNat_of_nonneg h1]; exact h3⟩
theorem mem_both {a b : List Int} {n : Nat} {x : Int} : x ∈ bothUpto a b n ↔ 0 ≤ x ∧ x < n ∧ x ∈ a ∧ x ∈ b := by
  unfold bothUpto
  rw [mem_filtR]
  constructor
  · rintro ⟨h1, h2, h3⟩
    simp only [decide_eq_true_eq, Int.toNat_of_nonneg h1] at h3
    exact ⟨h1, h2, h3⟩
  · rintro ⟨h1, h2, h3⟩
    exact ⟨h1, h2, by simp only [decide_eq_true_eq, Int.toNat_of_nonneg h1]; exact h3⟩
theorem rdT_mem {l1 : List S78} {x : Int} (h0 : 0 ≤ x) (h1 : x < l1.length) : rd_T78 l1 x ∈ l1 := by
  have e := rdT_get l1 x.toNat (by omega)
  rw [Int.toNat_of_nonneg h0] at e
  rw [e]
  exact List.getElem_mem _
theorem partE_of {l0 : List Int} {l1 : List S78} {ns es : List Int} (a1 : ns.Pairwise (· < ·)) (a2 : es.Pairwise (· < ·)) (r1 : ∀ x ∈ ns, 0 ≤ x ∧ x < l0.length) (r2 : ∀ x ∈ es, 0 ≤ x ∧ x < l1.length)
    (h : ∀ x ∈ es, (rd_T78 l1 x).f1 ∈ ns ∧ (rd_T78 l1 x).f2 ∈ ns) : partE l0 l1 ns es = 0 := by
  unfold partE
  rw [if_pos (listE_of r1 a1 (by simp)), if_pos (listE_of r2 a2 (by simp)), if_pos]
  rw [List.all_eq_true]
  intro x hx
  simp only [endsIn, Bool.and_eq_true, decide_eq_true_eq]
  exact h x hx
theorem comp_part {l0 : List Int} {l1 : List S78} {L : List Int} (ho : EndsOk l0.length l1) (hg : Good l0.length l1 L) (r : Int) : partE l0 l1 (compP l0 l1 L r).f0 (compP l0 l1 L r).f1 = 0 := by
  refine partE_of (filtR_asc _ _) (filtR_asc _ _) (fun x hx => ?_) (fun x hx => ?_) (fun x hx => ?_)
  · have := mem_nds.1 hx
    exact ⟨this.1, this.2.1⟩
  · have := mem_egs.1 hx
    exact ⟨this.1, this.2.1⟩
  · obtain ⟨h0, h1, h2⟩ := mem_egs.1 hx
    have hm := rdT_mem h0 h1
    obtain ⟨o1, o2, o3, o4⟩ := ho _ hm
    refine ⟨mem_nds.2 ⟨o1, o2, h2⟩, mem_nds.2 ⟨o3, o4, ?_⟩⟩
    rw [← hg.2.1 _ hm]
    exact h2
theorem bdry_empty {l1 : List S78} {ns es : List Int} : bdryL l1 ns es = [] ↔ ∀ x : Int, 0 ≤ x → x < l1.length → x ∉ es → (rd_T78 l1 x).f1 ∉ ns ∧ (rd_T78 l1 x).f2 ∉ ns := by
  have hm : ∀ y, y ∈ outUpto l1 es l1.length ↔ ∃ x : Int, 0 ≤ x ∧ x < l1.length ∧ x ∉ es ∧ (y = (rd_T78 l1 x).f1 ∨ y = (rd_T78 l1 x).f2) := by
    intro y
    unfold outUpto
    rw [List.mem_flatMap]
    constructor
    · rintro ⟨j, h1, h2⟩
      have := List.mem_range.1 h1
      by_cases h : (j : Int) ∈ es
      · rw [if_pos h] at h2
        simp at h2
      · rw [if_neg h] at h2
        exact ⟨j, by omega, by omega, h, by simpa using h2⟩
    · rintro ⟨x, h1, h2, h3, h4⟩
      refine ⟨x.toNat, List.mem_range.2 (by omega), ?_⟩
      rw [Int.toNat_of_nonneg h1, if_neg h3]
      simpa using h4
  unfold bdryL
  rw [List.filter_eq_nil_iff]
  constructor
  · intro h x h1 h2 h3
    refine ⟨fun q => ?_, fun q => ?_⟩
    · exact h _ (mem_comp.2 ((hm _).2 ⟨x, h1, h2, h3, .inl rfl⟩)) (by simpa using q)
    · exact h _ (mem_comp.2 ((hm _).2 ⟨x, h1, h2, h3, .inr rfl⟩)) (by simpa using q)
  · intro h y hy
    obtain ⟨x, h1, h2, h3, h4⟩ := (hm _).1 (mem_comp.1 hy)
    obtain ⟨q1, q2⟩ := h x h1 h2 h3
    simp only [decide_eq_true_eq]
    rcases h4 with rfl | rfl
    · exact q1
    · exact q2
/-- A component is apart from the part, or in it. -/
def wholeB (l0 : List Int) (ns es : List Int) (c : S27) : Bool := decide (bothUpto c.f0 ns l0.length = []) || decide ((∀ x ∈ c.f0, x ∈ ns) ∧ (∀ x ∈ c.f1, x ∈ es))
theorem whole_iff {l0 : List Int} {l1 : List S78} {L ns es : List Int} (ho : EndsOk l0.length l1) (hg : Good l0.length l1 L) (hp : partE l0 l1 ns es = 0) :
    (compsUpto l0 l1 L l0.length).all (wholeB l0 ns es) = decide (bdryL l1 ns es = []) := by
  obtain ⟨z1, z2, z3⟩ := partE_zero hp
  obtain ⟨n1, n2, _⟩ := listE_none z1
  obtain ⟨e1, e2, _⟩ := listE_none z2
  have hc : ∀ x ∈ es, (rd_T78 l1 x).f1 ∈ ns ∧ (rd_T78 l1 x).f2 ∈ ns := by
    intro x hx
    have := List.all_eq_true.1 z3 x hx
    simpa only [endsIn, Bool.and_eq_true, decide_eq_true_eq] using this
  obtain ⟨hi, g1, g2⟩ := hg
  rw [Bool.eq_iff_iff, List.all_eq_true, decide_eq_true_eq, bdry_empty]
  constructor
  · intro h x h1 h2 h3
    have hm := rdT_mem h1 h2
    obtain ⟨o1, o2, o3, o4⟩ := ho _ hm
    obtain ⟨i1, i2, i3⟩ := hi.2 _ o1 o2
    have gg := g1 _ hm
    have key : ∀ v : Int, 0 ≤ v → v < l0.length → rd L v = rd L (rd_T78 l1 x).f1 → v ∉ ns := by
      intro v v1 v2 v3 v4
      have hmem : compP l0 l1 L (rd L (rd_T78 l1 x).f1) ∈ compsUpto l0 l1 L l0.length := by
        unfold compsUpto
        refine List.mem_map.2 ⟨(rd L (rd_T78 l1 x).f1).toNat, List.mem_filter.2 ⟨List.mem_range.2 (by omega), ?_⟩, ?_⟩
        · rw [Int.toNat_of_nonneg i1]
          exact decide_eq_true (g2 _ o1 o2)
        · rw [Int.toNat_of_nonneg i1]
      have := h _ hmem
      unfold wholeB at this
      rw [Bool.or_eq_true, decide_eq_true_eq, decide_eq_true_eq] at this
      rcases this with q | ⟨_, q⟩
      · have : v ∈ bothUpto (compP l0 l1 L (rd L (rd_T78 l1 x).f1)).f0 ns l0.length := mem_both.2 ⟨v1, v2, mem_nds.2 ⟨v1, v2, v3⟩, v4⟩
        rw [q] at this
        simp at this
      · exact h3 (q x (mem_egs.2 ⟨h1, h2, rfl⟩))
    exact ⟨key _ o1 o2 rfl, key _ o3 o4 gg.symm⟩
  · intro h c hcm
    obtain ⟨r, hr, rfl⟩ := List.mem_map.1 hcm
    obtain ⟨hr1, hr2⟩ := List.mem_filter.1 hr
    have hr1 := List.mem_range.1 hr1
    unfold wholeB
    rw [Bool.or_eq_true, decide_eq_true_eq, decide_eq_true_eq]
    by_cases hb : bothUpto (compP l0 l1 L (r : Int)).f0 ns l0.length = []
    · exact .inl hb
    · obtain ⟨v, hv⟩ := List.exists_mem_of_ne_nil _ hb
      obtain ⟨v1, v2, v3, v4⟩ := mem_both.1 hv
      obtain ⟨_, _, v5⟩ := mem_nds.1 v3
      have hS : ∀ w : Int, 0 ≤ w → w < l0.length → rd L w = r → w ∈ ns := by
        intro w w1 w2 w3
        have c1 := (hi.2 v v1 v2).2.2
        have c2 := (hi.2 w w1 w2).2.2
        rw [v5] at c1
        rw [w3] at c2
        refine conn_trans c1 (conn_symm c2) (fun x => x ∈ ns) (fun e he => ?_) v4
        obtain ⟨j, hj, rfl⟩ := List.getElem_of_mem he
        have ej := rdT_get l1 j hj
        by_cases hje : (j : Int) ∈ es
        · have := hc _ hje
          rw [ej] at this
          exact ⟨fun _ => this.2, fun _ => this.1⟩
        · have := h j (by omega) (by omega) hje
          rw [ej] at this
          exact ⟨fun q => absurd q this.1, fun q => absurd q this.2⟩
      refine .inr ⟨fun x hx => ?_, fun x hx => ?_⟩
      · obtain ⟨x1, x2, x3⟩ := mem_nds.1 hx
        exact hS x x1 x2 x3
      · obtain ⟨x1, x2, x3⟩ := mem_egs.1 hx
        have hm := rdT_mem x1 x2
        obtain ⟨o1, o2, o3, o4⟩ := ho _ hm
        exact Classical.byContradiction fun q => (h x x1 x2 q).1 (hS _ o1 o2 x3)
theorem blaw_loop (l0 : List Int) (l1 : List S78) (b ns es : List Int) (C : List S27) (hv : validB l0 l1 = 0) (hp : partE l0 l1 ns es = 0) (hC : C.length ≤ 100) (hcs : ∀ c ∈ C, partE l0 l1 c.f0 c.f1 = 0 ∧ c.f0.length ≤ 100 ∧ c.f1.length ≤ 100) (hns : ns.length ≤ 100) (hes : es.length ≤ 100) :
    ∀ (d k i : Nat) (w : Bool), i + d = C.length → 2 * d + 2000 < k → scarfjointlaw07_SubgraphBoundary.l0 k b w C (C.length : Int) i l0 l1 ns es = some ((w && (C.drop i).all (wholeB l0 ns es)) == ((b.length : Int) == 0)) := by
  intro d
  induction d with
  | zero =>
    intro k i w hi hk
    obtain ⟨k, rfl⟩ : ∃ m, k = m + 1 := ⟨k - 1, by omega⟩
    rw [scarfjointlaw07_SubgraphBoundary.l0, if_neg (by omega), List.drop_of_length_le (by omega)]
    simp
  | succ d ih =>
    intro k i w hi hk
    obtain ⟨k, rfl⟩ : ∃ m, k = m + 1 + 1 := ⟨k - 2, by omega⟩
    have hlt : i < C.length := by omega
    obtain ⟨c1, c2, c3⟩ := hcs _ (List.getElem_mem hlt)
    have ihf := ih k (i + 1) false (by omega) (by omega)
    have ihw := ih k (i + 1) w (by omega) (by omega)
    rw [scarfjointlaw07_SubgraphBoundary.l0, if_pos (by omega), if_pos (by omega), if_pos (by omega), rdT27_get C i hlt, meet_ok l0 l1 _ _ _ _ hv c1 hp c2 c3 hns hes (k + 1) (by omega), Option.bind_some, if_pos rfl,
      List.drop_eq_getElem_cons hlt, List.all_cons]
    generalize hy : C[i] = c at *
    generalize (C.drop (i + 1)).all (wholeB l0 ns es) = T at *
    dsimp only
    by_cases hb : bothUpto c.f0 ns l0.length = []
    · rw [hb, if_neg (by simp), scarfjointlaw07_SubgraphBoundary.j3, if_neg (by simp), succ_ok i (by omega), ihw]
      simp [wholeB, hb]
    · have hl : 0 < (bothUpto c.f0 ns l0.length).length := List.length_pos_iff.2 hb
      rw [if_pos (by omega), in_ok _ _ _ _ (k + 1) (by omega) (by omega) (by omega) (by omega) (by omega), Option.bind_some]
      by_cases hin : (∀ x ∈ c.f0, x ∈ ns) ∧ (∀ x ∈ c.f1, x ∈ es)
      · rw [decide_eq_true hin, scarfjointlaw07_SubgraphBoundary.j3, if_neg (by simp), succ_ok i (by omega), ihw]
        unfold wholeB
        rw [decide_eq_true hin]
        simp
      · rw [decide_eq_false hin, scarfjointlaw07_SubgraphBoundary.j3, if_pos (by simp), succ_ok i (by omega), ihf]
        unfold wholeB
        rw [decide_eq_false hin, decide_eq_false hb]
        simp
theorem made_part {l0 : List Int} {l1 : List S78} {bs es : List Bool} (hb : bs.length = l0.length) (he : es.length = l1.length)
    (h : ∀ j, (hj : j < l1.length) → es.getD j false = true → bs.getD l1[j].f1.toNat false = true ∧ bs.getD l1[j].f2.toNat false = true) (ho : EndsOk l0.length l1) : partE l0 l1 (markedL bs) (markedL es) = 0 := by
  refine partE_of (markedL_asc _) (markedL_asc _) (fun x hx => ?_) (fun x hx => ?_) (fun x hx => ?_)
  · have := mem_markedL.1 hx
    exact ⟨this.1, by omega⟩
  · have := mem_markedL.1 hx
    exact ⟨this.1, by omega⟩
  · obtain ⟨h0, h1, h2⟩ := mem_markedL.1 hx
    have e := rdT_get l1 x.toNat (by omega)
    rw [Int.toNat_of_nonneg h0] at e
    have hm := rdT_mem (l1 := l1) h0 (by omega)
    obtain ⟨o1, o2, o3, o4⟩ := ho _ hm
    obtain ⟨q1, q2⟩ := h x.toNat (by omega) h2
    rw [← e] at q1 q2
    exact ⟨mem_markedL.2 ⟨o1, by omega, q1⟩, mem_markedL.2 ⟨o3, by omega, q2⟩⟩
theorem blaw (l0 : List Int) (l1 : List S78) (a : Int) : ∃ k, scarfjointlaw07_SubgraphBoundary.f k l0 l1 a = some true := by
  refine ⟨100000, ?_⟩
  unfold scarfjointlaw07_SubgraphBoundary.f
  rw [show scarfjointlaw07_awake.f = some true from rfl, Option.bind_some, if_pos rfl, small_nil, Option.bind_some]
  by_cases hs : smallG l0 l1 = true
  · obtain ⟨q0, q1⟩ := smallG_len hs
    rw [hs, if_pos rfl, rvalid_ok l0 l1 _ (by omega) (by omega) (by omega), Option.bind_some]
    by_cases hv : validB l0 l1 = 0
    · obtain ⟨bs, es, h1, h2, h3, h4⟩ := made_ok l0 l1 a 99999 hv (by omega)
      have ho := ends_ok hv
      obtain ⟨z0, z1⟩ := validB_sizes l0 l1 hv
      have hp := made_part h2 h3 h4 ho
      have m1 := markedL_len bs
      have m2 := markedL_len es
      obtain ⟨L, hg, hc⟩ := comps_ok l0 l1 hv 99999 (by omega)
      rw [hv, show (100000 : Nat) = 99999 + 1 from rfl, scarfjointlaw07_SubgraphBoundary.j0, if_neg (by simp), h1, Option.bind_some]
      dsimp only
      rw [bdry_ok l0 l1 _ _ (by omega) (by omega) 99999 (by omega), Option.bind_some, if_pos (show valE l0 l1 (markedL bs) (markedL es) = 0 by unfold valE; rw [if_pos hv, hp]), hc, Option.bind_some]
      dsimp only
      rw [if_pos rfl, show (99999 : Nat) = 99998 + 1 from rfl, scarfjointlaw07_SubgraphBoundary.j1, if_neg (by simp)]
      have hl := compsUpto_len l0 l1 L l0.length
      have := blaw_loop l0 l1 (bdryL l1 (markedL bs) (markedL es)) (markedL bs) (markedL es) (compsUpto l0 l1 L l0.length) hv hp (by omega) (fun c hc => by
        obtain ⟨r, hr, rfl⟩ := List.mem_map.1 hc
        have e1 := ndsUpto_len L r l0.length
        have e2 := egsUpto_len l1 L r l1.length
        exact ⟨comp_part ho hg r, by show (ndsUpto L r l0.length).length ≤ 100; omega, by show (egsUpto l1 L r l1.length).length ≤ 100; omega⟩) (by omega) (by omega)
        (compsUpto l0 l1 L l0.length).length 99998 0 true (by omega) (by omega)
      rw [show ((0 : Nat) : Int) = 0 from rfl] at this
      rw [this, List.drop_zero, whole_iff ho hg hp]
      by_cases hb : bdryL l1 (markedL bs) (markedL es) = []
      · simp [hb]
      · have : 0 < (bdryL l1 (markedL bs) (markedL es)).length := List.length_pos_iff.2 hb
        simp [hb]
    · rw [show (100000 : Nat) = 99999 + 1 from rfl, scarfjointlaw07_SubgraphBoundary.j0, if_pos (by simpa using hv)]
      rfl
  · simp only [Bool.not_eq_true] at hs
    rw [hs, if_neg (by simp), show (100000 : Nat) = 99999 + 1 from rfl, scarfjointlaw07_SubgraphBoundary.j0, if_pos rfl]
    rfl
theorem scarfjointlaw07_SubgraphBoundary.whole (A0 : Option Addr) (c0 : Nat) (l0 : List Int) (A1 : Option Addr) (c1 : Nat) (l1 : List S78) (a : Int) (w : World)
    (r0 : Kd.C (Kd.int .i64) w A0 l0.length l0) (m0 : l0.length ≤ c0) (r1 : Kd.C k78 w A1 l1.length l1) (m1 : l1.length ≤ c1) :
    Calls Try.prog 4 #[.agg #[.slice A0 l0.length c0, .slice A1 l1.length c1], .int .u64 a] w fun e w' => e = .returned (.bool true) ∧ Below w.heap.size w w' := by
  obtain ⟨k, h⟩ := blaw l0 l1 a
  exact scarfjointlaw07_SubgraphBoundary.calls k A0 c0 l0 A1 c1 l1 a true w r0 m0 r1 m1 h
end Go.Proofs.Ytonipihlpbaknaa.Print
namespace Go.Proofs.Ytonipihlpbaknaa.subgraphBoundary
open Go.ChangeShapes Go.WideShapes Go.ChangeAt Go.RowKit Go.Proofs.Ytonipihlpbaknaa.Print
set_option linter.unusedVariables false
theorem own : ownKnob Try.prog.godebug = none := by kernel_rfl
theorem laidOut : laidOutB Try.prog = true := by kernel_rfl
set_option maxRecDepth 100000 in
theorem lifted (os : Os) (started : os.Started) (H : Type) (enc : TypeId × Value → H) :
    ReturnsInHanded {} Try.checked os 4 .any (Rows.subgraphBoundarySpec.pre6 enc Try.prog Try.f4 Rows.subgraphBoundaryRow.domain false) (Rows.subgraphBoundarySpec.post enc Try.prog Try.f4 false true false false) := by
  refine returnsInHanded_of_change_sized (C := Try.checked) own started (by kernel_rfl) Try.func4
    (ChangeSpec.witness6 (enc := enc) (C := Try.checked) false ⟨#[], #[.agg #[.slice none 0 0, .slice none 0 0], .int .u64 0], []⟩ 8 (by kernel_rfl) (by kernel_rfl) (by kernel_rfl) (by kernel_rfl)) ?_
  intro W base args ds gs before hval0 hW hcnd hsz0 _
  have hval : ∀ (j : Nat) t v, Try.f4.params[j]? = some t → args[j]? = some v → Value.okWide Try.prog W .any base t v := hval0
  have hW' := hW
  obtain ⟨p, q, hA0, hV, rfl, hfz, hnd⟩ := hW
  have hA : DataW.TrodAll enc Try.prog W 0 (fun _ => true) true Try.f4.params.toList args.toList ds p := hA0
  rw [Try.params4] at hA hval
  obtain ⟨v0, vs0, d0, ds0, p0, q0, hargs, rfl, rfl, h0, r0⟩ := trodAll_cons hA
  obtain ⟨v1, vs1, d1, ds1, p1, q1, rfl, rfl, rfl, h1, r1⟩ := trodAll_cons r0
  obtain ⟨rfl, rfl, rfl⟩ := trodAll_nil r1
  obtain rfl : args = #[v0, v1] := by cases args; simp_all
  obtain ⟨rfl, rfl⟩ := trodVars_none hV
  have k0 := h0
  have lt0 : ∀ x ∈ p0, x.block < W.heap.size := by obtain ⟨m, hm⟩ := k0; exact DataW.trod_lt m _ _ _ hm
  obtain ⟨A0a, c0a, l0a, A0b, c0b, l0b, rfl, ra0, ma0, rb0, mb0⟩ := open_graph (hval 0 25 v0 rfl rfl) h0
  obtain ⟨a1, rfl, rfl, rfl, w1⟩ := open_int Try.underlying28 (hval 1 28 v1 rfl rfl) h1
  clear hA0 hval0 hsz0
  refine (scarfjointlaw07_SubgraphBoundary.whole A0a c0a l0a A0b c0b l0b a1 W ra0 ma0 rb0 mb0).mono fun e W' ⟨he, bel⟩ => ?_
  subst he
  exact ⟨_, rfl, _, _, _, [], _, [], hW', trodAll_mk1 (shut_bool Try.underlying4 _), (trodAll_cons_mk (Below.trod laidOut (by kernel_rfl) (of_decide_eq_true (by kernel_rfl)) k0 bel lt0) (trodAll_cons_mk (shut_int Try.underlying28 w1) trodAll_mk0)), rfl, bel.frame _, fun h => by cases h⟩
theorem over : Rows.subgraphBoundaryRow.holds Try.pinned (OpenSpec.ofChange Rows.subgraphBoundarySpec) :=
  OpenClaim.holds_of_wide 4 Try.f4 rfl rfl rfl rfl rfl rfl rfl ⟨rfl, rfl, rfl, rfl, rfl⟩ rfl rfl rfl rfl rfl (by kernel_rfl) Try.func4 (by kernel_rfl)
    (of_decide_eq_true (by kernel_rfl)) (by unfold Func.isWrapper; first | (rw [if_pos (by decide +kernel)]; kernel_rfl) | (rw [if_neg (by decide +kernel)]; exact ⟨rfl, rfl⟩))
    (fun os started H enc _ => lifted os started H enc)
theorem proved : Rows.SubgraphBoundarySaid := over
#print axioms proved
end Go.Proofs.Ytonipihlpbaknaa.subgraphBoundary
namespace Go.Proofs.Ytonipihlpbaknaa
/-- The row, under a short name, for the claim. -/
theorem subgraphBoundary_holds : Rows.SubgraphBoundarySaid := subgraphBoundary.proved
end Go.Proofs.Ytonipihlpbaknaa

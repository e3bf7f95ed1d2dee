/- A part of the proof that the law returns true at every input; what the walked functions compute. -/
import Derived.Test.YtonipihlpbaknaaZVl0
import Derived.Test.YtonipihlpbaknaaZVl1
import Derived.Test.YtonipihlpbaknaaZVl2
import Derived.Test.YtonipihlpbaknaaZVl3
import Derived.Test.YtonipihlpbaknaaZVl4
import Derived.Test.YtonipihlpbaknaaZVl5
import Derived.Test.YtonipihlpbaknaaZVl6
import Derived.Test.YtonipihlpbaknaaZVl7
import Derived.Test.YtonipihlpbaknaaZVl8
namespace Go.Proofs.Ytonipihlpbaknaa.Print
set_option linter.unusedVariables false
set_option linter.unusedSimpArgs false
open Go.RowKit Go.Proofs.YtonipihlpbaknaaW.PrintWords Go.Proofs.YtonipihlpbaknaaW.PrintLast Go.Proofs.YtonipihlpbaknaaW.PrintMore
theorem index_l (l : List Int) (x : Int) (hl : l.Pairwise (· < ·)) (hn : l.length < 1000000) : ∀ (d k i : Nat), i + d = l.length → d < k → x ∈ l.drop i → (∀ m, (h : m < l.length) → m < i → l[m] < x) → scarfjointref07_index.l0 k l x i = some (lowB l x : Int) := by
  intro d
  induction d with
  | zero =>
    intro k i hi hk hx hb; rw [List.drop_of_length_le (by omega)] at hx
    simp at hx
  | succ d ih =>
    intro k i hi hk hx hb
    obtain ⟨k, rfl⟩ : ∃ m, k = m + 1 := ⟨k - 1, by omega⟩
    have hlt : i < l.length := by omega
    rw [scarfjointref07_index.l0, if_pos (by omega), if_pos (by omega), rd_get l i hlt]
    by_cases h : l[i] = x
    · rw [if_pos h, lowB_split (by omega) hb (fun m hm him => ?_)]
      rcases Nat.lt_or_ge i m with q | q
      · have := asc_get hl q hm
        omega
      · have : i = m := by omega
        subst this
        omega
    · rw [if_neg h, succ_ok i (by omega)]
      rw [List.drop_eq_getElem_cons hlt] at hx
      rcases List.mem_cons.1 hx with q | q
      · exact absurd q.symm h
      · refine ih k (i + 1) (by omega) (by omega) q (fun m hm hmi => ?_)
        rcases Nat.lt_or_ge m i with q1 | q1
        · exact hb m hm q1
        · have : m = i := by omega
          subst this; obtain ⟨j, hj, rfl⟩ := List.getElem_of_mem q; rw [List.getElem_drop]; rw [List.length_drop] at hj; exact asc_get hl (by omega) (by omega)
theorem index_ok (l : List Int) (x : Int) (hl : l.Pairwise (· < ·)) (hn : l.length < 1000000) (hx : x ∈ l) (k : Nat) (hk : l.length < k) : scarfjointref07_index.f k l x = some (lowB l x : Int) :=
  index_l l x hl hn l.length k 0 (by omega) hk (by simpa using hx) (fun m _ h => absurd h (by omega))
/-- The edge of a part's graph. -/
def cutE (l1 : List S78) (ns : List Int) (n : Int) : S78 := ⟨(rd_T78 l1 n).f0, (lowB ns (rd_T78 l1 n).f1 : Int), (lowB ns (rd_T78 l1 n).f2 : Int)⟩
section
variable (l0 : List Int) (l1 : List S78) (ns es : List Int)
theorem ext0 (hr : ∀ x ∈ ns, 0 ≤ x ∧ x < l0.length) (hn : ns.length < 1000000) : ∀ (d k i : Nat) (acc : List Int), i + d = ns.length → d < k → acc.length ≤ i →
    subgraph_Extract.l0 k ns ns.length i l0 l1 ns es acc = subgraph_Extract.l1 (k - d - 1) es es.length 0 l0 l1 ns es (acc ++ (ns.drop i).map (rd l0)) [] := by
  intro d
  induction d with
  | zero =>
    intro k i acc hi hk ha
    obtain ⟨k, rfl⟩ : ∃ m, k = m + 1 := ⟨k - 1, by omega⟩
    rw [subgraph_Extract.l0, if_neg (by omega), List.drop_of_length_le (by omega), List.map_nil, List.append_nil]
    rfl
  | succ d ih =>
    intro k i acc hi hk ha
    obtain ⟨k, rfl⟩ : ∃ m, k = m + 1 := ⟨k - 1, by omega⟩
    have hlt : i < ns.length := by omega
    have hx := hr _ (List.getElem_mem hlt)
    rw [subgraph_Extract.l0, if_pos (by omega), if_pos (by omega), if_pos (by omega), rd_get ns i hlt, if_pos hx.1, if_pos hx.2, if_pos (by omega), succ_ok i (by omega), List.drop_eq_getElem_cons hlt, List.map_cons,
      show k + 1 - (d + 1) - 1 = k - d - 1 by omega, ih k (i + 1) _ (by omega) (by omega) (by simp; omega), List.append_assoc]
    rfl
theorem ext1 (A : List Int) (hns : ns.Pairwise (· < ·)) (hr : ∀ x ∈ es, 0 ≤ x ∧ x < l1.length) (hn : ns.length ≤ 1000) (he : es.length ≤ 1000) : ∀ (d k i : Nat) (acc : List S78), i + d = es.length → d + ns.length < k → acc.length ≤ i →
    subgraph_Extract.l1 k es es.length i l0 l1 ns es A acc = some (A, acc ++ (es.drop i).map (cutE l1 ns), ns, es, 0) := by
  intro d
  induction d with
  | zero =>
    intro k i acc hi hk ha
    obtain ⟨k, rfl⟩ : ∃ m, k = m + 1 := ⟨k - 1, by omega⟩
    rw [subgraph_Extract.l1, if_neg (by omega), List.drop_of_length_le (by omega), List.map_nil, List.append_nil, clone_ok _ (by omega), Option.bind_some, clone_ok _ (by omega), Option.bind_some]
  | succ d ih =>
    intro k i acc hi hk ha
    obtain ⟨k, rfl⟩ : ∃ m, k = m + 1 := ⟨k - 1, by omega⟩
    have hlt : i < es.length := by omega
    have hx := hr _ (List.getElem_mem hlt)
    rw [subgraph_Extract.l1, if_pos (by omega), if_pos (by omega), if_pos (by omega), rd_get es i hlt, if_pos hx.1, if_pos hx.2, bs_ok ns _ hns (by omega) k (by omega), Option.bind_some, bs_ok ns _ hns (by omega) k (by omega), Option.bind_some,
      if_pos (by omega), succ_ok i (by omega), List.drop_eq_getElem_cons hlt, List.map_cons, ih k (i + 1) _ (by omega) (by omega) (by simp; omega), List.append_assoc]
    rfl
theorem rext0 (hr : ∀ x ∈ ns, 0 ≤ x ∧ x < l0.length) (hn : ns.length < 1000000) : ∀ (d k i : Nat) (acc : List Int), i + d = ns.length → d < k → acc.length ≤ i →
    scarfjointref07_Extract.l0 k i l0 l1 ns es acc = scarfjointref07_Extract.l1 (k - d - 1) 0 l0 l1 ns es (acc ++ (ns.drop i).map (rd l0)) [] := by
  intro d
  induction d with
  | zero =>
    intro k i acc hi hk ha
    obtain ⟨k, rfl⟩ : ∃ m, k = m + 1 := ⟨k - 1, by omega⟩
    rw [scarfjointref07_Extract.l0, if_neg (by omega), List.drop_of_length_le (by omega), List.map_nil, List.append_nil]
    rfl
  | succ d ih =>
    intro k i acc hi hk ha
    obtain ⟨k, rfl⟩ : ∃ m, k = m + 1 := ⟨k - 1, by omega⟩
    have hlt : i < ns.length := by omega
    have hx := hr _ (List.getElem_mem hlt)
    rw [scarfjointref07_Extract.l0, if_pos (by omega), if_pos (by omega), rd_get ns i hlt, if_pos hx.1, if_pos hx.2, if_pos (by omega), succ_ok i (by omega), List.drop_eq_getElem_cons hlt, List.map_cons,
      show k + 1 - (d + 1) - 1 = k - d - 1 by omega, ih k (i + 1) _ (by omega) (by omega) (by simp; omega), List.append_assoc]
    rfl
theorem rext1 (A : List Int) (hns : ns.Pairwise (· < ·)) (hr : ∀ x ∈ es, 0 ≤ x ∧ x < l1.length) (hc : ∀ x ∈ es, (rd_T78 l1 x).f1 ∈ ns ∧ (rd_T78 l1 x).f2 ∈ ns) (hn : ns.length < 1000000) (he : es.length < 1000000) : ∀ (d k i : Nat) (acc : List S78), i + d = es.length → d + ns.length < k → acc.length ≤ i →
    scarfjointref07_Extract.l1 k i l0 l1 ns es A acc = some (A, acc ++ (es.drop i).map (cutE l1 ns), ns, es, 0) := by
  intro d
  induction d with
  | zero =>
    intro k i acc hi hk ha
    obtain ⟨k, rfl⟩ : ∃ m, k = m + 1 := ⟨k - 1, by omega⟩
    rw [scarfjointref07_Extract.l1, if_neg (by omega), List.drop_of_length_le (by omega), List.map_nil, List.append_nil, Option.bind_some, if_pos (by simp; omega), Option.bind_some, if_pos (by simp; omega), List.nil_append, List.nil_append]
  | succ d ih =>
    intro k i acc hi hk ha
    obtain ⟨k, rfl⟩ : ∃ m, k = m + 1 := ⟨k - 1, by omega⟩
    have hlt : i < es.length := by omega
    have hx := hr _ (List.getElem_mem hlt); have hy := hc _ (List.getElem_mem hlt)
    rw [scarfjointref07_Extract.l1, if_pos (by omega), if_pos (by omega), rd_get es i hlt, if_pos hx.1, if_pos hx.2, index_ok ns _ hns hn hy.1 k (by omega), Option.bind_some, index_ok ns _ hns hn hy.2 k (by omega), Option.bind_some,
      if_pos (by omega), succ_ok i (by omega), List.drop_eq_getElem_cons hlt, List.map_cons, ih k (i + 1) _ (by omega) (by omega) (by simp; omega), List.append_assoc]
    rfl
theorem vald_ok (hn : ns.length < 1000000) (he : es.length < 1000000) (k : Nat) (hk : 3 * ns.length + 3 * es.length + 1 < k) : subgraph_Valid.f k l0 l1 ns es = some (valE l0 l1 ns es) := by
  rw [valid_ok l0 l1 ns es (by omega) (by omega) k hk]
  rfl
theorem rvald_ok (h0 : l0.length < 1000000) (h1 : l1.length < 1000000) (hn : ns.length < 1000000) (he : es.length < 1000000) (k : Nat) (hk : 3 * ns.length + 3 * es.length + 1 < k) (hk2 : l0.length + l1.length + 2 < k) : scarfjointref07_Valid.f k l0 l1 ns es = some (valE l0 l1 ns es) := by
  unfold scarfjointref07_Valid.f valE; rw [rvalid_ok l0 l1 k (by omega) (by omega) hk2, Option.bind_some]
  by_cases hv : validB l0 l1 = 0
  · rw [if_pos hv, if_pos hv, rright_ok l0 l1 ns es (by omega) (by omega) k hk, Option.bind_some]
  · rw [if_neg hv, if_neg hv]
theorem partE_facts (h : partE l0 l1 ns es = 0) : (∀ x ∈ ns, 0 ≤ x ∧ x < l0.length) ∧ ns.Pairwise (· < ·) ∧ (∀ x ∈ es, 0 ≤ x ∧ x < l1.length) ∧ es.Pairwise (· < ·) ∧ ∀ x ∈ es, (rd_T78 l1 x).f1 ∈ ns ∧ (rd_T78 l1 x).f2 ∈ ns := by
  obtain ⟨z1, z2, z3⟩ := partE_zero h; obtain ⟨n1, n2, _⟩ := listE_none z1; obtain ⟨e1, e2, _⟩ := listE_none z2
  refine ⟨n1, n2, e1, e2, fun x hx => ?_⟩
  have := List.all_eq_true.1 z3 x hx
  simpa only [endsIn, Bool.and_eq_true, decide_eq_true_eq] using this
/-- What both return. -/
def extR : List Int × List S78 × List Int × List Int × Int := if valE l0 l1 ns es = 0 then (ns.map (rd l0), es.map (cutE l1 ns), ns, es, 0) else ([], [], [], [], valE l0 l1 ns es)
theorem ext_ok (hn : ns.length ≤ 1000) (he : es.length ≤ 1000) (k : Nat) (hk : 10000 < k) : subgraph_Extract.f k l0 l1 ns es = some (extR l0 l1 ns es) := by
  unfold subgraph_Extract.f extR; rw [vald_ok l0 l1 ns es (by omega) (by omega) k (by omega), Option.bind_some]
  by_cases hv : valE l0 l1 ns es = 0
  · obtain ⟨f1, f2, f3, f4, f5⟩ := partE_facts l0 l1 ns es (valE_zero hv).2
    rw [if_pos hv, if_pos hv]; have e0 := ext0 l0 l1 ns es f1 (by omega) ns.length k 0 [] (by omega) (by omega) (by simp); rw [show ((0 : Nat) : Int) = 0 from rfl] at e0; have e1 := ext1 l0 l1 ns es (ns.map (rd l0)) f2 f3 (by omega) (by omega) es.length (k - ns.length - 1) 0 [] (by omega) (by omega) (by simp); rw [show ((0 : Nat) : Int) = 0 from rfl] at e1; rw [e0, List.drop_zero, List.nil_append, e1, List.drop_zero, List.nil_append]
  · rw [if_neg hv, if_neg hv]
theorem rext_ok (h0 : l0.length ≤ 1000) (h1 : l1.length ≤ 1000) (hn : ns.length ≤ 1000) (he : es.length ≤ 1000) (k : Nat) (hk : 10000 < k) : scarfjointref07_Extract.f k l0 l1 ns es = some (extR l0 l1 ns es) := by
  unfold scarfjointref07_Extract.f extR; rw [rvald_ok l0 l1 ns es (by omega) (by omega) (by omega) (by omega) k (by omega) (by omega), Option.bind_some]
  by_cases hv : valE l0 l1 ns es = 0
  · obtain ⟨f1, f2, f3, f4, f5⟩ := partE_facts l0 l1 ns es (valE_zero hv).2
    rw [if_pos hv, if_pos hv]; have e0 := rext0 l0 l1 ns es f1 (by omega) ns.length k 0 [] (by omega) (by omega) (by simp); rw [show ((0 : Nat) : Int) = 0 from rfl] at e0; have e1 := rext1 l0 l1 ns es (ns.map (rd l0)) f2 f3 f5 (by omega) (by omega) es.length (k - ns.length - 1) 0 [] (by omega) (by omega) (by simp); rw [show ((0 : Nat) : Int) = 0 from rfl] at e1; rw [e0, List.drop_zero, List.nil_append, e1, List.drop_zero, List.nil_append]
  · rw [if_neg hv, if_neg hv]
theorem rb_l (ho : EndsOk l0.length l1) (h0 : l0.length ≤ 1000) (h1 : l1.length ≤ 1000) (hn : ns.length ≤ 1000) (he : es.length ≤ 1000) : ∀ (d k i : Nat) (bs : List Bool), i + d = l1.length → d + 9000 < k → bs.length = l0.length →
  ∃ bs' : List Bool, scarfjointref07_Boundary.l0 k bs i l0 l1 ns es = some (bothUpto ns (markedL bs') l0.length, 0) ∧ bs'.length = l0.length ∧
   ∀ v : Nat, bs'.getD v false = true ↔ (bs.getD v false = true ∨ ∃ j, i ≤ j ∧ ∃ hj : j < l1.length, (j : Int) ∉ es ∧ (l1[j].f1 = v ∨ l1[j].f2 = v)) := by
 intro d
 induction d with
 | zero =>
  intro k i bs hi hk hb
  obtain ⟨k, rfl⟩ : ∃ m, k = m + 1 := ⟨k - 1, by omega⟩
  have hm := markedL_len bs
  refine ⟨bs, ?_, hb, fun v => ⟨Or.inl, ?_⟩⟩
  ·rw [scarfjointref07_Boundary.l0, if_neg (by omega), marked_ok bs k (by omega) (by omega), Option.bind_some, merged_ok _ _ _ (by omega) (by omega) (by omega) k (by omega), Option.bind_some]
  ·rintro (h | ⟨j, h1, h2, _⟩)
   ·exact h
   ·omega
 | succ d ih =>
  intro k i bs hi hk hb
  obtain ⟨k, rfl⟩ : ∃ m, k = m + 1 := ⟨k - 1, by omega⟩
  have hlt : i < l1.length := by omega
  rw [scarfjointref07_Boundary.l0, if_pos (by omega), rhas_ok es i k (by omega) (by omega), Option.bind_some]
  by_cases h : (i : Int) ∈ es
  ·obtain ⟨bs', q1, q2, q3⟩ := ih k (i + 1) bs (by omega) (by omega) hb
   rw [if_pos (decide_eq_true h), succ_ok i (by omega)]
   refine ⟨bs', q1, q2, fun v => ?_⟩
   rw [q3 v]
   constructor
   ·rintro (h4 | ⟨j, h4, h5, h6⟩)
    ·exact .inl h4
    ·exact .inr ⟨j, by omega, h5, h6⟩
   ·rintro (h4 | ⟨j, h4, h5, h6, h7⟩)
    ·exact .inl h4
    ·rcases Nat.lt_or_ge i j with h8 | h8
     ·exact .inr ⟨j, by omega, h5, h6, h7⟩
     ·have : i = j := by omega
      subst this; exact absurd h h6
  ·obtain ⟨f1, f2, f3, f4⟩ := ho _ (List.getElem_mem hlt)
   rw [if_neg (by simp [h]), if_pos (by omega), rdT_get l1 i hlt, if_pos f1, if_pos (by omega), if_pos f3, if_pos (by omega), succ_ok i (by omega)]; obtain ⟨bs', q1, q2, q3⟩ := ih k (i + 1) ((bs.set l1[i].f1.toNat true).set l1[i].f2.toNat true) (by omega) (by omega) (by simp [hb])
   refine ⟨bs', q1, q2, fun v => ?_⟩
   rw [q3 v, getD_set2 _ _ _ (by simp; omega), getD_set2 _ _ _ (by omega)]
   constructor
   ·rintro (((h4 | h4) | h4) | ⟨j, h4, h5, h6⟩)
    ·exact .inl h4
    ·exact .inr ⟨i, Nat.le_refl _, hlt, h, .inl (by omega)⟩
    ·exact .inr ⟨i, Nat.le_refl _, hlt, h, .inr (by omega)⟩
    ·exact .inr ⟨j, by omega, h5, h6⟩
   ·rintro (h4 | ⟨j, h4, h5, h6, h7⟩)
    ·exact .inl (.inl (.inl h4))
    ·rcases Nat.lt_or_ge i j with h8 | h8
     ·exact .inr ⟨j, by omega, h5, h6, h7⟩
     ·have : i = j := by omega
      subst this
      rcases h7 with h7 | h7
      ·exact .inl (.inl (.inr (by omega)))
      ·exact .inl (.inr (by omega))
theorem mem_outUpto {y : Int} : y ∈ outUpto l1 es l1.length ↔ ∃ x : Int, 0 ≤ x ∧ x < l1.length ∧ x ∉ es ∧ (y = (rd_T78 l1 x).f1 ∨ y = (rd_T78 l1 x).f2) := by
  unfold outUpto; rw [List.mem_flatMap]
  constructor
  · rintro ⟨j, h1, h2⟩
    have := List.mem_range.1 h1
    by_cases h : (j : Int) ∈ es
    · rw [if_pos h] at h2
      simp at h2
    · rw [if_neg h] at h2
      exact ⟨j, by omega, by omega, h, by simpa using h2⟩
  · rintro ⟨x, h1, h2, h3, h4⟩
    refine ⟨x.toNat, List.mem_range.2 (by omega), ?_⟩
    rw [Int.toNat_of_nonneg h1, if_neg h3]
    simpa using h4
theorem rbdry_ok (h0 : l0.length ≤ 1000) (h1 : l1.length ≤ 1000) (hn : ns.length ≤ 1000) (he : es.length ≤ 1000) (k : Nat) (hk : 11000 < k) : scarfjointref07_Boundary.f k l0 l1 ns es = some (if valE l0 l1 ns es = 0 then (bdryL l1 ns es, 0) else ([], valE l0 l1 ns es)) := by
  unfold scarfjointref07_Boundary.f; rw [rvald_ok l0 l1 ns es (by omega) (by omega) (by omega) (by omega) k (by omega) (by omega), Option.bind_some]
  by_cases hv : valE l0 l1 ns es = 0
  · obtain ⟨f1, f2, f3, f4, f5⟩ := partE_facts l0 l1 ns es (valE_zero hv).2
    have ho := ends_ok (valE_zero hv).1; rw [if_pos hv, if_pos hv, if_pos (by omega), if_pos (by omega), Int.toNat_natCast]; obtain ⟨bs', q1, q2, q3⟩ := rb_l l0 l1 ns es ho h0 h1 hn he l1.length k 0 (List.replicate l0.length false) (by omega) (by omega) (by simp); rw [show ((0 : Nat) : Int) = 0 from rfl] at q1; rw [q1]
    congr 2
    refine asc_ext (filtR_asc _ _) ((comp_asc _).filter _) fun x => ?_
    rw [show (x ∈ bothUpto ns (markedL bs') l0.length) = _ from propext mem_both]; unfold bdryL; rw [List.mem_filter, mem_comp, mem_outUpto]
    constructor
    · rintro ⟨x0, x1, x2, x3⟩
      obtain ⟨_, _, x4⟩ := mem_markedL.1 x3
      rcases (q3 _).1 x4 with x5 | ⟨j, _, hj, x6, x7⟩
      · rw [getD_repl] at x5
        exact absurd x5 (by simp)
      · have ej := rdT_get l1 j hj
        refine ⟨⟨j, by omega, by omega, x6, ?_⟩, by simpa using x2⟩
        rw [ej]
        rcases x7 with x7 | x7
        · exact .inl (by omega)
        · exact .inr (by omega)
    · rintro ⟨⟨j, j0, j1, j2, j3⟩, x2⟩
      have x2 : x ∈ ns := by simpa using x2
      obtain ⟨x0, x1⟩ := f1 x x2
      refine ⟨x0, x1, x2, mem_markedL.2 ⟨x0, by omega, (q3 _).2 (.inr ⟨j.toNat, Nat.zero_le _, by omega, by rw [Int.toNat_of_nonneg j0]; exact j2, ?_⟩)⟩⟩
      have ej := rdT_get l1 j.toNat (by omega); rw [Int.toNat_of_nonneg j0] at ej; rw [← ej]
      rcases j3 with j3 | j3
      · exact .inl (by omega)
      · exact .inr (by omega)
  · rw [if_neg hv, if_neg hv]
end
theorem same02_l (a : List Int) (hn : a.length < 1000000) : ∀ (d k i : Nat), i + d = a.length → d < k → scarfjointref02_SameInts.l0 k a a i = some true := by
  intro d
  induction d with
  | zero =>
    intro k i hi hk
    obtain ⟨k, rfl⟩ : ∃ m, k = m + 1 := ⟨k - 1, by omega⟩
    rw [scarfjointref02_SameInts.l0, if_neg (by omega)]
  | succ d ih =>
    intro k i hi hk
    obtain ⟨k, rfl⟩ : ∃ m, k = m + 1 := ⟨k - 1, by omega⟩
    rw [scarfjointref02_SameInts.l0, if_pos (by omega), if_pos (by omega), if_pos (by omega), if_pos rfl, succ_ok i (by omega)]; exact ih k (i + 1) (by omega) (by omega)
theorem same02_ok (a : List Int) (hn : a.length < 1000000) (k : Nat) (hk : a.length < k) : scarfjointref02_SameInts.f k a a = some true := by
  unfold scarfjointref02_SameInts.f; rw [if_pos rfl]; exact same02_l a hn a.length k 0 (by omega) hk
theorem equal_l (a : List Int) (hn : a.length < 1000000) : ∀ (d k i : Nat), i + d = a.length → d < k → slices_Equal_int_int.l0 k a a a.length i = some true := by
  intro d
  induction d with
  | zero =>
    intro k i hi hk
    obtain ⟨k, rfl⟩ : ∃ m, k = m + 1 := ⟨k - 1, by omega⟩
    rw [slices_Equal_int_int.l0, if_neg (by omega)]
  | succ d ih =>
    intro k i hi hk
    obtain ⟨k, rfl⟩ : ∃ m, k = m + 1 := ⟨k - 1, by omega⟩
    rw [slices_Equal_int_int.l0, if_pos (by omega), if_pos (by omega), if_pos (by omega), if_pos (by omega), if_pos rfl, succ_ok i (by omega)]; exact ih k (i + 1) (by omega) (by omega)
theorem equal_ok (a : List Int) (hn : a.length < 1000000) (k : Nat) (hk : a.length < k) : slices_Equal_int_int.f k a a = some true := by
  unfold slices_Equal_int_int.f; rw [if_pos rfl]; exact equal_l a hn a.length k 0 (by omega) hk
theorem same05_l (a : List Int) (b : List S78) (hn : b.length < 1000000) : ∀ (d k i : Nat), i + d = b.length → d < k → scarfjointref05_Same.l0 k i a b a b = some true := by
  intro d
  induction d with
  | zero =>
    intro k i hi hk
    obtain ⟨k, rfl⟩ : ∃ m, k = m + 1 := ⟨k - 1, by omega⟩
    rw [scarfjointref05_Same.l0, if_neg (by omega)]
  | succ d ih =>
    intro k i hi hk
    obtain ⟨k, rfl⟩ : ∃ m, k = m + 1 := ⟨k - 1, by omega⟩
    rw [scarfjointref05_Same.l0, if_pos (by omega), if_pos (by omega), if_pos (by omega), if_neg (by simp), succ_ok i (by omega)]; exact ih k (i + 1) (by omega) (by omega)
theorem same05_ok (a : List Int) (b : List S78) (ha : a.length < 1000000) (hn : b.length < 1000000) (k : Nat) (hk : a.length + b.length + 2 < k) : scarfjointref05_Same.f k a b a b = some true := by
  obtain ⟨k, rfl⟩ : ∃ m, k = m + 1 := ⟨k - 1, by omega⟩
  unfold scarfjointref05_Same.f; rw [sameI_ok a a _ (by omega) (by omega), Option.bind_some, if_pos (by simp), scarfjointref05_Same.j0, if_neg (by simp)]; exact same05_l a b hn b.length k 0 (by omega) (by omega)
theorem same06_ok (a b : List Int) (ha : a.length < 1000000) (hb : b.length < 1000000) (k : Nat) (hk : a.length + b.length < k) : scarfjointref06_Same.f k a b a b = some true := by
  unfold scarfjointref06_Same.f; rw [same02_ok a ha k (by omega), Option.bind_some, if_pos rfl, same02_ok b hb k (by omega), Option.bind_some]
end Go.Proofs.Ytonipihlpbaknaa.Print
namespace Go.Proofs.Ytonipihlpbaknaa.Print
open Go.RowKit Go.Proofs.YtonipihlpbaknaaW.PrintWords Go.Proofs.YtonipihlpbaknaaW.PrintLast Go.Proofs.YtonipihlpbaknaaW.PrintMore
theorem int_ne25 : ∀ q : Nat, q ∈ 3 :: (Kd.int .i64).E → q ≠ 25 := by decide
theorem int_ne51 : ∀ q : Nat, q ∈ 3 :: (Kd.int .i64).E → q ≠ 51 := by decide
theorem k78_ne25 : ∀ q : Nat, q ∈ 78 :: k78.E → q ≠ 25 := by decide
theorem k78_ne51 : ∀ q : Nat, q ∈ 78 :: k78.E → q ≠ 51 := by decide
/-- Short words for what the walks keep. -/
abbrev RI (w : World) (A : Option Addr) (c : Nat) (l : List Int) : Prop := Kd.R (Kd.int .i64) 3 w 0 (fun _ => True) (.slice A l.length c) l
abbrev RE (w : World) (A : Option Addr) (c : Nat) (l : List S78) : Prop := Kd.R k78 78 w 0 (fun _ => True) (.slice A l.length c) l
abbrev Bk (w : World) (x t : Nat) (u v : Value) : Prop := w.heap[x]? = some (.cells #[u, v] t (0, 0))
abbrev C2 (w : World) (x : Nat) (u v : Value) : Prop := w.cell? ⟨x, 0, none⟩ = some u ∧ w.cell? ⟨x, 1, none⟩ = some v
abbrev nl : Value := .slice none 0 0
/-- A slice of given elements: a new block. -/
theorem lit_event {P : Program} {ops : Array Oper} {rest : List Oper} {o : Oper} {a : Act} {Q : Exit → Act → World → Prop} {W : World} (hgd : o.guard = none) {N : Tmp} (_hd : o.dst = some N) {cs : Array Value} {t : TypeId} {m : Nat}
    (hrun : (execOp a.eval o).run P W = .ok (.value (.slice (some ⟨W.heap.size, 0, none⟩) m m)) (W.alloc (.cells cs t (0, 0))))
    (h : ∀ g, g = W.heap.size → ∀ w1, w1.heap[g]? = some (.cells cs t (0, 0)) → Below W.heap.size W w1 → wpList P ops Q rest (a.put o.dst (.slice (some ⟨g, 0, none⟩) m m)) w1) : wpList P ops Q (o :: rest) a W :=
  Kd.event_run hgd hrun (h _ rfl _ (blk_new W _) (below_alloc (Below.refl _ _) _))
/-- A row of one part, whose lists came in. -/
theorem part_row {w : World} {g : Nat} {A2 A3 : Option Addr} {c2 c3 : Nat} {l2 l3 : List Int} (hb : w.heap[g]? = some (.cells #[.slice A2 l2.length c2, .slice A3 l3.length c3] 27 (0, 0)))
    (R2 : Kd.C (Kd.int .i64) w A2 l2.length l2) (m2 : l2.length ≤ c2) (R3 : Kd.C (Kd.int .i64) w A3 l3.length l3) (m3 : l3.length ≤ c3) : Kd.C k27 w (some ⟨g, 0, none⟩) 1 [⟨l2, l3⟩] := by
  obtain ⟨h0, h1⟩ := cell2 hb
  refine ⟨rfl, by omega, fun _ => ⟨⟨g, 0, none⟩, rfl, fun j p hj => ?_⟩⟩
  match j, hj with
  | 0, hj =>
    obtain rfl : (⟨l2, l3⟩ : S27) = p := Option.some.inj hj
    refine ⟨[.slice A2 l2.length c2, .slice A3 l3.length c3], rfl, k27_mk w ⟨l2, l3⟩ m2 R2 m3 R3, fun i u hu => ?_⟩
    match i, hu with
    | 0, hu =>
      obtain rfl := Option.some.inj hu
      simpa [Addr.add] using h0
    | 1, hu =>
      obtain rfl := Option.some.inj hu
      simpa [Addr.add] using h1
    | i + 2, hu => exact absurd hu (by simp)
  | j + 1, hj => exact absurd hj (by simp)
end Go.Proofs.Ytonipihlpbaknaa.Print

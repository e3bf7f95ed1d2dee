/- A part of the proof that the law returns true at every input; what the walked functions compute. -/
import Derived.Shelf.SlSortCmp.Whole1
import Derived.Lib.Hide
import Derived.Test.YtonipihlpbaknaaZAd0
import Derived.Test.YtonipihlpbaknaaZAd1
import Derived.Test.YtonipihlpbaknaaZAd2
import Derived.Test.YtonipihlpbaknaaZAd3
import Derived.Test.YtonipihlpbaknaaZAd4
namespace Go.Proofs.Ytonipihlpbaknaa.Print
set_option linter.unusedVariables false
set_option linter.unusedSimpArgs false
open Go.RowKit Go.Proofs.YtonipihlpbaknaaW.PrintWords Go.Proofs.YtonipihlpbaknaaW.PrintLast Go.Proofs.YtonipihlpbaknaaW.PrintMore
/-- The ends of the edges below i that are not among some edges. -/
def outUpto (l1 : List S78) (es : List Int) (i : Nat) : List Int := (List.range i).flatMap fun (j : Nat) => if (j : Int) ∈ es then [] else [(rd_T78 l1 j).f1, (rd_T78 l1 j).f2]
def bdryL (l1 : List S78) (ns es : List Int) : List Int := (Lib.compact (sortI (outUpto l1 es l1.length))).filter fun x => decide (x ∈ ns)
def valE (l0 : List Int) (l1 : List S78) (ns es : List Int) : Int := if validB l0 l1 = 0 then partE l0 l1 ns es else validB l0 l1
theorem outUpto_succ (l1 : List S78) (es : List Int) (i : Nat) : outUpto l1 es (i + 1) = outUpto l1 es i ++ (if (i : Int) ∈ es then [] else [(rd_T78 l1 i).f1, (rd_T78 l1 i).f2]) := by
  unfold outUpto; rw [List.range_succ, List.flatMap_append]
  simp
theorem outUpto_len (l1 : List S78) (es : List Int) (i : Nat) : (outUpto l1 es i).length ≤ 2 * i := by
  induction i with
  | zero => simp [outUpto]
  | succ i ih =>
    rw [outUpto_succ, List.length_append]
    split <;> simp <;> omega
theorem validB_sizes (l0 : List Int) (l1 : List S78) (h : validB l0 l1 = 0) : l0.length ≤ 40 ∧ l1.length ≤ 80 := by
  unfold validB at h
  split at h
  · omega
  · split at h
    · omega
    · omega
theorem partE_zero {l0 : List Int} {l1 : List S78} {ns es : List Int} (h : partE l0 l1 ns es = 0) : listE l0.length none ns = 0 ∧ listE l1.length none es = 0 ∧ es.all (endsIn l1 ns) = true := by
  unfold partE at h
  by_cases h1 : listE l0.length none ns = 0
  · rw [if_pos h1] at h
    by_cases h2 : listE l1.length none es = 0
    · rw [if_pos h2] at h
      by_cases h3 : es.all (endsIn l1 ns) = true
      · exact ⟨h1, h2, h3⟩
      · rw [if_neg h3] at h
        omega
    · rw [if_neg h2] at h
      exact absurd h h2
  · rw [if_neg h1] at h
    exact absurd h h1
theorem valE_zero {l0 : List Int} {l1 : List S78} {ns es : List Int} (h : valE l0 l1 ns es = 0) : validB l0 l1 = 0 ∧ partE l0 l1 ns es = 0 := by
  unfold valE at h
  by_cases h1 : validB l0 l1 = 0
  · rw [if_pos h1] at h
    exact ⟨h1, h⟩
  · rw [if_neg h1] at h
    exact absurd h h1
theorem compact_le (l : List Int) : (Lib.compact (sortI l)).length ≤ l.length := compact_sortI_le l
theorem bdry_ends (l1 : List S78) (ns es : List Int) (hes : es.Pairwise (· < ·)) (hns : ascB ns = true) (hn : ns.length < 1000000) (he : es.length < 1000000) (hl : l1.length < 1000000) : ∀ (d k i : Nat), i ≤ l1.length → l1.length - i ≤ d → d + es.length < k →
    subgraph_Boundary.l0 (k + 1) (outUpto l1 es i) l1 l1.length i ns es = some (bdryL l1 ns es, 0) := by
  intro d
  induction d with
  | zero =>
    intro k i hi hd hk
    obtain rfl : i = l1.length := by omega
    simp only [subgraph_Boundary.l0]; have h1 := outUpto_len l1 es l1.length; have h2 := compact_le (outUpto l1 es l1.length); rw [if_neg (by omega), subgraph_sorted.f, if_pos (by omega)]; simp only [Option.bind_some]; rw [subgraph_common.f, if_pos ⟨by omega, by omega, hns⟩]
    rfl
  | succ d ih =>
    intro k i hi hd hk
    by_cases c : i < l1.length
    · obtain ⟨k, rfl⟩ : ∃ m, k = m + 1 := ⟨k - 1, by omega⟩
      have ih' := ih k (i + 1) (by omega) (by omega) (by omega); rw [outUpto_succ] at ih'; have h1 := outUpto_len l1 es i; simp only [subgraph_Boundary.l0]; rw [if_pos (by omega), if_pos (by omega), if_pos (by omega), has_ok es _ hes (by omega) _ (by omega)]; simp only [Option.bind_some]
      by_cases e : (i : Int) ∈ es
      · rw [if_pos (by simpa using e), succ_ok i (by omega)]
        rw [if_pos e, List.append_nil] at ih'; exact ih'
      · rw [if_neg (by simpa using e), if_pos (by simp; omega), succ_ok i (by omega)]
        rw [if_neg e] at ih'; exact ih'
    · exact ih k i hi (by omega) (by omega)
theorem bdry_ok (l0 : List Int) (l1 : List S78) (ns es : List Int) (hn : ns.length < 1000000) (he : es.length < 1000000) (k : Nat) (hk : 3 * ns.length + 3 * es.length + 200 < k) : subgraph_Boundary.f k l0 l1 ns es = some (if valE l0 l1 ns es = 0 then (bdryL l1 ns es, 0) else ([], valE l0 l1 ns es)) := by
  unfold subgraph_Boundary.f; rw [valid_ok l0 l1 ns es (by omega) (by omega) k (by omega)]; simp only [Option.bind_some]
  change (if valE l0 l1 ns es = 0 then _ else _) = _
  by_cases e : valE l0 l1 ns es = 0
  · rw [if_pos e, if_pos e]
    obtain ⟨h1, h2⟩ := valE_zero e; obtain ⟨h3, h4, h5⟩ := partE_zero h2; have hz := validB_sizes l0 l1 h1
    obtain ⟨k, rfl⟩ : ∃ m, k = m + 1 := ⟨k - 1, by omega⟩
    have := bdry_ends l1 ns es (listE_none h4).2.1 (decide_eq_true (listE_none h3).2.1) hn he (by omega) l1.length k 0 (Nat.zero_le _) (by omega) (by omega)
    simpa [outUpto] using this
  · rw [if_neg e, if_neg e]
    rfl
end Go.Proofs.Ytonipihlpbaknaa.Print
namespace Go.Proofs.Ytonipihlpbaknaa.Print
set_option linter.unusedVariables false
set_option linter.unusedSimpArgs false
open Go.RowKit Go.Proofs.YtonipihlpbaknaaW.PrintWords Go.Proofs.YtonipihlpbaknaaW.PrintLast Go.Proofs.YtonipihlpbaknaaW.PrintMore
theorem rdT_get (l : List S78) (i : Nat) (h : i < l.length) : rd_T78 l (i : Int) = l[i] := by simp [rd_T78, List.getD_eq_getElem?_getD, h]
theorem kind_ok (a : Int) : scarfjointref05_kind.f a = some (withinB a 99) := by
  unfold scarfjointref05_kind.f withinB
  by_cases h : a ≥ 0
  · rw [if_pos h]
    simp [h]
  · rw [if_neg h]
    simp; omega
theorem right_ok (e : S78) (n : Int) : scarfjointref05_right.f e.f0 e.f1 e.f2 n = some (fitsB e n) := by
  unfold scarfjointref05_right.f fitsB; rw [kind_ok, Option.bind_some]
  by_cases h0 : withinB e.f0 99 = true
  · rw [if_pos h0, h0]
    by_cases h1 : e.f1 ≥ 0
    · rw [if_pos h1]
      by_cases h2 : e.f1 < n
      · rw [if_pos h2]
        by_cases h3 : e.f2 ≥ 0
        · rw [if_pos h3]
          simp only [withinB, Bool.true_and, Option.some.injEq]; rw [decide_eq_true (show 0 ≤ e.f1 ∧ e.f1 ≤ n - 1 by omega), Bool.true_and]
          by_cases h4 : e.f2 < n
          · rw [decide_eq_true h4, decide_eq_true (by omega)]
          · rw [decide_eq_false h4, decide_eq_false (by omega)]
        · rw [if_neg h3]
          simp only [withinB, Bool.true_and, Option.some.injEq]; rw [decide_eq_false (show ¬(0 ≤ e.f2 ∧ e.f2 ≤ n - 1) by omega), Bool.and_false]
      · rw [if_neg h2]
        simp only [withinB, Bool.true_and, Option.some.injEq]; rw [decide_eq_false (show ¬(0 ≤ e.f1 ∧ e.f1 ≤ n - 1) by omega), Bool.false_and]
    · rw [if_neg h1]
      simp only [withinB, Bool.true_and, Option.some.injEq]; rw [decide_eq_false (show ¬(0 ≤ e.f1 ∧ e.f1 ≤ n - 1) by omega), Bool.false_and]
  · rw [if_neg h0]
    simp only [Bool.not_eq_true] at h0; rw [h0]
    rfl
theorem rvalid1 (l0 : List Int) (l1 : List S78) (hn : l1.length < 9223372036854775807) : ∀ (d k i : Nat), i + d = l1.length → d < k → scarfjointref05_Valid.l1 k i l0 l1 = some (if (l1.drop i).any (fun e => !fitsB e l0.length) then 6 else 0) := by
  intro d
  induction d with
  | zero =>
    intro k i hi hk
    obtain ⟨k, rfl⟩ : ∃ m, k = m + 1 := ⟨k - 1, by omega⟩
    rw [scarfjointref05_Valid.l1, if_neg (by omega), List.drop_of_length_le (by omega)]
    simp
  | succ d ih =>
    intro k i hi hk
    obtain ⟨k, rfl⟩ : ∃ m, k = m + 1 := ⟨k - 1, by omega⟩
    have hlt : i < l1.length := by omega
    rw [scarfjointref05_Valid.l1, if_pos (by omega), if_pos (by omega), rdT_get l1 i hlt, right_ok, Option.bind_some, List.drop_eq_getElem_cons hlt]
    by_cases h : fitsB l1[i] l0.length = true
    · rw [if_pos h, succ_ok i (by omega), ih k (i + 1) (by omega) (by omega)]
      generalize l1.drop (i + 1) = t1
      simp [h]
    · rw [if_neg h]
      generalize l1.drop (i + 1) = t1
      simp [h]
theorem rvalid0 (l0 : List Int) (l1 : List S78) (hn0 : l0.length < 9223372036854775807) (hn : l1.length < 9223372036854775807) : ∀ (d k i : Nat), i + d = l0.length → d + l1.length + 1 < k →
    scarfjointref05_Valid.l0 k i l0 l1 = some (if (l0.drop i).any (fun t => !withinB t 99) then 6 else if l1.any (fun e => !fitsB e l0.length) then 6 else 0) := by
  intro d
  induction d with
  | zero =>
    intro k i hi hk
    obtain ⟨k, rfl⟩ : ∃ m, k = m + 1 := ⟨k - 1, by omega⟩
    have h1 := rvalid1 l0 l1 hn l1.length k 0 (by omega) (by omega); rw [scarfjointref05_Valid.l0, if_neg (by omega), List.drop_of_length_le (by omega)]
    simpa using h1
  | succ d ih =>
    intro k i hi hk
    obtain ⟨k, rfl⟩ : ∃ m, k = m + 1 := ⟨k - 1, by omega⟩
    have hlt : i < l0.length := by omega
    rw [scarfjointref05_Valid.l0, if_pos (by omega), if_pos (by omega), rd_get l0 i hlt, kind_ok, Option.bind_some, List.drop_eq_getElem_cons hlt]
    by_cases h : withinB l0[i] 99 = true
    · rw [if_pos h, succ_ok i (by omega), ih k (i + 1) (by omega) (by omega)]
      generalize l0.drop (i + 1) = t1
      simp [h]
    · rw [if_neg h]
      generalize l0.drop (i + 1) = t1
      simp [h]
theorem rvalid_ok (l0 : List Int) (l1 : List S78) (k : Nat) (hn0 : l0.length < 9223372036854775807) (hn : l1.length < 9223372036854775807) (hk : l0.length + l1.length + 2 < k) : scarfjointref05_Valid.f k l0 l1 = some (validB l0 l1) := by
  obtain ⟨k, rfl⟩ : ∃ m, k = m + 1 := ⟨k - 1, by omega⟩
  have h0 := rvalid0 l0 l1 hn0 hn l0.length k 0 (by omega) (by omega); unfold scarfjointref05_Valid.f validB
  by_cases h1 : 40 < l0.length
  · rw [if_pos (by omega), if_pos h1, scarfjointref05_Valid.j0, if_pos rfl]
  · rw [if_neg (by omega), if_neg h1, scarfjointref05_Valid.j0]
    by_cases h2 : 80 < l1.length
    · rw [if_pos h2, if_pos (by simp; omega)]
    · rw [if_neg h2, if_neg (by simp; omega)]
      simpa using h0
theorem fits_of {l0 : List Int} {l1 : List S78} (h : validB l0 l1 = 0) (j : Nat) (hj : j < l1.length) : 0 ≤ l1[j].f1 ∧ l1[j].f1 < l0.length ∧ 0 ≤ l1[j].f2 ∧ l1[j].f2 < l0.length := by
  unfold validB at h
  split at h
  · omega
  · split at h
    · omega
    · split at h
      · omega
      · split at h
        · omega
        · rename_i h4
          simp only [List.any_eq_true, not_exists, not_and, Bool.not_eq_true, Bool.not_eq_false'] at h4; have h5 := h4 l1[j] (List.getElem_mem hj)
          simp [fitsB, withinB] at h5
          omega
theorem getD_set2 (bs : List Bool) (a v : Nat) (ha : a < bs.length) : (bs.set a true).getD v false = true ↔ (bs.getD v false = true ∨ a = v) := by
  simp only [List.getD_eq_getElem?_getD, List.getElem?_set]
  by_cases h : a = v
  · subst h
    simp [ha]
  · simp [h]
theorem least_l (l0 : List Int) (l1 : List S78) (x2 : List Bool) (hx : x2.length = l1.length) (hn : l1.length < 17592186044416) (hn0 : l0.length < 17592186044416)
  (hf : ∀ j, (hj : j < l1.length) → 0 ≤ l1[j].f1 ∧ l1[j].f1 < l0.length ∧ 0 ≤ l1[j].f2 ∧ l1[j].f2 < l0.length) : ∀ (d k i : Nat) (bs : List Bool), i + d = x2.length → d + l0.length + l1.length + 1 < k → bs.length = l0.length →
  ∃ bs' : List Bool, scarfjointref07_Least.l0 k x2 bs i l0 l1 = some (markedL bs', markedL x2) ∧ bs'.length = bs.length ∧
   ∀ v : Nat, bs'.getD v false = true ↔ (bs.getD v false = true ∨ ∃ j, i ≤ j ∧ ∃ hj : j < l1.length, x2.getD j false = true ∧ (l1[j].f1 = v ∨ l1[j].f2 = v)) := by
 intro d
 induction d with
 | zero =>
  intro k i bs hi hk hb
  obtain ⟨k, rfl⟩ : ∃ m, k = m + 1 := ⟨k - 1, by omega⟩
  refine ⟨bs, ?_, rfl, fun v => ⟨Or.inl, ?_⟩⟩
  ·rw [scarfjointref07_Least.l0, if_neg (by omega), marked_ok bs k (by omega) (by omega), Option.bind_some, marked_ok x2 k (by omega) (by omega), Option.bind_some]
  ·rintro (h | ⟨j, h1, h2, _⟩)
   ·exact h
   ·omega
 | succ d ih =>
  intro k i bs hi hk hb
  obtain ⟨k, rfl⟩ : ∃ m, k = m + 1 := ⟨k - 1, by omega⟩
  have hlt : i < l1.length := by omega
  have e : rdOf false x2 (i : Int) = x2.getD i false := by simp [rdOf]
  rw [scarfjointref07_Least.l0, if_pos (by omega), if_pos (by omega), e]
  by_cases h : x2.getD i false = true
  ·obtain ⟨f1, f2, f3, f4⟩ := hf i hlt
   rw [if_pos h, if_pos (by omega), rdT_get l1 i hlt, if_pos f1, if_pos (by omega), if_pos f3, if_pos (by omega), succ_ok i (by omega)]; obtain ⟨bs', h1, h2, h3⟩ := ih k (i + 1) ((bs.set l1[i].f1.toNat true).set l1[i].f2.toNat true) (by omega) (by omega) (by simp [hb])
   refine ⟨bs', h1, by rw [h2]; simp, fun v => ?_⟩
   rw [h3 v, getD_set2 _ _ _ (by simp; omega), getD_set2 _ _ _ (by omega)]
   constructor
   ·rintro (((h4 | h4) | h4) | ⟨j, h4, h5, h6⟩)
    ·exact .inl h4
    ·exact .inr ⟨i, Nat.le_refl _, hlt, h, .inl (by omega)⟩
    ·exact .inr ⟨i, Nat.le_refl _, hlt, h, .inr (by omega)⟩
    ·exact .inr ⟨j, by omega, h5, h6⟩
   ·rintro (h4 | ⟨j, h4, h5, h6, h7⟩)
    ·exact .inl (.inl (.inl h4))
    ·rcases Nat.lt_or_ge i j with h8 | h8
     ·exact .inr ⟨j, by omega, h5, h6, h7⟩
     ·have : i = j := by omega
      subst this
      rcases h7 with h7 | h7
      ·exact .inl (.inl (.inr (by omega)))
      ·exact .inl (.inr (by omega))
  ·rw [if_neg h, succ_ok i (by omega)]
   obtain ⟨bs', h1, h2, h3⟩ := ih k (i + 1) bs (by omega) (by omega) hb
   refine ⟨bs', h1, h2, fun v => ?_⟩
   rw [h3 v]
   constructor
   ·rintro (h4 | ⟨j, h4, h5, h6⟩)
    ·exact .inl h4
    ·exact .inr ⟨j, by omega, h5, h6⟩
   ·rintro (h4 | ⟨j, h4, h5, h6, h7⟩)
    ·exact .inl h4
    ·rcases Nat.lt_or_ge i j with h8 | h8
     ·exact .inr ⟨j, by omega, h5, h6, h7⟩
     ·have : i = j := by omega
      subst this; exact absurd h6 h
theorem least_ok (l0 : List Int) (l1 : List S78) (ns es : List Bool) (k : Nat) (he : es.length = l1.length) (hs : ns.length = l0.length) (hn : l1.length < 17592186044416) (hn0 : l0.length < 17592186044416)
    (hf : ∀ j, (hj : j < l1.length) → 0 ≤ l1[j].f1 ∧ l1[j].f1 < l0.length ∧ 0 ≤ l1[j].f2 ∧ l1[j].f2 < l0.length) (hk : l0.length + 2 * l1.length + 1 < k) :
    ∃ bs' : List Bool, scarfjointref07_Least.f k l0 l1 ns es = some (markedL bs', markedL es) ∧ bs'.length = l0.length ∧
      ∀ v : Nat, bs'.getD v false = true ↔ (ns.getD v false = true ∨ ∃ j, ∃ hj : j < l1.length, es.getD j false = true ∧ (l1[j].f1 = v ∨ l1[j].f2 = v)) := by
  obtain ⟨bs', h1, h2, h3⟩ := least_l l0 l1 es he hn hn0 hf es.length k 0 ns (by omega) (by omega) hs
  refine ⟨bs', ?_, by omega, fun v => ?_⟩
  · unfold scarfjointref07_Least.f
    rw [Option.bind_some, if_pos (by simp; omega)]; exact h1
  · rw [h3 v]
    simp
end Go.Proofs.Ytonipihlpbaknaa.Print
namespace Go.Proofs.Ytonipihlpbaknaa.Print
set_option linter.unusedVariables false
set_option linter.unusedSimpArgs false
open Go.RowKit Go.Proofs.YtonipihlpbaknaaW.PrintWords Go.Proofs.YtonipihlpbaknaaW.PrintLast Go.Proofs.YtonipihlpbaknaaW.PrintMore
theorem tmod_nn (a : Nat) : 0 ≤ Int.tmod (a : Int) 64 := Int.tmod_nonneg _ (by omega)
theorem mk1 (l0 : List Int) (l1 : List S78) (a : Int) (x5 : List Bool) (hx5 : x5.length = l0.length) (hn0 : l0.length ≤ 1000) (hn : l1.length ≤ 1000)
    (hf : ∀ j, (hj : j < l1.length) → 0 ≤ l1[j].f1 ∧ l1[j].f1 < l0.length ∧ 0 ≤ l1[j].f2 ∧ l1[j].f2 < l0.length) : ∀ (d k i : Nat) (x6 : List Bool), i + d = l1.length → d + l0.length + 2 * l1.length + 2 < k → x6.length = l1.length →
    ∃ bs' es' : List Bool, scarfjointref07_Made.l1 k a x5 x6 i l0 l1 = some (markedL bs', markedL es') ∧ bs'.length = l0.length ∧ es'.length = l1.length ∧
      (∀ v : Nat, bs'.getD v false = true ↔ (x5.getD v false = true ∨ ∃ j, ∃ hj : j < l1.length, es'.getD j false = true ∧ (l1[j].f1 = v ∨ l1[j].f2 = v))) := by
  intro d
  induction d with
  | zero =>
    intro k i x6 hi hk hx
    obtain ⟨k, rfl⟩ : ∃ m, k = m + 1 := ⟨k - 1, by omega⟩
    obtain ⟨bs', h1, h2, h3⟩ := least_ok l0 l1 x5 x6 k hx hx5 (by omega) (by omega) hf (by omega)
    refine ⟨bs', x6, ?_, h2, hx, h3⟩
    rw [scarfjointref07_Made.l1, if_neg (by omega), h1, Option.bind_some]
  | succ d ih =>
    intro k i x6 hi hk hx
    obtain ⟨k, rfl⟩ : ∃ m, k = m + 1 := ⟨k - 1, by omega⟩
    have e : wrap64 ((x5.length : Int) + i) = ((x5.length + i : Nat) : Int) := by unfold wrap64; omega
    rw [scarfjointref07_Made.l1, if_pos (by omega), e, if_pos (tmod_nn _), if_pos (by omega), succ_ok i (by omega)]; exact ih k (i + 1) _ (by omega) (by omega) (by simp [hx])
theorem mk0 (l0 : List Int) (l1 : List S78) (a : Int) (x6 : List Bool) (hx6 : x6.length = l1.length) (hn0 : l0.length ≤ 1000) (hn : l1.length ≤ 1000)
    (hf : ∀ j, (hj : j < l1.length) → 0 ≤ l1[j].f1 ∧ l1[j].f1 < l0.length ∧ 0 ≤ l1[j].f2 ∧ l1[j].f2 < l0.length) : ∀ (d k i : Nat) (x5 : List Bool), i + d = l0.length → d + l0.length + 3 * l1.length + 3 < k → x5.length = l0.length →
    ∃ bs' es' : List Bool, scarfjointref07_Made.l0 k a x5 x6 i l0 l1 = some (markedL bs', markedL es') ∧ bs'.length = l0.length ∧ es'.length = l1.length ∧
      (∀ j, (hj : j < l1.length) → es'.getD j false = true → bs'.getD l1[j].f1.toNat false = true ∧ bs'.getD l1[j].f2.toNat false = true) := by
  intro d
  induction d with
  | zero =>
    intro k i x5 hi hk hx
    obtain ⟨k, rfl⟩ : ∃ m, k = m + 1 := ⟨k - 1, by omega⟩
    obtain ⟨bs', es', h1, h2, h3, h4⟩ := mk1 l0 l1 a x5 hx hn0 hn hf l1.length k 0 x6 (by omega) (by omega) hx6
    refine ⟨bs', es', ?_, h2, h3, fun j hj h => ⟨(h4 _).2 (.inr ⟨j, hj, h, .inl ?_⟩), (h4 _).2 (.inr ⟨j, hj, h, .inr ?_⟩)⟩⟩
    · rw [scarfjointref07_Made.l0, if_neg (by omega)]
      exact h1
    · have := hf j hj
      omega
    · have := hf j hj
      omega
  | succ d ih =>
    intro k i x5 hi hk hx
    obtain ⟨k, rfl⟩ : ∃ m, k = m + 1 := ⟨k - 1, by omega⟩
    rw [scarfjointref07_Made.l0, if_pos (by omega), if_pos (tmod_nn _), if_pos (by omega), succ_ok i (by omega)]; exact ih k (i + 1) _ (by omega) (by omega) (by simp [hx])
theorem made_ok (l0 : List Int) (l1 : List S78) (a : Int) (k : Nat) (hv : validB l0 l1 = 0) (hk : 1000 < k) :
    ∃ bs' es' : List Bool, scarfjointref07_Made.f k l0 l1 a = some (markedL bs', markedL es') ∧ bs'.length = l0.length ∧ es'.length = l1.length ∧
      (∀ j, (hj : j < l1.length) → es'.getD j false = true → bs'.getD l1[j].f1.toNat false = true ∧ bs'.getD l1[j].f2.toNat false = true) := by
  obtain ⟨hs0, hs1⟩ := validB_sizes l0 l1 hv; obtain ⟨bs', es', h1, h2⟩ := mk0 l0 l1 a (List.replicate l1.length false) (by simp) (by omega) (by omega) (fits_of hv) l0.length k 0 (List.replicate l0.length false) (by omega) (by omega) (by simp)
  refine ⟨bs', es', ?_, h2⟩
  unfold scarfjointref07_Made.f; rw [if_pos (by omega), if_pos (by omega), if_pos (by omega), if_pos (by omega)]; exact h1
end Go.Proofs.Ytonipihlpbaknaa.Print
namespace Go.Proofs.Ytonipihlpbaknaa.Print
set_option linter.unusedVariables false
set_option linter.unusedSimpArgs false
open Go.RowKit Go.Proofs.YtonipihlpbaknaaW.PrintWords Go.Proofs.YtonipihlpbaknaaW.PrintLast Go.Proofs.YtonipihlpbaknaaW.PrintMore
/-- The edges' ends are nodes. -/
def EndsOk (n : Nat) (l1 : List S78) : Prop := ∀ e ∈ l1, 0 ≤ e.f1 ∧ e.f1 < n ∧ 0 ≤ e.f2 ∧ e.f2 < n
end Go.Proofs.Ytonipihlpbaknaa.Print
namespace Go.Proofs.Ytonipihlpbaknaa.Print
open Go.RowKit Go.Proofs.YtonipihlpbaknaaW.PrintWords Go.Proofs.YtonipihlpbaknaaW.PrintLast Go.Proofs.YtonipihlpbaknaaW.PrintMore
attribute [local go_sem] max2_int min2_int max_two min_two max_three min_three max_four min_four   -- for this text's walks alone
set_option linter.unusedVariables false
set_option linter.unusedSimpArgs false
def cmp_Compare_int.f (a0 : Int) (a1 : Int) : Option (Int) := (cmp_isNaN_int.f a0).bind fun t101 => ((cmp_isNaN_int.f a1).bind fun t102 => (if t101 = true then (if t102 = true then (some 0) else (some (-1))) else (if t102 = true then (some 1) else (if a0 < a1 then (some (-1)) else (if a0 > a1 then (some 1) else (some 0))))))
set_option maxHeartbeats 8000000 in
set_option maxRecDepth 100000 in
theorem cmp_Compare_int.calls (a0 : Int) (a1 : Int) (r : Int) (w : World) (h : cmp_Compare_int.f a0 a1 = some r) :
  Calls Try.prog 100 #[.int .i64 a0, .int .i64 a1] w fun e w' => e = .returned (.int .i64 r) ∧ Drawn0 w w' := by
 have H : ((cmp_isNaN_int.f a0).bind fun t101 => ((cmp_isNaN_int.f a1).bind fun t102 => (if t101 = true then (if t102 = true then (some 0) else (some (-1))) else (if t102 = true then (some 1) else (if a0 < a1 then (some (-1)) else (if a0 > a1 then (some 1) else (some 0))))))) = some r := h; clear h; replace H := Option.bind_eq_some_iff.mp H; obtain ⟨t101, A30, H⟩ := H; replace H : ((cmp_isNaN_int.f a1).bind fun t102 => (if t101 = true then (if t102 = true then (some 0) else (some (-1))) else (if t102 = true then (some 1) else (if a0 < a1 then (some (-1)) else (if a0 > a1 then (some 1) else (some 0)))))) = some r := H; have A3 := Aside0.mk A30; clear A30; replace H := Option.bind_eq_some_iff.mp H; obtain ⟨t102, A40, H⟩ := H; replace H : (if t101 = true then (if t102 = true then (some 0) else (some (-1))) else (if t102 = true then (some 1) else (if a0 < a1 then (some (-1)) else (if a0 > a1 then (some 1) else (some 0))))) = some r := H; have A4 := Aside0.mk A40; clear A40
 by_cases c5 : t101 = true
 ·subst c5
  have H1 : (if t102 = true then (some 0) else (some (-1))) = some r := by rw [if_pos rfl] at H; exact H
  clear H; have H := H1; clear H1
  by_cases c6 : t102 = true
  ·subst c6
   have H1 : (some 0) = some r := by rw [if_pos rfl] at H; exact H
   clear H; have H := H1; clear H1; obtain rfl := Option.some.inj H
   go_enter Try.func100, Try.ntmps100
   go_wp2_with (first | ((with_reducible refine gate_callee (f := 112) rfl ?_); refine goesL_ (some 8) rfl rfl Try.func112 (by kernel_rfl) rfl #[.int .i64 a0] rfl (by (try simp only [List.map_toArray, List.map_cons, List.map_nil]); first | done | rfl | (simp only [List.length_drop, List.length_take]; rfl)) ?_; (with_reducible refine (cmp_isNaN_int.calls a0 true _ A3.out).mono ?_); rintro e w' ⟨rfl, ⟨nd, rfl⟩⟩; refine ⟨_, rfl, ?_⟩) | ((with_reducible refine gate_callee (f := 112) rfl ?_); refine goesL_ (some 10) rfl rfl Try.func112 (by kernel_rfl) rfl #[.int .i64 a1] rfl (by (try simp only [List.map_toArray, List.map_cons, List.map_nil]); first | done | rfl | (simp only [List.length_drop, List.length_take]; rfl)) ?_; (with_reducible refine (cmp_isNaN_int.calls a1 true _ A4.out).mono ?_); rintro e w' ⟨rfl, ⟨nd, rfl⟩⟩; refine ⟨_, rfl, ?_⟩))
   go_ret
   exact ⟨by first | rfl | (simp; done) | (simp [*]; done), by repeat (first | exact Drawn0.refl _ | apply Drawn0.step)⟩
  ·replace c6 := Bool.eq_false_iff.mpr c6
   subst c6
   have H1 : (some (-1)) = some r := by rw [if_neg (show ¬ (false = true) by decide)] at H; exact H
   clear H; have H := H1; clear H1; obtain rfl := Option.some.inj H
   go_enter Try.func100, Try.ntmps100
   go_wp2_with (first | ((with_reducible refine gate_callee (f := 112) rfl ?_); refine goesL_ (some 8) rfl rfl Try.func112 (by kernel_rfl) rfl #[.int .i64 a0] rfl (by (try simp only [List.map_toArray, List.map_cons, List.map_nil]); first | done | rfl | (simp only [List.length_drop, List.length_take]; rfl)) ?_; (with_reducible refine (cmp_isNaN_int.calls a0 true _ A3.out).mono ?_); rintro e w' ⟨rfl, ⟨nd, rfl⟩⟩; refine ⟨_, rfl, ?_⟩) | ((with_reducible refine gate_callee (f := 112) rfl ?_); refine goesL_ (some 10) rfl rfl Try.func112 (by kernel_rfl) rfl #[.int .i64 a1] rfl (by (try simp only [List.map_toArray, List.map_cons, List.map_nil]); first | done | rfl | (simp only [List.length_drop, List.length_take]; rfl)) ?_; (with_reducible refine (cmp_isNaN_int.calls a1 false _ A4.out).mono ?_); rintro e w' ⟨rfl, ⟨nd, rfl⟩⟩; refine ⟨_, rfl, ?_⟩))
   go_ret
   exact ⟨by first | rfl | (simp; done) | (simp [*]; done), by repeat (first | exact Drawn0.refl _ | apply Drawn0.step)⟩
 ·replace c5 := Bool.eq_false_iff.mpr c5
  subst c5
  have H1 : (if t102 = true then (some 1) else (if a0 < a1 then (some (-1)) else (if a0 > a1 then (some 1) else (some 0)))) = some r := by rw [if_neg (show ¬ (false = true) by decide)] at H; exact H
  clear H; have H := H1; clear H1
  by_cases c7 : t102 = true
  ·subst c7
   have H1 : (some 1) = some r := by rw [if_pos rfl] at H; exact H
   clear H; have H := H1; clear H1; obtain rfl := Option.some.inj H
   go_enter Try.func100, Try.ntmps100
   go_wp2_with (first | ((with_reducible refine gate_callee (f := 112) rfl ?_); refine goesL_ (some 8) rfl rfl Try.func112 (by kernel_rfl) rfl #[.int .i64 a0] rfl (by (try simp only [List.map_toArray, List.map_cons, List.map_nil]); first | done | rfl | (simp only [List.length_drop, List.length_take]; rfl)) ?_; (with_reducible refine (cmp_isNaN_int.calls a0 false _ A3.out).mono ?_); rintro e w' ⟨rfl, ⟨nd, rfl⟩⟩; refine ⟨_, rfl, ?_⟩) | ((with_reducible refine gate_callee (f := 112) rfl ?_); refine goesL_ (some 10) rfl rfl Try.func112 (by kernel_rfl) rfl #[.int .i64 a1] rfl (by (try simp only [List.map_toArray, List.map_cons, List.map_nil]); first | done | rfl | (simp only [List.length_drop, List.length_take]; rfl)) ?_; (with_reducible refine (cmp_isNaN_int.calls a1 true _ A4.out).mono ?_); rintro e w' ⟨rfl, ⟨nd, rfl⟩⟩; refine ⟨_, rfl, ?_⟩))
   go_ret
   exact ⟨by first | rfl | (simp; done) | (simp [*]; done), by repeat (first | exact Drawn0.refl _ | apply Drawn0.step)⟩
  ·replace c7 := Bool.eq_false_iff.mpr c7
   subst c7
   have H1 : (if a0 < a1 then (some (-1)) else (if a0 > a1 then (some 1) else (some 0))) = some r := by rw [if_neg (show ¬ (false = true) by decide)] at H; exact H
   clear H; have H := H1; clear H1
   by_cases c8 : a0 < a1
   ·rw [if_pos c8] at H
    have c8b0 : decide (a0 < a1) = true := decide_eq_true c8; clear c8; obtain rfl := Option.some.inj H
    go_enter Try.func100, Try.ntmps100
    go_wp2_with (first | ((with_reducible refine gate_callee (f := 112) rfl ?_); refine goesL_ (some 8) rfl rfl Try.func112 (by kernel_rfl) rfl #[.int .i64 a0] rfl (by (try simp only [List.map_toArray, List.map_cons, List.map_nil]); first | done | rfl | (simp only [List.length_drop, List.length_take]; rfl)) ?_; (with_reducible refine (cmp_isNaN_int.calls a0 false _ A3.out).mono ?_); rintro e w' ⟨rfl, ⟨nd, rfl⟩⟩; refine ⟨_, rfl, ?_⟩) | ((with_reducible refine gate_callee (f := 112) rfl ?_); refine goesL_ (some 10) rfl rfl Try.func112 (by kernel_rfl) rfl #[.int .i64 a1] rfl (by (try simp only [List.map_toArray, List.map_cons, List.map_nil]); first | done | rfl | (simp only [List.length_drop, List.length_take]; rfl)) ?_; (with_reducible refine (cmp_isNaN_int.calls a1 false _ A4.out).mono ?_); rintro e w' ⟨rfl, ⟨nd, rfl⟩⟩; refine ⟨_, rfl, ?_⟩))
    go_ret
    exact ⟨by first | rfl | (simp; done) | (simp [*]; done), by repeat (first | exact Drawn0.refl _ | apply Drawn0.step)⟩
   ·rw [if_neg c8] at H
    have c8b0 : decide (a0 < a1) = false := decide_eq_false c8; clear c8
    by_cases c9 : a0 > a1
    ·rw [if_pos c9] at H
     have c9b0 : decide (a1 < a0) = true := decide_eq_true c9; clear c9; obtain rfl := Option.some.inj H
     go_enter Try.func100, Try.ntmps100
     go_wp2_with (first | ((with_reducible refine gate_callee (f := 112) rfl ?_); refine goesL_ (some 8) rfl rfl Try.func112 (by kernel_rfl) rfl #[.int .i64 a0] rfl (by (try simp only [List.map_toArray, List.map_cons, List.map_nil]); first | done | rfl | (simp only [List.length_drop, List.length_take]; rfl)) ?_; (with_reducible refine (cmp_isNaN_int.calls a0 false _ A3.out).mono ?_); rintro e w' ⟨rfl, ⟨nd, rfl⟩⟩; refine ⟨_, rfl, ?_⟩) | ((with_reducible refine gate_callee (f := 112) rfl ?_); refine goesL_ (some 10) rfl rfl Try.func112 (by kernel_rfl) rfl #[.int .i64 a1] rfl (by (try simp only [List.map_toArray, List.map_cons, List.map_nil]); first | done | rfl | (simp only [List.length_drop, List.length_take]; rfl)) ?_; (with_reducible refine (cmp_isNaN_int.calls a1 false _ A4.out).mono ?_); rintro e w' ⟨rfl, ⟨nd, rfl⟩⟩; refine ⟨_, rfl, ?_⟩))
     go_ret
     exact ⟨by first | rfl | (simp; done) | (simp [*]; done), by repeat (first | exact Drawn0.refl _ | apply Drawn0.step)⟩
    ·rw [if_neg c9] at H
     have c9b0 : decide (a1 < a0) = false := decide_eq_false c9; clear c9; obtain rfl := Option.some.inj H
     go_enter Try.func100, Try.ntmps100
     go_wp2_with (first | ((with_reducible refine gate_callee (f := 112) rfl ?_); refine goesL_ (some 8) rfl rfl Try.func112 (by kernel_rfl) rfl #[.int .i64 a0] rfl (by (try simp only [List.map_toArray, List.map_cons, List.map_nil]); first | done | rfl | (simp only [List.length_drop, List.length_take]; rfl)) ?_; (with_reducible refine (cmp_isNaN_int.calls a0 false _ A3.out).mono ?_); rintro e w' ⟨rfl, ⟨nd, rfl⟩⟩; refine ⟨_, rfl, ?_⟩) | ((with_reducible refine gate_callee (f := 112) rfl ?_); refine goesL_ (some 10) rfl rfl Try.func112 (by kernel_rfl) rfl #[.int .i64 a1] rfl (by (try simp only [List.map_toArray, List.map_cons, List.map_nil]); first | done | rfl | (simp only [List.length_drop, List.length_take]; rfl)) ?_; (with_reducible refine (cmp_isNaN_int.calls a1 false _ A4.out).mono ?_); rintro e w' ⟨rfl, ⟨nd, rfl⟩⟩; refine ⟨_, rfl, ?_⟩))
     go_ret
     exact ⟨by first | rfl | (simp; done) | (simp [*]; done), by repeat (first | exact Drawn0.refl _ | apply Drawn0.step)⟩
end Go.Proofs.Ytonipihlpbaknaa.Print
namespace Go.Proofs.Ytonipihlpbaknaa.Print
open Go.RowKit Go.Proofs.YtonipihlpbaknaaW.PrintWords Go.Proofs.YtonipihlpbaknaaW.PrintLast Go.Proofs.YtonipihlpbaknaaW.PrintMore
attribute [local go_sem] max2_int min2_int max_two min_two max_three min_three max_four min_four   -- for this text's walks alone
set_option linter.unusedVariables false
set_option linter.unusedSimpArgs false
def slices_Compare_int_int.l0 : Nat → List Int → List Int → List Int → Int → Int → Option (Int)
  | 0, _, _, _, _, _ => none
  | k + 1, x0, x1, x9, x10, x11 => if x11 < x10 then (if 0 ≤ x11 then (if x11 < (x9.length : Int) then (if x11 ≥ (x1.length : Int) then (some 1) else (if x11 < (x1.length : Int) then ((cmp_Compare_int.f (rd x9 x11) (rd x1 x11)).bind fun t103 => (if t103 = 0 then (slices_Compare_int_int.l0 k x0 x1 x9 x10 (wrap64 (x11 + 1))) else (some t103))) else (none))) else (none)) else (none)) else (if (x0.length : Int) < (x1.length : Int) then (some (-1)) else (some 0))
def slices_Compare_int_int.f (k : Nat) (l0 : List Int) (l1 : List Int) : Option (Int) := slices_Compare_int_int.l0 k l0 l1 l0 (l0.length : Int) 0
set_option maxHeartbeats 8000000 in
set_option maxRecDepth 100000 in
theorem slices_Compare_int_int.calls (k : Nat) (A0 : Option Addr) (c0 : Nat) (l0 : List Int) (A1 : Option Addr) (c1 : Nat) (l1 : List Int) (r : Int) (w : World) (hr0 : Kd.C (Kd.int .i64) w A0 l0.length l0) (hc0 : l0.length ≤ c0) (hr1 : Kd.C (Kd.int .i64) w A1 l1.length l1) (hc1 : l1.length ≤ c1) (h : slices_Compare_int_int.f k l0 l1 = some r) :
  Calls Try.prog 101 #[.slice A0 l0.length c0, .slice A1 l1.length c1] w fun e w' => e = .returned (.int .i64 r) ∧ Drawn0 w w' := by
 have HR0 := Aside0.mk hr0; have HC0 := Aside0.mk hc0; clear hr0 hc0; have HR1 := Aside0.mk hr1; have HC1 := Aside0.mk hc1; clear hr1 hc1; have H : (slices_Compare_int_int.l0 k l0 l1 l0 (l0.length : Int) 0) = some r := h; clear h; have H' := Aside0.mk H; clear H
 go_enter Try.func101, Try.ntmps101
 go_wp2
 go_loopg [11] k (fun kq v11 w' => ∃ (x11_1 : Int), v11 = .int .i64 x11_1 ∧ Aside0 (slices_Compare_int_int.l0 kq l0 l1 l0 (l0.length : Int) x11_1 = some r) ∧ Aside0 (kq ≤ k) ∧ Drawn0 w w')
 case atStart => exact ⟨(0), (by first | rfl | (simp; done) | (simp [*]; done)), H', ⟨Nat.le_refl _⟩, by repeat (first | exact Drawn0.refl _ | apply Drawn0.step)⟩
 case round =>
  clear H'; (try clear c1); (try clear p2); obtain ⟨x11_1, rfl, HA, HK1, ⟨m1, rfl⟩⟩ := hrel
  cases gk with
  | zero => exact absurd HA.out (by simp [slices_Compare_int_int.l0])
  | succ k1 =>
   have H := HA.out; clear HA; simp only [slices_Compare_int_int.l0] at H
   by_cases c3 : x11_1 < (l0.length : Int)
   ·rw [if_pos c3] at H
    have c3b0 : decide (x11_1 < (l0.length : Int)) = true := decide_eq_true c3; clear c3
    by_cases c4 : 0 ≤ x11_1
    ·rw [if_pos c4] at H
     have c4b0 : decide (0 ≤ x11_1) = true := decide_eq_true c4; clear c4
     by_cases c5 : x11_1 < (l0.length : Int)
     ·rw [if_pos c5] at H
      have c5b0 : decide (x11_1 < (l0.length : Int)) = true := decide_eq_true c5; clear c5
      by_cases c6 : x11_1 ≥ (l1.length : Int)
      ·rw [if_pos c6] at H
       have c6b0 : decide ((l1.length : Int) ≤ x11_1) = true := decide_eq_true c6; clear c6; obtain rfl := Option.some.inj H; have p101 : 0 ≤ (x11_1 : Int) := of_decide_eq_true (by first | (with_reducible assumption) | assumption); have q101 : x11_1 < (l0.length : Int) := of_decide_eq_true (by first | (with_reducible assumption) | assumption); obtain ⟨ad101, e101, hx101_0⟩ := Kd.at_int HR0.out x11_1 p101 q101; cases e101; replace p101 := eq_true p101; replace q101 := eq_true q101
       go_wp2
       go_ret
       exact ⟨by first | rfl | (simp; done) | (simp [*]; done), by repeat (first | exact Drawn0.refl _ | apply Drawn0.step)⟩
      ·rw [if_neg c6] at H
       have c6b0 : decide ((l1.length : Int) ≤ x11_1) = false := decide_eq_false c6; clear c6
       by_cases c7 : x11_1 < (l1.length : Int)
       ·rw [if_pos c7] at H
        have c7b0 : decide (x11_1 < (l1.length : Int)) = true := decide_eq_true c7; clear c7; replace H := Option.bind_eq_some_iff.mp H; obtain ⟨t103, A80, H⟩ := H; replace H : (if t103 = 0 then (slices_Compare_int_int.l0 k1 l0 l1 l0 (l0.length : Int) (wrap64 (x11_1 + 1))) else (some t103)) = some r := H; have A8 := Aside0.mk A80; clear A80
        by_cases c9 : t103 = 0
        ·rw [if_pos c9] at H
         have c9b0 : (t103 == 0) = true := beq_iff_eq.mpr c9; have c9b1 : (t103 != 0) = false := bne_eq_false_iff_eq.mpr c9; clear c9; have H' := Aside0.mk H; clear H; have p101 : 0 ≤ (x11_1 : Int) := of_decide_eq_true (by first | (with_reducible assumption) | assumption); have q101 : x11_1 < (l0.length : Int) := of_decide_eq_true (by first | (with_reducible assumption) | assumption); obtain ⟨ad101, e101, hx101_0⟩ := Kd.at_int HR0.out x11_1 p101 q101; cases e101; replace p101 := eq_true p101; replace q101 := eq_true q101; have p102 : 0 ≤ (x11_1 : Int) := of_decide_eq_true (by first | (with_reducible assumption) | assumption); have q102 : x11_1 < (l1.length : Int) := of_decide_eq_true (by first | (with_reducible assumption) | assumption); obtain ⟨ad102, e102, hx102_0⟩ := Kd.at_int HR1.out x11_1 p102 q102; cases e102; replace p102 := eq_true p102; replace q102 := eq_true q102
         go_wp2_with (first | ((with_reducible refine gate_callee (f := 100) rfl ?_); refine goesL_ (some 26) rfl rfl Try.func100 (by kernel_rfl) rfl #[.int .i64 (rd l0 x11_1), .int .i64 (rd l1 x11_1)] rfl (by (try simp only [List.map_toArray, List.map_cons, List.map_nil]); first | done | rfl | (simp only [List.length_drop, List.length_take]; rfl)) ?_; (with_reducible refine (cmp_Compare_int.calls (rd l0 x11_1) (rd l1 x11_1) t103 _ A8.out).mono ?_); rintro e w' ⟨rfl, ⟨nd, rfl⟩⟩; refine ⟨_, rfl, ?_⟩))
         go_roundg k1
         case measure => have := HK1.out; omega
         case rel => exact ⟨(wrap64 (x11_1 + 1)), (by first | rfl | (simp; done) | (simp [*]; done)), H', ⟨by have := HK1.out; omega⟩, by repeat (first | exact Drawn0.refl _ | apply Drawn0.step)⟩
        ·rw [if_neg c9] at H
         have c9b0 : (t103 == 0) = false := beq_eq_false_iff_ne.mpr c9; have c9b1 : (t103 != 0) = true := bne_iff_ne.mpr c9; obtain rfl := Option.some.inj H; have p101 : 0 ≤ (x11_1 : Int) := of_decide_eq_true (by first | (with_reducible assumption) | assumption); have q101 : x11_1 < (l0.length : Int) := of_decide_eq_true (by first | (with_reducible assumption) | assumption); obtain ⟨ad101, e101, hx101_0⟩ := Kd.at_int HR0.out x11_1 p101 q101; cases e101; replace p101 := eq_true p101; replace q101 := eq_true q101; have p102 : 0 ≤ (x11_1 : Int) := of_decide_eq_true (by first | (with_reducible assumption) | assumption); have q102 : x11_1 < (l1.length : Int) := of_decide_eq_true (by first | (with_reducible assumption) | assumption); obtain ⟨ad102, e102, hx102_0⟩ := Kd.at_int HR1.out x11_1 p102 q102; cases e102; replace p102 := eq_true p102; replace q102 := eq_true q102
         go_wp2_with (first | ((with_reducible refine gate_callee (f := 100) rfl ?_); refine goesL_ (some 26) rfl rfl Try.func100 (by kernel_rfl) rfl #[.int .i64 (rd l0 x11_1), .int .i64 (rd l1 x11_1)] rfl (by (try simp only [List.map_toArray, List.map_cons, List.map_nil]); first | done | rfl | (simp only [List.length_drop, List.length_take]; rfl)) ?_; (with_reducible refine (cmp_Compare_int.calls (rd l0 x11_1) (rd l1 x11_1) t103 _ A8.out).mono ?_); rintro e w' ⟨rfl, ⟨nd, rfl⟩⟩; refine ⟨_, rfl, ?_⟩))
         go_ret
         exact ⟨by first | rfl | (simp; done) | (simp [*]; done), by repeat (first | exact Drawn0.refl _ | apply Drawn0.step)⟩
       ·rw [if_neg c7] at H
        exact absurd H (by simp)
     ·rw [if_neg c5] at H
      exact absurd H (by simp)
    ·rw [if_neg c4] at H
     exact absurd H (by simp)
   ·rw [if_neg c3] at H
    have c3b0 : decide (x11_1 < (l0.length : Int)) = false := decide_eq_false c3; clear c3
    by_cases c10 : (l0.length : Int) < (l1.length : Int)
    ·rw [if_pos c10] at H
     have c10b0 : decide ((l0.length : Int) < (l1.length : Int)) = true := decide_eq_true c10; have c10b1 : decide (l0.length < l1.length) = true := decide_eq_true (Int.ofNat_lt.mp c10); clear c10; obtain rfl := Option.some.inj H
     go_wp2
     go_ret
     exact ⟨by first | rfl | (simp; done) | (simp [*]; done), by repeat (first | exact Drawn0.refl _ | apply Drawn0.step)⟩
    ·rw [if_neg c10] at H
     have c10b0 : decide ((l0.length : Int) < (l1.length : Int)) = false := decide_eq_false c10; have c10b1 : decide (l0.length < l1.length) = false := decide_eq_false (fun h => c10 (Int.ofNat_lt.mpr h)); clear c10; obtain rfl := Option.some.inj H
     go_wp2
     go_ret
     exact ⟨by first | rfl | (simp; done) | (simp [*]; done), by repeat (first | exact Drawn0.refl _ | apply Drawn0.step)⟩
end Go.Proofs.Ytonipihlpbaknaa.Print
namespace Go.Proofs.Ytonipihlpbaknaa.Print
open Go.RowKit Go.Proofs.YtonipihlpbaknaaW.PrintWords Go.Proofs.YtonipihlpbaknaaW.PrintLast Go.Proofs.YtonipihlpbaknaaW.PrintMore
attribute [local go_sem] max2_int min2_int max_two min_two max_three min_three max_four min_four   -- for this text's walks alone
set_option linter.unusedVariables false
set_option linter.unusedSimpArgs false
def cmp_Or_int.l0 : Nat → Int → List Int → Int → Int → Option (Int)
  | 0, _, _, _, _ => none
  | k + 1, x3, x6, x7, x8 => if x8 < x7 then (if 0 ≤ x8 then (if x8 < (x6.length : Int) then (if (rd x6 x8) = x3 then (cmp_Or_int.l0 k x3 x6 x7 (wrap64 (x8 + 1))) else (some (rd x6 x8))) else (none)) else (none)) else (some x3)
def cmp_Or_int.f (k : Nat) (l0 : List Int) : Option (Int) := cmp_Or_int.l0 k 0 l0 (l0.length : Int) 0
set_option maxHeartbeats 8000000 in
set_option maxRecDepth 100000 in
theorem cmp_Or_int.calls (k : Nat) (A0 : Option Addr) (c0 : Nat) (l0 : List Int) (r : Int) (w : World) (hr0 : Kd.C (Kd.int .i64) w A0 l0.length l0) (hc0 : l0.length ≤ c0) (h : cmp_Or_int.f k l0 = some r) :
  Calls Try.prog 99 #[.slice A0 l0.length c0] w fun e w' => e = .returned (.int .i64 r) ∧ Drawn0 w w' := by
 have HR0 := Aside0.mk hr0; have HC0 := Aside0.mk hc0; clear hr0 hc0; have H : (cmp_Or_int.l0 k 0 l0 (l0.length : Int) 0) = some r := h; clear h; have H' := Aside0.mk H; clear H
 go_enter Try.func99, Try.ntmps99
 go_wp2
 go_loopg [8] k (fun kq v8 w' => ∃ (x8_1 : Int), v8 = .int .i64 x8_1 ∧ Aside0 (cmp_Or_int.l0 kq 0 l0 (l0.length : Int) x8_1 = some r) ∧ Aside0 (kq ≤ k) ∧ Drawn0 w w')
 case atStart => exact ⟨(0), (by first | rfl | (simp; done) | (simp [*]; done)), H', ⟨Nat.le_refl _⟩, by repeat (first | exact Drawn0.refl _ | apply Drawn0.step)⟩
 case round =>
  clear H'; obtain ⟨x8_1, rfl, HA, HK1, ⟨m1, rfl⟩⟩ := hrel
  cases gk with
  | zero => exact absurd HA.out (by simp [cmp_Or_int.l0])
  | succ k1 =>
   have H := HA.out; clear HA; simp only [cmp_Or_int.l0] at H
   by_cases c2 : x8_1 < (l0.length : Int)
   ·rw [if_pos c2] at H
    have c2b0 : decide (x8_1 < (l0.length : Int)) = true := decide_eq_true c2; clear c2
    by_cases c3 : 0 ≤ x8_1
    ·rw [if_pos c3] at H
     have c3b0 : decide (0 ≤ x8_1) = true := decide_eq_true c3; clear c3
     by_cases c4 : x8_1 < (l0.length : Int)
     ·rw [if_pos c4] at H
      have c4b0 : decide (x8_1 < (l0.length : Int)) = true := decide_eq_true c4; clear c4
      by_cases c5 : (rd l0 x8_1) = 0
      ·rw [if_pos c5] at H
       have c5b0 : ((rd l0 x8_1) == 0) = true := beq_iff_eq.mpr c5; have c5b1 : ((rd l0 x8_1) != 0) = false := bne_eq_false_iff_eq.mpr c5; clear c5; have H' := Aside0.mk H; clear H; have p101 : 0 ≤ (x8_1 : Int) := of_decide_eq_true (by first | (with_reducible assumption) | assumption); have q101 : x8_1 < (l0.length : Int) := of_decide_eq_true (by first | (with_reducible assumption) | assumption); obtain ⟨ad101, e101, hx101_0⟩ := Kd.at_int HR0.out x8_1 p101 q101; cases e101; replace p101 := eq_true p101; replace q101 := eq_true q101
       go_wp2
       go_roundg k1
       case measure => have := HK1.out; omega
       case rel => exact ⟨(wrap64 (x8_1 + 1)), (by first | rfl | (simp; done) | (simp [*]; done)), H', ⟨by have := HK1.out; omega⟩, by repeat (first | exact Drawn0.refl _ | apply Drawn0.step)⟩
      ·rw [if_neg c5] at H
       have c5b0 : ((rd l0 x8_1) == 0) = false := beq_eq_false_iff_ne.mpr c5; have c5b1 : ((rd l0 x8_1) != 0) = true := bne_iff_ne.mpr c5; obtain rfl := Option.some.inj H; have p101 : 0 ≤ (x8_1 : Int) := of_decide_eq_true (by first | (with_reducible assumption) | assumption); have q101 : x8_1 < (l0.length : Int) := of_decide_eq_true (by first | (with_reducible assumption) | assumption); obtain ⟨ad101, e101, hx101_0⟩ := Kd.at_int HR0.out x8_1 p101 q101; cases e101; replace p101 := eq_true p101; replace q101 := eq_true q101
       go_wp2
       go_ret
       exact ⟨by first | rfl | (simp; done) | (simp [*]; done), by repeat (first | exact Drawn0.refl _ | apply Drawn0.step)⟩
     ·rw [if_neg c4] at H
      exact absurd H (by simp)
    ·rw [if_neg c3] at H
     exact absurd H (by simp)
   ·rw [if_neg c2] at H
    have c2b0 : decide (x8_1 < (l0.length : Int)) = false := decide_eq_false c2; clear c2; obtain rfl := Option.some.inj H
    go_wp2
    go_ret
    exact ⟨by first | rfl | (simp; done) | (simp [*]; done), by repeat (first | exact Drawn0.refl _ | apply Drawn0.step)⟩
end Go.Proofs.Ytonipihlpbaknaa.Print
namespace Go.Proofs.Ytonipihlpbaknaa.Print
set_option linter.unusedVariables false
set_option linter.unusedSimpArgs false
open Go.RowKit Go.Sort Go.Proofs.YtonipihlpbaknaaW.PrintWords Go.Proofs.YtonipihlpbaknaaW.PrintLast Go.Proofs.YtonipihlpbaknaaW.PrintMore
/-- Lists compared lexicographically. -/
def lexC : List Int → List Int → Int
  | [], [] => 0
  | [], _ :: _ => -1
  | _ :: _, [] => 1
  | x :: a, y :: b => if x < y then -1 else if y < x then 1 else lexC a b
theorem lexC_swap (a b : List Int) : lexC b a = - lexC a b := by
  induction a generalizing b with
  | nil => cases b <;> simp [lexC]
  | cons x a ih =>
    cases b with
    | nil => simp [lexC]
    | cons y b =>
      simp only [lexC]
      by_cases h1 : x < y
      · rw [if_pos h1, if_neg (by omega), if_pos h1]
        rfl
      · rw [if_neg h1]
        by_cases h2 : y < x
        · rw [if_pos h2, if_pos h2]
          omega
        · rw [if_neg h2, if_neg h2, if_neg h1, ih b]
theorem lexC_zero (a b : List Int) (h : lexC a b = 0) : a = b := by
  induction a generalizing b with
  | nil => cases b with
    | nil => rfl
    | cons y b => simp [lexC] at h
  | cons x a ih =>
    cases b with
    | nil => simp [lexC] at h
    | cons y b =>
      simp only [lexC] at h
      split at h
      · omega
      · split at h
        · omega
        · rw [ih b h, show x = y by omega]
theorem lexC_trans (a b c : List Int) (h1 : lexC a b ≤ 0) (h2 : lexC b c ≤ 0) : lexC a c ≤ 0 ∧ (lexC a b < 0 ∨ lexC b c < 0 → lexC a c < 0) := by
  induction a generalizing b c with
  | nil =>
    cases b with
    | nil => exact ⟨h2, fun h => h.elim (fun h => by simp [lexC] at h) id⟩
    | cons y b =>
      cases c with
      | nil => simp [lexC] at h2
      | cons z c => simp [lexC]
  | cons x a ih =>
    cases b with
    | nil => simp [lexC] at h1
    | cons y b =>
      cases c with
      | nil => simp [lexC] at h2
      | cons z c =>
        simp only [lexC] at h1 h2 ⊢
        by_cases p1 : x < y
        · rw [if_pos p1] at h1
          by_cases p2 : y < z
          · rw [if_pos (show x < z by omega)]
            omega
          · rw [if_neg p2] at h2
            by_cases p3 : z < y
            · rw [if_pos p3] at h2; omega
            · rw [if_pos (show x < z by omega)]
              omega
        · rw [if_neg p1] at h1
          by_cases p4 : y < x
          · rw [if_pos p4] at h1; omega
          · rw [if_neg p4] at h1
            by_cases p2 : y < z
            · rw [if_pos (show x < z by omega)]
              omega
            · rw [if_neg p2] at h2
              by_cases p3 : z < y
              · rw [if_pos p3] at h2; omega
              · rw [if_neg p3] at h2
                have := ih b c h1 h2; rw [if_neg (show ¬ x < z by omega), if_neg (show ¬ z < x by omega), if_neg p1, if_neg p4, if_neg p2, if_neg p3]; exact this
/-- A comparison that is a total order. -/
structure TotC (cf : List Int → List Int → Int) : Prop where
  swap : ∀ a b, cf b a = - cf a b
  zero : ∀ a b, cf a b = 0 → a = b
  trans : ∀ a b c, cf a b ≤ 0 → cf b c ≤ 0 → cf a c ≤ 0 ∧ (cf a b < 0 ∨ cf b c < 0 → cf a c < 0)
theorem TotC.swo {cf : List Int → List Int → Int} (h : TotC cf) : SWO (ltOf cf) := by
  refine ⟨fun x => ?_, fun x y z => ?_, fun x y z => ?_⟩
  · have := h.swap x x
    simp only [ltOf, decide_eq_false_iff_not]
    omega
  · simp only [ltOf, decide_eq_true_eq]
    intro h1 h2; exact (h.trans x y z (by omega) (by omega)).2 (.inl h1)
  · simp only [ltOf, decide_eq_false_iff_not]
    intro h1 h2 h3; have e1 := h.swap x y; have e2 := h.swap y z; have := (h.trans z y x (by omega) (by omega)).1; have e3 := h.swap x z
    omega
theorem TotC.tot {cf : List Int → List Int → Int} (h : TotC cf) : ∀ x y, ltOf cf x y = false → ltOf cf y x = false → x = y := by
  intro x y h1 h2; simp only [ltOf, decide_eq_false_iff_not] at h1 h2; have := h.swap x y; exact h.zero x y (by omega)
/-- The shorter ones first, then lexicographically. -/
def lenC (a b : List Int) : Int := if a.length < b.length then -1 else if b.length < a.length then 1 else lexC a b
theorem lenC_tot : TotC lenC := by
  refine ⟨fun a b => ?_, fun a b h => ?_, fun a b c h1 h2 => ?_⟩
  · unfold lenC
    by_cases p : a.length < b.length
    · rw [if_pos p, if_neg (by omega), if_pos p]
      rfl
    · by_cases q : b.length < a.length
      · rw [if_pos q, if_neg p, if_pos q]
      · rw [if_neg p, if_neg q, if_neg q, if_neg p, lexC_swap]
  · unfold lenC at h
    split at h
    · omega
    · split at h
      · omega
      · exact lexC_zero a b h
  · unfold lenC at *
    by_cases p : a.length < b.length
    · by_cases q : c.length < b.length
      · rw [if_neg (by omega), if_pos q] at h2; omega
      · rw [if_pos (show a.length < c.length by omega)]
        omega
    · rw [if_neg p] at h1
      by_cases p2 : b.length < a.length
      · rw [if_pos p2] at h1; omega
      · rw [if_neg p2] at h1
        by_cases q : b.length < c.length
        · rw [if_pos (show a.length < c.length by omega)]
          omega
        · rw [if_neg q] at h2
          by_cases q2 : c.length < b.length
          · rw [if_pos q2] at h2; omega
          · rw [if_neg q2] at h2
            rw [if_neg (show ¬ a.length < c.length by omega), if_neg (show ¬ c.length < a.length by omega), if_neg p, if_neg p2, if_neg q, if_neg q2]; exact lexC_trans a b c h1 h2
theorem cmp_int (a b : Int) : cmp_Compare_int.f a b = some (if a < b then -1 else if b < a then 1 else 0) := by
  unfold cmp_Compare_int.f; simp only [cmp_isNaN_int.f, Option.bind_some, bne_self_eq_false, Bool.false_eq_true, if_false]
  by_cases h : a < b
  · simp [h]
  · by_cases h2 : b < a
    · simp [h, h2]
    · simp [h, h2]
theorem compare_ends (a b : List Int) (ha : a.length ≤ 9223372036854775807) : ∀ (d k i : Nat), i ≤ a.length → i ≤ b.length → a.length - i ≤ d → d < k →
    slices_Compare_int_int.l0 k a b a a.length i = some (lexC (a.drop i) (b.drop i)) ∨ (a.take i ≠ b.take i) := by
  intro d
  induction d with
  | zero =>
    intro k i hi hb hd hk
    obtain ⟨k, rfl⟩ : ∃ m, k = m + 1 := ⟨k - 1, by omega⟩
    by_cases e : a.take i = b.take i
    · left
      obtain rfl : i = a.length := by omega
      simp only [slices_Compare_int_int.l0]; rw [if_neg (by omega), List.drop_length]
      by_cases c : a.length < b.length
      · rw [if_pos (by omega), List.drop_eq_getElem_cons c]
        rfl
      · rw [if_neg (by omega), List.drop_of_length_le (by omega)]
        rfl
    · exact .inr e
  | succ d ih =>
    intro k i hi hb hd hk
    by_cases e : a.take i = b.take i
    · left
      by_cases c : i < a.length
      · obtain ⟨k, rfl⟩ : ∃ m, k = m + 1 := ⟨k - 1, by omega⟩
        simp only [slices_Compare_int_int.l0]; rw [if_pos (by omega), if_pos (by omega), if_pos (by omega), List.drop_eq_getElem_cons c]
        by_cases c2 : i < b.length
        · rw [if_neg (by omega), if_pos (by omega), rd_get a i c, rd_get b i c2, cmp_int, List.drop_eq_getElem_cons c2]
          simp only [Option.bind_some, lexC]
          by_cases l1 : a[i] < b[i]
          · rw [if_pos l1, if_neg (by decide), if_pos l1]
          · rw [if_neg l1, if_neg l1]
            by_cases l2 : b[i] < a[i]
            · rw [if_pos l2, if_neg (by decide), if_pos l2]
            · rw [if_neg l2, if_pos rfl, if_neg l2, succ_ok i (by omega)]
              have e2 : a.take (i + 1) = b.take (i + 1) := by
                rw [List.take_succ_eq_append_getElem c, List.take_succ_eq_append_getElem c2, e, show a[i] = b[i] by omega]
              rcases ih k (i + 1) (by omega) (by omega) (by omega) (by omega) with h | h
              · exact h
              · exact absurd e2 h
        · rw [if_pos (by omega), List.drop_of_length_le (l := b) (by omega)]
          rfl
      · rcases ih k i hi hb (by omega) (by omega) with h | h
        · exact h
        · exact absurd e h
    · exact .inr e
theorem compare_ok (a b : List Int) (ha : a.length ≤ 9223372036854775807) (k : Nat) (hk : a.length < k) : slices_Compare_int_int.f k a b = some (lexC a b) := by
  unfold slices_Compare_int_int.f
  rcases compare_ends a b ha a.length k 0 (Nat.zero_le _) (Nat.zero_le _) (by omega) hk with h | h
  · simpa using h
  · exact absurd (by simp) h
end Go.Proofs.Ytonipihlpbaknaa.Print
namespace Go.Proofs.Ytonipihlpbaknaa.Print
set_option linter.unusedVariables false
set_option linter.unusedSimpArgs false
open Go.RowKit Go.Sort Go.Proofs.YtonipihlpbaknaaW.PrintWords Go.Proofs.YtonipihlpbaknaaW.PrintLast Go.Proofs.YtonipihlpbaknaaW.PrintMore
/-- A list of numbers with the slice that holds it. -/
structure Held (w : World) (base : Nat) (ok : Nat → Prop) where
  v : Value
  l : List Int
  h : Kd.R (Kd.int .i64) 3 w base ok v l
instance (w : World) (base : Nat) (ok : Nat → Prop) : Inhabited (Held w base ok) := ⟨⟨.slice none 0 0, [], Kd.R_nil _ _ _ _ _⟩⟩
theorem held_one {w : World} {base : Nat} {ok : Nat → Prop} : OneCell (Held.v (w := w) (base := base) (ok := ok)) := by
  intro p; obtain ⟨A, c, e⟩ := Kd.R_slice p.h; rw [e]
  rfl
theorem held_list {w : World} {base : Nat} {ok : Nat → Prop} (xs : List (List Int)) (inner : List Value) (h : Reps ((Kd.slice 3 (Kd.int .i64)).M w base ok) 1 xs inner) :
    ∃ ps : List (Held w base ok), ps.map Held.v = inner ∧ ps.map Held.l = xs := by
  induction xs generalizing inner with
  | nil =>
    have := h.1; simp only [List.length_nil, Nat.zero_mul] at this; exact ⟨[], by simp [List.eq_nil_of_length_eq_zero this], rfl⟩
  | cons x xs ih =>
    have hl := h.1
    cases inner with
    | nil => simp at hl
    | cons u inner =>
      have h0 : (Kd.slice 3 (Kd.int .i64)).M w base ok x [u] := by
        have := h.2 0 x rfl
        simpa using this
      obtain ⟨v, e, hr⟩ := h0; cases e
      obtain ⟨ps, h1, h2⟩ := ih inner ⟨by simpa using hl, fun j p hj => by
        have := h.2 (j + 1) p hj; simp only [Nat.mul_one, List.drop_succ_cons] at this
        simpa using this⟩
      exact ⟨⟨u, x, hr⟩ :: ps, by simp [h1], by simp [h2]⟩
theorem held_reps {w w1 : World} {base : Nat} {ok ok' : Nat → Prop} (ps : List (Held w base ok)) (hm : ∀ (v : Value) (l : List Int), Kd.R (Kd.int .i64) 3 w base ok v l → Kd.R (Kd.int .i64) 3 w1 base ok' v l) :
    Reps ((Kd.slice 3 (Kd.int .i64)).M w1 base ok') 1 (ps.map Held.l) (ps.map Held.v) := by
  refine ⟨by simp, fun j p hj => ?_⟩
  obtain ⟨hl, rfl⟩ := List.getElem?_eq_some_iff.1 hj
  have hl' : j < (ps.map (Held.v (w := w) (base := base) (ok := ok))).length := by simpa using hl
  rw [Nat.mul_one, List.drop_eq_getElem_cons hl']; simp only [List.take_succ_cons, List.take_zero, List.getElem_map]; exact ⟨_, rfl, hm _ _ (ps[j]'(by simpa using hl)).h⟩
/-- The comparison that the sort is given, on the lists. -/
def leOf (cf : List Int → List Int → Int) (x y : List Int) : Bool := !ltOf cf y x
theorem sort_held {α : Type} {w : World} {base : Nat} {ok : Nat → Prop} (cf : List Int → List Int → Int) (hO : SWO (ltOf cf)) (hT : ∀ x y, ltOf cf x y = false → ltOf cf y x = false → x = y) (d d' : Array (Held w base ok)) (hp : PermIn 0 d.size d d') (hs : SortedIn (ltOf fun p q : Held w base ok => cf p.l q.l) 0 d.size d') :
    d'.toList.map Held.l = (d.toList.map Held.l).mergeSort (leOf cf) := by
  obtain ⟨hsz, _, hperm⟩ := hp
  have e1 : d'.extract 0 d.size = d' := by rw [← hsz]; exact Array.extract_size
  rw [e1, Array.extract_size] at hperm
  refine List.Perm.eq_of_pairwise (le := fun x y => leOf cf x y = true) ?_ ?_ ?_ ((hperm.map Held.l).trans (List.mergeSort_perm _ _).symm)
  · intro a b _ _ h1 h2
    simp only [leOf, Bool.not_eq_true'] at h1 h2; exact hT a b h2 h1
  · rw [List.pairwise_map, List.pairwise_iff_getElem]
    intro i j hi hj hij
    have hi' : i < d'.size := by simpa using hi
    have hj' : j < d'.size := by simpa using hj
    have := hs i j (Nat.zero_le _) hij (by omega); rw [getElem!_pos d' j hj', getElem!_pos d' i hi'] at this
    simpa [leOf, ltOf] using this
  · refine List.pairwise_mergeSort ?_ ?_ _
    · intro a b c h1 h2
      simp only [leOf, Bool.not_eq_true'] at h1 h2 ⊢; exact hO.ntrans c b a h2 h1
    · intro a b
      simp only [leOf, Bool.or_eq_true, Bool.not_eq_true']
      by_cases h : ltOf cf b a = true
      · right
        exact hO.asymmA h
      · left
        simpa using h
theorem heap_sortWorld {α : Type} [Inhabited α] (enc : α → Value) (w : World) (g n : Nat) (dk : Array α) (os : Array Obj) (k : Nat) (hk : k < w.heap.size) (hne : k ≠ g) : (sortWorld enc w g 0 n dk os).heap[k]? = w.heap[k]? := by
  unfold sortWorld; rw [heap_grow_old _ _ (by simpa [putRow, mapBlock, Sort.ahead] using hk), heap_putRow_ne enc _ g dk k hne]
  rfl
theorem grownBy_sortWorld {α : Type} [Inhabited α] (enc : α → Value) (w : World) (g n : Nat) (dk : Array α) (os : Array Obj) : w.grownBy (sortWorld enc w g 0 n dk os) (some g) :=
  ⟨rfl, rfl, rfl, by simp [sortWorld, putRow, mapBlock, Sort.ahead], fun k hk hne => heap_sortWorld enc w g n dk os k hk (fun e => hne (by rw [e]))⟩
/-- What is asked of a comparison. -/
def CmpL (g : Nat) (cb : Array Value) (cf : List Int → List Int → Int) : Prop :=
  ∀ (W : World) (A1 : Option Addr) (c1 : Nat) (l1 : List Int) (A2 : Option Addr) (c2 : Nat) (l2 : List Int), Kd.C (Kd.int .i64) W A1 l1.length l1 → l1.length ≤ c1 → Kd.C (Kd.int .i64) W A2 l2.length l2 → l2.length ≤ c2 →
      Calls Try.prog g (#[.slice A1 l1.length c1, .slice A2 l2.length c2] ++ cb) W fun e w' => e = .returned (.int .i64 (cf l1 l2)) ∧ ∃ q os, w' = grow (W.drewN q) os
set_option maxHeartbeats 1000000 in
theorem sortL_some (g : Nat) (cb : Array Value) (cf : List Int → List Int → Int) (hO : SWO (ltOf cf)) (hT : ∀ x y, ltOf cf x y = false → ltOf cf y x = false → x = y) (eg : ∀ args w, (callFunc g args).run Try.prog w = .ok (.enter g args) w) (hcmp : CmpL g cb cf)
    (base b cap : Nat) (ok : Nat → Prop) (w : World) (ps : List (Held w base ok)) (hne : ∀ k, ok k → k ≠ b) (hH : Holds Held.v w b 0 ps.toArray) (hlt : b < w.heap.size) (hl : ps.length < 17592186044416) :
    Calls Try.prog 97 #[.slice (some ⟨b, 0, none⟩) ps.length cap, .func (.func g) #[] cb] w fun e w' => e = .returned (.tuple #[]) ∧ ∃ (d' : Array (Held w base ok)) (n : Nat) (os : Array Obj), d'.toList.map Held.l = (ps.map Held.l).mergeSort (leOf cf) ∧ w' = sortWorld Held.v w b 0 n d' os := by
  have keep : ∀ (n : Nat) (dk : Array (Held w base ok)) (os : Array Obj) (u : Value) (l : List Int), Kd.R (Kd.int .i64) 3 w base ok u l → Kd.R (Kd.int .i64) 3 (sortWorld Held.v w b 0 n dk os) base ok u l :=
    fun n dk os u l h => Kd.R_step h (fun k hk hlt => heap_sortWorld _ w b n dk os k hlt (hne k hk))
  have S := Try.slices_SortFunc (α := Held w base ok) Held.v held_one (fun p q => cf p.l q.l)
    ⟨fun x => hO.irrefl x.l, fun x y z => hO.trans x.l y.l z.l, fun x y z => hO.ntrans x.l y.l z.l⟩ g cb b 0 cap ps.toArray w eg
    (fun m os dk hdk x y => by
      obtain ⟨A1, c1, e1, m1, r1⟩ := Kd.R_reads (keep m dk os x.v x.l x.h); obtain ⟨A2, c2, e2, m2, r2⟩ := Kd.R_reads (keep m dk os y.v y.l y.h); rw [e1, e2]
      exact hcmp _ A1 c1 x.l A2 c2 y.l r1 m1 r2 m2)
    hH hlt (by simp; omega)
  simp only [List.size_toArray] at S
  refine S.mono ?_
  rintro e w' ⟨rfl, d', n, os, hp, hs, rfl⟩
  refine ⟨rfl, d', n, os, ?_, rfl⟩
  have hsort := sort_held (α := Nat) cf hO hT ps.toArray d' (by simpa using hp) (by simpa using hs)
  simpa using hsort
theorem sortL (g : Nat) (cb : Array Value) (cf : List Int → List Int → Int) (hO : SWO (ltOf cf)) (hT : ∀ x y, ltOf cf x y = false → ltOf cf y x = false → x = y) (eg : ∀ args w, (callFunc g args).run Try.prog w = .ok (.enter g args) w) (hcmp : CmpL g cb cf)
    (base : Nat) (ok : Nat → Prop) (v : Value) (xs : List (List Int)) (w : World) (ho : Kd.R (Kd.slice 3 (Kd.int .i64)) 22 w base ok v xs) (hl : xs.length < 17592186044416) :
    Calls Try.prog 97 #[v, .func (.func g) #[] cb] w fun e w' => e = .returned (.tuple #[]) ∧ Kd.R (Kd.slice 3 (Kd.int .i64)) 22 w' base ok v (xs.mergeSort (leOf cf)) ∧ w.grownBy w' v.ownBlock := by
  obtain ⟨hok, inner, hown, hreps⟩ := ho; obtain ⟨ps, hps1, hps2⟩ := held_list xs inner hreps
  have hlen : ps.length = xs.length := by rw [← hps2, List.length_map]
  rcases hown.2 with ⟨rfl, hn⟩ | ⟨b, cap, cur, rfl, hbase, hb, h1, h2, h3, h4⟩
  · have hx : xs = [] := List.eq_nil_of_length_eq_zero hn
    subst hx
    refine (Try.slices_SortFunc_none (α := Nat) none 0 _ w).mono ?_
    rintro e w' ⟨rfl, rfl⟩; rw [List.mergeSort_nil]; exact ⟨rfl, Kd.R_nil _ _ _ _ _, World.grownBy.refl _ _⟩
  · have hown' : w.ownsRow base 22 1 (.slice (some ⟨b, 0, none⟩) xs.length cap) xs.length (ps.map Held.v) := by rw [hps1]; exact hown
    obtain ⟨b', cap', hv, _, hlt, _, _, _, hH⟩ := Lib.holds_of_ownsRow hown' (by simp); cases hv; have S := sortL_some g cb cf hO hT eg hcmp base b cap _ w ps (fun k hk e => hk.2 (by rw [e]; rfl)) hH hlt (by omega); rw [hlen] at S
    refine S.mono ?_
    rintro e w' ⟨rfl, d', n, os, hsort, rfl⟩; rw [hps2] at hsort
    have hdl : d'.toList.length = xs.length := by
      have := congrArg List.length hsort
      simpa [List.length_mergeSort] using this
    have o1 := Lib.ownsRow_putRow (q := n) (k := xs.length) (ys := d'.toList) hown' hdl (Nat.le_refl _); rw [List.take_of_length_le (by omega), Array.toArray_toList] at o1; have o2 := pw_own_below o1 (below_grow _ os)
    refine ⟨rfl, ⟨hok, d'.toList.map Held.v, ?_, ?_⟩, grownBy_sortWorld _ _ _ _ _ _⟩
    · rw [List.length_mergeSort]
      exact o2
    · rw [← hsort]
      exact held_reps d'.toList (fun u l h => Kd.R_step h (fun k hk hlt => heap_sortWorld _ w b n d' os k hlt (fun e => hk.2 (by rw [e]; rfl))))
end Go.Proofs.Ytonipihlpbaknaa.Print
namespace Go.Proofs.Ytonipihlpbaknaa.Print
set_option linter.unusedVariables false
set_option linter.unusedSimpArgs false
open Go.RowKit Go.Proofs.YtonipihlpbaknaaW.PrintWords Go.Proofs.YtonipihlpbaknaaW.PrintLast Go.Proofs.YtonipihlpbaknaaW.PrintMore
theorem or2 (x y : Int) (k : Nat) (hk : 3 < k) : cmp_Or_int.f k [x, y] = some (if x = 0 then y else x) := by
  obtain ⟨k, rfl⟩ : ∃ m, k = m + 4 := ⟨k - 4, by omega⟩
  have e0 : rd [x, y] 0 = x := rfl; have e1 : rd [x, y] 1 = y := rfl
  have w1 : wrap64 (0 + 1) = 1 := by unfold wrap64; omega
  have w2 : wrap64 (1 + 1) = 2 := by unfold wrap64; omega
  show cmp_Or_int.l0 (k + 4) 0 [x, y] ((2 : Nat) : Int) 0 = _
  unfold cmp_Or_int.l0; rw [if_pos (by omega), if_pos (by omega), if_pos (by simp), e0]
  by_cases h : x = 0
  · rw [if_pos h, if_pos h, w1]
    unfold cmp_Or_int.l0; rw [if_pos (by omega), if_pos (by omega), if_pos (by simp), e1]
    by_cases h2 : y = 0
    · rw [if_pos h2, w2]
      unfold cmp_Or_int.l0; rw [if_neg (by omega), h2]
    · rw [if_neg h2]
  · rw [if_neg h, if_neg h]
set_option maxHeartbeats 1000000 in
theorem subsets1 (W : World) (A1 : Option Addr) (c1 : Nat) (l1 : List Int) (A2 : Option Addr) (c2 : Nat) (l2 : List Int) (h1 : Kd.C (Kd.int .i64) W A1 l1.length l1) (hc1 : l1.length ≤ c1) (h2 : Kd.C (Kd.int .i64) W A2 l2.length l2) (hc2 : l2.length ≤ c2) :
  Calls Try.prog 98 (#[.slice A1 l1.length c1, .slice A2 l2.length c2] ++ #[]) W fun e w' => e = .returned (.int .i64 (lenC l1 l2)) ∧ ∃ q os, w' = Go.Sort.grow (W.drewN q) os := by
 have hm1 := Kd.C_max h1; have hm2 := Kd.C_max h2; have K1 := Lib.hid (fun W => cmp_Compare_int.calls l1.length l2.length _ W (cmp_int _ _)); have K2 := Lib.hid (fun (W' : World) (hb : Below W.heap.size W W') => slices_Compare_int_int.calls (l1.length + 1) A1 c1 l1 A2 c2 l2 _ W' (Kd.C_below h1 hb) hc1 (Kd.C_below h2 hb) hc2 (compare_ok l1 l2 hm1 _ (by omega)))
 have V : Hid (lenC l1 l2 = if (if (l1.length : Int) < l2.length then -1 else if (l2.length : Int) < l1.length then 1 else 0) = (0 : Int) then lexC l1 l2 else (if (l1.length : Int) < l2.length then -1 else if (l2.length : Int) < l1.length then 1 else 0)) := by
  show lenC l1 l2 = _
  unfold lenC
  by_cases p : l1.length < l2.length
  ·rw [if_pos p, if_pos (show (l1.length : Int) < l2.length by omega), if_neg (by decide)]
  ·by_cases q : l2.length < l1.length
   ·rw [if_neg p, if_pos q, if_neg (show ¬ (l1.length : Int) < l2.length by omega), if_pos (show (l2.length : Int) < l1.length by omega), if_neg (by decide)]
   ·rw [if_neg p, if_neg q, if_neg (show ¬ (l1.length : Int) < l2.length by omega), if_neg (show ¬ (l2.length : Int) < l1.length by omega), if_pos rfl]
 clear h1 h2; generalize (if (l1.length : Int) < l2.length then -1 else if (l2.length : Int) < l1.length then 1 else 0 : Int) = x at K1 V; generalize lexC l1 l2 = y at K2 V
 show Calls Try.prog 98 #[.slice A1 l1.length c1, .slice A2 l2.length c2] W _
 go_enter Try.func98, Try.ntmps98
 go_wp2_with fail
 refine (K1.out _).mono ?_
 rintro e w1 ⟨rfl, ⟨n1, rfl⟩⟩
 go_wp2_with fail
 refine (K2.out _ (by exact pw_below_drewN (Below.refl _ _) _)).mono ?_
 rintro e w1 ⟨rfl, ⟨n2, rfl⟩⟩
 have HC : Hid (Kd.C (Kd.int .i64) ((W.drewN (n1 + n2)).alloc (.cells #[.int .i64 x, .int .i64 y] 3)) (some ⟨W.heap.size, 0, none⟩) 2 [x, y]) := by
  refine Kd.C_of_reads (d := (0 : Int)) (h1 := fun _ => rfl) (show ReadsOf (Value.int .i64) 0 _ _ _ _ from ⟨rfl, by omega, fun _ => ⟨_, rfl, fun j hj => ?_⟩⟩)
  rw [add_plain]
  rcases (by omega : j = 0 ∨ j = 1) with rfl | rfl
  ·exact (blk_cell (blk_new (W.drewN (n1 + n2)) (.cells #[.int .i64 x, .int .i64 y] 3)) 0).trans rfl
  ·exact (blk_cell (blk_new (W.drewN (n1 + n2)) (.cells #[.int .i64 x, .int .i64 y] 3)) 1).trans rfl
 have O2 := Lib.hid (or2 x y 4 (by omega)); generalize (if x = 0 then y else x) = z at O2 V
 go_wp2_with fail
 refine (cmp_Or_int.calls 4 _ _ [x, y] z _ HC (by simp) O2.out).mono ?_
 rintro e w3 ⟨rfl, ⟨n3, rfl⟩⟩
 go_wp2_with fail
 go_ret
 refine ⟨by rw [show lenC l1 l2 = _ from V]; rfl, n1 + n2 + n3, #[.cells #[.int .i64 x, .int .i64 y] 3], ?_⟩
 rw [Go.Sort.alloc_eq_grow]
 show Go.Sort.grow ((W.drewN (n1 + n2)).drewN n3) _ = _
 rw [World.drewN_drewN]
def bitB (s i : Nat) : Bool := s.testBit i
def bitsL (n s : Nat) : List Int := ((List.range n).filter (bitB s)).map (fun (i : Nat) => (i : Int))
def genL (n : Nat) : List (List Int) := (List.range (2 ^ n)).map (bitsL n)
def subsetsL (n : Nat) : List (List Int) := (genL n).mergeSort (leOf lenC)
theorem bitsL_succ (n s : Nat) : bitsL (n + 1) s = bitsL n s ++ (if bitB s n then [(n : Int)] else []) := by
  unfold bitsL; rw [List.range_succ, List.filter_append, List.map_append]
  congr 1
  by_cases h : bitB s n = true
  · simp [h]
  · simp [h]
theorem genL_take (n k : Nat) (h : k ≤ 2 ^ n) : (genL n).take k = (List.range k).map (bitsL n) := by
  unfold genL; rw [← List.map_take, List.take_range, Nat.min_eq_left h]
theorem bits_run (s i : Nat) (hs : s < 64) (hi : i < 6) : Go.bits .and .i64 ((s : Int) / 2 ^ i) 1 = if bitB s i then 1 else 0 := by
  have : ∀ s : Fin 64, ∀ i : Fin 6, Go.bits .and .i64 (((s : Nat) : Int) / 2 ^ (i : Nat)) 1 = if bitB s i then 1 else 0 := by decide +kernel
  exact this ⟨s, hs⟩ ⟨i, hi⟩
theorem bitsL_len (n s : Nat) : (bitsL n s).length ≤ n := by
  unfold bitsL; rw [List.length_map]; exact Nat.le_trans (List.length_filter_le _ _) (by simp)
theorem genL_snoc (n k : Nat) (h : k < 2 ^ n) : (genL n).take (k + 1) = (genL n).take k ++ [bitsL n k] := by
  rw [genL_take n (k + 1) h, genL_take n k (by omega), List.range_succ, List.map_append]
  rfl
theorem genL_len (n : Nat) : (genL n).length = 2 ^ n := by simp [genL]
theorem R_apart {ok ok' : Nat → Prop} {w : World} {base : Nat} {u v : Value} {l : List Int} {xs : List (List Int)} (h : Kd.R (Kd.int .i64) 3 w base ok u l) (ho : Kd.R (Kd.slice 3 (Kd.int .i64)) 22 w base ok' v xs) : Kd.R (Kd.int .i64) 3 w base (fun k => ok k ∧ some k ≠ v.ownBlock) u l :=
  Kd.R_mono (Kd.R_bound h) (fun k hk => ⟨hk.1, fun e => by
    obtain ⟨_, _, _, q, hq, cells, hc⟩ := hk; obtain ⟨inner, hown⟩ := Kd.R_own ho; obtain ⟨cells', hc'⟩ := own_typed hown k e.symm; rw [hc] at hc'
    injection hc' with hc'
    injection hc' with _ hc'
    have : q = 3 := by simpa [Kd.int, Kd.scalar] using hq
    rw [this] at hc'
    exact absurd hc' (by decide)⟩)
set_option maxHeartbeats 2000000 in
set_option maxRecDepth 100000 in
theorem subsets_gen (n : Nat) (hn : n ≤ 6) (w : World) : Calls Try.prog 67 #[.int .i64 n] w fun e w' => ∃ v0_ : Value, e = .returned (v0_) ∧ Kd.R (Kd.slice 3 (Kd.int .i64)) 22 w' w.heap.size (fun _ => True) v0_ (subsetsL n) ∧ Below w.heap.size w w' := by
 have hp : 2 ^ n ≤ 64 := Nat.le_trans (Nat.pow_le_pow_right (by omega) hn) (by decide)
 have hw : wrap64 ((2 : Int) ^ n) = ((2 ^ n : Nat) : Int) := by
  rcases (by omega : n = 0 ∨ n = 1 ∨ n = 2 ∨ n = 3 ∨ n = 4 ∨ n = 5 ∨ n = 6) with rfl | rfl | rfl | rfl | rfl | rfl | rfl <;> decide +kernel
 obtain ⟨p, EP⟩ : ∃ p, 2 ^ n = p := ⟨_, rfl⟩
 rw [EP] at hp hw; have EP := Lib.hid EP
 rename_i EP0
 clear EP0
 go_enter Try.func67, Try.ntmps67
 go_wp2
 rw [hw]; clear hw
 go_loopg [3, 4, 5, 6, 9, 13] p (fun gg s3 _ _ _ s9 _ wr => ∃ k : Nat, k ≤ p ∧ p - k ≤ gg ∧ s9 = .int .i64 k ∧ Aside0 (Kd.R (Kd.slice 3 (Kd.int .i64)) 22 wr w.heap.size (fun _ => True) s3 ((genL n).take k)) ∧ Aside0 (Below w.heap.size w wr))
 case atStart => exact ⟨0, Nat.zero_le _, by omega, rfl, ⟨by rw [List.take_zero]; exact Kd.R_nil _ _ _ _ _⟩, ⟨Below.refl _ _⟩⟩
 case round =>
  obtain ⟨k, hk, hg, rfl, BO, BW⟩ := hrel
  by_cases hlt : k < p
  ·have hltz : (k : Int) < (p : Int) := by omega
   obtain ⟨wo, rfl⟩ : ∃ wo : World, wo = wr := ⟨_, rfl⟩
   go_wp2
   go_loopg [5, 6, 13] n (fun gg s5 _ s13 wr => ∃ i : Nat, i ≤ n ∧ n - i ≤ gg ∧ s13 = .int .i64 i ∧ Aside0 (Kd.R (Kd.int .i64) 3 wr wo.heap.size (fun _ => True) s5 (bitsL i k)) ∧ Aside0 (Below wo.heap.size wo wr))
   case atStart => exact ⟨0, Nat.zero_le _, by omega, rfl, ⟨by exact Kd.R_nil _ _ _ _ _⟩, ⟨Below.refl _ _⟩⟩
   case round =>
    obtain ⟨i, hi, hgi, rfl, CO, CW⟩ := hrel
    by_cases hlti : i < n
    ·have hltiz : (i : Int) < (n : Int) := by omega
     have hb := bits_run k i (by omega) (by omega)
     cases hbit : bitB k i with
     | true =>
      rw [hbit] at hb; simp only [if_true] at hb; have HB := Lib.hid hbit; clear hbit
      go_wp2_with ((with_reducible refine gate_builtin (b := .append) (xs := #[.tmp 21, .tmp 23]) rfl ?_); at_builtin; refine Kd.R_append (Kd.int .i64) (w0 := wo) wo.heap.size rfl (.tmp 21) (.tmp 23) 22 3 (.int .i64 0) 8 rfl Try.underlying22 info3 rfl (by decide) (by omega) u5 (bitsL i k) (i : Int) [.int .i64 i] (fun _ => True) (fun _ => False) rfl rfl ?aP (fun _ hk => hk.elim) ?aF ?aO ?aB ?aS ?aL ?_; (case aP => exact rfl); (case aB => exact CW.out); (case aF => exact (fun _ _ => trivial)); (case aO => exact CO.out); (case aS => exact CW.out.size); (case aL => have := bitsL_len i k; omega); intro v8 w8 ho hb1 hg1 hat; have HO8 := Lib.hid ho; have BW8 := Lib.hid hb1; clear ho hb1 hg1 hat)
      go_roundg (n - (i + 1))
      case measure => omega
      case rel => exact ⟨i + 1, by omega, by omega, by go_num, ⟨by rw [bitsL_succ, HB.out]; exact HO8.out⟩, ⟨BW8.out⟩⟩
     | false =>
      rw [hbit] at hb; simp only [Bool.false_eq_true, if_false] at hb; have HB := Lib.hid hbit; clear hbit
      go_wp2
      go_roundg (n - (i + 1))
      case measure => omega
      case rel => exact ⟨i + 1, by omega, by omega, by go_num, ⟨by rw [bitsL_succ, HB.out]; simpa using CO.out⟩, ⟨CW.out⟩⟩
    ·have hltiz : ¬ (i : Int) < (n : Int) := by omega
     obtain rfl : i = n := by omega
     have BO2 := Lib.hid (Kd.R_below BO.out CW.out); have BW2 := Lib.hid (below_then BW.out BW.out.size CW.out); have CO2 := Lib.hid (R_apart (Kd.R_lower CO.out BW.out.size) BO2.out); obtain ⟨A5, c5, rfl⟩ := Kd.R_slice CO.out; clear BO BW CO CW hlti
     go_wp2_with ((with_reducible refine gate_builtin (b := .append) (xs := #[.tmp 26, .tmp 28]) rfl ?_); at_builtin; refine Kd.R_append (Kd.slice 3 (Kd.int .i64)) (w0 := w) w.heap.size rfl (.tmp 26) (.tmp 28) 87 22 (.slice none 0 0) 24 rfl Try.underlying87 info22 rfl (by decide) (by omega) u3 ((genL i).take k) (bitsL i k) [.slice A5 (bitsL i k).length c5] (fun _ => True) (fun k => True ∧ some k ≠ (u3 : Value).ownBlock) rfl rfl ?aP ?aK ?aF ?aO ?aB ?aS ?aL ?_; (case aP => exact Kd.M_row CO2.out); (case aK => exact (fun _ hk => hk)); (case aB => exact BW2.out); (case aF => exact (fun _ _ => trivial)); (case aO => exact BO2.out); (case aS => exact BW2.out.size); (case aL => rw [List.length_take]; omega); intro v8 w8 ho hb1 hg1 hat; have HO8 := Lib.hid ho; have BW8 := Lib.hid hb1; clear ho hb1 hg1 hat)
     go_roundg (p - (k + 1))
     case measure => omega
     case rel => exact ⟨k + 1, by omega, by omega, by go_num, ⟨by rw [genL_snoc i k (by have := EP.out; omega)]; exact HO8.out⟩, ⟨BW8.out⟩⟩
  ·have hltz : ¬ (k : Int) < (p : Int) := by omega
   obtain rfl : k = p := by omega
   have BO2 : Hid (Kd.R (Kd.slice 3 (Kd.int .i64)) 22 wr w.heap.size (fun _ => True) u3 (genL n)) := by
    have := BO.out; rw [genL_take n k (by have := EP.out; omega), ← show 2 ^ n = k from EP.out] at this; exact this
   have BW2 := Lib.hid BW.out; clear BO BW hlt
   go_wp2_with fail
   refine (sortL 98 #[] lenC lenC_tot.swo lenC_tot.tot (enters_of Try.func98 (by kernel_rfl) rfl) (fun W A1 c1 l1 A2 c2 l2 h1 m1 h2 m2 => subsets1 W A1 c1 l1 A2 c2 l2 h1 m1 h2 m2) w.heap.size (fun _ => True) u3 (genL n) wr BO2.out (by rw [genL_len]; have := EP.out; omega)).mono ?_
   rintro e w9 ⟨rfl, ho, hg⟩; have HO9 := Lib.hid ho; have HB9 := Lib.hid (BW2.out.grown hg BW2.out.size (Kd.R_base BO2.out)); clear ho hg
   go_wp2_with fail
   go_ret
   exact ⟨_, rfl, HO9.out, HB9.out⟩
end Go.Proofs.Ytonipihlpbaknaa.Print
namespace Go.Proofs.Ytonipihlpbaknaa.Print
set_option linter.unusedVariables false
set_option linter.unusedSimpArgs false
open Go.RowKit Go.Proofs.YtonipihlpbaknaaW.PrintWords Go.Proofs.YtonipihlpbaknaaW.PrintLast Go.Proofs.YtonipihlpbaknaaW.PrintMore
def partsIn (l0 : List Int) (l1 : List S78) (ns : List Int) (ess : List (List Int)) : List S27 := (ess.filter fun es => partE l0 l1 ns es == 0).map fun es => ⟨ns, es⟩
def partsL (l0 : List Int) (l1 : List S78) : List S27 := (subsetsL l0.length).flatMap fun ns => partsIn l0 l1 ns (subsetsL l1.length)
def subgraph_All.f (l0_0 : List Int) (l0_1 : List S78) : Option (List S27 × Int) :=
  some (if validB l0_0 l0_1 = 0 then if 6 < l0_0.length + l0_1.length then ([], 3) else (partsL l0_0 l0_1, 0) else ([], validB l0_0 l0_1))
/-- An element of a row of rows of the call's own. -/
theorem R_elem {ok : Nat → Prop} {w : World} {base : Nat} {v : Value} {xs : List (List Int)} (h : Kd.R (Kd.slice 3 (Kd.int .i64)) 22 w base ok v xs) (j : Nat) (hj : j < xs.length) :
    ∃ b cap u, v = .slice (some ⟨b, 0, none⟩) xs.length cap ∧ w.cell? ⟨b, j, none⟩ = some u ∧ Kd.R (Kd.int .i64) 3 w base ok u xs[j] := by
  obtain ⟨b, cap, rfl, _, _, _⟩ := Kd.R_form h (by omega); obtain ⟨hok, inner, hown, hreps⟩ := h; have hel := hreps.2 j xs[j] (List.getElem?_eq_getElem hj); have hl : inner.length = xs.length * 1 := hreps.1
  have hl' : j < inner.length := by omega
  have e : (inner.drop (j * 1)).take 1 = [inner[j]] := by
    rw [Nat.mul_one, List.drop_eq_getElem_cons hl']
    rfl
  rw [show (Kd.slice 3 (Kd.int .i64)).sz = 1 from rfl, e] at hel; obtain ⟨u, eu, hr⟩ := hel; cases eu
  refine ⟨b, cap, _, rfl, ?_, Kd.R_mono hr (fun k hk => hk.1)⟩
  have := hown.cells (g := b) rfl j inner[j] (by rw [List.getElem?_eq_getElem hl'])
  rwa [add_plain] at this
theorem R_apart2 {ok ok' : Nat → Prop} {w : World} {base : Nat} {u v : Value} {l : List Int} {xs : List S27} (h : Kd.R (Kd.int .i64) 3 w base ok u l) (ho : Kd.R k27 27 w base ok' v xs) : Kd.R (Kd.int .i64) 3 w base (fun k => True ∧ some k ≠ v.ownBlock) u l :=
  Kd.R_mono (Kd.R_bound h) (fun k hk => ⟨trivial, fun e => by
    obtain ⟨_, _, _, q, hq, cells, hc⟩ := hk; obtain ⟨inner, hown⟩ := Kd.R_own ho; obtain ⟨cells', hc'⟩ := own_typed hown k e.symm; rw [hc] at hc'
    injection hc' with hc'
    injection hc' with _ hc'
    have : q = 3 := by simpa [Kd.int, Kd.scalar] using hq
    rw [this] at hc'
    exact absurd hc' (by decide)⟩)
theorem subsetsL_len (n : Nat) (l : List Int) (h : l ∈ subsetsL n) : l.length ≤ n := by
  unfold subsetsL at h; rw [List.mem_mergeSort] at h; obtain ⟨s, _, rfl⟩ := List.mem_map.1 h; exact bitsL_len n s
theorem subsetsL_size (n : Nat) : (subsetsL n).length = 2 ^ n := by
  unfold subsetsL; rw [List.length_mergeSort, genL_len]
theorem flatMap_le {α β : Type} (l : List α) (f : α → List β) (M : Nat) (h : ∀ x, (f x).length ≤ M) : (l.flatMap f).length ≤ l.length * M := by
  induction l with
  | nil => simp
  | cons x l ih =>
    have := h x; simp only [List.flatMap_cons, List.length_append, List.length_cons, Nat.add_mul, Nat.one_mul]
    omega
theorem partsIn_le (l0 : List Int) (l1 : List S78) (ns : List Int) (ess : List (List Int)) : (partsIn l0 l1 ns ess).length ≤ ess.length := by
  unfold partsIn; rw [List.length_map]; exact List.length_filter_le _ _
theorem partsL_lim (l0 : List Int) (l1 : List S78) (ns : List Int) (k j : Nat) (hs : l0.length + l1.length ≤ 6) : (((((subsetsL l0.length).take k).flatMap fun ns => partsIn l0 l1 ns (subsetsL l1.length)) ++ partsIn l0 l1 ns ((subsetsL l1.length).take j)).length + 1) * 48 ≤ 140737488355328 := by
  have e1 : (subsetsL l0.length).length ≤ 64 := by rw [subsetsL_size]; exact Nat.le_trans (Nat.pow_le_pow_right (by omega) (show l0.length ≤ 6 by omega)) (by decide)
  have e2 : (subsetsL l1.length).length ≤ 64 := by rw [subsetsL_size]; exact Nat.le_trans (Nat.pow_le_pow_right (by omega) (show l1.length ≤ 6 by omega)) (by decide)
  have h1 := flatMap_le ((subsetsL l0.length).take k) (fun ns => partsIn l0 l1 ns (subsetsL l1.length)) 64 (fun x => Nat.le_trans (partsIn_le _ _ _ _) e2); have h2 := partsIn_le l0 l1 ns ((subsetsL l1.length).take j); rw [List.length_take] at h1 h2; rw [List.length_append]
  omega
theorem partsIn_snoc (l0 : List Int) (l1 : List S78) (nss ess : List (List Int)) (k : Nat) (h : k < nss.length) : ((nss.take (k + 1)).flatMap fun ns => partsIn l0 l1 ns ess) = ((nss.take k).flatMap fun ns => partsIn l0 l1 ns ess) ++ partsIn l0 l1 nss[k] ess := by
  rw [List.take_succ_eq_append_getElem h, List.flatMap_append]
  simp
theorem partsIn_step (l0 : List Int) (l1 : List S78) (ns : List Int) (ess : List (List Int)) (j : Nat) (h : j < ess.length) : partsIn l0 l1 ns (ess.take (j + 1)) = partsIn l0 l1 ns (ess.take j) ++ (if partE l0 l1 ns ess[j] == 0 then [⟨ns, ess[j]⟩] else []) := by
  unfold partsIn; rw [List.take_succ_eq_append_getElem h, List.filter_append, List.map_append]
  congr 1
  by_cases e : (partE l0 l1 ns ess[j] == 0) = true
  · simp only [List.filter_cons, e, if_true, List.filter_nil, List.map_cons, List.map_nil]
  · simp only [List.filter_cons, e, List.filter_nil, List.map_nil]
    rfl
set_option maxHeartbeats 4000000 in
set_option maxRecDepth 100000 in
theorem All_c (A0 : Option Addr) (c0 : Nat) (l0 : List Int) (A1 : Option Addr) (c1 : Nat) (l1 : List S78) (w : World) (hr0 : Kd.C (Kd.int .i64) w A0 l0.length l0) (hc0 : l0.length ≤ c0) (hr1 : Kd.C k78 w A1 l1.length l1) (hc1 : l1.length ≤ c1) (hv : validB l0 l1 = 0) (hs : l0.length + l1.length ≤ 6) :
  Calls Try.prog 24 #[.agg #[.slice A0 l0.length c0, .slice A1 l1.length c1]] w fun e w' => ∃ v0_ : Value, e = .returned (.tuple #[v0_, .int .i64 0]) ∧ Kd.R k27 27 w' w.heap.size (fun _ => True) v0_ (partsL l0 l1) ∧ Below w.heap.size w w' := by
 have H0 := fun (W : World) (hb : Below w.heap.size w W) => graph_Valid.calls0 A0 c0 l0 A1 c1 l1 W (Kd.C_below hr0 hb) (Kd.C_below hr1 hb)
 rw [hv] at H0; have D0 := Lib.hid H0; have D1 := Lib.hid (fun (W : World) => subsets_gen l0.length (by omega) W); have D2 := Lib.hid (fun (W : World) => subsets_gen l1.length (by omega) W)
 have D3 := Lib.hid (fun (W : World) (hb : Below w.heap.size w W) (B0 : Option Addr) (d0 : Nat) (ns : List Int) (B1 : Option Addr) (d1 : Nat) (es : List Int) (h0 : Kd.C (Kd.int .i64) W B0 ns.length ns) (m0 : ns.length ≤ d0) (h1 : Kd.C (Kd.int .i64) W B1 es.length es) (m1 : es.length ≤ d1) (hn : ns.length < 100) (he : es.length < 100) =>
  subgraph_part.calls 1000 A0 c0 l0 A1 c1 l1 B0 d0 ns B1 d1 es _ W (Kd.C_below hr0 hb) hc0 (Kd.C_below hr1 hb) hc1 h0 m0 h1 m1 (part_ok l0 l1 ns es (by omega) (by omega) 1000 (by omega)))
 clear H0 hr0 hr1 hv
 have hL0 : (subsetsL l0.length).length ≤ 64 := by rw [subsetsL_size]; exact Nat.le_trans (Nat.pow_le_pow_right (by omega) (show l0.length ≤ 6 by omega)) (by decide)
 have hL1 : (subsetsL l1.length).length ≤ 64 := by rw [subsetsL_size]; exact Nat.le_trans (Nat.pow_le_pow_right (by omega) (show l1.length ≤ 6 by omega)) (by decide)
 have gs : decide ((l0.length : Int) + l1.length > 6) = false := by simp; omega
 go_enter Try.func24, Try.ntmps24
 go_wp2_with fail
 refine (D0.out _ (by exact below_alloc (Below.refl _ _) _)).mono ?_
 rintro en w1 ⟨rfl, hb⟩; have HB := Lib.hid (below_then (below_alloc (Below.refl w.heap.size w) (.cells #[.slice A0 l0.length c0, .slice A1 l1.length c1] 25)) (by simp) hb); have HG := Lib.hid (blk_below (blk_new w (.cells #[.slice A0 l0.length c0, .slice A1 l1.length c1] 25)) hb); clear hb D0; have k0 := (blk_cell HG.out 0).trans rfl; have k1 := (blk_cell HG.out 1).trans rfl
 go_wp2_with fail
 refine (D1.out _).mono ?_
 rintro en w2 ⟨v2, rfl, ho, hb⟩; have HO2 := Lib.hid (Kd.R_lower ho HB.out.size); have HB2 := Lib.hid (below_then HB.out HB.out.size hb); have HG2 := Lib.hid (blk_below HG.out hb); obtain ⟨A2, c2, rfl⟩ := Kd.R_slice ho; clear ho hb k0 k1 HB HG D1
 go_wp2_with fail
 go_loopg [5, 7, 29] (subsetsL l0.length).length (fun gg s5 _ s29 wr => ∃ k : Nat, k ≤ (subsetsL l0.length).length ∧ (subsetsL l0.length).length - k ≤ gg ∧ s29 = .int .i64 k ∧ Aside0 (Kd.R k27 27 wr w2.heap.size (fun _ => True) s5 (((subsetsL l0.length).take k).flatMap fun ns => partsIn l0 l1 ns (subsetsL l1.length))) ∧ Aside0 (Below w2.heap.size w2 wr))
 case atStart => exact ⟨0, Nat.zero_le _, by omega, rfl, ⟨by simpa using Kd.R_nil _ _ _ _ _⟩, ⟨Below.refl _ _⟩⟩
 case round =>
  obtain ⟨k, hk, hg, rfl, BO, BW⟩ := hrel
  by_cases hlt : k < (subsetsL l0.length).length
  ·have hltz : (k : Int) < ((subsetsL l0.length).length : Int) := by omega
   obtain ⟨b2, cap2, u2, e2, q2', r2⟩ := R_elem HO2.out k hlt; have q2 := (BW.out.cell (World.block_lt_of_cell? w2 _ q2')).trans q2'; clear q2'
   injection e2 with e21 e22 e23
   subst e21 e23; obtain ⟨B7, d7, rfl, m7, h7⟩ := Kd.R_reads r2; have C7 := Lib.hid h7
   have N7 : Hid ((subsetsL l0.length)[k].length < 100) := by have := subsetsL_len l0.length _ (List.getElem_mem hlt); show _ < 100; omega
   have E7 := Lib.hid (partsIn_snoc l0 l1 (subsetsL l0.length) (subsetsL l1.length) k hlt); have M7 := Lib.hid m7
   obtain ⟨wo, rfl⟩ : ∃ wo : World, wo = wr := ⟨_, rfl⟩
   have HGo := Lib.hid (blk_below HG2.out BW.out); have HBo := Lib.hid (below_then HB2.out HB2.out.size BW.out); have g0 := (blk_cell HGo.out 0).trans rfl; have g1 := (blk_cell HGo.out 1).trans rfl; clear r2 h7 m7; generalize (subsetsL l0.length)[k] = ns at C7 N7 E7 q2 M7
   go_wp2_with fail
   refine (D2.out _).mono ?_
   rintro en w3 ⟨v3, rfl, ho, hb⟩; obtain ⟨A3, c3, rfl⟩ := Kd.R_slice ho; have HO3 := Lib.hid (Kd.R_lower ho BW.out.size); have BO3 := Lib.hid (Kd.R_below BO.out hb); have BW3 := Lib.hid (below_then BW.out BW.out.size hb); clear ho hb BO BW HGo HBo q2 g0 g1
   go_wp2_with fail
   go_loopg [5, 9, 10, 38] (subsetsL l1.length).length (fun gg s5 _ _ s38 wr => ∃ j : Nat, j ≤ (subsetsL l1.length).length ∧ (subsetsL l1.length).length - j ≤ gg ∧ s38 = .int .i64 j ∧ Aside0 (Kd.R k27 27 wr w2.heap.size (fun _ => True) s5 ((((subsetsL l0.length).take k).flatMap fun ns => partsIn l0 l1 ns (subsetsL l1.length)) ++ partsIn l0 l1 ns ((subsetsL l1.length).take j))) ∧ Aside0 (Kd.R (Kd.slice 3 (Kd.int .i64)) 22 wr w2.heap.size (fun _ => True) (.slice A3 (subsetsL l1.length).length c3) (subsetsL l1.length)) ∧ Aside0 (Below w2.heap.size w2 wr))
   case atStart => exact ⟨0, Nat.zero_le _, by omega, rfl, ⟨by simpa [partsIn] using BO3.out⟩, ⟨HO3.out⟩, ⟨BW3.out⟩⟩
   case round =>
    clear BO3 HO3 BW3; obtain ⟨j, hj, hgj, rfl, BO, RO, BW⟩ := hrel
    by_cases hltj : j < (subsetsL l1.length).length
    ·have hltjz : (j : Int) < ((subsetsL l1.length).length : Int) := by omega
     obtain ⟨b3, cap3, u3, e3, q3, r3⟩ := R_elem RO.out j hltj
     injection e3 with e31 e32 e33
     subst e31 e33; obtain ⟨B9, d9, rfl, m9, h9⟩ := Kd.R_reads r3
     have N9 : Hid ((subsetsL l1.length)[j].length < 100) := by have := subsetsL_len l1.length _ (List.getElem_mem hltj); show _ < 100; omega
     have E9 := Lib.hid (partsIn_step l0 l1 ns (subsetsL l1.length) j hltj); have M9 := Lib.hid m9; have R9 := Lib.hid r3; clear r3 h9 m9; generalize (subsetsL l1.length)[j] = es at N9 E9 q3 M9 R9
     go_wp2_with fail
     refine (slices_Clone_int_int.calls B7 d7 ns ns _ (Kd.C_below C7.out BW.out) M7.out (if_pos (by have := N7.out; omega))).mono ?_
     rintro en w4 ⟨v4, rfl, ho, hb⟩; obtain ⟨A4, c4, rfl⟩ := Kd.R_slice ho; have R4 := Lib.hid (Kd.R_lower ho BW.out.size); have BO4 := Lib.hid (Kd.R_below BO.out hb); have RO4 := Lib.hid (Kd.R_below RO.out hb); have R94 := Lib.hid (Kd.R_below R9.out hb); have BW4 := Lib.hid (below_then BW.out BW.out.size hb); clear ho hb BO RO R9 BW q3; have HG4 := Lib.hid (blk_below HG2.out BW4.out); have g0 := (blk_cell HG4.out 0).trans rfl; have g1 := (blk_cell HG4.out 1).trans rfl; have hlt4 : w.heap.size < w4.heap.size := blk_lt HG4.out
     go_wp2_with fail
     have PC := Lib.hid (D3.out (w4.alloc (.cells #[.slice A4 ns.length c4, .slice B9 es.length d9] 27)) (below_alloc (below_then HB2.out HB2.out.size BW4.out) _) A4 c4 ns B9 d9 es (Kd.C_alloc (Kd.R_reads' R4.out).2.2 _) (Kd.R_reads' R4.out).2.1 (Kd.C_alloc (Kd.R_reads' R94.out).2.2 _) (Kd.R_reads' R94.out).2.1 N7.out N9.out)
     refine PC.out.mono ?_
     rintro en w5 ⟨rfl, hb⟩; have BO5 := Lib.hid (Kd.R_below (Kd.R_alloc BO4.out (.cells #[.slice A4 ns.length c4, .slice B9 es.length d9] 27)) hb); have RO5 := Lib.hid (Kd.R_below (Kd.R_alloc RO4.out (.cells #[.slice A4 ns.length c4, .slice B9 es.length d9] 27)) hb); have R45 := Lib.hid (Kd.R_below (Kd.R_alloc R4.out (.cells #[.slice A4 ns.length c4, .slice B9 es.length d9] 27)) hb); have R95 := Lib.hid (Kd.R_below (Kd.R_alloc R94.out (.cells #[.slice A4 ns.length c4, .slice B9 es.length d9] 27)) hb); have BW5 := Lib.hid (below_then (below_alloc BW4.out (.cells #[.slice A4 ns.length c4, .slice B9 es.length d9] 27)) (by have := BW4.out.size; simp; omega) hb); have HP5 := Lib.hid (blk_below (blk_new w4 (.cells #[.slice A4 ns.length c4, .slice B9 es.length d9] 27)) hb); clear hb BO4 RO4 R4 R94 BW4 HG4 g0 g1 PC; have p0 := (blk_cell HP5.out 0).trans rfl; have p1 := (blk_cell HP5.out 1).trans rfl; generalize partE l0 l1 ns es = pe at E9 ⊢
     cases hpe : (pe == 0) with
     | true =>
      have S1 := Lib.hid (R_apart2 R45.out BO5.out); have S2 := Lib.hid (R_apart2 R95.out BO5.out)
      go_wp2_with ((with_reducible refine gate_builtin (b := .append) (xs := #[.tmp 50, .tmp 52]) rfl ?_); at_builtin; refine Kd.R_append k27 (w0 := w2) w2.heap.size rfl (.tmp 50) (.tmp 52) 42 27 (.agg #[.slice none 0 0, .slice none 0 0]) 48 rfl Try.underlying42 info27 rfl (by decide) (by omega) u5 ((((subsetsL l0.length).take k).flatMap fun ns => partsIn l0 l1 ns (subsetsL l1.length)) ++ partsIn l0 l1 ns ((subsetsL l1.length).take j)) (⟨ns, es⟩ : S27) [.slice A4 ns.length c4, .slice B9 es.length d9] (fun _ => True) (fun k => True ∧ some k ≠ (u5 : Value).ownBlock) rfl rfl ?aP ?aK ?aF ?aO ?aB ?aS ?aL ?_; (case aP => exact k27_mkM _ _ _ (⟨ns, es⟩ : S27) S1.out S2.out); (case aK => exact (fun _ hk => hk)); (case aB => exact BW5.out); (case aF => exact (fun _ _ => trivial)); (case aO => exact BO5.out); (case aS => exact BW5.out.size); (case aL => exact partsL_lim l0 l1 ns k j hs); intro v8 w8 ho hb1 hg1 hat; have HO8 := Lib.hid ho; have BW8 := Lib.hid hb1; have RO8 := Lib.hid (Kd.R_over RO5.out BO5.out (by decide) hg1); clear ho hb1 hg1 hat)
      go_roundg ((subsetsL l1.length).length - (j + 1))
      case measure => omega
      case rel => exact ⟨j + 1, by omega, by omega, by go_num, ⟨by rw [E9.out, if_pos hpe, ← List.append_assoc]; exact HO8.out⟩, ⟨RO8.out⟩, ⟨BW8.out⟩⟩
     | false =>
      go_wp2_with fail
      go_roundg ((subsetsL l1.length).length - (j + 1))
      case measure => omega
      case rel => exact ⟨j + 1, by omega, by omega, by go_num, ⟨by rw [E9.out, if_neg (by simp [hpe]), List.append_nil]; exact BO5.out⟩, ⟨RO5.out⟩, ⟨BW5.out⟩⟩
    ·have hltjz : ¬ (j : Int) < ((subsetsL l1.length).length : Int) := by omega
     obtain rfl : j = (subsetsL l1.length).length := by omega
     have BO6 : Hid (Kd.R k27 27 wr w2.heap.size (fun _ => True) u5 (((subsetsL l0.length).take (k + 1)).flatMap fun ns => partsIn l0 l1 ns (subsetsL l1.length))) := by
      have := BO.out; rw [List.take_length, ← E7.out] at this; exact this
     have BW6 := Lib.hid BW.out; clear BO RO BW hltj
     go_wp2_with fail
     go_roundg ((subsetsL l0.length).length - (k + 1))
     case measure => omega
     case rel => exact ⟨k + 1, by omega, by omega, by go_num, ⟨BO6.out⟩, ⟨BW6.out⟩⟩
  ·have hltz : ¬ (k : Int) < ((subsetsL l0.length).length : Int) := by omega
   obtain rfl : k = (subsetsL l0.length).length := by omega
   have BO6 : Hid (Kd.R k27 27 wr w2.heap.size (fun _ => True) u5 (partsL l0 l1)) := by
    have := BO.out; rw [List.take_length] at this; exact this
   have BW6 := Lib.hid (below_then HB2.out HB2.out.size BW.out); clear BO BW hlt
   go_wp2_with fail
   go_ret2
   exact ⟨_, rfl, Kd.R_lower BO6.out HB2.out.size, BW6.out⟩
set_option maxHeartbeats 1000000 in
theorem All_a (A0 : Option Addr) (c0 : Nat) (l0 : List Int) (A1 : Option Addr) (c1 : Nat) (l1 : List S78) (w : World) (hr0 : Kd.C (Kd.int .i64) w A0 l0.length l0) (hr1 : Kd.C k78 w A1 l1.length l1) (e : Int) (he : validB l0 l1 = e) (hne : (e == 0) = false) :
    Calls Try.prog 24 #[.agg #[.slice A0 l0.length c0, .slice A1 l1.length c1]] w fun en w' => en = .returned (.tuple #[.slice none 0 0, .int .i64 e]) ∧ Below w.heap.size w w' := by
  have H0 := fun (W : World) (hb : Below w.heap.size w W) => graph_Valid.calls0 A0 c0 l0 A1 c1 l1 W (Kd.C_below hr0 hb) (Kd.C_below hr1 hb)
  rw [he] at H0; have D0 := Lib.hid H0
  have hne2 : (e != 0) = true := by simpa [bne] using hne
  clear H0 hr0 hr1 he
  go_enter Try.func24, Try.ntmps24
  go_wp2_with fail
  refine (D0.out _ (by exact below_alloc (Below.refl _ _) _)).mono ?_
  rintro en w1 ⟨rfl, hb⟩; have HB := Lib.hid (below_then (below_alloc (Below.refl w.heap.size w) (.cells #[.slice A0 l0.length c0, .slice A1 l1.length c1] 25)) (by simp) hb); clear hb D0
  go_wp2_with fail
  go_ret2
  exact ⟨rfl, HB.out⟩
set_option maxHeartbeats 1000000 in
theorem All_b (A0 : Option Addr) (c0 : Nat) (l0 : List Int) (A1 : Option Addr) (c1 : Nat) (l1 : List S78) (w : World) (hr0 : Kd.C (Kd.int .i64) w A0 l0.length l0) (hr1 : Kd.C k78 w A1 l1.length l1) (hv : validB l0 l1 = 0) (hs : 6 < l0.length + l1.length) (hm : l0.length + l1.length < 1000) :
    Calls Try.prog 24 #[.agg #[.slice A0 l0.length c0, .slice A1 l1.length c1]] w fun en w' => en = .returned (.tuple #[.slice none 0 0, .int .i64 3]) ∧ Below w.heap.size w w' := by
  have H0 := fun (W : World) (hb : Below w.heap.size w W) => graph_Valid.calls0 A0 c0 l0 A1 c1 l1 W (Kd.C_below hr0 hb) (Kd.C_below hr1 hb)
  rw [hv] at H0; have D0 := Lib.hid H0
  have gs : decide ((6 : Int) < (l0.length : Int) + l1.length) = true := by simp; omega
  clear H0 hr0 hr1 hv
  go_enter Try.func24, Try.ntmps24
  go_wp2_with fail
  refine (D0.out _ (by exact below_alloc (Below.refl _ _) _)).mono ?_
  rintro en w1 ⟨rfl, hb⟩; have HB := Lib.hid (below_then (below_alloc (Below.refl w.heap.size w) (.cells #[.slice A0 l0.length c0, .slice A1 l1.length c1] 25)) (by simp) hb); have HG := Lib.hid (blk_below (blk_new w (.cells #[.slice A0 l0.length c0, .slice A1 l1.length c1] 25)) hb); clear hb D0; have k0 := (blk_cell HG.out 0).trans rfl; have k1 := (blk_cell HG.out 1).trans rfl
  go_wp2_with fail
  go_ret2
  exact ⟨rfl, HB.out⟩
theorem validB_size (l0 : List Int) (l1 : List S78) (h : validB l0 l1 = 0) : l0.length ≤ 40 ∧ l1.length ≤ 80 := by
  unfold validB at h
  split at h
  · omega
  · split at h
    · omega
    · omega
theorem subgraph_All.callsR (A0_0 : Option Addr) (c0_0 : Nat) (l0_0 : List Int) (A0_1 : Option Addr) (c0_1 : Nat) (l0_1 : List (S78)) (r1 : List S27) (r2 : Int) (w : World) (hr0_0 : Kd.C (Kd.int .i64) w A0_0 l0_0.length l0_0) (hc0_0 : l0_0.length ≤ c0_0) (hr0_1 : Kd.C k78 w A0_1 l0_1.length l0_1) (hc0_1 : l0_1.length ≤ c0_1) (h : subgraph_All.f l0_0 l0_1 = some (r1, r2)) :
    Calls Try.prog 24 #[.agg #[.slice A0_0 l0_0.length c0_0, .slice A0_1 l0_1.length c0_1]] w fun e w' => ∃ v0_ : Value, e = .returned (.tuple #[v0_, .int .i64 r2]) ∧ Kd.R k27 27 w' w.heap.size (fun _ => True) v0_ r1 ∧ Below w.heap.size w w' := by
  unfold subgraph_All.f at h
  by_cases hv : validB l0_0 l0_1 = 0
  · rw [if_pos hv] at h
    have hz := validB_size l0_0 l0_1 hv
    by_cases hs : 6 < l0_0.length + l0_1.length
    · rw [if_pos hs] at h
      simp only [Option.some.injEq, Prod.mk.injEq] at h; obtain ⟨rfl, rfl⟩ := h
      exact (All_b A0_0 c0_0 l0_0 A0_1 c0_1 l0_1 w hr0_0 hr0_1 hv hs (by omega)).mono fun e w' ⟨he, hb⟩ => ⟨_, he, Kd.R_nil _ _ _ _ _, hb⟩
    · rw [if_neg hs] at h
      simp only [Option.some.injEq, Prod.mk.injEq] at h; obtain ⟨rfl, rfl⟩ := h; exact All_c A0_0 c0_0 l0_0 A0_1 c0_1 l0_1 w hr0_0 hc0_0 hr0_1 hc0_1 hv (by omega)
  · rw [if_neg hv] at h
    simp only [Option.some.injEq, Prod.mk.injEq] at h; obtain ⟨rfl, rfl⟩ := h
    exact (All_a A0_0 c0_0 l0_0 A0_1 c0_1 l0_1 w hr0_0 hr0_1 _ rfl (beq_eq_false_iff_ne.2 hv)).mono fun e w' ⟨he, hb⟩ => ⟨_, he, Kd.R_nil _ _ _ _ _, hb⟩
end Go.Proofs.Ytonipihlpbaknaa.Print
namespace Go.Proofs.Ytonipihlpbaknaa.Print
open Go.RowKit Go.Proofs.YtonipihlpbaknaaW.PrintWords Go.Proofs.YtonipihlpbaknaaW.PrintLast Go.Proofs.YtonipihlpbaknaaW.PrintMore
attribute [local go_sem] max2_int min2_int max_two min_two max_three min_three max_four min_four   -- for this text's walks alone
set_option linter.unusedVariables false
set_option linter.unusedSimpArgs false
def scarfjointlaw07_line.f  : Option (List Int × (List (S78))) := some ((([0, 0, 0] : List Int)), (([(⟨0, 0, 1⟩ : S78), (⟨0, 1, 2⟩ : S78)] : List (S78))))
set_option maxHeartbeats 8000000 in
set_option maxRecDepth 100000 in
theorem scarfjointlaw07_line.calls  (r1 : List Int) (r2 : List (S78)) (w : World) (h : scarfjointlaw07_line.f  = some (r1, r2)) :
  Calls Try.prog 49 #[] w fun e w' => ∃ v0_ v1_ : Value, e = .returned (.agg #[v0_, v1_]) ∧ Kd.R (Kd.int .i64) 3 w' w.heap.size (fun _ => True) v0_ r1 ∧ Kd.R k78 78 w' w.heap.size (fun _ => True) v1_ r2 ∧ Below w.heap.size w w' := by
 have hu25 := Try.underlying25; have hu78 := Try.underlying78; have HB := Aside0.mk (Below.refl w.heap.size w); have H : (some ((([0, 0, 0] : List Int)), (([(⟨0, 0, 1⟩ : S78), (⟨0, 1, 2⟩ : S78)] : List (S78))))) = some (r1, r2) := h; clear h
 obtain ⟨y102, hy102⟩ : ∃ y_ : List Int, y_ = (([0, 0, 0] : List Int)) := ⟨_, rfl⟩
 replace H : (some (y102, (([(⟨0, 0, 1⟩ : S78), (⟨0, 1, 2⟩ : S78)] : List (S78))))) = some (r1, r2) := by first | (rw [hy102]; with_reducible exact H) | (have H2_ := (Option.bind_some _ _).symm.trans H; rw [hy102]; with_reducible exact H2_) | (have H2_ := (Option.bind_some _ _).symm.trans H; with_reducible exact H2_) | with_reducible exact H | (rw [hy102]; exact H) | exact H
 have Ny102 := Aside0.mk hy102; clear hy102
 obtain ⟨y105, hy105⟩ : ∃ y_ : List (S78), y_ = (([(⟨0, 0, 1⟩ : S78), (⟨0, 1, 2⟩ : S78)] : List (S78))) := ⟨_, rfl⟩
 replace H : (some (y102, y105)) = some (r1, r2) := by first | (rw [hy105]; with_reducible exact H) | (have H2_ := (Option.bind_some _ _).symm.trans H; rw [hy105]; with_reducible exact H2_) | (have H2_ := (Option.bind_some _ _).symm.trans H; with_reducible exact H2_) | with_reducible exact H | (rw [hy105]; exact H) | exact H
 have Ny105 := Aside0.mk hy105; clear hy105; simp only [Option.some.injEq, Prod.mk.injEq] at H; obtain ⟨rfl, rfl⟩ := H
 go_enter Try.func49, Try.ntmps49
 go_wp2_with (first | ((with_reducible refine gate_dst (N := 0) rfl ?_); refine box_event ?hg (N := 0) ?hd (cs := #[.slice none 0 0, .slice none 0 0]) (t := 25) ?hr ?_; (case hd => rfl); (case hg => rfl); (case hr => first | (go_simp; done) | (go_simp; rfl)); intro gb101 hg w1 hbox hb; have n0_ := Aside0.mk (below_step (by repeat (first | (with_reducible first | exact HB.out | apply lA_ | apply lN_ | apply lD_) | exact HB.out)) hb); have n1_ := Aside0.mk (hbox); have n2_ := Aside0.mk ((by rw [hg]; exact (below_size (by repeat (first | (with_reducible first | exact HB.out | apply lA_ | apply lN_ | apply lD_) | exact HB.out))) : w.heap.size ≤ gb101)); have n3_ := Aside0.mk ((by rw [hg]; exact (below_size (by repeat (first | (with_reducible first | exact HB.out | apply lA_ | apply lN_ | apply lD_) | exact HB.out))) : w.heap.size ≤ gb101)); clear HB; have HB := n0_; have BK101 := n1_; have GW101 := n2_; have GE101 := n3_; clear n0_ n1_ n2_ n3_; clear hb hbox hg) | ((with_reducible refine gate_dst (N := 1) rfl ?_); refine Kd.R_lit (Kd.int .i64) _ 3 ?hg (N := 1) ?hd (xs := ([0, 0, 0] : List Int)) (inner := [.int .i64 0, .int .i64 0, .int .i64 0]) (ok := fun _ => True) (okp := fun _ => True) ?hr ?hp (fun _ hk => hk) trivial (Below.refl _ _) (Nat.le_refl _) (by simp) ?_; (case hd => rfl); (case hg => rfl); (case hr => first | (go_simp; done) | (go_simp; rfl)); (case hp => exact (Reps.one (show Kd.M (Kd.int .i64) _ _ _ 0 [.int .i64 0] from rfl) (Reps.one (show Kd.M (Kd.int .i64) _ _ _ 0 [.int .i64 0] from rfl) (Reps.one (show Kd.M (Kd.int .i64) _ _ _ 0 [.int .i64 0] from rfl) (Reps.none _ _))))); intro v103 w2 ho3 hb hg_ hnew_; clear hg_ hnew_; (first | rw [← Ny102.out] at ho3 | (simp only [Int.reduceToNat] at ho3; rw [← Ny102.out] at ho3)); have n0_ := Aside0.mk (Kd.R_lower ho3 (below_size (by repeat (first | (with_reducible first | exact HB.out | apply lA_ | apply lN_ | apply lD_ | refine below_set ?_ GE101.out) | exact HB.out)))); have n1_ := Aside0.mk (blk_below (g := gb101) (o := .cells #[.slice none 0 0, .slice none 0 0] 25 (0, 0)) (by (with_reducible repeat first | refine bN_ ?_ _ | refine bD_ ?_ | refine bA_ ?_ _); exact BK101.out) hb); have n2_ := Aside0.mk (below_step (by repeat (first | (with_reducible first | exact HB.out | apply lA_ | apply lN_ | apply lD_ | refine below_set ?_ GE101.out) | exact HB.out)) hb); clear BK101; clear HB; have HO104 := n0_; have BK101 := n1_; have HB := n2_; clear n0_ n1_ n2_; clear hb ho3) | ((with_reducible refine gate_dst (N := 4) rfl ?_); refine Kd.R_lit k78 _ 78 ?hg (N := 4) ?hd (xs := ([(⟨0, 0, 1⟩ : S78), (⟨0, 1, 2⟩ : S78)] : List (S78))) (inner := [.int .i64 0, .int .i64 0, .int .i64 1, .int .i64 0, .int .i64 1, .int .i64 2]) (ok := fun _ => True) (okp := fun _ => True) ?hr ?hp (fun _ hk => hk) trivial (Below.refl _ _) (Nat.le_refl _) (by simp) ?_; (case hd => rfl); (case hg => rfl); (case hr => first | (go_simp; done) | (go_simp; rfl)); (case hp => exact (Reps.c3 (show Kd.M k78 _ _ _ (⟨0, 0, 1⟩ : S78) [.int .i64 0, .int .i64 0, .int .i64 1] from (k78_mkM _ _ _ (⟨0, 0, 1⟩ : S78) )) (Reps.c3 (show Kd.M k78 _ _ _ (⟨0, 1, 2⟩ : S78) [.int .i64 0, .int .i64 1, .int .i64 2] from (k78_mkM _ _ _ (⟨0, 1, 2⟩ : S78) )) (Reps.none _ _)))); intro v106 w4 ho5 hb hg_ hnew_; clear hg_ hnew_; (first | rw [← Ny105.out] at ho5 | (simp only [Int.reduceToNat] at ho5; rw [← Ny105.out] at ho5)); have n0_ := Aside0.mk (Kd.R_below (by (with_reducible repeat (first | apply rA_ | apply rN_ | apply rD_)); exact HO104.out) hb); have n1_ := Aside0.mk (Kd.R_lower ho5 (below_size (by repeat (first | (with_reducible first | exact HB.out | apply lA_ | apply lN_ | apply lD_ | refine below_set ?_ GE101.out) | exact HB.out)))); have n2_ := Aside0.mk (blk_below (g := gb101) (o := .cells #[.slice none 0 0, .slice none 0 0] 25 (0, 0)) (by (with_reducible repeat first | refine bN_ ?_ _ | refine bD_ ?_ | refine bA_ ?_ _); exact BK101.out) hb); have n3_ := Aside0.mk (below_step (by repeat (first | (with_reducible first | exact HB.out | apply lA_ | apply lN_ | apply lD_ | refine below_set ?_ GE101.out) | exact HB.out)) hb); clear HO104; clear BK101; clear HB; have HO104 := n0_; have HO107 := n1_; have BK101 := n2_; have HB := n3_; clear n0_ n1_ n2_ n3_; clear hb ho5; obtain ⟨Ao6, co6, eo6⟩ := Kd.R_slice HO107.out; subst eo6; obtain ⟨Ao7, co7, eo7⟩ := Kd.R_slice HO104.out; subst eo7; have hcz8_0 : w4.cell? ⟨gb101, 0, none⟩ = some (.slice none 0 0) := (blk_cell BK101.out 0).trans rfl; have hcz8_1 : w4.cell? ⟨gb101, 1, none⟩ = some (.slice none 0 0) := (blk_cell BK101.out 1).trans rfl; have hfz8_0 := blk_frozen BK101.out 0; have hfz8_1 := blk_frozen BK101.out 1))
 refine bodyPost_ret (results_cell_row rfl _ _ gb101 25 #[.slice Ao7 y102.length co7, .slice Ao6 y105.length co6] (0, 0) _ rfl (by (with_reducible repeat first | refine bN_ ?_ _ | refine bD_ ?_ | refine bA_ ?_ _); refine blk_put (cs := #[.slice Ao7 y102.length co7, .slice none 0 0]) ?_ 1 _ rfl; (with_reducible repeat first | refine bN_ ?_ _ | refine bD_ ?_ | refine bA_ ?_ _); refine blk_put (cs := #[.slice none 0 0, .slice none 0 0]) ?_ 0 _ rfl; (with_reducible repeat first | refine bN_ ?_ _ | refine bD_ ?_ | refine bA_ ?_ _); exact BK101.out) Try.underlying25 rfl (by kernel_rfl)) rfl ?_
 exact ⟨_, _, by first | rfl | (simp [errW_none, errW_some] <;> rfl) | (simp [*, errW_none, errW_some] <;> rfl), by (with_reducible repeat (first | apply rA_ | apply rN_ | apply rD_)); exact Kd.R_mono (Kd.R_far (p := ⟨gb101, 1, none⟩) (Kd.R_far (p := ⟨gb101, 0, none⟩) (Kd.R_types HO104.out BK101.out (by decide)) (fun _ hk => hk.2) (.slice Ao7 y102.length co7)) (fun _ hk => hk.2) (.slice Ao6 y105.length co6)) (fun _ hk => trivial), by (with_reducible repeat (first | apply rA_ | apply rN_ | apply rD_)); exact Kd.R_mono (Kd.R_far (p := ⟨gb101, 1, none⟩) (Kd.R_far (p := ⟨gb101, 0, none⟩) (Kd.R_types HO107.out BK101.out (by decide)) (fun _ hk => hk.2) (.slice Ao7 y102.length co7)) (fun _ hk => hk.2) (.slice Ao6 y105.length co6)) (fun _ hk => trivial), by repeat (first | (with_reducible first | exact HB.out | apply lA_ | apply lN_ | apply lD_ | refine below_set ?_ GE101.out) | exact HB.out)⟩
end Go.Proofs.Ytonipihlpbaknaa.Print
namespace Go.Proofs.Ytonipihlpbaknaa.Print
open Go.RowKit Go.Proofs.YtonipihlpbaknaaW.PrintWords Go.Proofs.YtonipihlpbaknaaW.PrintLast Go.Proofs.YtonipihlpbaknaaW.PrintMore
attribute [local go_sem] max2_int min2_int max_two min_two max_three min_three max_four min_four   -- for this text's walks alone
set_option linter.unusedVariables false
set_option linter.unusedSimpArgs false
def slices_Equal_int_int.l0 : Nat → List Int → List Int → Int → Int → Option (Bool)
  | 0, _, _, _, _ => none
  | k + 1, x0, x1, x12, x13 => if x13 < x12 then (if 0 ≤ x13 then (if x13 < (x0.length : Int) then (if x13 < (x1.length : Int) then (if (rd x0 x13) = (rd x1 x13) then (slices_Equal_int_int.l0 k x0 x1 x12 (wrap64 (x13 + 1))) else (some false)) else (none)) else (none)) else (none)) else (some true)
def slices_Equal_int_int.f (k : Nat) (l0 : List Int) (l1 : List Int) : Option (Bool) := if (l0.length : Int) = (l1.length : Int) then (slices_Equal_int_int.l0 k l0 l1 (l0.length : Int) 0) else (some false)
set_option maxHeartbeats 8000000 in
set_option maxRecDepth 100000 in
theorem slices_Equal_int_int.calls (k : Nat) (A0 : Option Addr) (c0 : Nat) (l0 : List Int) (A1 : Option Addr) (c1 : Nat) (l1 : List Int) (r : Bool) (w : World) (hr0 : Kd.C (Kd.int .i64) w A0 l0.length l0) (hc0 : l0.length ≤ c0) (hr1 : Kd.C (Kd.int .i64) w A1 l1.length l1) (hc1 : l1.length ≤ c1) (h : slices_Equal_int_int.f k l0 l1 = some r) :
  Calls Try.prog 36 #[.slice A0 l0.length c0, .slice A1 l1.length c1] w fun e w' => e = .returned (.bool r) ∧ Drawn0 w w' := by
 have HR0 := Aside0.mk hr0; have HC0 := Aside0.mk hc0; clear hr0 hc0; have HR1 := Aside0.mk hr1; have HC1 := Aside0.mk hc1; clear hr1 hc1; have H : (if (l0.length : Int) = (l1.length : Int) then (slices_Equal_int_int.l0 k l0 l1 (l0.length : Int) 0) else (some false)) = some r := h; clear h
 by_cases c3 : (l0.length : Int) = (l1.length : Int)
 ·rw [if_pos c3] at H
  have c3b0 : ((l0.length : Int) == (l1.length : Int)) = true := beq_iff_eq.mpr c3; have c3b1 : ((l0.length : Int) != (l1.length : Int)) = false := bne_eq_false_iff_eq.mpr c3
  have c3b2 : (l0.length == l1.length) = true := by first | simpa using c3 | (simp at c3 ⊢; omega)
  clear c3; have H' := Aside0.mk H; clear H
  go_enter Try.func36, Try.ntmps36
  go_wp2
  repeat (go_quiet (fail); try go_wp2)
  go_loopg [13] k (fun kq v13 w' => ∃ (x13_1 : Int), v13 = .int .i64 x13_1 ∧ Aside0 (slices_Equal_int_int.l0 kq l0 l1 (l0.length : Int) x13_1 = some r) ∧ Aside0 (kq ≤ k) ∧ Drawn0 w w')
  case atStart => exact ⟨(0), (by first | rfl | (simp; done) | (simp [*]; done)), H', ⟨Nat.le_refl _⟩, by repeat (first | exact Drawn0.refl _ | apply Drawn0.step)⟩
  case round =>
   clear H'; (try clear c1); (try clear p2); (try clear c3); (try clear c3b0); (try clear c3b1); (try clear c3b2); obtain ⟨x13_1, rfl, HA, HK1, ⟨m1, rfl⟩⟩ := hrel
   cases gk with
   | zero => exact absurd HA.out (by simp [slices_Equal_int_int.l0])
   | succ k1 =>
    have H := HA.out; clear HA; simp only [slices_Equal_int_int.l0] at H
    by_cases c4 : x13_1 < (l0.length : Int)
    ·rw [if_pos c4] at H
     have c4b0 : decide (x13_1 < (l0.length : Int)) = true := decide_eq_true c4; clear c4
     by_cases c5 : 0 ≤ x13_1
     ·rw [if_pos c5] at H
      have c5b0 : decide (0 ≤ x13_1) = true := decide_eq_true c5; clear c5
      by_cases c6 : x13_1 < (l0.length : Int)
      ·rw [if_pos c6] at H
       have c6b0 : decide (x13_1 < (l0.length : Int)) = true := decide_eq_true c6; clear c6
       by_cases c7 : x13_1 < (l1.length : Int)
       ·rw [if_pos c7] at H
        have c7b0 : decide (x13_1 < (l1.length : Int)) = true := decide_eq_true c7; clear c7
        by_cases c8 : (rd l0 x13_1) = (rd l1 x13_1)
        ·rw [if_pos c8] at H
         have c8b0 : ((rd l0 x13_1) == (rd l1 x13_1)) = true := beq_iff_eq.mpr c8; have c8b1 : ((rd l0 x13_1) != (rd l1 x13_1)) = false := bne_eq_false_iff_eq.mpr c8; clear c8; have H' := Aside0.mk H; clear H; have p101 : 0 ≤ (x13_1 : Int) := of_decide_eq_true (by first | (with_reducible assumption) | assumption); have q101 : x13_1 < (l0.length : Int) := of_decide_eq_true (by first | (with_reducible assumption) | assumption); obtain ⟨ad101, e101, hx101_0⟩ := Kd.at_int HR0.out x13_1 p101 q101; cases e101; replace p101 := eq_true p101; replace q101 := eq_true q101; have p102 : 0 ≤ (x13_1 : Int) := of_decide_eq_true (by first | (with_reducible assumption) | assumption); have q102 : x13_1 < (l1.length : Int) := of_decide_eq_true (by first | (with_reducible assumption) | assumption); obtain ⟨ad102, e102, hx102_0⟩ := Kd.at_int HR1.out x13_1 p102 q102; cases e102; replace p102 := eq_true p102; replace q102 := eq_true q102
         go_wp2
         repeat (go_quiet (fail); try go_wp2)
         go_roundg k1
         case measure => have := HK1.out; omega
         case rel => exact ⟨(wrap64 (x13_1 + 1)), (by first | rfl | (simp; done) | (simp [*]; done)), H', ⟨by have := HK1.out; omega⟩, by repeat (first | exact Drawn0.refl _ | apply Drawn0.step)⟩
        ·rw [if_neg c8] at H
         have c8b0 : ((rd l0 x13_1) == (rd l1 x13_1)) = false := beq_eq_false_iff_ne.mpr c8; have c8b1 : ((rd l0 x13_1) != (rd l1 x13_1)) = true := bne_iff_ne.mpr c8; obtain rfl := Option.some.inj H; have p101 : 0 ≤ (x13_1 : Int) := of_decide_eq_true (by first | (with_reducible assumption) | assumption); have q101 : x13_1 < (l0.length : Int) := of_decide_eq_true (by first | (with_reducible assumption) | assumption); obtain ⟨ad101, e101, hx101_0⟩ := Kd.at_int HR0.out x13_1 p101 q101; cases e101; replace p101 := eq_true p101; replace q101 := eq_true q101; have p102 : 0 ≤ (x13_1 : Int) := of_decide_eq_true (by first | (with_reducible assumption) | assumption); have q102 : x13_1 < (l1.length : Int) := of_decide_eq_true (by first | (with_reducible assumption) | assumption); obtain ⟨ad102, e102, hx102_0⟩ := Kd.at_int HR1.out x13_1 p102 q102; cases e102; replace p102 := eq_true p102; replace q102 := eq_true q102
         go_wp2
         repeat (go_quiet (fail); try go_wp2)
         go_ret
         exact ⟨by first | rfl | (simp; done) | (simp [*]; done), by repeat (first | exact Drawn0.refl _ | apply Drawn0.step)⟩
       ·rw [if_neg c7] at H
        exact absurd H (by simp)
      ·rw [if_neg c6] at H
       exact absurd H (by simp)
     ·rw [if_neg c5] at H
      exact absurd H (by simp)
    ·rw [if_neg c4] at H
     have c4b0 : decide (x13_1 < (l0.length : Int)) = false := decide_eq_false c4; clear c4; obtain rfl := Option.some.inj H
     go_wp2
     repeat (go_quiet (fail); try go_wp2)
     go_ret
     exact ⟨by first | rfl | (simp; done) | (simp [*]; done), by repeat (first | exact Drawn0.refl _ | apply Drawn0.step)⟩
 ·rw [if_neg c3] at H
  have c3b0 : ((l0.length : Int) == (l1.length : Int)) = false := beq_eq_false_iff_ne.mpr c3; have c3b1 : ((l0.length : Int) != (l1.length : Int)) = true := bne_iff_ne.mpr c3
  have c3b2 : (l0.length == l1.length) = false := by first | simpa using c3 | (simp at c3 ⊢; omega)
  obtain rfl := Option.some.inj H
  go_enter Try.func36, Try.ntmps36
  go_wp2
  repeat (go_quiet (fail); try go_wp2)
  go_ret
  exact ⟨by first | rfl | (simp; done) | (simp [*]; done), by repeat (first | exact Drawn0.refl _ | apply Drawn0.step)⟩
end Go.Proofs.Ytonipihlpbaknaa.Print
namespace Go.Proofs.Ytonipihlpbaknaa.Print
set_option linter.unusedVariables false
set_option linter.unusedSimpArgs false
open Go.RowKit Go.Proofs.YtonipihlpbaknaaW.PrintWords Go.Proofs.YtonipihlpbaknaaW.PrintLast Go.Proofs.YtonipihlpbaknaaW.PrintMore
def lnN : List Int := [0, 0, 0]
def lnE : List S78 := [⟨0, 0, 1⟩, ⟨0, 1, 2⟩]
theorem sortI_asc (l : List Int) (h : l.Pairwise (· ≤ ·)) : sortI l = l := List.mergeSort_of_pairwise (h.imp (by simp))
theorem subs_ln (n : Nat) (L : List (List Int)) (h1 : L.Pairwise (fun x y => leOf lenC x y = true)) (h2 : L.Perm (genL n)) : subsetsL n = L := by
  unfold subsetsL
  refine List.Perm.eq_of_pairwise (le := fun x y => leOf lenC x y = true) ?_ ?_ h1 ((List.mergeSort_perm _ _).trans h2.symm)
  · intro a b _ _ p q
    simp only [leOf, Bool.not_eq_true'] at p q; exact lenC_tot.tot a b q p
  · refine List.pairwise_mergeSort ?_ ?_ _
    · intro a b c p q
      simp only [leOf, Bool.not_eq_true'] at p q ⊢; exact lenC_tot.swo.ntrans c b a q p
    · intro a b
      simp only [leOf, Bool.or_eq_true, Bool.not_eq_true']
      by_cases h : ltOf lenC b a = true
      · right
        exact lenC_tot.swo.asymmA h
      · left
        simpa using h
theorem subs2 : subsetsL 2 = [[], [0], [1], [0, 1]] := subs_ln 2 _ (by decide +kernel) (by decide +kernel)
theorem subs3 : subsetsL 3 = [[], [0], [1], [2], [0, 1], [0, 2], [1, 2], [0, 1, 2]] := subs_ln 3 _ (by decide +kernel) (by decide +kernel)
theorem parts_ln : (partsL lnN lnE).length = 13 := by
  unfold partsL; rw [show lnN.length = 3 from rfl, show lnE.length = 2 from rfl, subs3, subs2]
  decide +kernel
theorem valid_ln : validB lnN lnE = 0 := by decide +kernel
theorem close_ln : subgraph_Close.f lnN lnE [] [0] = some ([0, 1], [0], 0) := by
  unfold subgraph_Close.f; rw [if_pos (by decide), if_pos valid_ln, if_neg (by decide), if_neg (by decide), show ([] : List Int) ++ endsOf lnE [0] = [0, 1] from rfl, sortI_asc _ (by decide), sortI_asc _ (by decide)]
  decide +kernel
theorem bdry_ln : subgraph_Boundary.f 1000 lnN lnE [0, 1] [0] = some ([1], 0) := by
  rw [bdry_ok lnN lnE [0, 1] [0] (by decide) (by decide) 1000 (by decide), if_pos (by decide +kernel)]; unfold bdryL; rw [show outUpto lnE [0] lnE.length = [1, 2] by decide +kernel, sortI_asc _ (by decide)]
  decide +kernel
theorem all_ln : subgraph_All.f lnN lnE = some (partsL lnN lnE, 0) := by
  unfold subgraph_All.f; rw [if_pos valid_ln, if_neg (by decide)]
theorem same_ln : scarfjointref07_Same.f 10 [0, 1] [0] [0, 1] [0] = some true := by decide +kernel
theorem equal_ln : slices_Equal_int_int.f 10 [1] [1] = some true := by decide +kernel
theorem line_ln : scarfjointlaw07_line.f = some (lnN, lnE) := rfl
set_option maxHeartbeats 2000000 in
set_option maxRecDepth 100000 in
theorem scarfjointlaw07_awake.calls0 (w : World) : Calls Try.prog 11 #[] w fun e w' => e = .returned (.bool true) ∧ Below w.heap.size w w' := by
 have L0 := Lib.hid (fun W => scarfjointlaw07_line.calls lnN lnE W line_ln); have eN : lnN.length = 3 := rfl
 go_enter Try.func11, Try.ntmps11
 go_wp2_with fail
 refine (L0.out _).mono ?_
 rintro e w1 ⟨v1, v2, rfl, ho1, ho2, hb⟩; obtain ⟨A1, c1, rfl, m1, r1⟩ := Kd.R_reads ho1; obtain ⟨A2, c2, rfl, m2, r2⟩ := Kd.R_reads ho2; have R1 := Lib.hid r1; have R2 := Lib.hid r2; have M1 := Lib.hid m1; have M2 := Lib.hid m2; have B1 := Lib.hid hb; clear ho1 ho2 r1 r2 hb eN m1 m2
 go_wp2_with (first
  | ((with_reducible refine gate_dst (N := 9) rfl ?_); refine Kd.R_lit (Kd.int .i64) _ 3 ?hg (N := 9) ?hd (xs := [0]) (inner := [.int .i64 0]) (ok := fun _ => True) (okp := fun _ => True) ?hr ?hp (fun _ hk => hk) trivial (Below.refl _ _) (Nat.le_refl _) (by simp) ?_; (case hd => rfl); (case hg => rfl); (case hr => first | (go_simp; done) | (go_simp; rfl)); (case hp => exact (Reps.one (show Kd.M (Kd.int .i64) _ _ _ 0 [.int .i64 0] from rfl) (Reps.none _ _))); intro v3 w2 ho hb hg_ hne; obtain ⟨A3, c3, rfl, m3, r3⟩ := Kd.R_reads ho; have R3 := Lib.hid r3; have M3 := Lib.hid m3; have R12 := Lib.hid (Kd.C_below R1.out hb); have R22 := Lib.hid (Kd.C_below R2.out hb); have B2 := Lib.hid (below_then B1.out B1.out.size hb); clear ho hb hg_ hne r3 m3 R1 R2 B1)
  | (go_at_call 13; refine (subgraph_Close.calls A1 c1 lnN A2 c2 lnE none 0 [] A3 c3 [0] [0, 1] [0] 0 _ R12.out M1.out R22.out M2.out (Kd.C_nil _ _) (Nat.le_refl _) R3.out M3.out close_ln).mono ?_; rintro e w3 ⟨v4, v5, rfl, ho4, ho5, hb⟩; obtain ⟨A4, c4, rfl, m4, r4⟩ := Kd.R_reads ho4; obtain ⟨A5, c5, rfl, m5, r5⟩ := Kd.R_reads ho5; have R4 := Lib.hid r4; have R5 := Lib.hid r5; have M4 := Lib.hid m4; have M5 := Lib.hid m5; have B3 := Lib.hid (below_then B2.out B2.out.size hb); clear ho4 ho5 r4 r5 m4 m5 hb R12 R22 R3 B2))
 have BK := Lib.hid (blk_new w3 (.cells #[.slice A4 2 c4, .slice A5 1 c5] 27)); have R42 := Lib.hid (Kd.C_alloc R4.out (.cells #[.slice A4 2 c4, .slice A5 1 c5] 27)); have R52 := Lib.hid (Kd.C_alloc R5.out (.cells #[.slice A4 2 c4, .slice A5 1 c5] 27)); have B4 := Lib.hid (below_alloc (o := .cells #[.slice A4 2 c4, .slice A5 1 c5] 27) B3.out); clear R4 R5 B3; generalize w3.heap.size = g at BK ⊢; generalize w3.alloc (.cells #[.slice A4 2 c4, .slice A5 1 c5] 27) = w4 at BK R42 R52 B4 ⊢
 refine start_ (n := 8) (S := fun w' => w'.cell? ⟨g, 0, none⟩ = some (.slice A4 2 c4) ∧ w'.cell? ⟨g, 1, none⟩ = some (.slice A5 1 c5)) (ds := []) #[false, false, false, false, false, false, false, false] (by kernel_rfl) rfl rfl ⟨(blk_cell BK.out 0).trans rfl, (blk_cell BK.out 1).trans rfl⟩ (fun hHeld => ?_)
 refine take_ (i := 1) (N := some 15) (v := ?_) (a' := ?_) #[false, true, false, false, false, false, false, false] rfl rfl (by kernel_rfl) (fun _ _ _ h => h) (Or.inl ⟨by rfl, ?_⟩) hHeld ?_ ?_
 rotate_left
 ·rintro w' ⟨s0, s1⟩
  go_simp
  with_reducible rfl
 rotate_left
 ·simp only [Act.put, sI_, s0_, sS_, i64_w, i32_w]
  rfl
 refine one_ (i := 0) (N := some 14) #[true, true, false, false, false, false, false, false] rfl rfl (by kernel_rfl) (by decide) (fun K hK => ?_)
 refine goes_ Try.func49 (by kernel_rfl) rfl #[] (by rfl) rfl rfl (by (try simp only [List.map_toArray, List.map_cons, List.map_nil]); first | done | rfl) ?_
 refine (scarfjointlaw07_line.calls lnN lnE _ line_ln).mono ?_
 rintro e w5 ⟨v6, v7, rfl, ho6, ho7, hb⟩
 refine ⟨_, rfl, ?_⟩
 obtain ⟨A6, c6, rfl, m6, r6⟩ := Kd.R_reads ho6; obtain ⟨A7, c7, rfl, m7, r7⟩ := Kd.R_reads ho7; have R6 := Lib.hid r6; have R7 := Lib.hid r7; have M6 := Lib.hid m6; have M7 := Lib.hid m7; have R43 := Lib.hid (Kd.C_below (Kd.C_drew R42.out) hb); have R53 := Lib.hid (Kd.C_below (Kd.C_drew R52.out) hb); have BK2 := Lib.hid (blk_below (blk_drew BK.out) hb); have B5 := Lib.hid (below_then (below_drew1 B4.out) (below_drew1 B4.out).size hb); clear ho6 ho7 r6 r7 m6 m7 hb R42 R52 BK B4
 refine hK.out _ _ ⟨(blk_cell BK2.out 0).trans rfl, (blk_cell BK2.out 1).trans rfl⟩ (fun hHeld => ?_)
 clear hK K
 refine norm_ (a' := ?_) ?_ ?_
 rotate_left
 ·show Act.put _ (some 14) _ = _
  simp only [Act.put, sI_, s0_, sS_, i64_w, i32_w]
  rfl
 refine one_ (i := 2) (N := some 16) #[true, true, true, false, false, false, false, false] rfl rfl (by kernel_rfl) (by decide) (fun K hK => ?_)
 refine goes_ Try.func21 (by kernel_rfl) rfl #[.agg #[.slice A6 lnN.length c6, .slice A7 lnE.length c7], .agg #[.slice A4 2 c4, .slice A5 1 c5]] (by rfl) rfl rfl (by (try simp only [List.map_toArray, List.map_cons, List.map_nil]); first | done | rfl) ?_
 refine (subgraph_Boundary.calls 1000 A6 c6 lnN A7 c7 lnE A4 c4 [0, 1] A5 c5 [0] [1] 0 _ R6.out M6.out R7.out M7.out R43.out M4.out R53.out M5.out bdry_ln).mono ?_
 rintro e w6 ⟨v8, rfl, ho8, hb⟩
 refine ⟨_, rfl, ?_⟩
 obtain ⟨A8, c8, rfl, m8, r8⟩ := Kd.R_reads ho8; have R8 := Lib.hid r8; have M8 := Lib.hid m8; have R44 := Lib.hid (Kd.C_below R43.out hb); have R54 := Lib.hid (Kd.C_below R53.out hb); have BK3 := Lib.hid (blk_below BK2.out hb); have B6 := Lib.hid (below_then B5.out B5.out.size hb); clear ho8 r8 m8 hb R43 R53 R6 R7 M6 M7 BK2 B5
 refine hK.out _ _ ⟨(blk_cell BK3.out 0).trans rfl, (blk_cell BK3.out 1).trans rfl⟩ (fun hHeld => ?_)
 clear hK K
 refine norm_ (a' := ?_) ?_ ?_
 rotate_left
 ·show Act.put _ (some 16) _ = _
  simp only [Act.put, sI_, s0_, sS_, i64_w, i32_w]
  rfl
 refine pure_ (i := 3) (N := some 13) (v := ?_) (a' := ?_) #[true, true, true, true, false, false, false, false] rfl rfl (by kernel_rfl) (fun _ _ _ h => h) (Or.inl ⟨by rfl, ?_⟩) ?_ ?_
 rotate_left
 ·intro w'
  go_simp
  with_reducible rfl
 rotate_left
 ·simp only [Act.put, sI_, s0_, sS_, i64_w, i32_w]
  rfl
 refine pure_ (i := 4) (N := some 17) (v := ?_) (a' := ?_) #[true, true, true, true, true, false, false, false] rfl rfl (by kernel_rfl) (fun _ _ _ h => h) (Or.inl ⟨by rfl, ?_⟩) ?_ ?_
 rotate_left
 ·intro w'
  go_simp
  with_reducible rfl
 rotate_left
 ·simp only [Act.put, sI_, s0_, sS_, i64_w, i32_w]
  rfl
 refine pure_ (i := 5) (N := some 18) (v := ?_) (a' := ?_) #[true, true, true, true, true, true, false, false] rfl rfl (by kernel_rfl) (fun _ _ _ h => h) (Or.inl ⟨by rfl, ?_⟩) ?_ ?_
 rotate_left
 ·intro w'
  go_simp
  with_reducible rfl
 rotate_left
 ·simp only [Act.put, sI_, s0_, sS_, i64_w, i32_w]
  rfl
 refine pure_ (i := 6) (N := some 3) (v := ?_) (a' := ?_) #[true, true, true, true, true, true, true, false] rfl rfl (by kernel_rfl) (fun _ _ _ h => h) (Or.inl ⟨by rfl, ?_⟩) ?_ ?_
 rotate_left
 ·intro w'
  go_simp
  with_reducible rfl
 rotate_left
 ·simp only [Act.put, sI_, s0_, sS_, i64_w, i32_w]
  rfl
 refine pure_ (i := 7) (N := some 4) (v := ?_) (a' := ?_) #[true, true, true, true, true, true, true, true] rfl rfl (by kernel_rfl) (fun _ _ _ h => h) (Or.inl ⟨by rfl, ?_⟩) ?_ ?_
 rotate_left
 ·intro w'
  go_simp
  with_reducible rfl
 rotate_left
 ·simp only [Act.put, sI_, s0_, sS_, i64_w, i32_w]
  rfl
 refine done_ (by kernel_rfl) ?_
 go_wp2_with fail
 refine (L0.out _).mono ?_
 rintro e w7 ⟨v9, v10, rfl, ho9, ho10, hb⟩; obtain ⟨A9, c9, rfl, m9, r9⟩ := Kd.R_reads ho9; obtain ⟨A10, c10, rfl, m10, r10⟩ := Kd.R_reads ho10; have R9 := Lib.hid r9; have R10 := Lib.hid r10; have M9 := Lib.hid m9; have M10 := Lib.hid m10; have R82 := Lib.hid (Kd.C_below R8.out hb); have R45 := Lib.hid (Kd.C_below R44.out hb); have R55 := Lib.hid (Kd.C_below R54.out hb); have BK4 := Lib.hid (blk_below BK3.out hb); have B7 := Lib.hid (below_then B6.out B6.out.size hb); clear ho9 ho10 r9 r10 m9 m10 hb R8 R44 R54 BK3 B6
 go_wp2_with (first
  | (go_at_call 24; refine (subgraph_All.callsR A9 c9 lnN A10 c10 lnE (partsL lnN lnE) 0 _ R9.out M9.out R10.out M10.out all_ln).mono ?_; rintro e w8 ⟨v11, rfl, ho11, hb⟩; obtain ⟨A11, c11, rfl⟩ := Kd.R_slice ho11; rw [parts_ln]; have R83 := Lib.hid (Kd.C_below R82.out hb); have R46 := Lib.hid (Kd.C_below R45.out hb); have R56 := Lib.hid (Kd.C_below R55.out hb); have BK5 := Lib.hid (blk_below BK4.out hb); have B8 := Lib.hid (below_then B7.out B7.out.size hb); have C0 : w8.cell? ⟨g, 0, none⟩ = some (.slice A4 2 c4) := (blk_cell BK5.out 0).trans rfl; have C1 : w8.cell? ⟨g, 1, none⟩ = some (.slice A5 1 c5) := (blk_cell BK5.out 1).trans rfl; clear ho11 hb R82 R45 R55 BK4 B7)
  | ((with_reducible refine gate_dst (N := 36) rfl ?_); (try (refine gate_guard (by rfl) ?_; dsimp only)); refine Kd.R_lit (Kd.int .i64) _ 3 ?hg (N := 36) ?hd (xs := [0, 1]) (inner := [.int .i64 0, .int .i64 1]) (ok := fun _ => True) (okp := fun _ => True) ?hr ?hp (fun _ hk => hk) trivial (Below.refl _ _) (Nat.le_refl _) (by simp) ?_; (case hd => rfl); (case hg => rfl); (case hr => first | (go_simp; done) | (go_simp; rfl)); (case hp => exact (Reps.one (show Kd.M (Kd.int .i64) _ _ _ 0 [.int .i64 0] from rfl) (Reps.one (show Kd.M (Kd.int .i64) _ _ _ 1 [.int .i64 1] from rfl) (Reps.none _ _)))); intro v12 w9 ho hb hg_ hne; obtain ⟨A12, c12, rfl, m12, r12⟩ := Kd.R_reads ho; have R12 := Lib.hid r12; have M12 := Lib.hid m12; have R84 := Lib.hid (Kd.C_below R83.out hb); have R47 := Lib.hid (Kd.C_below R46.out hb); have R57 := Lib.hid (Kd.C_below R56.out hb); have B9 := Lib.hid (below_then B8.out B8.out.size hb); clear ho hb hg_ hne r12 m12 C0 C1 R83 R46 R56 B8)
  | ((with_reducible refine gate_dst (N := 37) rfl ?_); (try (refine gate_guard (by rfl) ?_; dsimp only)); refine Kd.R_lit (Kd.int .i64) _ 3 ?hg (N := 37) ?hd (xs := [0]) (inner := [.int .i64 0]) (ok := fun _ => True) (okp := fun _ => True) ?hr ?hp (fun _ hk => hk) trivial (Below.refl _ _) (Nat.le_refl _) (by simp) ?_; (case hd => rfl); (case hg => rfl); (case hr => first | (go_simp; done) | (go_simp; rfl)); (case hp => exact (Reps.one (show Kd.M (Kd.int .i64) _ _ _ 0 [.int .i64 0] from rfl) (Reps.none _ _))); intro v13 w10 ho hb hg_ hne; obtain ⟨A13, c13, rfl, m13, r13⟩ := Kd.R_reads ho; have R13 := Lib.hid r13; have M13 := Lib.hid m13; have R85 := Lib.hid (Kd.C_below R84.out hb); have R48 := Lib.hid (Kd.C_below R47.out hb); have R58 := Lib.hid (Kd.C_below R57.out hb); have R122 := Lib.hid (Kd.C_below R12.out hb); have B10 := Lib.hid (below_then B9.out B9.out.size hb); clear ho hb hg_ hne r13 m13 R84 R47 R57 B9 R12)
  | (go_at_call 17; refine (scarfjointref07_Same.calls 10 A4 c4 [0, 1] A5 c5 [0] A12 c12 [0, 1] A13 c13 [0] true _ R48.out M4.out R58.out M5.out R122.out M12.out R13.out M13.out same_ln).mono ?_; rintro e w11 ⟨rfl, hb⟩; have R86 := Lib.hid (Kd.C_below R85.out hb); have B11 := Lib.hid (below_then B10.out B10.out.size hb); clear hb R85 R48 R58 R122 R13 B10)
  | ((with_reducible refine gate_dst (N := 43) rfl ?_); (try (refine gate_guard (by rfl) ?_; dsimp only)); refine Kd.R_lit (Kd.int .i64) _ 3 ?hg (N := 43) ?hd (xs := [1]) (inner := [.int .i64 1]) (ok := fun _ => True) (okp := fun _ => True) ?hr ?hp (fun _ hk => hk) trivial (Below.refl _ _) (Nat.le_refl _) (by simp) ?_; (case hd => rfl); (case hg => rfl); (case hr => first | (go_simp; done) | (go_simp; rfl)); (case hp => exact (Reps.one (show Kd.M (Kd.int .i64) _ _ _ 1 [.int .i64 1] from rfl) (Reps.none _ _))); intro v14 w12 ho hb hg_ hne; obtain ⟨A14, c14, rfl, m14, r14⟩ := Kd.R_reads ho; have R14 := Lib.hid r14; have M14 := Lib.hid m14; have R87 := Lib.hid (Kd.C_below R86.out hb); have B12 := Lib.hid (below_then B11.out B11.out.size hb); clear ho hb hg_ hne r14 m14 R86 B11)
  | (go_at_call 36; refine (slices_Equal_int_int.calls 10 A8 c8 [1] A14 c14 [1] true _ R87.out M8.out R14.out M14.out equal_ln).mono ?_; rintro e w13 ⟨rfl, hb⟩; have B13 := Lib.hid (below_then B12.out B12.out.size hb.below); clear hb R87 R14 B12))
 exact bodyPost_ret (v := .bool true) (by simp [results, Try.f11, go_sem]) rfl ⟨rfl, B13.out⟩
end Go.Proofs.Ytonipihlpbaknaa.Print
namespace Go.Proofs.Ytonipihlpbaknaa.Print
open Go.RowKit Go.Proofs.YtonipihlpbaknaaW.PrintWords Go.Proofs.YtonipihlpbaknaaW.PrintLast Go.Proofs.YtonipihlpbaknaaW.PrintMore
/-- A row told without its place of birth. -/
theorem toR {α : Type} {d : Kd α} {e b : Nat} {w : World} {ok : Nat → Prop} {v : Value} {l : List α} (h : Kd.R d e w b ok v l) : Kd.R d e w 0 (fun _ => True) v l := Kd.R_mono (Kd.R_lower h (Nat.zero_le _)) (fun _ _ => trivial)
theorem int_ne27 : ∀ q : Nat, q ∈ 3 :: (Kd.int .i64).E → q ≠ 27 := by decide
theorem k78_ne27 : ∀ q : Nat, q ∈ 78 :: k78.E → q ≠ 27 := by decide
theorem cell2 {w : World} {x t : Nat} {a b : Value} (h : w.heap[x]? = some (.cells #[a, b] t (0, 0))) : w.cell? ⟨x, 0, none⟩ = some a ∧ w.cell? ⟨x, 1, none⟩ = some b := ⟨(blk_cell h 0).trans rfl, (blk_cell h 1).trans rfl⟩
end Go.Proofs.Ytonipihlpbaknaa.Print
namespace Go.Proofs.Ytonipihlpbaknaa.Print
open Go.RowKit Go.Proofs.YtonipihlpbaknaaW.PrintWords Go.Proofs.YtonipihlpbaknaaW.PrintLast Go.Proofs.YtonipihlpbaknaaW.PrintMore
attribute [local go_sem] max2_int min2_int max_two min_two max_three min_three max_four min_four   -- for this text's walks alone
set_option linter.unusedVariables false
set_option linter.unusedSimpArgs false
def scarfjointref05_Few.f (l0_0 : List Int) (l0_1 : List (S78)) : Option (Bool) := if (l0_0.length : Int) ≤ 45 then (some (decide ((l0_1.length : Int) ≤ 90))) else (some false)
set_option maxHeartbeats 8000000 in
set_option maxRecDepth 100000 in
theorem scarfjointref05_Few.calls (A0_0 : Option Addr) (c0_0 : Nat) (l0_0 : List Int) (A0_1 : Option Addr) (c0_1 : Nat) (l0_1 : List (S78)) (r : Bool) (w : World) (hr0_0 : Kd.C (Kd.int .i64) w A0_0 l0_0.length l0_0) (hc0_0 : l0_0.length ≤ c0_0) (hr0_1 : Kd.C k78 w A0_1 l0_1.length l0_1) (hc0_1 : l0_1.length ≤ c0_1) (h : scarfjointref05_Few.f l0_0 l0_1 = some r) :
  Calls Try.prog 50 #[.agg #[.slice A0_0 l0_0.length c0_0, .slice A0_1 l0_1.length c0_1]] w fun e w' => e = .returned (.bool r) ∧ Below w.heap.size w w' := by
 have hu25 := Try.underlying25; have HR0_0 := Aside0.mk hr0_0; have HC0_0 := Aside0.mk hc0_0; clear hr0_0 hc0_0; have HR0_1 := Aside0.mk hr0_1; have HC0_1 := Aside0.mk hc0_1; clear hr0_1 hc0_1; have HB := Aside0.mk (Below.refl w.heap.size w); have H : (if (l0_0.length : Int) ≤ 45 then (some (decide ((l0_1.length : Int) ≤ 90))) else (some false)) = some r := h; clear h
 by_cases c2 : (l0_0.length : Int) ≤ 45
 ·rw [if_pos c2] at H
  have c2b0 : decide ((l0_0.length : Int) ≤ 45) = true := decide_eq_true c2; have c2b1 : decide (l0_0.length ≤ 45) = true := decide_eq_true (by omega); clear c2; obtain rfl := Option.some.inj H
  go_enter Try.func50, Try.ntmps50
  go_wp2_with (first | ((with_reducible refine gate_dst (N := 1) rfl ?_); (try (refine gate_guard (by rfl) ?_; dsimp only)); refine box_event ?hg (N := 1) ?hd (cs := #[.slice A0_0 l0_0.length c0_0, .slice A0_1 l0_1.length c0_1]) (t := 25) ?hr ?_; (case hd => rfl); (case hg => rfl); (case hr => first | (go_simp; done) | (go_simp; rfl)); intro gb101 hg w3 hbox hb; have n0_ := Aside0.mk (below_step (by repeat (first | (with_reducible first | exact HB.out | apply lA_ | apply lN_ | apply lD_) | exact HB.out)) hb); have n1_ := Aside0.mk (hbox); have n2_ := Aside0.mk ((by rw [hg]; exact (below_size (by repeat (first | (with_reducible first | exact HB.out | apply lA_ | apply lN_ | apply lD_) | exact HB.out))) : w.heap.size ≤ gb101)); have n3_ := Aside0.mk ((by rw [hg]; exact (below_size (by repeat (first | (with_reducible first | exact HB.out | apply lA_ | apply lN_ | apply lD_) | exact HB.out))) : w.heap.size ≤ gb101)); clear HB; have HB := n0_; have BK101 := n1_; have GW101 := n2_; have GE101 := n3_; clear n0_ n1_ n2_ n3_; clear hb hbox hg; have hcz4_0 : w3.cell? ⟨gb101, 0, none⟩ = some (.slice A0_0 l0_0.length c0_0) := (blk_cell BK101.out 0).trans rfl; have hcz4_1 : w3.cell? ⟨gb101, 1, none⟩ = some (.slice A0_1 l0_1.length c0_1) := (blk_cell BK101.out 1).trans rfl; have hfz4_0 := blk_frozen BK101.out 0; have hfz4_1 := blk_frozen BK101.out 1))
  go_ret
  exact ⟨by first | rfl | (simp [errW_none, errW_some] <;> rfl) | (simp [*, errW_none, errW_some] <;> rfl), by repeat (first | (with_reducible first | exact HB.out | apply lA_ | apply lN_ | apply lD_ | refine below_set ?_ GE101.out) | exact HB.out)⟩
 ·rw [if_neg c2] at H
  have c2b0 : decide ((l0_0.length : Int) ≤ 45) = false := decide_eq_false c2; have c2b1 : decide (l0_0.length ≤ 45) = false := decide_eq_false (by omega); clear c2; obtain rfl := Option.some.inj H
  go_enter Try.func50, Try.ntmps50
  go_wp2_with (first | ((with_reducible refine gate_dst (N := 1) rfl ?_); (try (refine gate_guard (by rfl) ?_; dsimp only)); refine box_event ?hg (N := 1) ?hd (cs := #[.slice A0_0 l0_0.length c0_0, .slice A0_1 l0_1.length c0_1]) (t := 25) ?hr ?_; (case hd => rfl); (case hg => rfl); (case hr => first | (go_simp; done) | (go_simp; rfl)); intro gb101 hg w5 hbox hb; have n0_ := Aside0.mk (below_step (by repeat (first | (with_reducible first | exact HB.out | apply lA_ | apply lN_ | apply lD_) | exact HB.out)) hb); have n1_ := Aside0.mk (hbox); have n2_ := Aside0.mk ((by rw [hg]; exact (below_size (by repeat (first | (with_reducible first | exact HB.out | apply lA_ | apply lN_ | apply lD_) | exact HB.out))) : w.heap.size ≤ gb101)); have n3_ := Aside0.mk ((by rw [hg]; exact (below_size (by repeat (first | (with_reducible first | exact HB.out | apply lA_ | apply lN_ | apply lD_) | exact HB.out))) : w.heap.size ≤ gb101)); clear HB; have HB := n0_; have BK101 := n1_; have GW101 := n2_; have GE101 := n3_; clear n0_ n1_ n2_ n3_; clear hb hbox hg; have hcz6_0 : w5.cell? ⟨gb101, 0, none⟩ = some (.slice A0_0 l0_0.length c0_0) := (blk_cell BK101.out 0).trans rfl; have hcz6_1 : w5.cell? ⟨gb101, 1, none⟩ = some (.slice A0_1 l0_1.length c0_1) := (blk_cell BK101.out 1).trans rfl; have hfz6_0 := blk_frozen BK101.out 0; have hfz6_1 := blk_frozen BK101.out 1))
  go_ret
  exact ⟨by first | rfl | (simp [errW_none, errW_some] <;> rfl) | (simp [*, errW_none, errW_some] <;> rfl), by repeat (first | (with_reducible first | exact HB.out | apply lA_ | apply lN_ | apply lD_ | refine below_set ?_ GE101.out) | exact HB.out)⟩
end Go.Proofs.Ytonipihlpbaknaa.Print
namespace Go.Proofs.Ytonipihlpbaknaa.Print
open Go.RowKit Go.Proofs.YtonipihlpbaknaaW.PrintWords Go.Proofs.YtonipihlpbaknaaW.PrintLast Go.Proofs.YtonipihlpbaknaaW.PrintMore
theorem clone_ok (l : List Int) (h : l.length ≤ 1000) : slices_Clone_int_int.f l = some l := by
  unfold slices_Clone_int_int.f; rw [if_pos (by omega)]
end Go.Proofs.Ytonipihlpbaknaa.Print
namespace Go.Proofs.Ytonipihlpbaknaa.Print
open Go.RowKit Go.Proofs.YtonipihlpbaknaaW.PrintWords Go.Proofs.YtonipihlpbaknaaW.PrintLast Go.Proofs.YtonipihlpbaknaaW.PrintMore
def scarfjointlaw07_awake.f : Option Bool := some true
theorem scarfjointlaw07_awake.calls (r : Bool) (w : World) (h : scarfjointlaw07_awake.f = some r) : Calls Try.prog 11 #[] w fun e w' => e = .returned (.bool r) ∧ Below w.heap.size w w' := by
  obtain rfl : true = r := by simpa [scarfjointlaw07_awake.f] using h
  exact scarfjointlaw07_awake.calls0 w
end Go.Proofs.Ytonipihlpbaknaa.Print
namespace Go.Proofs.Ytonipihlpbaknaa.Print
set_option linter.unusedVariables false
set_option linter.unusedSimpArgs false
open Go.RowKit Go.Proofs.YtonipihlpbaknaaW.PrintWords Go.Proofs.YtonipihlpbaknaaW.PrintLast Go.Proofs.YtonipihlpbaknaaW.PrintMore
theorem ends_ok {l0 : List Int} {l1 : List S78} (h : validB l0 l1 = 0) : EndsOk l0.length l1 := by
  intro e he; obtain ⟨j, hj, rfl⟩ := List.getElem_of_mem he; exact fits_of h j hj
end Go.Proofs.Ytonipihlpbaknaa.Print
namespace Go.Proofs.Ytonipihlpbaknaa.Print
set_option linter.unusedVariables false
set_option linter.unusedSimpArgs false
open Go.RowKit Go.Proofs.YtonipihlpbaknaaW.PrintWords Go.Proofs.YtonipihlpbaknaaW.PrintLast Go.Proofs.YtonipihlpbaknaaW.PrintMore
theorem rdT_mem {l1 : List S78} {x : Int} (h0 : 0 ≤ x) (h1 : x < l1.length) : rd_T78 l1 x ∈ l1 := by
  have e := rdT_get l1 x.toNat (by omega); rw [Int.toNat_of_nonneg h0] at e; rw [e]; exact List.getElem_mem _
theorem partE_of {l0 : List Int} {l1 : List S78} {ns es : List Int} (a1 : ns.Pairwise (· < ·)) (a2 : es.Pairwise (· < ·)) (r1 : ∀ x ∈ ns, 0 ≤ x ∧ x < l0.length) (r2 : ∀ x ∈ es, 0 ≤ x ∧ x < l1.length)
    (h : ∀ x ∈ es, (rd_T78 l1 x).f1 ∈ ns ∧ (rd_T78 l1 x).f2 ∈ ns) : partE l0 l1 ns es = 0 := by
  unfold partE; rw [if_pos (listE_of r1 a1 (by simp)), if_pos (listE_of r2 a2 (by simp)), if_pos]; rw [List.all_eq_true]; intro x hx; simp only [endsIn, Bool.and_eq_true, decide_eq_true_eq]; exact h x hx
theorem made_part {l0 : List Int} {l1 : List S78} {bs es : List Bool} (hb : bs.length = l0.length) (he : es.length = l1.length)
    (h : ∀ j, (hj : j < l1.length) → es.getD j false = true → bs.getD l1[j].f1.toNat false = true ∧ bs.getD l1[j].f2.toNat false = true) (ho : EndsOk l0.length l1) : partE l0 l1 (markedL bs) (markedL es) = 0 := by
  refine partE_of (markedL_asc _) (markedL_asc _) (fun x hx => ?_) (fun x hx => ?_) (fun x hx => ?_)
  · have := mem_markedL.1 hx
    exact ⟨this.1, by omega⟩
  · have := mem_markedL.1 hx
    exact ⟨this.1, by omega⟩
  · obtain ⟨h0, h1, h2⟩ := mem_markedL.1 hx
    have e := rdT_get l1 x.toNat (by omega); rw [Int.toNat_of_nonneg h0] at e; have hm := rdT_mem (l1 := l1) h0 (by omega); obtain ⟨o1, o2, o3, o4⟩ := ho _ hm; obtain ⟨q1, q2⟩ := h x.toNat (by omega) h2; rw [← e] at q1 q2; exact ⟨mem_markedL.2 ⟨o1, by omega, q1⟩, mem_markedL.2 ⟨o3, by omega, q2⟩⟩
end Go.Proofs.Ytonipihlpbaknaa.Print

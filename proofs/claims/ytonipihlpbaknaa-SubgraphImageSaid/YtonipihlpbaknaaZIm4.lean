/- A part of the proof that the law returns true at every input; what the walked functions compute. -/
import Derived.Shelf.SlSortCmp.Whole1
import Derived.Test.YtonipihlpbaknaaZIm0
import Derived.Test.YtonipihlpbaknaaZIm1
import Derived.Test.YtonipihlpbaknaaZIm2
import Derived.Test.YtonipihlpbaknaaZIm3
namespace Go.Proofs.Ytonipihlpbaknaa.Print
set_option linter.unusedVariables false
set_option linter.unusedSimpArgs false
open Go.RowKit Go.Proofs.YtonipihlpbaknaaW.PrintWords Go.Proofs.YtonipihlpbaknaaW.PrintLast Go.Proofs.YtonipihlpbaknaaW.PrintMore
/-- The ends of the edges below i that are not among some edges. -/
def outUpto (l1 : List S78) (es : List Int) (i : Nat) : List Int := (List.range i).flatMap fun (j : Nat) => if (j : Int) ∈ es then [] else [(rd_T78 l1 j).f1, (rd_T78 l1 j).f2]
def bdryL (l1 : List S78) (ns es : List Int) : List Int := (Lib.compact (sortI (outUpto l1 es l1.length))).filter fun x => decide (x ∈ ns)
def valE (l0 : List Int) (l1 : List S78) (ns es : List Int) : Int := if validB l0 l1 = 0 then partE l0 l1 ns es else validB l0 l1
theorem outUpto_succ (l1 : List S78) (es : List Int) (i : Nat) : outUpto l1 es (i + 1) = outUpto l1 es i ++ (if (i : Int) ∈ es then [] else [(rd_T78 l1 i).f1, (rd_T78 l1 i).f2]) := by
  unfold outUpto; rw [List.range_succ, List.flatMap_append]
  simp
theorem outUpto_len (l1 : List S78) (es : List Int) (i : Nat) : (outUpto l1 es i).length ≤ 2 * i := by
  induction i with
  | zero => simp [outUpto]
  | succ i ih =>
    rw [outUpto_succ, List.length_append]
    split <;> simp <;> omega
theorem validB_sizes (l0 : List Int) (l1 : List S78) (h : validB l0 l1 = 0) : l0.length ≤ 40 ∧ l1.length ≤ 80 := by
  unfold validB at h
  split at h
  · omega
  · split at h
    · omega
    · omega
theorem partE_zero {l0 : List Int} {l1 : List S78} {ns es : List Int} (h : partE l0 l1 ns es = 0) : listE l0.length none ns = 0 ∧ listE l1.length none es = 0 ∧ es.all (endsIn l1 ns) = true := by
  unfold partE at h
  by_cases h1 : listE l0.length none ns = 0
  · rw [if_pos h1] at h
    by_cases h2 : listE l1.length none es = 0
    · rw [if_pos h2] at h
      by_cases h3 : es.all (endsIn l1 ns) = true
      · exact ⟨h1, h2, h3⟩
      · rw [if_neg h3] at h
        omega
    · rw [if_neg h2] at h
      exact absurd h h2
  · rw [if_neg h1] at h
    exact absurd h h1
theorem valE_zero {l0 : List Int} {l1 : List S78} {ns es : List Int} (h : valE l0 l1 ns es = 0) : validB l0 l1 = 0 ∧ partE l0 l1 ns es = 0 := by
  unfold valE at h
  by_cases h1 : validB l0 l1 = 0
  · rw [if_pos h1] at h
    exact ⟨h1, h⟩
  · rw [if_neg h1] at h
    exact absurd h h1
theorem compact_le (l : List Int) : (Lib.compact (sortI l)).length ≤ l.length := compact_sortI_le l
theorem bdry_ends (l1 : List S78) (ns es : List Int) (hes : es.Pairwise (· < ·)) (hns : ascB ns = true) (hn : ns.length < 1000000) (he : es.length < 1000000) (hl : l1.length < 1000000) : ∀ (d k i : Nat), i ≤ l1.length → l1.length - i ≤ d → d + es.length < k →
    subgraph_Boundary.l0 (k + 1) (outUpto l1 es i) l1 l1.length i ns es = some (bdryL l1 ns es, 0) := by
  intro d
  induction d with
  | zero =>
    intro k i hi hd hk
    obtain rfl : i = l1.length := by omega
    simp only [subgraph_Boundary.l0]; have h1 := outUpto_len l1 es l1.length; have h2 := compact_le (outUpto l1 es l1.length); rw [if_neg (by omega), subgraph_sorted.f, if_pos (by omega)]; simp only [Option.bind_some]; rw [subgraph_common.f, if_pos ⟨by omega, by omega, hns⟩]
    rfl
  | succ d ih =>
    intro k i hi hd hk
    by_cases c : i < l1.length
    · obtain ⟨k, rfl⟩ : ∃ m, k = m + 1 := ⟨k - 1, by omega⟩
      have ih' := ih k (i + 1) (by omega) (by omega) (by omega); rw [outUpto_succ] at ih'; have h1 := outUpto_len l1 es i; simp only [subgraph_Boundary.l0]; rw [if_pos (by omega), if_pos (by omega), if_pos (by omega), has_ok es _ hes (by omega) _ (by omega)]; simp only [Option.bind_some]
      by_cases e : (i : Int) ∈ es
      · rw [if_pos (by simpa using e), succ_ok i (by omega)]
        rw [if_pos e, List.append_nil] at ih'; exact ih'
      · rw [if_neg (by simpa using e), if_pos (by simp; omega), succ_ok i (by omega)]
        rw [if_neg e] at ih'; exact ih'
    · exact ih k i hi (by omega) (by omega)
theorem bdry_ok (l0 : List Int) (l1 : List S78) (ns es : List Int) (hn : ns.length < 1000000) (he : es.length < 1000000) (k : Nat) (hk : 3 * ns.length + 3 * es.length + 200 < k) : subgraph_Boundary.f k l0 l1 ns es = some (if valE l0 l1 ns es = 0 then (bdryL l1 ns es, 0) else ([], valE l0 l1 ns es)) := by
  unfold subgraph_Boundary.f; rw [valid_ok l0 l1 ns es (by omega) (by omega) k (by omega)]; simp only [Option.bind_some]
  change (if valE l0 l1 ns es = 0 then _ else _) = _
  by_cases e : valE l0 l1 ns es = 0
  · rw [if_pos e, if_pos e]
    obtain ⟨h1, h2⟩ := valE_zero e; obtain ⟨h3, h4, h5⟩ := partE_zero h2; have hz := validB_sizes l0 l1 h1
    obtain ⟨k, rfl⟩ : ∃ m, k = m + 1 := ⟨k - 1, by omega⟩
    have := bdry_ends l1 ns es (listE_none h4).2.1 (decide_eq_true (listE_none h3).2.1) hn he (by omega) l1.length k 0 (Nat.zero_le _) (by omega) (by omega)
    simpa [outUpto] using this
  · rw [if_neg e, if_neg e]
    rfl
end Go.Proofs.Ytonipihlpbaknaa.Print
namespace Go.Proofs.Ytonipihlpbaknaa.Print
set_option linter.unusedVariables false
set_option linter.unusedSimpArgs false
open Go.RowKit Go.Proofs.YtonipihlpbaknaaW.PrintWords Go.Proofs.YtonipihlpbaknaaW.PrintLast Go.Proofs.YtonipihlpbaknaaW.PrintMore
theorem rdT_get (l : List S78) (i : Nat) (h : i < l.length) : rd_T78 l (i : Int) = l[i] := by simp [rd_T78, List.getD_eq_getElem?_getD, h]
theorem kind_ok (a : Int) : scarfjointref05_kind.f a = some (withinB a 99) := by
  unfold scarfjointref05_kind.f withinB
  by_cases h : a ≥ 0
  · rw [if_pos h]
    simp [h]
  · rw [if_neg h]
    simp; omega
theorem right_ok (e : S78) (n : Int) : scarfjointref05_right.f e.f0 e.f1 e.f2 n = some (fitsB e n) := by
  unfold scarfjointref05_right.f fitsB; rw [kind_ok, Option.bind_some]
  by_cases h0 : withinB e.f0 99 = true
  · rw [if_pos h0, h0]
    by_cases h1 : e.f1 ≥ 0
    · rw [if_pos h1]
      by_cases h2 : e.f1 < n
      · rw [if_pos h2]
        by_cases h3 : e.f2 ≥ 0
        · rw [if_pos h3]
          simp only [withinB, Bool.true_and, Option.some.injEq]; rw [decide_eq_true (show 0 ≤ e.f1 ∧ e.f1 ≤ n - 1 by omega), Bool.true_and]
          by_cases h4 : e.f2 < n
          · rw [decide_eq_true h4, decide_eq_true (by omega)]
          · rw [decide_eq_false h4, decide_eq_false (by omega)]
        · rw [if_neg h3]
          simp only [withinB, Bool.true_and, Option.some.injEq]; rw [decide_eq_false (show ¬(0 ≤ e.f2 ∧ e.f2 ≤ n - 1) by omega), Bool.and_false]
      · rw [if_neg h2]
        simp only [withinB, Bool.true_and, Option.some.injEq]; rw [decide_eq_false (show ¬(0 ≤ e.f1 ∧ e.f1 ≤ n - 1) by omega), Bool.false_and]
    · rw [if_neg h1]
      simp only [withinB, Bool.true_and, Option.some.injEq]; rw [decide_eq_false (show ¬(0 ≤ e.f1 ∧ e.f1 ≤ n - 1) by omega), Bool.false_and]
  · rw [if_neg h0]
    simp only [Bool.not_eq_true] at h0; rw [h0]
    rfl
theorem rvalid1 (l0 : List Int) (l1 : List S78) (hn : l1.length < 9223372036854775807) : ∀ (d k i : Nat), i + d = l1.length → d < k → scarfjointref05_Valid.l1 k i l0 l1 = some (if (l1.drop i).any (fun e => !fitsB e l0.length) then 6 else 0) := by
  intro d
  induction d with
  | zero =>
    intro k i hi hk
    obtain ⟨k, rfl⟩ : ∃ m, k = m + 1 := ⟨k - 1, by omega⟩
    rw [scarfjointref05_Valid.l1, if_neg (by omega), List.drop_of_length_le (by omega)]
    simp
  | succ d ih =>
    intro k i hi hk
    obtain ⟨k, rfl⟩ : ∃ m, k = m + 1 := ⟨k - 1, by omega⟩
    have hlt : i < l1.length := by omega
    rw [scarfjointref05_Valid.l1, if_pos (by omega), if_pos (by omega), rdT_get l1 i hlt, right_ok, Option.bind_some, List.drop_eq_getElem_cons hlt]
    by_cases h : fitsB l1[i] l0.length = true
    · rw [if_pos h, succ_ok i (by omega), ih k (i + 1) (by omega) (by omega)]
      generalize l1.drop (i + 1) = t1
      simp [h]
    · rw [if_neg h]
      generalize l1.drop (i + 1) = t1
      simp [h]
theorem rvalid0 (l0 : List Int) (l1 : List S78) (hn0 : l0.length < 9223372036854775807) (hn : l1.length < 9223372036854775807) : ∀ (d k i : Nat), i + d = l0.length → d + l1.length + 1 < k →
    scarfjointref05_Valid.l0 k i l0 l1 = some (if (l0.drop i).any (fun t => !withinB t 99) then 6 else if l1.any (fun e => !fitsB e l0.length) then 6 else 0) := by
  intro d
  induction d with
  | zero =>
    intro k i hi hk
    obtain ⟨k, rfl⟩ : ∃ m, k = m + 1 := ⟨k - 1, by omega⟩
    have h1 := rvalid1 l0 l1 hn l1.length k 0 (by omega) (by omega); rw [scarfjointref05_Valid.l0, if_neg (by omega), List.drop_of_length_le (by omega)]
    simpa using h1
  | succ d ih =>
    intro k i hi hk
    obtain ⟨k, rfl⟩ : ∃ m, k = m + 1 := ⟨k - 1, by omega⟩
    have hlt : i < l0.length := by omega
    rw [scarfjointref05_Valid.l0, if_pos (by omega), if_pos (by omega), rd_get l0 i hlt, kind_ok, Option.bind_some, List.drop_eq_getElem_cons hlt]
    by_cases h : withinB l0[i] 99 = true
    · rw [if_pos h, succ_ok i (by omega), ih k (i + 1) (by omega) (by omega)]
      generalize l0.drop (i + 1) = t1
      simp [h]
    · rw [if_neg h]
      generalize l0.drop (i + 1) = t1
      simp [h]
theorem rvalid_ok (l0 : List Int) (l1 : List S78) (k : Nat) (hn0 : l0.length < 9223372036854775807) (hn : l1.length < 9223372036854775807) (hk : l0.length + l1.length + 2 < k) : scarfjointref05_Valid.f k l0 l1 = some (validB l0 l1) := by
  obtain ⟨k, rfl⟩ : ∃ m, k = m + 1 := ⟨k - 1, by omega⟩
  have h0 := rvalid0 l0 l1 hn0 hn l0.length k 0 (by omega) (by omega); unfold scarfjointref05_Valid.f validB
  by_cases h1 : 40 < l0.length
  · rw [if_pos (by omega), if_pos h1, scarfjointref05_Valid.j0, if_pos rfl]
  · rw [if_neg (by omega), if_neg h1, scarfjointref05_Valid.j0]
    by_cases h2 : 80 < l1.length
    · rw [if_pos h2, if_pos (by simp; omega)]
    · rw [if_neg h2, if_neg (by simp; omega)]
      simpa using h0
theorem fits_of {l0 : List Int} {l1 : List S78} (h : validB l0 l1 = 0) (j : Nat) (hj : j < l1.length) : 0 ≤ l1[j].f1 ∧ l1[j].f1 < l0.length ∧ 0 ≤ l1[j].f2 ∧ l1[j].f2 < l0.length := by
  unfold validB at h
  split at h
  · omega
  · split at h
    · omega
    · split at h
      · omega
      · split at h
        · omega
        · rename_i h4
          simp only [List.any_eq_true, not_exists, not_and, Bool.not_eq_true, Bool.not_eq_false'] at h4; have h5 := h4 l1[j] (List.getElem_mem hj)
          simp [fitsB, withinB] at h5
          omega
end Go.Proofs.Ytonipihlpbaknaa.Print
namespace Go.Proofs.Ytonipihlpbaknaa.Print
open Go.RowKit Go.Proofs.YtonipihlpbaknaaW.PrintWords Go.Proofs.YtonipihlpbaknaaW.PrintLast Go.Proofs.YtonipihlpbaknaaW.PrintMore
attribute [local go_sem] max2_int min2_int max_two min_two max_three min_three max_four min_four   -- for this text's walks alone
set_option linter.unusedVariables false
set_option linter.unusedSimpArgs false
mutual
def scarfjointref07_ascending.l0 : Nat → List Int → Int → Int → Option (Int)
  | 0, _, _, _ => none
  | k + 1, x0, x1, x5 => if x5 < (x0.length : Int) then (if 0 ≤ x5 then (if (rd x0 x5) < 0 then (scarfjointref07_ascending.j1 k x0 x1 x5 true) else (scarfjointref07_ascending.j1 k x0 x1 x5 (decide ((rd x0 x5) ≥ x1)))) else (none)) else (some 0)
def scarfjointref07_ascending.j1 : Nat → List Int → Int → Int → Bool → Option (Int)
  | 0, _, _, _, _ => none
  | k + 1, x0, x1, x5, x24 => if x24 = true then (some 6) else (if x5 > 0 then (if 0 ≤ x5 then (if x5 < (x0.length : Int) then (if 0 ≤ (wrap64 (x5 - 1)) then (if (wrap64 (x5 - 1)) < (x0.length : Int) then (scarfjointref07_ascending.j2 k x0 x1 x5 (decide ((rd x0 x5) ≤ (rd x0 (wrap64 (x5 - 1)))))) else (none)) else (none)) else (none)) else (none)) else (scarfjointref07_ascending.j2 k x0 x1 x5 false))
def scarfjointref07_ascending.j2 : Nat → List Int → Int → Int → Bool → Option (Int)
  | 0, _, _, _, _ => none
  | k + 1, x0, x1, x5, x38 => if x38 = true then (some 12) else (scarfjointref07_ascending.l0 k x0 x1 (wrap64 (x5 + 1)))
end
def scarfjointref07_ascending.f (k : Nat) (l0 : List Int) (a1 : Int) : Option (Int) := scarfjointref07_ascending.l0 k l0 a1 0
set_option maxHeartbeats 8000000 in
set_option maxRecDepth 100000 in
theorem scarfjointref07_ascending.calls (k : Nat) (A0 : Option Addr) (c0 : Nat) (l0 : List Int) (a1 : Int) (r : Int) (w : World) (hr0 : Kd.C (Kd.int .i64) w A0 l0.length l0) (hc0 : l0.length ≤ c0) (h : scarfjointref07_ascending.f k l0 a1 = some r) :
  Calls Try.prog 103 #[.slice A0 l0.length c0, .int .i64 a1] w fun e w' => e = .returned (.int .i64 r) ∧ Drawn0 w w' := by
 have HR0 := Aside0.mk hr0; have HC0 := Aside0.mk hc0; clear hr0 hc0; have H : (scarfjointref07_ascending.l0 k l0 a1 0) = some r := h; clear h; have H' := Aside0.mk H; clear H
 go_enter Try.func103, Try.ntmps103
 go_wp2
 repeat (go_quiet (fail); try go_wp2)
 go_loopg [5] k (fun kq v5 w' => ∃ (x5_1 : Int), v5 = .int .i64 x5_1 ∧ Aside0 (scarfjointref07_ascending.l0 kq l0 a1 x5_1 = some r) ∧ Aside0 (kq ≤ k) ∧ Drawn0 w w')
 case atStart => exact ⟨(0), (by first | rfl | (simp; done) | (simp [*]; done)), H', ⟨Nat.le_refl _⟩, by repeat (first | exact Drawn0.refl _ | apply Drawn0.step)⟩
 case round =>
  clear H'; (try clear c1); (try clear p2); obtain ⟨x5_1, rfl, HA, HK1, ⟨m1, rfl⟩⟩ := hrel
  cases gk with
  | zero => exact absurd HA.out (by simp [scarfjointref07_ascending.l0])
  | succ k1 =>
   have H := HA.out; clear HA; simp only [scarfjointref07_ascending.l0] at H
   by_cases c3 : x5_1 < (l0.length : Int)
   ·rw [if_pos c3] at H
    have c3b0 : decide (x5_1 < (l0.length : Int)) = true := decide_eq_true c3; clear c3; have HC4 := Aside0.mk H; clear H
    go_upto_region 4 with (fail)
    repeat (go_quiet (fail); go_upto_region 4 with (fail))
    go_cut [24] (fun v24 wc => ∃ (kq : Nat) (x24_3 : Bool), v24 = .bool x24_3 ∧ Aside0 (scarfjointref07_ascending.j1 kq l0 a1 x5_1 x24_3 = some r) ∧ Aside0 (kq ≤ k1) ∧ Drawn0 w wc)
    case first =>
     have H := HC4.out; clear HC4
     by_cases c5 : 0 ≤ x5_1
     ·rw [if_pos c5] at H
      have c5b0 : decide (0 ≤ x5_1) = true := decide_eq_true c5; clear c5
      (first | rw [c5b0] | (simp only [i64_w, i32_w]; rw [c5b0]) | skip)
      by_cases c6 : (rd l0 x5_1) < 0
      ·rw [if_pos c6] at H
       have c6b0 : decide ((rd l0 x5_1) < 0) = true := decide_eq_true c6; clear c6; have H' := Aside0.mk H; clear H; have p101 : 0 ≤ (x5_1 : Int) := of_decide_eq_true (by first | (with_reducible assumption) | assumption); have q101 : x5_1 < (l0.length : Int) := of_decide_eq_true (by first | (with_reducible assumption) | assumption); obtain ⟨ad101, e101, hx101_0⟩ := Kd.at_int HR0.out x5_1 p101 q101; cases e101; replace p101 := eq_true p101; replace q101 := eq_true q101
       go_wp2
       repeat (go_quiet (fail); try go_wp2)
       go_meet
       case rel => exact ⟨_, (true), (by first | rfl | (simp; done) | (simp [*]; done)), H', ⟨by have := HK1.out; first | omega | exact Nat.le_refl _⟩, by repeat (first | exact Drawn0.refl _ | apply Drawn0.step)⟩
      ·rw [if_neg c6] at H
       have c6b0 : decide ((rd l0 x5_1) < 0) = false := decide_eq_false c6; clear c6; have H' := Aside0.mk H; clear H; have p101 : 0 ≤ (x5_1 : Int) := of_decide_eq_true (by first | (with_reducible assumption) | assumption); have q101 : x5_1 < (l0.length : Int) := of_decide_eq_true (by first | (with_reducible assumption) | assumption); obtain ⟨ad101, e101, hx101_0⟩ := Kd.at_int HR0.out x5_1 p101 q101; cases e101; replace p101 := eq_true p101; replace q101 := eq_true q101; have p102 : 0 ≤ (x5_1 : Int) := of_decide_eq_true (by first | (with_reducible assumption) | assumption); have q102 : x5_1 < (l0.length : Int) := of_decide_eq_true (by first | (with_reducible assumption) | assumption); obtain ⟨ad102, e102, hx102_0⟩ := Kd.at_int HR0.out x5_1 p102 q102
       obtain rfl : ad101 = ad102 := (by injection e102)
       replace p102 := eq_true p102; replace q102 := eq_true q102
       go_wp2
       repeat (go_quiet (fail); try go_wp2)
       go_meet
       case rel => exact ⟨_, (decide ((rd l0 x5_1) ≥ a1)), (by first | rfl | (simp; done) | (simp [*]; done)), H', ⟨by have := HK1.out; first | omega | exact Nat.le_refl _⟩, by repeat (first | exact Drawn0.refl _ | apply Drawn0.step)⟩
     ·rw [if_neg c5] at H
      exact absurd H (by simp)
    case rest =>
     clear HC4; (try clear c1); (try clear p1); (try clear q1); (try clear hx1); (try clear p2); (try clear c3); (try clear c3b0); (try clear c5); (try clear c5b0); (try clear c6); (try clear c6b0); (try clear hx101_0); (try clear hx102_0); (try clear p101); (try clear p102); (try clear p2); (try clear q101); (try clear q102); obtain ⟨kq, x24_3, rfl, HA, HJ3, ⟨mc3, rfl⟩⟩ := hcut
     cases kq with
     | zero => exact absurd HA.out (by simp [scarfjointref07_ascending.j1])
     | succ kj3 =>
      have H := HA.out; clear HA; simp only [scarfjointref07_ascending.j1] at H
      by_cases c7 : x24_3 = true
      ·subst c7
       have H1 : (some 6) = some r := by rw [if_pos rfl] at H; exact H
       clear H; have H := H1; clear H1; obtain rfl := Option.some.inj H
       go_wp2
       repeat (go_quiet (fail); try go_wp2)
       go_ret
       exact ⟨by first | rfl | (simp; done) | (simp [*]; done), by repeat (first | exact Drawn0.refl _ | apply Drawn0.step)⟩
      ·replace c7 := Bool.eq_false_iff.mpr c7
       subst c7
       have H1 : (if x5_1 > 0 then (if 0 ≤ x5_1 then (if x5_1 < (l0.length : Int) then (if 0 ≤ (wrap64 (x5_1 - 1)) then (if (wrap64 (x5_1 - 1)) < (l0.length : Int) then (scarfjointref07_ascending.j2 kj3 l0 a1 x5_1 (decide ((rd l0 x5_1) ≤ (rd l0 (wrap64 (x5_1 - 1)))))) else (none)) else (none)) else (none)) else (none)) else (scarfjointref07_ascending.j2 kj3 l0 a1 x5_1 false)) = some r := by rw [if_neg (show ¬ (false = true) by decide)] at H; exact H
       clear H; have H := H1; clear H1; have HC8 := Aside0.mk H; clear H
       go_upto_region 6 with (fail)
       repeat (go_quiet (fail); go_upto_region 6 with (fail))
       go_cut [38] (fun v38 wc => ∃ (kq : Nat) (x38_7 : Bool), v38 = .bool x38_7 ∧ Aside0 (scarfjointref07_ascending.j2 kq l0 a1 x5_1 x38_7 = some r) ∧ Aside0 (kq ≤ kj3) ∧ Drawn0 w wc)
       case first =>
        have H := HC8.out; clear HC8
        by_cases c9 : x5_1 > 0
        ·rw [if_pos c9] at H
         have c9b0 : decide (0 < x5_1) = true := decide_eq_true c9; clear c9
         (first | rw [c9b0] | (simp only [i64_w, i32_w]; rw [c9b0]) | skip)
         by_cases c10 : 0 ≤ x5_1
         ·rw [if_pos c10] at H
          have c10b0 : decide (0 ≤ x5_1) = true := decide_eq_true c10; clear c10
          by_cases c11 : x5_1 < (l0.length : Int)
          ·rw [if_pos c11] at H
           have c11b0 : decide (x5_1 < (l0.length : Int)) = true := decide_eq_true c11; clear c11
           obtain ⟨ji12, hji12⟩ : ∃ j_ : Int, (wrap64 (x5_1 - 1)) = j_ := ⟨_, rfl⟩
           replace H : (if 0 ≤ (ji12) then (if (ji12) < (l0.length : Int) then (scarfjointref07_ascending.j2 kj3 l0 a1 x5_1 (decide ((rd l0 x5_1) ≤ (rd l0 (ji12))))) else (none)) else (none)) = some r := by first | (rw [hji12] at H; exact H) | (simp only [hji12] at H ⊢; exact H)
           have hji12w : (IntKind.i64.wrap (x5_1 - 1)) = ji12 := (i64_w _).trans hji12
           by_cases c13 : 0 ≤ (ji12)
           ·rw [if_pos c13] at H
            have c13b0 : decide (0 ≤ (ji12)) = true := decide_eq_true c13; clear c13
            by_cases c14 : (ji12) < (l0.length : Int)
            ·rw [if_pos c14] at H
             have c14b0 : decide ((ji12) < (l0.length : Int)) = true := decide_eq_true c14; clear c14; have H' := Aside0.mk H; clear H; have p103 : 0 ≤ (x5_1 : Int) := of_decide_eq_true (by first | (with_reducible assumption) | assumption); have q103 : x5_1 < (l0.length : Int) := of_decide_eq_true (by first | (with_reducible assumption) | assumption); obtain ⟨ad103, e103, hx103_0⟩ := Kd.at_int HR0.out x5_1 p103 q103; cases e103; replace p103 := eq_true p103; replace q103 := eq_true q103; have p104 : 0 ≤ ((ji12) : Int) := of_decide_eq_true (by first | (with_reducible assumption) | assumption); have q104 : (ji12) < (l0.length : Int) := of_decide_eq_true (by first | (with_reducible assumption) | assumption); obtain ⟨ad104, e104, hx104_0⟩ := Kd.at_int HR0.out (ji12) p104 q104
             obtain rfl : ad103 = ad104 := (by injection e104)
             replace p104 := eq_true p104; replace q104 := eq_true q104
             go_wp2
             repeat (go_quiet (fail); try go_wp2)
             go_meet
             case rel => exact ⟨_, (decide ((rd l0 x5_1) ≤ (rd l0 (ji12)))), (by first | rfl | (simp; done) | (simp only [← hji12] <;> (first | rfl | simp)) | (simp [*]; done)), H', ⟨by have := HK1.out; have := HJ3.out; first | omega | exact Nat.le_refl _⟩, by repeat (first | exact Drawn0.refl _ | apply Drawn0.step)⟩
            ·rw [if_neg c14] at H
             exact absurd H (by simp)
           ·rw [if_neg c13] at H
            exact absurd H (by simp)
          ·rw [if_neg c11] at H
           exact absurd H (by simp)
         ·rw [if_neg c10] at H
          exact absurd H (by simp)
        ·rw [if_neg c9] at H
         have c9b0 : decide (0 < x5_1) = false := decide_eq_false c9; clear c9
         (first | rw [c9b0] | (simp only [i64_w, i32_w]; rw [c9b0]) | skip)
         have H' := Aside0.mk H; clear H
         go_wp2
         repeat (go_quiet (fail); try go_wp2)
         go_meet
         case rel => exact ⟨_, (false), (by first | rfl | (simp; done) | (simp [*]; done)), H', ⟨by have := HK1.out; have := HJ3.out; first | omega | exact Nat.le_refl _⟩, by repeat (first | exact Drawn0.refl _ | apply Drawn0.step)⟩
       case rest =>
        clear HC8; (try clear c1); (try clear p1); (try clear q1); (try clear hx1); (try clear p2); (try clear c3); (try clear c3b0); (try clear c5); (try clear c5b0); (try clear c6); (try clear c6b0); (try clear p6); (try clear c7); (try clear c9); (try clear c9b0); (try clear c10); (try clear c10b0); (try clear p10); (try clear q10); (try clear hx10); (try clear c11); (try clear c11b0); (try clear c13); (try clear c13b0); (try clear c14); (try clear c14b0); (try clear hx101_0); (try clear hx102_0); (try clear hx103_0); (try clear hx104_0); (try clear p1); (try clear p101); (try clear p102); (try clear p103); (try clear p104); (try clear p2); (try clear q1); (try clear q101); (try clear q102); (try clear q103); (try clear q104); obtain ⟨kq, x38_7, rfl, HA, HJ7, ⟨mc7, rfl⟩⟩ := hcut
        cases kq with
        | zero => exact absurd HA.out (by simp [scarfjointref07_ascending.j2])
        | succ kj7 =>
         have H := HA.out; clear HA; simp only [scarfjointref07_ascending.j2] at H
         by_cases c15 : x38_7 = true
         ·subst c15
          have H1 : (some 12) = some r := by rw [if_pos rfl] at H; exact H
          clear H; have H := H1; clear H1; obtain rfl := Option.some.inj H
          go_wp2
          repeat (go_quiet (fail); try go_wp2)
          go_ret
          exact ⟨by first | rfl | (simp; done) | (simp [*]; done), by repeat (first | exact Drawn0.refl _ | apply Drawn0.step)⟩
         ·replace c15 := Bool.eq_false_iff.mpr c15
          subst c15
          have H1 : (scarfjointref07_ascending.l0 kj7 l0 a1 (wrap64 (x5_1 + 1))) = some r := by rw [if_neg (show ¬ (false = true) by decide)] at H; exact H
          clear H; have H := H1; clear H1; have H' := Aside0.mk H; clear H
          go_wp2
          repeat (go_quiet (fail); try go_wp2)
          go_roundg kj7
          case measure => have := HK1.out; have := HJ3.out; have := HJ7.out; omega
          case rel => exact ⟨(wrap64 (x5_1 + 1)), (by first | rfl | (simp; done) | (simp [*]; done)), H', ⟨by have := HK1.out; have := HJ3.out; have := HJ7.out; omega⟩, by repeat (first | exact Drawn0.refl _ | apply Drawn0.step)⟩
   ·rw [if_neg c3] at H
    have c3b0 : decide (x5_1 < (l0.length : Int)) = false := decide_eq_false c3; clear c3; obtain rfl := Option.some.inj H
    go_wp2
    repeat (go_quiet (fail); try go_wp2)
    go_ret
    exact ⟨by first | rfl | (simp; done) | (simp [*]; done), by repeat (first | exact Drawn0.refl _ | apply Drawn0.step)⟩
end Go.Proofs.Ytonipihlpbaknaa.Print
namespace Go.Proofs.Ytonipihlpbaknaa.Print
open Go.RowKit Go.Proofs.YtonipihlpbaknaaW.PrintWords Go.Proofs.YtonipihlpbaknaaW.PrintLast Go.Proofs.YtonipihlpbaknaaW.PrintMore
attribute [local go_sem] max2_int min2_int max_two min_two max_three min_three max_four min_four   -- for this text's walks alone
set_option linter.unusedVariables false
set_option linter.unusedSimpArgs false
mutual
def scarfjointref07_Right.l0 : Nat → Int → List Int → List (S78) → List Int → List Int → Option (Int)
  | 0, _, _, _, _, _ => none
  | k + 1, x7, x102000, x102001, x103000, x103001 => if x7 < (x103001.length : Int) then (if 0 ≤ x7 then (if 0 ≤ (rd x103001 x7) then (if (rd x103001 x7) < (x102001.length : Int) then ((scarfjointref07_has.f k x103000 ((rd_T78 x102001 (rd x103001 x7)).f1)).bind fun t108 => (if t108 = true then ((scarfjointref07_has.f k x103000 ((rd_T78 x102001 (rd x103001 x7)).f2)).bind fun t109 => (scarfjointref07_Right.j1 k x7 (!t109) x102000 x102001 x103000 x103001)) else (scarfjointref07_Right.j1 k x7 true x102000 x102001 x103000 x103001))) else (none)) else (none)) else (none)) else (some 0)
def scarfjointref07_Right.j1 : Nat → Int → Bool → List Int → List (S78) → List Int → List Int → Option (Int)
  | 0, _, _, _, _, _, _ => none
  | k + 1, x7, x56, x102000, x102001, x103000, x103001 => if x56 = true then (some 14) else (scarfjointref07_Right.l0 k (wrap64 (x7 + 1)) x102000 x102001 x103000 x103001)
end
def scarfjointref07_Right.f (k : Nat) (l0_0 : List Int) (l0_1 : List (S78)) (l1_0 : List Int) (l1_1 : List Int) : Option (Int) := (scarfjointref07_ascending.f k l1_0 (l0_0.length : Int)).bind fun t103 => (if t103 = 0 then ((scarfjointref07_ascending.f k l1_1 (l0_1.length : Int)).bind fun t104 => (if t104 = 0 then (scarfjointref07_Right.l0 k 0 l0_0 l0_1 l1_0 l1_1) else (some t104))) else (some t103))
def scarfjointref07_Right.T10 : Bool × List (List Nat × List Nat) := (true, [([], []), ([0], [0]), ([], []), ([2], [2]), ([], []), ([3, 4], [3, 4]), ([5], [5]), ([1, 6], [1, 6]), ([7], [7]), ([], []), ([9, 8, 0, 1, 2, 3, 4, 5, 6, 7, 8, 9], [8, 9])])
def scarfjointref07_Right.B10 : List Nat := [0, 1, 0, 4, 0, 28, 60, 127, 255, 0, 1023]
theorem scarfjointref07_Right.tab10 : rtab .any (opsOf Try.f70 10) = scarfjointref07_Right.T10 := by kernel_rfl
theorem scarfjointref07_Right.bits10 : waitsOk scarfjointref07_Right.T10.2 scarfjointref07_Right.B10 = true := by kernel_rfl
set_option maxHeartbeats 8000000 in
set_option maxRecDepth 100000 in
theorem scarfjointref07_Right.calls (k : Nat) (A0_0 : Option Addr) (c0_0 : Nat) (l0_0 : List Int) (A0_1 : Option Addr) (c0_1 : Nat) (l0_1 : List (S78)) (A1_0 : Option Addr) (c1_0 : Nat) (l1_0 : List Int) (A1_1 : Option Addr) (c1_1 : Nat) (l1_1 : List Int) (r : Int) (w : World) (hr0_0 : Kd.C (Kd.int .i64) w A0_0 l0_0.length l0_0) (hc0_0 : l0_0.length ≤ c0_0) (hr0_1 : Kd.C k78 w A0_1 l0_1.length l0_1) (hc0_1 : l0_1.length ≤ c0_1) (hr1_0 : Kd.C (Kd.int .i64) w A1_0 l1_0.length l1_0) (hc1_0 : l1_0.length ≤ c1_0) (hr1_1 : Kd.C (Kd.int .i64) w A1_1 l1_1.length l1_1) (hc1_1 : l1_1.length ≤ c1_1) (h : scarfjointref07_Right.f k l0_0 l0_1 l1_0 l1_1 = some r) :
  Calls Try.prog 70 #[.agg #[.slice A0_0 l0_0.length c0_0, .slice A0_1 l0_1.length c0_1], .agg #[.slice A1_0 l1_0.length c1_0, .slice A1_1 l1_1.length c1_1]] w fun e w' => e = .returned (.int .i64 r) ∧ Below w.heap.size w w' := by
 have hu25 := Try.underlying25; have hu27 := Try.underlying27; have hu78 := Try.underlying78; have HR0_0 := Aside0.mk hr0_0; have HC0_0 := Aside0.mk hc0_0; clear hr0_0 hc0_0; have HR0_1 := Aside0.mk hr0_1; have HC0_1 := Aside0.mk hc0_1; clear hr0_1 hc0_1; have HR1_0 := Aside0.mk hr1_0; have HC1_0 := Aside0.mk hc1_0; clear hr1_0 hc1_0; have HR1_1 := Aside0.mk hr1_1; have HC1_1 := Aside0.mk hc1_1; clear hr1_1 hc1_1; have HB := Aside0.mk (Below.refl w.heap.size w); have H : ((scarfjointref07_ascending.f k l1_0 (l0_0.length : Int)).bind fun t103 => (if t103 = 0 then ((scarfjointref07_ascending.f k l1_1 (l0_1.length : Int)).bind fun t104 => (if t104 = 0 then (scarfjointref07_Right.l0 k 0 l0_0 l0_1 l1_0 l1_1) else (some t104))) else (some t103))) = some r := h; clear h; replace H := Option.bind_eq_some_iff.mp H; obtain ⟨t103, A30, H⟩ := H; replace H : (if t103 = 0 then ((scarfjointref07_ascending.f k l1_1 (l0_1.length : Int)).bind fun t104 => (if t104 = 0 then (scarfjointref07_Right.l0 k 0 l0_0 l0_1 l1_0 l1_1) else (some t104))) else (some t103)) = some r := H; have A3 := Aside0.mk A30; clear A30
 by_cases c4 : t103 = 0
 ·rw [if_pos c4] at H
  have c4b0 : (t103 == 0) = true := beq_iff_eq.mpr c4; have c4b1 : (t103 != 0) = false := bne_eq_false_iff_eq.mpr c4; clear c4; replace H := Option.bind_eq_some_iff.mp H; obtain ⟨t104, A50, H⟩ := H; replace H : (if t104 = 0 then (scarfjointref07_Right.l0 k 0 l0_0 l0_1 l1_0 l1_1) else (some t104)) = some r := H; have A5 := Aside0.mk A50; clear A50
  by_cases c6 : t104 = 0
  ·rw [if_pos c6] at H
   have c6b0 : (t104 == 0) = true := beq_iff_eq.mpr c6; have c6b1 : (t104 != 0) = false := bne_eq_false_iff_eq.mpr c6; clear c6; have H' := Aside0.mk H; clear H
   go_enter Try.func70, Try.ntmps70
   go_wp2_with (first | ((with_reducible refine gate_dst (N := 2) rfl ?_); refine box_event ?hg (N := 2) ?hd (cs := #[.slice A0_0 l0_0.length c0_0, .slice A0_1 l0_1.length c0_1]) (t := 25) ?hr ?_; (case hd => rfl); (case hg => rfl); (case hr => first | (go_simp; done) | (go_simp; rfl)); intro gb101 hg w7 hbox hb; have n0_ := Aside0.mk (below_step (by repeat (first | (with_reducible first | exact HB.out | apply lA_ | apply lN_ | apply lD_) | exact HB.out)) hb); have n1_ := Aside0.mk (hbox); have n2_ := Aside0.mk ((by rw [hg]; exact (below_size (by repeat (first | (with_reducible first | exact HB.out | apply lA_ | apply lN_ | apply lD_) | exact HB.out))) : w.heap.size ≤ gb101)); have n3_ := Aside0.mk ((by rw [hg]; exact (below_size (by repeat (first | (with_reducible first | exact HB.out | apply lA_ | apply lN_ | apply lD_) | exact HB.out))) : w.heap.size ≤ gb101)); clear HB; have HB := n0_; have BK101 := n1_; have GW101 := n2_; have GE101 := n3_; clear n0_ n1_ n2_ n3_; clear hb hbox hg) | ((with_reducible refine gate_dst (N := 3) rfl ?_); refine box_event ?hg (N := 3) ?hd (cs := #[.slice A1_0 l1_0.length c1_0, .slice A1_1 l1_1.length c1_1]) (t := 27) ?hr ?_; (case hd => rfl); (case hg => rfl); (case hr => first | (go_simp; done) | (go_simp; rfl)); intro gb102 hg w8 hbox hb; have n0_ := Aside0.mk (blk_below (g := gb101) (o := .cells #[.slice A0_0 l0_0.length c0_0, .slice A0_1 l0_1.length c0_1] 25 (0, 0)) (by (with_reducible repeat first | refine bN_ ?_ _ | refine bD_ ?_ | refine bA_ ?_ _); exact BK101.out) hb); have n1_ := Aside0.mk (below_step (by repeat (first | (with_reducible first | exact HB.out | apply lA_ | apply lN_ | apply lD_ | refine below_set ?_ GE101.out) | exact HB.out)) hb); have n2_ := Aside0.mk (hbox); have n3_ := Aside0.mk ((by rw [hg]; exact (below_size (by repeat (first | (with_reducible first | exact HB.out | apply lA_ | apply lN_ | apply lD_ | refine below_set ?_ GE101.out) | exact HB.out))) : w.heap.size ≤ gb102)); have n4_ := Aside0.mk ((by rw [hg]; exact (below_size (by repeat (first | (with_reducible first | exact HB.out | apply lA_ | apply lN_ | apply lD_ | refine below_set ?_ GE101.out) | exact HB.out))) : w.heap.size ≤ gb102)); have n5_ := Aside0.mk ((by rw [hg]; exact Nat.ne_of_lt (blk_lt (g := gb101) (o := .cells #[.slice A0_0 l0_0.length c0_0, .slice A0_1 l0_1.length c0_1] 25 (0, 0)) (by (with_reducible repeat first | refine bN_ ?_ _ | refine bD_ ?_ | refine bA_ ?_ _); exact BK101.out)) : gb101 ≠ gb102)); have n6_ := Aside0.mk ((by rw [hg]; exact Nat.ne_of_gt (blk_lt (g := gb101) (o := .cells #[.slice A0_0 l0_0.length c0_0, .slice A0_1 l0_1.length c0_1] 25 (0, 0)) (by (with_reducible repeat first | refine bN_ ?_ _ | refine bD_ ?_ | refine bA_ ?_ _); exact BK101.out)) : gb102 ≠ gb101)); clear BK101; clear HB; have BK101 := n0_; have HB := n1_; have BK102 := n2_; have GW102 := n3_; have GE102 := n4_; have NB101_102 := n5_; have NB102_101 := n6_; clear n0_ n1_ n2_ n3_ n4_ n5_ n6_; clear hb hbox hg; have hnb9 := NB102_101.out; have hnc9 := NB101_102.out; have hcz10_0 : w8.cell? ⟨gb102, 0, none⟩ = some (.slice A1_0 l1_0.length c1_0) := (blk_cell BK102.out 0).trans rfl; have hcz10_1 : w8.cell? ⟨gb102, 1, none⟩ = some (.slice A1_1 l1_1.length c1_1) := (blk_cell BK102.out 1).trans rfl; have hfz10_0 := blk_frozen BK102.out 0; have hfz10_1 := blk_frozen BK102.out 1; have hcz11_0 : w8.cell? ⟨gb101, 0, none⟩ = some (.slice A0_0 l0_0.length c0_0) := (blk_cell BK101.out 0).trans rfl; have hcz11_1 : w8.cell? ⟨gb101, 1, none⟩ = some (.slice A0_1 l0_1.length c0_1) := (blk_cell BK101.out 1).trans rfl; have hfz11_0 := blk_frozen BK101.out 0; have hfz11_1 := blk_frozen BK101.out 1) | ((with_reducible refine gate_callee (f := 103) rfl ?_); refine goesL_ (some 14) rfl rfl Try.func103 (by kernel_rfl) rfl #[.slice A1_0 l1_0.length c1_0, .int .i64 (l0_0.length : Int)] rfl (by (try simp only [List.map_toArray, List.map_cons, List.map_nil]); first | done | rfl | (simp only [List.length_drop, List.length_take]; rfl)) ?_; (with_reducible refine (scarfjointref07_ascending.calls k _ _ l1_0 (l0_0.length : Int) t103 _ ?side1 ?side2 A3.out).mono ?_); (case side1 => repeat (first | exact (Kd.C_below HR1_0.out HB.out) | (with_reducible refine Kd.C_alloc ?_ _) | (with_reducible refine Kd.C_drewN ?_ _) | (with_reducible refine Kd.C_drew ?_))); (case side2 => exact HC1_0.out); rintro e w' ⟨rfl, ⟨nd, rfl⟩⟩; refine ⟨_, rfl, ?_⟩) | ((with_reducible refine gate_callee (f := 103) rfl ?_); refine goesL_ (some 23) rfl rfl Try.func103 (by kernel_rfl) rfl #[.slice A1_1 l1_1.length c1_1, .int .i64 (l0_1.length : Int)] rfl (by (try simp only [List.map_toArray, List.map_cons, List.map_nil]); first | done | rfl | (simp only [List.length_drop, List.length_take]; rfl)) ?_; (with_reducible refine (scarfjointref07_ascending.calls k _ _ l1_1 (l0_1.length : Int) t104 _ ?side1 ?side2 A5.out).mono ?_); (case side1 => repeat (first | exact (Kd.C_below HR1_1.out (by repeat (first | (with_reducible first | exact HB.out | apply lA_ | apply lN_ | apply lD_ | refine below_set ?_ GE101.out | refine below_set ?_ GE102.out) | exact HB.out))) | (with_reducible refine Kd.C_alloc ?_ _) | (with_reducible refine Kd.C_drewN ?_ _) | (with_reducible refine Kd.C_drew ?_))); (case side2 => exact HC1_1.out); rintro e w' ⟨rfl, ⟨nd, rfl⟩⟩; refine ⟨_, rfl, ?_⟩))
   go_loopg [7] k (fun kq v7 w' => ∃ (x7_1 : Int), v7 = .int .i64 x7_1 ∧ Aside0 (scarfjointref07_Right.l0 kq x7_1 l0_0 l0_1 l1_0 l1_1 = some r) ∧ Aside0 (kq ≤ k) ∧ Aside0 (w'.heap[gb101]? = some (.cells #[(.slice A0_0 l0_0.length c0_0), (.slice A0_1 l0_1.length c0_1)] 25 (0, 0))) ∧ Aside0 (w'.heap[gb102]? = some (.cells #[(.slice A1_0 l1_0.length c1_0), (.slice A1_1 l1_1.length c1_1)] 27 (0, 0))) ∧ Aside0 (Below w.heap.size w w'))
   case atStart => exact ⟨(0), (by first | rfl | (simp; done) | (simp [*]; done)), H', ⟨Nat.le_refl _⟩, ⟨by (with_reducible repeat first | refine bN_ ?_ _ | refine bD_ ?_ | refine bA_ ?_ _); exact BK101.out⟩, ⟨by (with_reducible repeat first | refine bN_ ?_ _ | refine bD_ ?_ | refine bA_ ?_ _); exact BK102.out⟩, ⟨by repeat (first | (with_reducible first | exact HB.out | apply lA_ | apply lN_ | apply lD_ | refine below_set ?_ GE101.out | refine below_set ?_ GE102.out) | exact HB.out)⟩⟩
   case round =>
    clear H'; (try clear c1); (try clear p2); (try clear c4); (try clear c4b0); (try clear c4b1); (try clear c6); (try clear c6b0); (try clear c6b1); (try clear c7); (try clear c9); (try clear c10); (try clear hcz10_0); (try clear hcz10_1); (try clear hcz11_0); (try clear hcz11_1); (try clear hfz10_0); (try clear hfz10_1); (try clear hfz11_0); (try clear hfz11_1); obtain ⟨x7_1, rfl, HA, HK1, BK101, BK102, HB⟩ := hrel
    cases gk with
    | zero => exact absurd HA.out (by simp [scarfjointref07_Right.l0])
    | succ k1 =>
     have H := HA.out; clear HA; simp only [scarfjointref07_Right.l0] at H
     by_cases c12 : x7_1 < (l1_1.length : Int)
     ·rw [if_pos c12] at H
      have c12b0 : decide (x7_1 < (l1_1.length : Int)) = true := decide_eq_true c12; clear c12
      by_cases c13 : 0 ≤ x7_1
      ·rw [if_pos c13] at H
       have c13b0 : decide (0 ≤ x7_1) = true := decide_eq_true c13; clear c13
       by_cases c14 : 0 ≤ (rd l1_1 x7_1)
       ·rw [if_pos c14] at H
        have c14b0 : decide (0 ≤ (rd l1_1 x7_1)) = true := decide_eq_true c14; clear c14
        by_cases c15 : (rd l1_1 x7_1) < (l0_1.length : Int)
        ·rw [if_pos c15] at H
         have c15b0 : decide ((rd l1_1 x7_1) < (l0_1.length : Int)) = true := decide_eq_true c15; clear c15; have HC16 := Aside0.mk H; clear H; have hnb17 := NB102_101.out; have hnc17 := NB101_102.out
         have hcz18_0 : wr.cell? ⟨gb102, 0, none⟩ = some (.slice A1_0 l1_0.length c1_0) := (blk_cell BK102.out 0).trans rfl
         have hcz18_1 : wr.cell? ⟨gb102, 1, none⟩ = some (.slice A1_1 l1_1.length c1_1) := (blk_cell BK102.out 1).trans rfl
         have hfz18_0 := blk_frozen BK102.out 0; have hfz18_1 := blk_frozen BK102.out 1
         try go_wp2
         have n0_ := Aside0.mk (blk_drew BK101.out); have n1_ := Aside0.mk (blk_drew BK102.out); have n2_ := Aside0.mk (below_drew1 HB.out); clear BK101; clear BK102; clear HB; have BK101 := n0_; have BK102 := n1_; have HB := n2_; clear n0_ n1_ n2_; have p105 : 0 ≤ (x7_1 : Int) := of_decide_eq_true (by first | (with_reducible assumption) | assumption); have q105 : x7_1 < (l1_1.length : Int) := of_decide_eq_true (by first | (with_reducible assumption) | assumption); obtain ⟨ad105, e105, hx105_0⟩ := Kd.at_int HR1_1.out x7_1 p105 q105; have hw105_0 := hx105_0; cases e105; replace hx105_0 := (HB.out.cell (World.block_lt_of_cell? w _ hx105_0)).trans hx105_0; replace p105 := eq_true p105; replace q105 := eq_true q105; have p106 : 0 ≤ ((rd l1_1 x7_1) : Int) := of_decide_eq_true (by first | (with_reducible assumption) | assumption); have q106 : (rd l1_1 x7_1) < (l0_1.length : Int) := of_decide_eq_true (by first | (with_reducible assumption) | assumption); obtain ⟨ad106, e106, hx106_0, hx106_1, hx106_2⟩ := at_T78 HR0_1.out (rd l1_1 x7_1) p106 q106; have hw106_2 := hx106_2; have hw106_1 := hx106_1; have hw106_0 := hx106_0; cases e106; replace hx106_0 := (HB.out.cell (World.block_lt_of_cell? w _ hx106_0)).trans hx106_0; replace hx106_1 := (HB.out.cell (World.block_lt_of_cell? w _ hx106_1)).trans hx106_1; replace hx106_2 := (HB.out.cell (World.block_lt_of_cell? w _ hx106_2)).trans hx106_2; replace p106 := eq_true p106; replace q106 := eq_true q106
         refine start_ (n := 11) (S := fun w' => w'.cell? ⟨gb101, 0, none⟩ = some (.slice A0_0 l0_0.length c0_0) ∧ w'.cell? ⟨gb101, 1, none⟩ = some (.slice (some ad106) l0_1.length c0_1) ∧ w'.cell? ⟨gb102, 0, none⟩ = some (.slice A1_0 l1_0.length c1_0) ∧ w'.cell? ⟨gb102, 1, none⟩ = some (.slice (some ad105) l1_1.length c1_1) ∧ w'.cell? (ad105.add (x7_1).toNat) = some (.int .i64 (rd l1_1 x7_1)) ∧ w'.cell? (ad106.add (((rd l1_1 x7_1)).toNat * 3)) = some (.int .i64 ((rd_T78 l0_1 (rd l1_1 x7_1)).f0)) ∧ w'.cell? ⟨(ad106.add (((rd l1_1 x7_1)).toNat * 3)).block, (ad106.add (((rd l1_1 x7_1)).toNat * 3)).off + 1, none⟩ = some (.int .i64 ((rd_T78 l0_1 (rd l1_1 x7_1)).f1)) ∧ w'.cell? ⟨(ad106.add (((rd l1_1 x7_1)).toNat * 3)).block, (ad106.add (((rd l1_1 x7_1)).toNat * 3)).off + 2, none⟩ = some (.int .i64 ((rd_T78 l0_1 (rd l1_1 x7_1)).f2))) (ds := []) #[false, false, false, false, false, false, false, false, false, false, false] (by kernel_rfl) rfl rfl ⟨(blk_cell BK101.out 0).trans rfl, (blk_cell BK101.out 1).trans rfl, (blk_cell BK102.out 0).trans rfl, (blk_cell BK102.out 1).trans rfl, ((HB.out.cell (World.block_lt_of_cell? w _ hw105_0)).trans hw105_0), ((HB.out.cell (World.block_lt_of_cell? w _ hw106_0)).trans hw106_0), ((HB.out.cell (World.block_lt_of_cell? w _ hw106_1)).trans hw106_1), ((HB.out.cell (World.block_lt_of_cell? w _ hw106_2)).trans hw106_2)⟩ (fun hHeld => ?_); refine with_tabW scarfjointref07_Right.tab10 scarfjointref07_Right.bits10 (fun HT_ HW_ => ?_)
         generalize wr.drew = w19 at BK101 BK102 HB hx105_0 hx106_0 hx106_1 hx106_2 hHeld ⊢
         refine pure_ (i := 0) (N := some 34) (v := ?_) (a' := ?_) #[true, false, false, false, false, false, false, false, false, false, false] rfl rfl (any_of HT_.out (by kernel_rfl)) (fun _ _ _ h => h) (Or.inl ⟨by rfl, ?_⟩) ?_ ?_
         rotate_left
         ·intro w'
          go_simp
          with_reducible rfl
         rotate_left
         ·simp only [Act.put, sI_, s0_, sS_, i64_w, i32_w]
          rfl
         refine pure_ (i := 2) (N := some 36) (v := ?_) (a' := ?_) #[true, false, true, false, false, false, false, false, false, false, false] rfl rfl (any_of HT_.out (by kernel_rfl)) (fun _ _ _ h => h) (Or.inl ⟨by rfl, ?_⟩) ?_ ?_
         rotate_left
         ·intro w'
          go_simp
          with_reducible rfl
         rotate_left
         ·simp only [Act.put, sI_, s0_, sS_, i64_w, i32_w]
          rfl
         refine pure_ (i := 4) (N := some 38) (v := ?_) (a' := ?_) #[true, false, true, false, true, false, false, false, false, false, false] rfl rfl (any_of HT_.out (by kernel_rfl)) (fun _ _ _ h => h) (Or.inl ⟨by rfl, ?_⟩) ?_ ?_
         rotate_left
         ·intro w'
          go_simp
          with_reducible rfl
         rotate_left
         ·simp only [Act.put, sI_, s0_, sS_, i64_w, i32_w]
          rfl
         refine take_ (i := 1) (N := some 35) (v := ?_) (a' := ?_) #[true, true, true, false, true, false, false, false, false, false, false] rfl rfl (take_ofW HT_.out HW_.out (by kernel_rfl)) (fun _ _ _ h => h) (Or.inl ⟨by rfl, ?_⟩) hHeld ?_ ?_
         rotate_left
         ·rintro w' ⟨s0, s1, s2, s3, s4, s5, s6, s7⟩
          go_simp
          with_reducible rfl
         rotate_left
         ·simp only [Act.put, sI_, s0_, sS_, i64_w, i32_w]
          rfl
         refine take_ (i := 3) (N := some 37) (v := ?_) (a' := ?_) #[true, true, true, true, true, false, false, false, false, false, false] rfl rfl (take_ofW HT_.out HW_.out (by kernel_rfl)) (fun _ _ _ h => h) (Or.inl ⟨by rfl, ?_⟩) hHeld ?_ ?_
         rotate_left
         ·rintro w' ⟨s0, s1, s2, s3, s4, s5, s6, s7⟩
          go_simp
          with_reducible rfl
         rotate_left
         ·simp only [Act.put, sI_, s0_, sS_, i64_w, i32_w]
          rfl
         refine pure_ (i := 5) (N := some 39) (v := ?_) (a' := ?_) #[true, true, true, true, true, true, false, false, false, false, false] rfl rfl (any_of HT_.out (by kernel_rfl)) (fun _ _ _ h => h) (Or.inl ⟨by rfl, ?_⟩) ?_ ?_
         rotate_left
         ·intro w'
          go_simp
          with_reducible rfl
         rotate_left
         ·simp only [Act.put, sI_, s0_, sS_, i64_w, i32_w]
          rfl
         refine take_ (i := 6) (N := some 40) (v := ?_) (a' := ?_) #[true, true, true, true, true, true, true, false, false, false, false] rfl rfl (take_ofW HT_.out HW_.out (by kernel_rfl)) (fun _ _ _ h => h) (Or.inl ⟨by rfl, ?_⟩) hHeld ?_ ?_
         rotate_left
         ·rintro w' ⟨s0, s1, s2, s3, s4, s5, s6, s7⟩
          go_simp
          with_reducible rfl
         rotate_left
         ·simp only [Act.put, sI_, s0_, sS_, i64_w, i32_w]
          rfl
         refine pure_ (i := 7) (N := some 41) (v := ?_) (a' := ?_) #[true, true, true, true, true, true, true, true, false, false, false] rfl rfl (any_of HT_.out (by kernel_rfl)) (fun _ _ _ h => h) (Or.inl ⟨by rfl, ?_⟩) ?_ ?_
         rotate_left
         ·intro w'
          go_simp
          with_reducible rfl
         rotate_left
         ·simp only [Act.put, sI_, s0_, sS_, i64_w, i32_w]
          rfl
         refine take_ (i := 8) (N := some 42) (v := ?_) (a' := ?_) #[true, true, true, true, true, true, true, true, true, false, false] rfl rfl (take_ofW HT_.out HW_.out (by kernel_rfl)) (fun _ _ _ h => h) (Or.inl ⟨by rfl, ?_⟩) hHeld ?_ ?_
         rotate_left
         ·rintro w' ⟨s0, s1, s2, s3, s4, s5, s6, s7⟩
          go_simp
          with_reducible rfl
         rotate_left
         ·simp only [Act.put, sI_, s0_, sS_, i64_w, i32_w]
          rfl
         refine one_ (i := 9) (N := some 8) #[true, true, true, true, true, true, true, true, true, true, false] rfl rfl (one_of HT_.out (by kernel_rfl)) (by decide) (fun K hK => ?_)
         refine box_step ?hg (N := 8) ?hd (cs := #[.int .i64 0, .int .i64 0, .int .i64 0]) (t := 78) ?hr ?_; (case hd => rfl); (case hg => rfl); (case hr => first | (go_simp; done) | (go_simp; rfl))
         intro gb107 hg w20 hbox hb; have n0_ := Aside0.mk (blk_below (g := gb101) (o := .cells #[.slice A0_0 l0_0.length c0_0, .slice (some ad106) l0_1.length c0_1] 25 (0, 0)) (by (with_reducible repeat first | refine bN_ ?_ _ | refine bD_ ?_ | refine bA_ ?_ _); exact BK101.out) hb); have n1_ := Aside0.mk (blk_below (g := gb102) (o := .cells #[.slice A1_0 l1_0.length c1_0, .slice (some ad105) l1_1.length c1_1] 27 (0, 0)) (by (with_reducible repeat first | refine bN_ ?_ _ | refine bD_ ?_ | refine bA_ ?_ _); exact BK102.out) hb); have n2_ := Aside0.mk (below_step (by repeat (first | (with_reducible first | exact HB.out | apply lA_ | apply lN_ | apply lD_ | refine below_set ?_ GE101.out | refine below_set ?_ GE102.out) | exact HB.out)) hb); have n3_ := Aside0.mk (hbox); have n4_ := Aside0.mk ((by rw [hg]; exact (below_size (by repeat (first | (with_reducible first | exact HB.out | apply lA_ | apply lN_ | apply lD_ | refine below_set ?_ GE101.out | refine below_set ?_ GE102.out) | exact HB.out))) : w.heap.size ≤ gb107)); have n5_ := Aside0.mk ((by rw [hg]; exact (below_size (by repeat (first | (with_reducible first | exact HB.out | apply lA_ | apply lN_ | apply lD_ | refine below_set ?_ GE101.out | refine below_set ?_ GE102.out) | exact HB.out))) : w.heap.size ≤ gb107)); have n6_ := Aside0.mk ((by rw [hg]; exact Nat.ne_of_lt (blk_lt (g := gb101) (o := .cells #[.slice A0_0 l0_0.length c0_0, .slice (some ad106) l0_1.length c0_1] 25 (0, 0)) (by (with_reducible repeat first | refine bN_ ?_ _ | refine bD_ ?_ | refine bA_ ?_ _); exact BK101.out)) : gb101 ≠ gb107)); have n7_ := Aside0.mk ((by rw [hg]; exact Nat.ne_of_gt (blk_lt (g := gb101) (o := .cells #[.slice A0_0 l0_0.length c0_0, .slice (some ad106) l0_1.length c0_1] 25 (0, 0)) (by (with_reducible repeat first | refine bN_ ?_ _ | refine bD_ ?_ | refine bA_ ?_ _); exact BK101.out)) : gb107 ≠ gb101)); have n8_ := Aside0.mk ((by rw [hg]; exact Nat.ne_of_lt (blk_lt (g := gb102) (o := .cells #[.slice A1_0 l1_0.length c1_0, .slice (some ad105) l1_1.length c1_1] 27 (0, 0)) (by (with_reducible repeat first | refine bN_ ?_ _ | refine bD_ ?_ | refine bA_ ?_ _); exact BK102.out)) : gb102 ≠ gb107)); have n9_ := Aside0.mk ((by rw [hg]; exact Nat.ne_of_gt (blk_lt (g := gb102) (o := .cells #[.slice A1_0 l1_0.length c1_0, .slice (some ad105) l1_1.length c1_1] 27 (0, 0)) (by (with_reducible repeat first | refine bN_ ?_ _ | refine bD_ ?_ | refine bA_ ?_ _); exact BK102.out)) : gb107 ≠ gb102)); clear BK101; clear BK102; clear HB; have BK101 := n0_; have BK102 := n1_; have HB := n2_; have BK107 := n3_; have GW107 := n4_; have GE107 := n5_; have NB101_107 := n6_; have NB107_101 := n7_; have NB102_107 := n8_; have NB107_102 := n9_; clear n0_ n1_ n2_ n3_ n4_ n5_ n6_ n7_ n8_ n9_; clear hb hbox hg
         refine hK.out _ _ ⟨(blk_cell BK101.out 0).trans rfl, (blk_cell BK101.out 1).trans rfl, (blk_cell BK102.out 0).trans rfl, (blk_cell BK102.out 1).trans rfl, ((HB.out.cell (World.block_lt_of_cell? w _ hw105_0)).trans hw105_0), ((HB.out.cell (World.block_lt_of_cell? w _ hw106_0)).trans hw106_0), ((HB.out.cell (World.block_lt_of_cell? w _ hw106_1)).trans hw106_1), ((HB.out.cell (World.block_lt_of_cell? w _ hw106_2)).trans hw106_2)⟩ (fun hHeld => ?_)
         clear hK K
         refine norm_ (a' := ?_) ?_ ?_
         rotate_left
         ·show Act.put _ (some 8) _ = _
          simp only [Act.put, sI_, s0_, sS_, i64_w, i32_w]
          rfl
         refine one_ (i := 10) (N := none) #[true, true, true, true, true, true, true, true, true, true, true] rfl rfl (one_of HT_.out (by kernel_rfl)) (by decide) (fun K hK => ?_)
         have hs21 : w20.cell? ⟨gb107, 0, none⟩ = some (.int .i64 0) := (blk_cell BK107.out 0).trans rfl
         have hfs21 := blk_frozen BK107.out 0; have hns21_0 := NB101_107.out; have hns21_1 := NB102_107.out; have hms21_0 := NB107_101.out; have hms21_1 := NB107_102.out
         have hs22 : w20.cell? ⟨gb107, 1, none⟩ = some (.int .i64 0) := (blk_cell BK107.out 1).trans rfl
         have hfs22 := blk_frozen BK107.out 1; have hns22_0 := NB101_107.out; have hns22_1 := NB102_107.out; have hms22_0 := NB107_101.out; have hms22_1 := NB107_102.out
         have hs23 : w20.cell? ⟨gb107, 2, none⟩ = some (.int .i64 0) := (blk_cell BK107.out 2).trans rfl
         have hfs23 := blk_frozen BK107.out 2; have hns23_0 := NB101_107.out; have hns23_1 := NB102_107.out; have hms23_0 := NB107_101.out; have hms23_1 := NB107_102.out
         refine skip_ (w1 := ?_) (by rfl) rfl ?_ ?_
         rotate_left
         ·go_simp
          rfl
         refine hK.out _ _ ⟨((cell_far (p := ⟨gb107, _, none⟩) NB101_107.out _).trans (((cell_far (p := ⟨gb107, _, none⟩) NB101_107.out _).trans (((cell_far (p := ⟨gb107, _, none⟩) NB101_107.out _).trans (hHeld.1)))))), ((cell_far (p := ⟨gb107, _, none⟩) NB101_107.out _).trans (((cell_far (p := ⟨gb107, _, none⟩) NB101_107.out _).trans (((cell_far (p := ⟨gb107, _, none⟩) NB101_107.out _).trans (hHeld.2.1)))))), ((cell_far (p := ⟨gb107, _, none⟩) NB102_107.out _).trans (((cell_far (p := ⟨gb107, _, none⟩) NB102_107.out _).trans (((cell_far (p := ⟨gb107, _, none⟩) NB102_107.out _).trans (hHeld.2.2.1)))))), ((cell_far (p := ⟨gb107, _, none⟩) NB102_107.out _).trans (((cell_far (p := ⟨gb107, _, none⟩) NB102_107.out _).trans (((cell_far (p := ⟨gb107, _, none⟩) NB102_107.out _).trans (hHeld.2.2.2.1)))))), ((cell_far (p := ⟨gb107, _, none⟩) (by first | exact Nat.ne_of_lt (Nat.lt_of_lt_of_le (by have := World.block_lt_of_cell? _ _ hw105_0; first | rwa [add_block] at this | exact this) GW107.out) | (rw [add_block]; exact Nat.ne_of_lt (Nat.lt_of_lt_of_le (by have := World.block_lt_of_cell? _ _ hw105_0; first | rwa [add_block] at this | exact this) GW107.out)) | (show (Addr.add _ _).block ≠ _; rw [add_block]; exact Nat.ne_of_lt (Nat.lt_of_lt_of_le (by have := World.block_lt_of_cell? _ _ hw105_0; first | rwa [add_block] at this | exact this) GW107.out)) | (dsimp only; exact Nat.ne_of_lt (Nat.lt_of_lt_of_le (by have := World.block_lt_of_cell? _ _ hw105_0; first | rwa [add_block] at this | exact this) GW107.out))) _).trans (((cell_far (p := ⟨gb107, _, none⟩) (by first | exact Nat.ne_of_lt (Nat.lt_of_lt_of_le (by have := World.block_lt_of_cell? _ _ hw105_0; first | rwa [add_block] at this | exact this) GW107.out) | (rw [add_block]; exact Nat.ne_of_lt (Nat.lt_of_lt_of_le (by have := World.block_lt_of_cell? _ _ hw105_0; first | rwa [add_block] at this | exact this) GW107.out)) | (show (Addr.add _ _).block ≠ _; rw [add_block]; exact Nat.ne_of_lt (Nat.lt_of_lt_of_le (by have := World.block_lt_of_cell? _ _ hw105_0; first | rwa [add_block] at this | exact this) GW107.out)) | (dsimp only; exact Nat.ne_of_lt (Nat.lt_of_lt_of_le (by have := World.block_lt_of_cell? _ _ hw105_0; first | rwa [add_block] at this | exact this) GW107.out))) _).trans (((cell_far (p := ⟨gb107, _, none⟩) (by first | exact Nat.ne_of_lt (Nat.lt_of_lt_of_le (by have := World.block_lt_of_cell? _ _ hw105_0; first | rwa [add_block] at this | exact this) GW107.out) | (rw [add_block]; exact Nat.ne_of_lt (Nat.lt_of_lt_of_le (by have := World.block_lt_of_cell? _ _ hw105_0; first | rwa [add_block] at this | exact this) GW107.out)) | (show (Addr.add _ _).block ≠ _; rw [add_block]; exact Nat.ne_of_lt (Nat.lt_of_lt_of_le (by have := World.block_lt_of_cell? _ _ hw105_0; first | rwa [add_block] at this | exact this) GW107.out)) | (dsimp only; exact Nat.ne_of_lt (Nat.lt_of_lt_of_le (by have := World.block_lt_of_cell? _ _ hw105_0; first | rwa [add_block] at this | exact this) GW107.out))) _).trans (hHeld.2.2.2.2.1)))))), ((cell_far (p := ⟨gb107, _, none⟩) (by first | exact Nat.ne_of_lt (Nat.lt_of_lt_of_le (by have := World.block_lt_of_cell? _ _ hw106_0; first | rwa [add_block] at this | exact this) GW107.out) | (rw [add_block]; exact Nat.ne_of_lt (Nat.lt_of_lt_of_le (by have := World.block_lt_of_cell? _ _ hw106_0; first | rwa [add_block] at this | exact this) GW107.out)) | (show (Addr.add _ _).block ≠ _; rw [add_block]; exact Nat.ne_of_lt (Nat.lt_of_lt_of_le (by have := World.block_lt_of_cell? _ _ hw106_0; first | rwa [add_block] at this | exact this) GW107.out)) | (dsimp only; exact Nat.ne_of_lt (Nat.lt_of_lt_of_le (by have := World.block_lt_of_cell? _ _ hw106_0; first | rwa [add_block] at this | exact this) GW107.out))) _).trans (((cell_far (p := ⟨gb107, _, none⟩) (by first | exact Nat.ne_of_lt (Nat.lt_of_lt_of_le (by have := World.block_lt_of_cell? _ _ hw106_0; first | rwa [add_block] at this | exact this) GW107.out) | (rw [add_block]; exact Nat.ne_of_lt (Nat.lt_of_lt_of_le (by have := World.block_lt_of_cell? _ _ hw106_0; first | rwa [add_block] at this | exact this) GW107.out)) | (show (Addr.add _ _).block ≠ _; rw [add_block]; exact Nat.ne_of_lt (Nat.lt_of_lt_of_le (by have := World.block_lt_of_cell? _ _ hw106_0; first | rwa [add_block] at this | exact this) GW107.out)) | (dsimp only; exact Nat.ne_of_lt (Nat.lt_of_lt_of_le (by have := World.block_lt_of_cell? _ _ hw106_0; first | rwa [add_block] at this | exact this) GW107.out))) _).trans (((cell_far (p := ⟨gb107, _, none⟩) (by first | exact Nat.ne_of_lt (Nat.lt_of_lt_of_le (by have := World.block_lt_of_cell? _ _ hw106_0; first | rwa [add_block] at this | exact this) GW107.out) | (rw [add_block]; exact Nat.ne_of_lt (Nat.lt_of_lt_of_le (by have := World.block_lt_of_cell? _ _ hw106_0; first | rwa [add_block] at this | exact this) GW107.out)) | (show (Addr.add _ _).block ≠ _; rw [add_block]; exact Nat.ne_of_lt (Nat.lt_of_lt_of_le (by have := World.block_lt_of_cell? _ _ hw106_0; first | rwa [add_block] at this | exact this) GW107.out)) | (dsimp only; exact Nat.ne_of_lt (Nat.lt_of_lt_of_le (by have := World.block_lt_of_cell? _ _ hw106_0; first | rwa [add_block] at this | exact this) GW107.out))) _).trans (hHeld.2.2.2.2.2.1)))))), ((cell_far (p := ⟨gb107, _, none⟩) (by first | exact Nat.ne_of_lt (Nat.lt_of_lt_of_le (by have := World.block_lt_of_cell? _ _ hw106_1; first | rwa [add_block] at this | exact this) GW107.out) | (rw [add_block]; exact Nat.ne_of_lt (Nat.lt_of_lt_of_le (by have := World.block_lt_of_cell? _ _ hw106_1; first | rwa [add_block] at this | exact this) GW107.out)) | (show (Addr.add _ _).block ≠ _; rw [add_block]; exact Nat.ne_of_lt (Nat.lt_of_lt_of_le (by have := World.block_lt_of_cell? _ _ hw106_1; first | rwa [add_block] at this | exact this) GW107.out)) | (dsimp only; exact Nat.ne_of_lt (Nat.lt_of_lt_of_le (by have := World.block_lt_of_cell? _ _ hw106_1; first | rwa [add_block] at this | exact this) GW107.out))) _).trans (((cell_far (p := ⟨gb107, _, none⟩) (by first | exact Nat.ne_of_lt (Nat.lt_of_lt_of_le (by have := World.block_lt_of_cell? _ _ hw106_1; first | rwa [add_block] at this | exact this) GW107.out) | (rw [add_block]; exact Nat.ne_of_lt (Nat.lt_of_lt_of_le (by have := World.block_lt_of_cell? _ _ hw106_1; first | rwa [add_block] at this | exact this) GW107.out)) | (show (Addr.add _ _).block ≠ _; rw [add_block]; exact Nat.ne_of_lt (Nat.lt_of_lt_of_le (by have := World.block_lt_of_cell? _ _ hw106_1; first | rwa [add_block] at this | exact this) GW107.out)) | (dsimp only; exact Nat.ne_of_lt (Nat.lt_of_lt_of_le (by have := World.block_lt_of_cell? _ _ hw106_1; first | rwa [add_block] at this | exact this) GW107.out))) _).trans (((cell_far (p := ⟨gb107, _, none⟩) (by first | exact Nat.ne_of_lt (Nat.lt_of_lt_of_le (by have := World.block_lt_of_cell? _ _ hw106_1; first | rwa [add_block] at this | exact this) GW107.out) | (rw [add_block]; exact Nat.ne_of_lt (Nat.lt_of_lt_of_le (by have := World.block_lt_of_cell? _ _ hw106_1; first | rwa [add_block] at this | exact this) GW107.out)) | (show (Addr.add _ _).block ≠ _; rw [add_block]; exact Nat.ne_of_lt (Nat.lt_of_lt_of_le (by have := World.block_lt_of_cell? _ _ hw106_1; first | rwa [add_block] at this | exact this) GW107.out)) | (dsimp only; exact Nat.ne_of_lt (Nat.lt_of_lt_of_le (by have := World.block_lt_of_cell? _ _ hw106_1; first | rwa [add_block] at this | exact this) GW107.out))) _).trans (hHeld.2.2.2.2.2.2.1)))))), ((cell_far (p := ⟨gb107, _, none⟩) (by first | exact Nat.ne_of_lt (Nat.lt_of_lt_of_le (by have := World.block_lt_of_cell? _ _ hw106_2; first | rwa [add_block] at this | exact this) GW107.out) | (rw [add_block]; exact Nat.ne_of_lt (Nat.lt_of_lt_of_le (by have := World.block_lt_of_cell? _ _ hw106_2; first | rwa [add_block] at this | exact this) GW107.out)) | (show (Addr.add _ _).block ≠ _; rw [add_block]; exact Nat.ne_of_lt (Nat.lt_of_lt_of_le (by have := World.block_lt_of_cell? _ _ hw106_2; first | rwa [add_block] at this | exact this) GW107.out)) | (dsimp only; exact Nat.ne_of_lt (Nat.lt_of_lt_of_le (by have := World.block_lt_of_cell? _ _ hw106_2; first | rwa [add_block] at this | exact this) GW107.out))) _).trans (((cell_far (p := ⟨gb107, _, none⟩) (by first | exact Nat.ne_of_lt (Nat.lt_of_lt_of_le (by have := World.block_lt_of_cell? _ _ hw106_2; first | rwa [add_block] at this | exact this) GW107.out) | (rw [add_block]; exact Nat.ne_of_lt (Nat.lt_of_lt_of_le (by have := World.block_lt_of_cell? _ _ hw106_2; first | rwa [add_block] at this | exact this) GW107.out)) | (show (Addr.add _ _).block ≠ _; rw [add_block]; exact Nat.ne_of_lt (Nat.lt_of_lt_of_le (by have := World.block_lt_of_cell? _ _ hw106_2; first | rwa [add_block] at this | exact this) GW107.out)) | (dsimp only; exact Nat.ne_of_lt (Nat.lt_of_lt_of_le (by have := World.block_lt_of_cell? _ _ hw106_2; first | rwa [add_block] at this | exact this) GW107.out))) _).trans (((cell_far (p := ⟨gb107, _, none⟩) (by first | exact Nat.ne_of_lt (Nat.lt_of_lt_of_le (by have := World.block_lt_of_cell? _ _ hw106_2; first | rwa [add_block] at this | exact this) GW107.out) | (rw [add_block]; exact Nat.ne_of_lt (Nat.lt_of_lt_of_le (by have := World.block_lt_of_cell? _ _ hw106_2; first | rwa [add_block] at this | exact this) GW107.out)) | (show (Addr.add _ _).block ≠ _; rw [add_block]; exact Nat.ne_of_lt (Nat.lt_of_lt_of_le (by have := World.block_lt_of_cell? _ _ hw106_2; first | rwa [add_block] at this | exact this) GW107.out)) | (dsimp only; exact Nat.ne_of_lt (Nat.lt_of_lt_of_le (by have := World.block_lt_of_cell? _ _ hw106_2; first | rwa [add_block] at this | exact this) GW107.out))) _).trans (hHeld.2.2.2.2.2.2.2))))))⟩ (fun hHeld => ?_)
         clear hK K
         refine done_ (done_of HT_.out (by kernel_rfl)) ?_
         go_upto_region 11 with (fail)
         go_cut [56] (fun v56 wc => ∃ (kq : Nat) (x56_15 : Bool), v56 = .bool x56_15 ∧ Aside0 (scarfjointref07_Right.j1 kq x7_1 x56_15 l0_0 l0_1 l1_0 l1_1 = some r) ∧ Aside0 (kq ≤ k1) ∧ Aside0 (wc.heap[gb101]? = some (.cells #[(.slice A0_0 l0_0.length c0_0), (.slice (some ad106) l0_1.length c0_1)] 25 (0, 0))) ∧ Aside0 (wc.heap[gb102]? = some (.cells #[(.slice A1_0 l1_0.length c1_0), (.slice (some ad105) l1_1.length c1_1)] 27 (0, 0))) ∧ Aside0 (wc.heap[gb107]? = some (.cells #[.int .i64 ((rd_T78 l0_1 (rd l1_1 x7_1)).f0), .int .i64 ((rd_T78 l0_1 (rd l1_1 x7_1)).f1), .int .i64 ((rd_T78 l0_1 (rd l1_1 x7_1)).f2)] 78 (0, 0))) ∧ Aside0 (Below w.heap.size w wc))
         case first =>
          have H := HC16.out; clear HC16; replace H := Option.bind_eq_some_iff.mp H; obtain ⟨t108, A240, H⟩ := H; replace H : (if t108 = true then ((scarfjointref07_has.f k1 l1_0 ((rd_T78 l0_1 (rd l1_1 x7_1)).f2)).bind fun t109 => (scarfjointref07_Right.j1 k1 x7_1 (!t109) l0_0 l0_1 l1_0 l1_1)) else (scarfjointref07_Right.j1 k1 x7_1 true l0_0 l0_1 l1_0 l1_1)) = some r := H; have A24 := Aside0.mk A240; clear A240
          by_cases c25 : t108 = true
          ·subst c25
           have H1 : ((scarfjointref07_has.f k1 l1_0 ((rd_T78 l0_1 (rd l1_1 x7_1)).f2)).bind fun t109 => (scarfjointref07_Right.j1 k1 x7_1 (!t109) l0_0 l0_1 l1_0 l1_1)) = some r := by rw [if_pos rfl] at H; exact H
           clear H; have H := H1; clear H1; replace H := Option.bind_eq_some_iff.mp H; obtain ⟨t109, A260, H⟩ := H; replace H : (scarfjointref07_Right.j1 k1 x7_1 (!t109) l0_0 l0_1 l1_0 l1_1) = some r := H; have A26 := Aside0.mk A260; clear A260; have H' := Aside0.mk H; clear H; have hnb27 := NB102_101.out; have hnc27 := NB101_102.out; have hnb28 := NB102_107.out; have hnc28 := NB107_102.out
           have hcz29_0 : w20.cell? ⟨gb102, 0, none⟩ = some (.slice A1_0 l1_0.length c1_0) := (blk_cell BK102.out 0).trans rfl
           have hcz29_1 : w20.cell? ⟨gb102, 1, none⟩ = some (.slice (some ad105) l1_1.length c1_1) := (blk_cell BK102.out 1).trans rfl
           have hfz29_0 := blk_frozen BK102.out 0; have hfz29_1 := blk_frozen BK102.out 1; have hnb30 := NB107_101.out; have hnc30 := NB101_107.out
           have hcz31_0 : w20.cell? ⟨gb107, 0, none⟩ = some (.int .i64 0) := (blk_cell BK107.out 0).trans rfl
           have hcz31_1 : w20.cell? ⟨gb107, 1, none⟩ = some (.int .i64 0) := (blk_cell BK107.out 1).trans rfl
           have hcz31_2 : w20.cell? ⟨gb107, 2, none⟩ = some (.int .i64 0) := (blk_cell BK107.out 2).trans rfl
           have hfz31_0 := blk_frozen BK107.out 0; have hfz31_1 := blk_frozen BK107.out 1; have hfz31_2 := blk_frozen BK107.out 2
           go_wp2_with (first | ((with_reducible refine gate_callee (f := 74) rfl ?_); refine goesL_ (some 47) rfl rfl Try.func74 (by kernel_rfl) rfl #[.slice A1_0 l1_0.length c1_0, .int .i64 ((rd_T78 l0_1 (rd l1_1 x7_1)).f1)] rfl (by (try simp only [List.map_toArray, List.map_cons, List.map_nil]); first | done | rfl | (simp only [List.length_drop, List.length_take]; rfl)) ?_; (with_reducible refine (scarfjointref07_has.calls k1 _ _ l1_0 ((rd_T78 l0_1 (rd l1_1 x7_1)).f1) true _ ?side1 ?side2 A24.out).mono ?_); (case side1 => exact Kd.C_below HR1_0.out (by repeat (first | (with_reducible first | exact HB.out | apply lA_ | apply lN_ | apply lD_ | refine below_set ?_ GE101.out | refine below_set ?_ GE102.out | refine below_set ?_ GE107.out) | exact HB.out))); (case side2 => exact HC1_0.out); rintro e w' ⟨rfl, ⟨nd, rfl⟩⟩; refine ⟨_, rfl, ?_⟩) | (go_at_call 74; (with_reducible refine (scarfjointref07_has.calls k1 _ _ l1_0 ((rd_T78 l0_1 (rd l1_1 x7_1)).f2) t109 _ ?side1 ?side2 A26.out).mono ?_); (case side1 => exact Kd.C_below HR1_0.out (by repeat (first | (with_reducible first | exact HB.out | apply lA_ | apply lN_ | apply lD_ | refine below_set ?_ GE101.out | refine below_set ?_ GE102.out | refine below_set ?_ GE107.out) | exact HB.out))); (case side2 => exact HC1_0.out); rintro e w' ⟨rfl, ⟨nd, rfl⟩⟩))
           go_meet
           case rel => exact ⟨_, (!t109), (by first | rfl | (simp; done) | (simp [*]; done)), H', ⟨by have := HK1.out; first | omega | exact Nat.le_refl _⟩, ⟨by (with_reducible repeat first | refine bN_ ?_ _ | refine bD_ ?_ | refine bA_ ?_ _); refine blk_far ?_ NB101_107.out _; (with_reducible repeat first | refine bN_ ?_ _ | refine bD_ ?_ | refine bA_ ?_ _); refine blk_far ?_ NB101_107.out _; (with_reducible repeat first | refine bN_ ?_ _ | refine bD_ ?_ | refine bA_ ?_ _); refine blk_far ?_ NB101_107.out _; (with_reducible repeat first | refine bN_ ?_ _ | refine bD_ ?_ | refine bA_ ?_ _); exact BK101.out⟩, ⟨by (with_reducible repeat first | refine bN_ ?_ _ | refine bD_ ?_ | refine bA_ ?_ _); refine blk_far ?_ NB102_107.out _; (with_reducible repeat first | refine bN_ ?_ _ | refine bD_ ?_ | refine bA_ ?_ _); refine blk_far ?_ NB102_107.out _; (with_reducible repeat first | refine bN_ ?_ _ | refine bD_ ?_ | refine bA_ ?_ _); refine blk_far ?_ NB102_107.out _; (with_reducible repeat first | refine bN_ ?_ _ | refine bD_ ?_ | refine bA_ ?_ _); exact BK102.out⟩, ⟨by (with_reducible repeat first | refine bN_ ?_ _ | refine bD_ ?_ | refine bA_ ?_ _); refine blk_put (cs := #[.int .i64 ((rd_T78 l0_1 (rd l1_1 x7_1)).f0), .int .i64 ((rd_T78 l0_1 (rd l1_1 x7_1)).f1), .int .i64 0]) ?_ 2 _ rfl; (with_reducible repeat first | refine bN_ ?_ _ | refine bD_ ?_ | refine bA_ ?_ _); refine blk_put (cs := #[.int .i64 ((rd_T78 l0_1 (rd l1_1 x7_1)).f0), .int .i64 0, .int .i64 0]) ?_ 1 _ rfl; (with_reducible repeat first | refine bN_ ?_ _ | refine bD_ ?_ | refine bA_ ?_ _); refine blk_put (cs := #[.int .i64 0, .int .i64 0, .int .i64 0]) ?_ 0 _ rfl; (with_reducible repeat first | refine bN_ ?_ _ | refine bD_ ?_ | refine bA_ ?_ _); exact BK107.out⟩, ⟨by repeat (first | (with_reducible first | exact HB.out | apply lA_ | apply lN_ | apply lD_ | refine below_set ?_ GE101.out | refine below_set ?_ GE102.out | refine below_set ?_ GE107.out) | exact HB.out)⟩⟩
          ·replace c25 := Bool.eq_false_iff.mpr c25
           subst c25
           have H1 : (scarfjointref07_Right.j1 k1 x7_1 true l0_0 l0_1 l1_0 l1_1) = some r := by rw [if_neg (show ¬ (false = true) by decide)] at H; exact H
           clear H; have H := H1; clear H1; have H' := Aside0.mk H; clear H; have hnb32 := NB102_101.out; have hnc32 := NB101_102.out; have hnb33 := NB102_107.out; have hnc33 := NB107_102.out
           have hcz34_0 : w20.cell? ⟨gb102, 0, none⟩ = some (.slice A1_0 l1_0.length c1_0) := (blk_cell BK102.out 0).trans rfl
           have hcz34_1 : w20.cell? ⟨gb102, 1, none⟩ = some (.slice (some ad105) l1_1.length c1_1) := (blk_cell BK102.out 1).trans rfl
           have hfz34_0 := blk_frozen BK102.out 0; have hfz34_1 := blk_frozen BK102.out 1; have hnb35 := NB107_101.out; have hnc35 := NB101_107.out
           have hcz36_0 : w20.cell? ⟨gb107, 0, none⟩ = some (.int .i64 0) := (blk_cell BK107.out 0).trans rfl
           have hcz36_1 : w20.cell? ⟨gb107, 1, none⟩ = some (.int .i64 0) := (blk_cell BK107.out 1).trans rfl
           have hcz36_2 : w20.cell? ⟨gb107, 2, none⟩ = some (.int .i64 0) := (blk_cell BK107.out 2).trans rfl
           have hfz36_0 := blk_frozen BK107.out 0; have hfz36_1 := blk_frozen BK107.out 1; have hfz36_2 := blk_frozen BK107.out 2
           go_wp2_with (first | ((with_reducible refine gate_callee (f := 74) rfl ?_); refine goesL_ (some 47) rfl rfl Try.func74 (by kernel_rfl) rfl #[.slice A1_0 l1_0.length c1_0, .int .i64 ((rd_T78 l0_1 (rd l1_1 x7_1)).f1)] rfl (by (try simp only [List.map_toArray, List.map_cons, List.map_nil]); first | done | rfl | (simp only [List.length_drop, List.length_take]; rfl)) ?_; (with_reducible refine (scarfjointref07_has.calls k1 _ _ l1_0 ((rd_T78 l0_1 (rd l1_1 x7_1)).f1) false _ ?side1 ?side2 A24.out).mono ?_); (case side1 => exact Kd.C_below HR1_0.out (by repeat (first | (with_reducible first | exact HB.out | apply lA_ | apply lN_ | apply lD_ | refine below_set ?_ GE101.out | refine below_set ?_ GE102.out | refine below_set ?_ GE107.out) | exact HB.out))); (case side2 => exact HC1_0.out); rintro e w' ⟨rfl, ⟨nd, rfl⟩⟩; refine ⟨_, rfl, ?_⟩))
           go_meet
           case rel => exact ⟨_, (true), (by first | rfl | (simp; done) | (simp [*]; done)), H', ⟨by have := HK1.out; first | omega | exact Nat.le_refl _⟩, ⟨by (with_reducible repeat first | refine bN_ ?_ _ | refine bD_ ?_ | refine bA_ ?_ _); refine blk_far ?_ NB101_107.out _; (with_reducible repeat first | refine bN_ ?_ _ | refine bD_ ?_ | refine bA_ ?_ _); refine blk_far ?_ NB101_107.out _; (with_reducible repeat first | refine bN_ ?_ _ | refine bD_ ?_ | refine bA_ ?_ _); refine blk_far ?_ NB101_107.out _; (with_reducible repeat first | refine bN_ ?_ _ | refine bD_ ?_ | refine bA_ ?_ _); exact BK101.out⟩, ⟨by (with_reducible repeat first | refine bN_ ?_ _ | refine bD_ ?_ | refine bA_ ?_ _); refine blk_far ?_ NB102_107.out _; (with_reducible repeat first | refine bN_ ?_ _ | refine bD_ ?_ | refine bA_ ?_ _); refine blk_far ?_ NB102_107.out _; (with_reducible repeat first | refine bN_ ?_ _ | refine bD_ ?_ | refine bA_ ?_ _); refine blk_far ?_ NB102_107.out _; (with_reducible repeat first | refine bN_ ?_ _ | refine bD_ ?_ | refine bA_ ?_ _); exact BK102.out⟩, ⟨by (with_reducible repeat first | refine bN_ ?_ _ | refine bD_ ?_ | refine bA_ ?_ _); refine blk_put (cs := #[.int .i64 ((rd_T78 l0_1 (rd l1_1 x7_1)).f0), .int .i64 ((rd_T78 l0_1 (rd l1_1 x7_1)).f1), .int .i64 0]) ?_ 2 _ rfl; (with_reducible repeat first | refine bN_ ?_ _ | refine bD_ ?_ | refine bA_ ?_ _); refine blk_put (cs := #[.int .i64 ((rd_T78 l0_1 (rd l1_1 x7_1)).f0), .int .i64 0, .int .i64 0]) ?_ 1 _ rfl; (with_reducible repeat first | refine bN_ ?_ _ | refine bD_ ?_ | refine bA_ ?_ _); refine blk_put (cs := #[.int .i64 0, .int .i64 0, .int .i64 0]) ?_ 0 _ rfl; (with_reducible repeat first | refine bN_ ?_ _ | refine bD_ ?_ | refine bA_ ?_ _); exact BK107.out⟩, ⟨by repeat (first | (with_reducible first | exact HB.out | apply lA_ | apply lN_ | apply lD_ | refine below_set ?_ GE101.out | refine below_set ?_ GE102.out | refine below_set ?_ GE107.out) | exact HB.out)⟩⟩
         case rest =>
          clear HC16; (try clear c1); (try clear p1); (try clear q1); (try clear hx1); (try clear c2); (try clear p2); (try clear c3); (try clear c4); (try clear c4b0); (try clear c4b1); (try clear c6); (try clear c6b0); (try clear c6b1); (try clear c7); (try clear c9); (try clear c10); (try clear p10); (try clear q10); (try clear hx10); (try clear c12); (try clear c12b0); (try clear c13); (try clear c13b0); (try clear c14); (try clear c14b0); (try clear c15); (try clear c15b0); (try clear c17); (try clear c25); (try clear c27); (try clear c28); (try clear c30); (try clear c32); (try clear c33); (try clear c35); (try clear hcz10_0); (try clear hcz10_1); (try clear hcz11_0); (try clear hcz11_1); (try clear hcz18_0); (try clear hcz18_1); (try clear hcz29_0); (try clear hcz29_1); (try clear hcz31_0); (try clear hcz31_1); (try clear hcz31_2); (try clear hcz34_0); (try clear hcz34_1); (try clear hcz36_0); (try clear hcz36_1); (try clear hcz36_2); (try clear hfz10_0); (try clear hfz10_1); (try clear hfz11_0); (try clear hfz11_1); (try clear hfz18_0); (try clear hfz18_1); (try clear hfz29_0); (try clear hfz29_1); (try clear hfz31_0); (try clear hfz31_1); (try clear hfz31_2); (try clear hfz34_0); (try clear hfz34_1); (try clear hfz36_0); (try clear hfz36_1); (try clear hfz36_2); (try clear hx105_0); (try clear hx106_0); (try clear hx106_1); (try clear hx106_2); (try clear p105); (try clear p106); (try clear p2); (try clear q105); (try clear q106); obtain ⟨kq, x56_15, rfl, HA, HJ15, BK101, BK102, BK107, HB⟩ := hcut
          cases kq with
          | zero => exact absurd HA.out (by simp [scarfjointref07_Right.j1])
          | succ kj15 =>
           have H := HA.out; clear HA; simp only [scarfjointref07_Right.j1] at H
           by_cases c37 : x56_15 = true
           ·subst c37
            have H1 : (some 14) = some r := by rw [if_pos rfl] at H; exact H
            clear H; have H := H1; clear H1; obtain rfl := Option.some.inj H
            go_wp2
            go_ret
            exact ⟨by first | rfl | (simp [errW_none, errW_some] <;> rfl) | (simp [*, errW_none, errW_some] <;> rfl), by repeat (first | (with_reducible first | exact HB.out | apply lA_ | apply lN_ | apply lD_ | refine below_set ?_ GE101.out | refine below_set ?_ GE102.out | refine below_set ?_ GE107.out) | exact HB.out)⟩
           ·replace c37 := Bool.eq_false_iff.mpr c37
            subst c37
            have H1 : (scarfjointref07_Right.l0 kj15 (wrap64 (x7_1 + 1)) l0_0 l0_1 l1_0 l1_1) = some r := by rw [if_neg (show ¬ (false = true) by decide)] at H; exact H
            clear H; have H := H1; clear H1; have H' := Aside0.mk H; clear H
            go_wp2
            go_roundg kj15
            case measure => have := HK1.out; have := HJ15.out; omega
            case rel => exact ⟨(wrap64 (x7_1 + 1)), (by first | rfl | (simp; done) | (simp [*]; done)), H', ⟨by have := HK1.out; have := HJ15.out; omega⟩, ⟨by (with_reducible repeat first | refine bN_ ?_ _ | refine bD_ ?_ | refine bA_ ?_ _); exact BK101.out⟩, ⟨by (with_reducible repeat first | refine bN_ ?_ _ | refine bD_ ?_ | refine bA_ ?_ _); exact BK102.out⟩, ⟨by repeat (first | (with_reducible first | exact HB.out | apply lA_ | apply lN_ | apply lD_ | refine below_set ?_ GE101.out | refine below_set ?_ GE102.out | refine below_set ?_ GE107.out) | exact HB.out)⟩⟩
        ·rw [if_neg c15] at H
         exact absurd H (by simp)
       ·rw [if_neg c14] at H
        exact absurd H (by simp)
      ·rw [if_neg c13] at H
       exact absurd H (by simp)
     ·rw [if_neg c12] at H
      have c12b0 : decide (x7_1 < (l1_1.length : Int)) = false := decide_eq_false c12; clear c12; obtain rfl := Option.some.inj H; have hnb38 := NB102_101.out; have hnc38 := NB101_102.out
      have hcz39_0 : wr.cell? ⟨gb102, 0, none⟩ = some (.slice A1_0 l1_0.length c1_0) := (blk_cell BK102.out 0).trans rfl
      have hcz39_1 : wr.cell? ⟨gb102, 1, none⟩ = some (.slice A1_1 l1_1.length c1_1) := (blk_cell BK102.out 1).trans rfl
      have hfz39_0 := blk_frozen BK102.out 0; have hfz39_1 := blk_frozen BK102.out 1
      go_wp2
      go_ret
      exact ⟨by first | rfl | (simp [errW_none, errW_some] <;> rfl) | (simp [*, errW_none, errW_some] <;> rfl), by repeat (first | (with_reducible first | exact HB.out | apply lA_ | apply lN_ | apply lD_ | refine below_set ?_ GE101.out | refine below_set ?_ GE102.out) | exact HB.out)⟩
  ·rw [if_neg c6] at H
   have c6b0 : (t104 == 0) = false := beq_eq_false_iff_ne.mpr c6; have c6b1 : (t104 != 0) = true := bne_iff_ne.mpr c6; obtain rfl := Option.some.inj H
   go_enter Try.func70, Try.ntmps70
   go_wp2_with (first | ((with_reducible refine gate_dst (N := 2) rfl ?_); refine box_event ?hg (N := 2) ?hd (cs := #[.slice A0_0 l0_0.length c0_0, .slice A0_1 l0_1.length c0_1]) (t := 25) ?hr ?_; (case hd => rfl); (case hg => rfl); (case hr => first | (go_simp; done) | (go_simp; rfl)); intro gb101 hg w40 hbox hb; have n0_ := Aside0.mk (below_step (by repeat (first | (with_reducible first | exact HB.out | apply lA_ | apply lN_ | apply lD_) | exact HB.out)) hb); have n1_ := Aside0.mk (hbox); have n2_ := Aside0.mk ((by rw [hg]; exact (below_size (by repeat (first | (with_reducible first | exact HB.out | apply lA_ | apply lN_ | apply lD_) | exact HB.out))) : w.heap.size ≤ gb101)); have n3_ := Aside0.mk ((by rw [hg]; exact (below_size (by repeat (first | (with_reducible first | exact HB.out | apply lA_ | apply lN_ | apply lD_) | exact HB.out))) : w.heap.size ≤ gb101)); clear HB; have HB := n0_; have BK101 := n1_; have GW101 := n2_; have GE101 := n3_; clear n0_ n1_ n2_ n3_; clear hb hbox hg) | ((with_reducible refine gate_dst (N := 3) rfl ?_); refine box_event ?hg (N := 3) ?hd (cs := #[.slice A1_0 l1_0.length c1_0, .slice A1_1 l1_1.length c1_1]) (t := 27) ?hr ?_; (case hd => rfl); (case hg => rfl); (case hr => first | (go_simp; done) | (go_simp; rfl)); intro gb102 hg w41 hbox hb; have n0_ := Aside0.mk (blk_below (g := gb101) (o := .cells #[.slice A0_0 l0_0.length c0_0, .slice A0_1 l0_1.length c0_1] 25 (0, 0)) (by (with_reducible repeat first | refine bN_ ?_ _ | refine bD_ ?_ | refine bA_ ?_ _); exact BK101.out) hb); have n1_ := Aside0.mk (below_step (by repeat (first | (with_reducible first | exact HB.out | apply lA_ | apply lN_ | apply lD_ | refine below_set ?_ GE101.out) | exact HB.out)) hb); have n2_ := Aside0.mk (hbox); have n3_ := Aside0.mk ((by rw [hg]; exact (below_size (by repeat (first | (with_reducible first | exact HB.out | apply lA_ | apply lN_ | apply lD_ | refine below_set ?_ GE101.out) | exact HB.out))) : w.heap.size ≤ gb102)); have n4_ := Aside0.mk ((by rw [hg]; exact (below_size (by repeat (first | (with_reducible first | exact HB.out | apply lA_ | apply lN_ | apply lD_ | refine below_set ?_ GE101.out) | exact HB.out))) : w.heap.size ≤ gb102)); have n5_ := Aside0.mk ((by rw [hg]; exact Nat.ne_of_lt (blk_lt (g := gb101) (o := .cells #[.slice A0_0 l0_0.length c0_0, .slice A0_1 l0_1.length c0_1] 25 (0, 0)) (by (with_reducible repeat first | refine bN_ ?_ _ | refine bD_ ?_ | refine bA_ ?_ _); exact BK101.out)) : gb101 ≠ gb102)); have n6_ := Aside0.mk ((by rw [hg]; exact Nat.ne_of_gt (blk_lt (g := gb101) (o := .cells #[.slice A0_0 l0_0.length c0_0, .slice A0_1 l0_1.length c0_1] 25 (0, 0)) (by (with_reducible repeat first | refine bN_ ?_ _ | refine bD_ ?_ | refine bA_ ?_ _); exact BK101.out)) : gb102 ≠ gb101)); clear BK101; clear HB; have BK101 := n0_; have HB := n1_; have BK102 := n2_; have GW102 := n3_; have GE102 := n4_; have NB101_102 := n5_; have NB102_101 := n6_; clear n0_ n1_ n2_ n3_ n4_ n5_ n6_; clear hb hbox hg; have hnb42 := NB102_101.out; have hnc42 := NB101_102.out; have hcz43_0 : w41.cell? ⟨gb102, 0, none⟩ = some (.slice A1_0 l1_0.length c1_0) := (blk_cell BK102.out 0).trans rfl; have hcz43_1 : w41.cell? ⟨gb102, 1, none⟩ = some (.slice A1_1 l1_1.length c1_1) := (blk_cell BK102.out 1).trans rfl; have hfz43_0 := blk_frozen BK102.out 0; have hfz43_1 := blk_frozen BK102.out 1; have hcz44_0 : w41.cell? ⟨gb101, 0, none⟩ = some (.slice A0_0 l0_0.length c0_0) := (blk_cell BK101.out 0).trans rfl; have hcz44_1 : w41.cell? ⟨gb101, 1, none⟩ = some (.slice A0_1 l0_1.length c0_1) := (blk_cell BK101.out 1).trans rfl; have hfz44_0 := blk_frozen BK101.out 0; have hfz44_1 := blk_frozen BK101.out 1) | ((with_reducible refine gate_callee (f := 103) rfl ?_); refine goesL_ (some 14) rfl rfl Try.func103 (by kernel_rfl) rfl #[.slice A1_0 l1_0.length c1_0, .int .i64 (l0_0.length : Int)] rfl (by (try simp only [List.map_toArray, List.map_cons, List.map_nil]); first | done | rfl | (simp only [List.length_drop, List.length_take]; rfl)) ?_; (with_reducible refine (scarfjointref07_ascending.calls k _ _ l1_0 (l0_0.length : Int) t103 _ ?side1 ?side2 A3.out).mono ?_); (case side1 => repeat (first | exact (Kd.C_below HR1_0.out HB.out) | (with_reducible refine Kd.C_alloc ?_ _) | (with_reducible refine Kd.C_drewN ?_ _) | (with_reducible refine Kd.C_drew ?_))); (case side2 => exact HC1_0.out); rintro e w' ⟨rfl, ⟨nd, rfl⟩⟩; refine ⟨_, rfl, ?_⟩) | ((with_reducible refine gate_callee (f := 103) rfl ?_); refine goesL_ (some 23) rfl rfl Try.func103 (by kernel_rfl) rfl #[.slice A1_1 l1_1.length c1_1, .int .i64 (l0_1.length : Int)] rfl (by (try simp only [List.map_toArray, List.map_cons, List.map_nil]); first | done | rfl | (simp only [List.length_drop, List.length_take]; rfl)) ?_; (with_reducible refine (scarfjointref07_ascending.calls k _ _ l1_1 (l0_1.length : Int) t104 _ ?side1 ?side2 A5.out).mono ?_); (case side1 => repeat (first | exact (Kd.C_below HR1_1.out (by repeat (first | (with_reducible first | exact HB.out | apply lA_ | apply lN_ | apply lD_ | refine below_set ?_ GE101.out | refine below_set ?_ GE102.out) | exact HB.out))) | (with_reducible refine Kd.C_alloc ?_ _) | (with_reducible refine Kd.C_drewN ?_ _) | (with_reducible refine Kd.C_drew ?_))); (case side2 => exact HC1_1.out); rintro e w' ⟨rfl, ⟨nd, rfl⟩⟩; refine ⟨_, rfl, ?_⟩))
   go_ret
   exact ⟨by first | rfl | (simp [errW_none, errW_some] <;> rfl) | (simp [*, errW_none, errW_some] <;> rfl), by repeat (first | (with_reducible first | exact HB.out | apply lA_ | apply lN_ | apply lD_ | refine below_set ?_ GE101.out | refine below_set ?_ GE102.out) | exact HB.out)⟩
 ·rw [if_neg c4] at H
  have c4b0 : (t103 == 0) = false := beq_eq_false_iff_ne.mpr c4; have c4b1 : (t103 != 0) = true := bne_iff_ne.mpr c4; obtain rfl := Option.some.inj H
  go_enter Try.func70, Try.ntmps70
  go_wp2_with (first | ((with_reducible refine gate_dst (N := 2) rfl ?_); refine box_event ?hg (N := 2) ?hd (cs := #[.slice A0_0 l0_0.length c0_0, .slice A0_1 l0_1.length c0_1]) (t := 25) ?hr ?_; (case hd => rfl); (case hg => rfl); (case hr => first | (go_simp; done) | (go_simp; rfl)); intro gb101 hg w45 hbox hb; have n0_ := Aside0.mk (below_step (by repeat (first | (with_reducible first | exact HB.out | apply lA_ | apply lN_ | apply lD_) | exact HB.out)) hb); have n1_ := Aside0.mk (hbox); have n2_ := Aside0.mk ((by rw [hg]; exact (below_size (by repeat (first | (with_reducible first | exact HB.out | apply lA_ | apply lN_ | apply lD_) | exact HB.out))) : w.heap.size ≤ gb101)); have n3_ := Aside0.mk ((by rw [hg]; exact (below_size (by repeat (first | (with_reducible first | exact HB.out | apply lA_ | apply lN_ | apply lD_) | exact HB.out))) : w.heap.size ≤ gb101)); clear HB; have HB := n0_; have BK101 := n1_; have GW101 := n2_; have GE101 := n3_; clear n0_ n1_ n2_ n3_; clear hb hbox hg) | ((with_reducible refine gate_dst (N := 3) rfl ?_); refine box_event ?hg (N := 3) ?hd (cs := #[.slice A1_0 l1_0.length c1_0, .slice A1_1 l1_1.length c1_1]) (t := 27) ?hr ?_; (case hd => rfl); (case hg => rfl); (case hr => first | (go_simp; done) | (go_simp; rfl)); intro gb102 hg w46 hbox hb; have n0_ := Aside0.mk (blk_below (g := gb101) (o := .cells #[.slice A0_0 l0_0.length c0_0, .slice A0_1 l0_1.length c0_1] 25 (0, 0)) (by (with_reducible repeat first | refine bN_ ?_ _ | refine bD_ ?_ | refine bA_ ?_ _); exact BK101.out) hb); have n1_ := Aside0.mk (below_step (by repeat (first | (with_reducible first | exact HB.out | apply lA_ | apply lN_ | apply lD_ | refine below_set ?_ GE101.out) | exact HB.out)) hb); have n2_ := Aside0.mk (hbox); have n3_ := Aside0.mk ((by rw [hg]; exact (below_size (by repeat (first | (with_reducible first | exact HB.out | apply lA_ | apply lN_ | apply lD_ | refine below_set ?_ GE101.out) | exact HB.out))) : w.heap.size ≤ gb102)); have n4_ := Aside0.mk ((by rw [hg]; exact (below_size (by repeat (first | (with_reducible first | exact HB.out | apply lA_ | apply lN_ | apply lD_ | refine below_set ?_ GE101.out) | exact HB.out))) : w.heap.size ≤ gb102)); have n5_ := Aside0.mk ((by rw [hg]; exact Nat.ne_of_lt (blk_lt (g := gb101) (o := .cells #[.slice A0_0 l0_0.length c0_0, .slice A0_1 l0_1.length c0_1] 25 (0, 0)) (by (with_reducible repeat first | refine bN_ ?_ _ | refine bD_ ?_ | refine bA_ ?_ _); exact BK101.out)) : gb101 ≠ gb102)); have n6_ := Aside0.mk ((by rw [hg]; exact Nat.ne_of_gt (blk_lt (g := gb101) (o := .cells #[.slice A0_0 l0_0.length c0_0, .slice A0_1 l0_1.length c0_1] 25 (0, 0)) (by (with_reducible repeat first | refine bN_ ?_ _ | refine bD_ ?_ | refine bA_ ?_ _); exact BK101.out)) : gb102 ≠ gb101)); clear BK101; clear HB; have BK101 := n0_; have HB := n1_; have BK102 := n2_; have GW102 := n3_; have GE102 := n4_; have NB101_102 := n5_; have NB102_101 := n6_; clear n0_ n1_ n2_ n3_ n4_ n5_ n6_; clear hb hbox hg; have hnb47 := NB102_101.out; have hnc47 := NB101_102.out; have hcz48_0 : w46.cell? ⟨gb102, 0, none⟩ = some (.slice A1_0 l1_0.length c1_0) := (blk_cell BK102.out 0).trans rfl; have hcz48_1 : w46.cell? ⟨gb102, 1, none⟩ = some (.slice A1_1 l1_1.length c1_1) := (blk_cell BK102.out 1).trans rfl; have hfz48_0 := blk_frozen BK102.out 0; have hfz48_1 := blk_frozen BK102.out 1; have hcz49_0 : w46.cell? ⟨gb101, 0, none⟩ = some (.slice A0_0 l0_0.length c0_0) := (blk_cell BK101.out 0).trans rfl; have hcz49_1 : w46.cell? ⟨gb101, 1, none⟩ = some (.slice A0_1 l0_1.length c0_1) := (blk_cell BK101.out 1).trans rfl; have hfz49_0 := blk_frozen BK101.out 0; have hfz49_1 := blk_frozen BK101.out 1) | ((with_reducible refine gate_callee (f := 103) rfl ?_); refine goesL_ (some 14) rfl rfl Try.func103 (by kernel_rfl) rfl #[.slice A1_0 l1_0.length c1_0, .int .i64 (l0_0.length : Int)] rfl (by (try simp only [List.map_toArray, List.map_cons, List.map_nil]); first | done | rfl | (simp only [List.length_drop, List.length_take]; rfl)) ?_; (with_reducible refine (scarfjointref07_ascending.calls k _ _ l1_0 (l0_0.length : Int) t103 _ ?side1 ?side2 A3.out).mono ?_); (case side1 => repeat (first | exact (Kd.C_below HR1_0.out HB.out) | (with_reducible refine Kd.C_alloc ?_ _) | (with_reducible refine Kd.C_drewN ?_ _) | (with_reducible refine Kd.C_drew ?_))); (case side2 => exact HC1_0.out); rintro e w' ⟨rfl, ⟨nd, rfl⟩⟩; refine ⟨_, rfl, ?_⟩))
  go_ret
  exact ⟨by first | rfl | (simp [errW_none, errW_some] <;> rfl) | (simp [*, errW_none, errW_some] <;> rfl), by repeat (first | (with_reducible first | exact HB.out | apply lA_ | apply lN_ | apply lD_ | refine below_set ?_ GE101.out | refine below_set ?_ GE102.out) | exact HB.out)⟩
end Go.Proofs.Ytonipihlpbaknaa.Print
namespace Go.Proofs.Ytonipihlpbaknaa.Print
set_option linter.unusedVariables false
set_option linter.unusedSimpArgs false
open Go.RowKit Go.Proofs.YtonipihlpbaknaaW.PrintWords Go.Proofs.YtonipihlpbaknaaW.PrintLast Go.Proofs.YtonipihlpbaknaaW.PrintMore
theorem asc_l (l : List Int) (n : Int) (hl : l.length < 4611686018427387904) : ∀ (d k i : Nat), i + d = l.length → 3 * d < k → scarfjointref07_ascending.l0 k l n i = some (listE n (aheadO l i) (l.drop i)) := by
  intro d
  induction d with
  | zero =>
    intro k i hi hk
    obtain ⟨k, rfl⟩ : ∃ m, k = m + 1 := ⟨k - 1, by omega⟩
    rw [scarfjointref07_ascending.l0, if_neg (by omega), List.drop_of_length_le (by omega)]
    cases aheadO l i <;> rfl
  | succ d ih =>
    intro k i hi hk
    obtain ⟨k, rfl⟩ : ∃ m, k = m + 1 + 1 + 1 := ⟨k - 3, by omega⟩
    have hlt : i < l.length := by omega
    have ih' := ih k (i + 1) (by omega) (by omega); rw [show aheadO l (i + 1) = some l[i] by simp [aheadO, hlt]] at ih'; rw [scarfjointref07_ascending.l0, if_pos (by omega), if_pos (by omega), rd_get l i hlt, List.drop_eq_getElem_cons hlt]; generalize hx : l[i] = x at ih'; generalize l.drop (i + 1) = t at ih'
    by_cases hb : x < 0 ∨ n ≤ x
    · have e : ∀ o, listE n o (x :: t) = 6 := by intro o; cases o <;> simp [listE, hb]
      rw [e]
      by_cases h0 : x < 0
      · rw [if_pos h0, scarfjointref07_ascending.j1, if_pos rfl]
      · rw [if_neg h0, scarfjointref07_ascending.j1, if_pos (by simp; omega)]
    · rw [if_neg (by omega), scarfjointref07_ascending.j1, if_neg (by simp; omega)]
      cases i with
      | zero =>
        rw [if_neg (by simp), scarfjointref07_ascending.j2, if_neg (by simp), succ_ok 0 (by omega), ih']
        simp [aheadO, listE, hb]
      | succ i =>
        rw [if_pos (by omega), if_pos (by omega), if_pos (by omega), pred_ok i (by omega), if_pos (by omega), if_pos (by omega), rd_get l (i + 1) hlt, rd_get l i (by omega), hx, scarfjointref07_ascending.j2]; rw [show aheadO l (i + 1) = some l[i] by simp [aheadO, show i < l.length by omega]]
        by_cases h2 : x ≤ l[i]
        · rw [if_pos (by simpa using h2)]
          simp [listE, hb, h2]
        · rw [if_neg (by simpa using h2), succ_ok (i + 1) (by omega), ih']
          simp [listE, hb, h2]
theorem asc_ok (l : List Int) (n : Int) (hl : l.length < 4611686018427387904) (k : Nat) (hk : 3 * l.length < k) : scarfjointref07_ascending.f k l n = some (listE n none l) := by
  have := asc_l l n hl l.length k 0 (by omega) hk
  simpa [scarfjointref07_ascending.f, aheadO] using this
theorem right_l (l0 : List Int) (l1 : List S78) (ns es : List Int) (hnl : ns.length < 4611686018427387904) (he : es.length < 4611686018427387904) (hr : ∀ x ∈ es, 0 ≤ x ∧ x < l1.length) : ∀ (d k i : Nat), i + d = es.length → 2 * d + ns.length + 1 < k →
    scarfjointref07_Right.l0 k i l0 l1 ns es = some (if (es.drop i).all (endsIn l1 ns) then 0 else 14) := by
  intro d
  induction d with
  | zero =>
    intro k i hi hk
    obtain ⟨k, rfl⟩ : ∃ m, k = m + 1 := ⟨k - 1, by omega⟩
    rw [scarfjointref07_Right.l0, if_neg (by omega), List.drop_of_length_le (by omega)]
    rfl
  | succ d ih =>
    intro k i hi hk
    obtain ⟨k, rfl⟩ : ∃ m, k = m + 1 + 1 := ⟨k - 2, by omega⟩
    have hlt : i < es.length := by omega
    have h1 := hr _ (List.getElem_mem hlt); rw [scarfjointref07_Right.l0, if_pos (by omega), if_pos (by omega), rd_get es i hlt, if_pos h1.1, if_pos h1.2, rhas_ok ns _ (k + 1) (by omega) (by omega), Option.bind_some, rhas_ok ns _ (k + 1) (by omega) (by omega), List.drop_eq_getElem_cons hlt, List.all_cons]
    by_cases h2 : (rd_T78 l1 es[i]).f1 ∈ ns
    · rw [if_pos (by simpa using h2), Option.bind_some, scarfjointref07_Right.j1]
      by_cases h3 : (rd_T78 l1 es[i]).f2 ∈ ns
      · rw [if_neg (by simp [h3]), succ_ok i (by omega), ih k (i + 1) (by omega) (by omega)]
        simp [endsIn, h2, h3]
      · rw [if_pos (by simp [h3])]
        simp [endsIn, h2, h3]
    · rw [if_neg (by simpa using h2), scarfjointref07_Right.j1, if_pos rfl]
      simp [endsIn, h2]
theorem rright_ok (l0 : List Int) (l1 : List S78) (ns es : List Int) (hn : ns.length < 4611686018427387904) (he : es.length < 4611686018427387904) (k : Nat) (hk : 3 * ns.length + 3 * es.length + 1 < k) : scarfjointref07_Right.f k l0 l1 ns es = some (partE l0 l1 ns es) := by
  unfold scarfjointref07_Right.f partE; rw [asc_ok ns _ hn k (by omega), Option.bind_some]
  by_cases e1 : listE l0.length none ns = 0
  · rw [if_pos e1, if_pos e1, asc_ok es _ he k (by omega), Option.bind_some]
    by_cases e2 : listE l1.length none es = 0
    · rw [if_pos e2, if_pos e2]
      have := right_l l0 l1 ns es hn he (listE_none e2).1 es.length k 0 (by omega) (by omega)
      simpa using this
    · rw [if_neg e2, if_neg e2]
  · rw [if_neg e1, if_neg e1]
end Go.Proofs.Ytonipihlpbaknaa.Print
namespace Go.Proofs.Ytonipihlpbaknaa.Print
open Go.RowKit Go.Proofs.YtonipihlpbaknaaW.PrintWords Go.Proofs.YtonipihlpbaknaaW.PrintLast Go.Proofs.YtonipihlpbaknaaW.PrintMore
attribute [local go_sem] max2_int min2_int max_two min_two max_three min_three max_four min_four   -- for this text's walks alone
set_option linter.unusedVariables false
set_option linter.unusedSimpArgs false
def cmp_Compare_int.f (a0 : Int) (a1 : Int) : Option (Int) := (cmp_isNaN_int.f a0).bind fun t101 => ((cmp_isNaN_int.f a1).bind fun t102 => (if t101 = true then (if t102 = true then (some 0) else (some (-1))) else (if t102 = true then (some 1) else (if a0 < a1 then (some (-1)) else (if a0 > a1 then (some 1) else (some 0))))))
set_option maxHeartbeats 8000000 in
set_option maxRecDepth 100000 in
theorem cmp_Compare_int.calls (a0 : Int) (a1 : Int) (r : Int) (w : World) (h : cmp_Compare_int.f a0 a1 = some r) :
  Calls Try.prog 100 #[.int .i64 a0, .int .i64 a1] w fun e w' => e = .returned (.int .i64 r) ∧ Drawn0 w w' := by
 have H : ((cmp_isNaN_int.f a0).bind fun t101 => ((cmp_isNaN_int.f a1).bind fun t102 => (if t101 = true then (if t102 = true then (some 0) else (some (-1))) else (if t102 = true then (some 1) else (if a0 < a1 then (some (-1)) else (if a0 > a1 then (some 1) else (some 0))))))) = some r := h; clear h; replace H := Option.bind_eq_some_iff.mp H; obtain ⟨t101, A30, H⟩ := H; replace H : ((cmp_isNaN_int.f a1).bind fun t102 => (if t101 = true then (if t102 = true then (some 0) else (some (-1))) else (if t102 = true then (some 1) else (if a0 < a1 then (some (-1)) else (if a0 > a1 then (some 1) else (some 0)))))) = some r := H; have A3 := Aside0.mk A30; clear A30; replace H := Option.bind_eq_some_iff.mp H; obtain ⟨t102, A40, H⟩ := H; replace H : (if t101 = true then (if t102 = true then (some 0) else (some (-1))) else (if t102 = true then (some 1) else (if a0 < a1 then (some (-1)) else (if a0 > a1 then (some 1) else (some 0))))) = some r := H; have A4 := Aside0.mk A40; clear A40
 by_cases c5 : t101 = true
 ·subst c5
  have H1 : (if t102 = true then (some 0) else (some (-1))) = some r := by rw [if_pos rfl] at H; exact H
  clear H; have H := H1; clear H1
  by_cases c6 : t102 = true
  ·subst c6
   have H1 : (some 0) = some r := by rw [if_pos rfl] at H; exact H
   clear H; have H := H1; clear H1; obtain rfl := Option.some.inj H
   go_enter Try.func100, Try.ntmps100
   go_wp2_with (first | ((with_reducible refine gate_callee (f := 112) rfl ?_); refine goesL_ (some 8) rfl rfl Try.func112 (by kernel_rfl) rfl #[.int .i64 a0] rfl (by (try simp only [List.map_toArray, List.map_cons, List.map_nil]); first | done | rfl | (simp only [List.length_drop, List.length_take]; rfl)) ?_; (with_reducible refine (cmp_isNaN_int.calls a0 true _ A3.out).mono ?_); rintro e w' ⟨rfl, ⟨nd, rfl⟩⟩; refine ⟨_, rfl, ?_⟩) | ((with_reducible refine gate_callee (f := 112) rfl ?_); refine goesL_ (some 10) rfl rfl Try.func112 (by kernel_rfl) rfl #[.int .i64 a1] rfl (by (try simp only [List.map_toArray, List.map_cons, List.map_nil]); first | done | rfl | (simp only [List.length_drop, List.length_take]; rfl)) ?_; (with_reducible refine (cmp_isNaN_int.calls a1 true _ A4.out).mono ?_); rintro e w' ⟨rfl, ⟨nd, rfl⟩⟩; refine ⟨_, rfl, ?_⟩))
   go_ret
   exact ⟨by first | rfl | (simp; done) | (simp [*]; done), by repeat (first | exact Drawn0.refl _ | apply Drawn0.step)⟩
  ·replace c6 := Bool.eq_false_iff.mpr c6
   subst c6
   have H1 : (some (-1)) = some r := by rw [if_neg (show ¬ (false = true) by decide)] at H; exact H
   clear H; have H := H1; clear H1; obtain rfl := Option.some.inj H
   go_enter Try.func100, Try.ntmps100
   go_wp2_with (first | ((with_reducible refine gate_callee (f := 112) rfl ?_); refine goesL_ (some 8) rfl rfl Try.func112 (by kernel_rfl) rfl #[.int .i64 a0] rfl (by (try simp only [List.map_toArray, List.map_cons, List.map_nil]); first | done | rfl | (simp only [List.length_drop, List.length_take]; rfl)) ?_; (with_reducible refine (cmp_isNaN_int.calls a0 true _ A3.out).mono ?_); rintro e w' ⟨rfl, ⟨nd, rfl⟩⟩; refine ⟨_, rfl, ?_⟩) | ((with_reducible refine gate_callee (f := 112) rfl ?_); refine goesL_ (some 10) rfl rfl Try.func112 (by kernel_rfl) rfl #[.int .i64 a1] rfl (by (try simp only [List.map_toArray, List.map_cons, List.map_nil]); first | done | rfl | (simp only [List.length_drop, List.length_take]; rfl)) ?_; (with_reducible refine (cmp_isNaN_int.calls a1 false _ A4.out).mono ?_); rintro e w' ⟨rfl, ⟨nd, rfl⟩⟩; refine ⟨_, rfl, ?_⟩))
   go_ret
   exact ⟨by first | rfl | (simp; done) | (simp [*]; done), by repeat (first | exact Drawn0.refl _ | apply Drawn0.step)⟩
 ·replace c5 := Bool.eq_false_iff.mpr c5
  subst c5
  have H1 : (if t102 = true then (some 1) else (if a0 < a1 then (some (-1)) else (if a0 > a1 then (some 1) else (some 0)))) = some r := by rw [if_neg (show ¬ (false = true) by decide)] at H; exact H
  clear H; have H := H1; clear H1
  by_cases c7 : t102 = true
  ·subst c7
   have H1 : (some 1) = some r := by rw [if_pos rfl] at H; exact H
   clear H; have H := H1; clear H1; obtain rfl := Option.some.inj H
   go_enter Try.func100, Try.ntmps100
   go_wp2_with (first | ((with_reducible refine gate_callee (f := 112) rfl ?_); refine goesL_ (some 8) rfl rfl Try.func112 (by kernel_rfl) rfl #[.int .i64 a0] rfl (by (try simp only [List.map_toArray, List.map_cons, List.map_nil]); first | done | rfl | (simp only [List.length_drop, List.length_take]; rfl)) ?_; (with_reducible refine (cmp_isNaN_int.calls a0 false _ A3.out).mono ?_); rintro e w' ⟨rfl, ⟨nd, rfl⟩⟩; refine ⟨_, rfl, ?_⟩) | ((with_reducible refine gate_callee (f := 112) rfl ?_); refine goesL_ (some 10) rfl rfl Try.func112 (by kernel_rfl) rfl #[.int .i64 a1] rfl (by (try simp only [List.map_toArray, List.map_cons, List.map_nil]); first | done | rfl | (simp only [List.length_drop, List.length_take]; rfl)) ?_; (with_reducible refine (cmp_isNaN_int.calls a1 true _ A4.out).mono ?_); rintro e w' ⟨rfl, ⟨nd, rfl⟩⟩; refine ⟨_, rfl, ?_⟩))
   go_ret
   exact ⟨by first | rfl | (simp; done) | (simp [*]; done), by repeat (first | exact Drawn0.refl _ | apply Drawn0.step)⟩
  ·replace c7 := Bool.eq_false_iff.mpr c7
   subst c7
   have H1 : (if a0 < a1 then (some (-1)) else (if a0 > a1 then (some 1) else (some 0))) = some r := by rw [if_neg (show ¬ (false = true) by decide)] at H; exact H
   clear H; have H := H1; clear H1
   by_cases c8 : a0 < a1
   ·rw [if_pos c8] at H
    have c8b0 : decide (a0 < a1) = true := decide_eq_true c8; clear c8; obtain rfl := Option.some.inj H
    go_enter Try.func100, Try.ntmps100
    go_wp2_with (first | ((with_reducible refine gate_callee (f := 112) rfl ?_); refine goesL_ (some 8) rfl rfl Try.func112 (by kernel_rfl) rfl #[.int .i64 a0] rfl (by (try simp only [List.map_toArray, List.map_cons, List.map_nil]); first | done | rfl | (simp only [List.length_drop, List.length_take]; rfl)) ?_; (with_reducible refine (cmp_isNaN_int.calls a0 false _ A3.out).mono ?_); rintro e w' ⟨rfl, ⟨nd, rfl⟩⟩; refine ⟨_, rfl, ?_⟩) | ((with_reducible refine gate_callee (f := 112) rfl ?_); refine goesL_ (some 10) rfl rfl Try.func112 (by kernel_rfl) rfl #[.int .i64 a1] rfl (by (try simp only [List.map_toArray, List.map_cons, List.map_nil]); first | done | rfl | (simp only [List.length_drop, List.length_take]; rfl)) ?_; (with_reducible refine (cmp_isNaN_int.calls a1 false _ A4.out).mono ?_); rintro e w' ⟨rfl, ⟨nd, rfl⟩⟩; refine ⟨_, rfl, ?_⟩))
    go_ret
    exact ⟨by first | rfl | (simp; done) | (simp [*]; done), by repeat (first | exact Drawn0.refl _ | apply Drawn0.step)⟩
   ·rw [if_neg c8] at H
    have c8b0 : decide (a0 < a1) = false := decide_eq_false c8; clear c8
    by_cases c9 : a0 > a1
    ·rw [if_pos c9] at H
     have c9b0 : decide (a1 < a0) = true := decide_eq_true c9; clear c9; obtain rfl := Option.some.inj H
     go_enter Try.func100, Try.ntmps100
     go_wp2_with (first | ((with_reducible refine gate_callee (f := 112) rfl ?_); refine goesL_ (some 8) rfl rfl Try.func112 (by kernel_rfl) rfl #[.int .i64 a0] rfl (by (try simp only [List.map_toArray, List.map_cons, List.map_nil]); first | done | rfl | (simp only [List.length_drop, List.length_take]; rfl)) ?_; (with_reducible refine (cmp_isNaN_int.calls a0 false _ A3.out).mono ?_); rintro e w' ⟨rfl, ⟨nd, rfl⟩⟩; refine ⟨_, rfl, ?_⟩) | ((with_reducible refine gate_callee (f := 112) rfl ?_); refine goesL_ (some 10) rfl rfl Try.func112 (by kernel_rfl) rfl #[.int .i64 a1] rfl (by (try simp only [List.map_toArray, List.map_cons, List.map_nil]); first | done | rfl | (simp only [List.length_drop, List.length_take]; rfl)) ?_; (with_reducible refine (cmp_isNaN_int.calls a1 false _ A4.out).mono ?_); rintro e w' ⟨rfl, ⟨nd, rfl⟩⟩; refine ⟨_, rfl, ?_⟩))
     go_ret
     exact ⟨by first | rfl | (simp; done) | (simp [*]; done), by repeat (first | exact Drawn0.refl _ | apply Drawn0.step)⟩
    ·rw [if_neg c9] at H
     have c9b0 : decide (a1 < a0) = false := decide_eq_false c9; clear c9; obtain rfl := Option.some.inj H
     go_enter Try.func100, Try.ntmps100
     go_wp2_with (first | ((with_reducible refine gate_callee (f := 112) rfl ?_); refine goesL_ (some 8) rfl rfl Try.func112 (by kernel_rfl) rfl #[.int .i64 a0] rfl (by (try simp only [List.map_toArray, List.map_cons, List.map_nil]); first | done | rfl | (simp only [List.length_drop, List.length_take]; rfl)) ?_; (with_reducible refine (cmp_isNaN_int.calls a0 false _ A3.out).mono ?_); rintro e w' ⟨rfl, ⟨nd, rfl⟩⟩; refine ⟨_, rfl, ?_⟩) | ((with_reducible refine gate_callee (f := 112) rfl ?_); refine goesL_ (some 10) rfl rfl Try.func112 (by kernel_rfl) rfl #[.int .i64 a1] rfl (by (try simp only [List.map_toArray, List.map_cons, List.map_nil]); first | done | rfl | (simp only [List.length_drop, List.length_take]; rfl)) ?_; (with_reducible refine (cmp_isNaN_int.calls a1 false _ A4.out).mono ?_); rintro e w' ⟨rfl, ⟨nd, rfl⟩⟩; refine ⟨_, rfl, ?_⟩))
     go_ret
     exact ⟨by first | rfl | (simp; done) | (simp [*]; done), by repeat (first | exact Drawn0.refl _ | apply Drawn0.step)⟩
end Go.Proofs.Ytonipihlpbaknaa.Print
namespace Go.Proofs.Ytonipihlpbaknaa.Print
open Go.RowKit Go.Proofs.YtonipihlpbaknaaW.PrintWords Go.Proofs.YtonipihlpbaknaaW.PrintLast Go.Proofs.YtonipihlpbaknaaW.PrintMore
attribute [local go_sem] max2_int min2_int max_two min_two max_three min_three max_four min_four   -- for this text's walks alone
set_option linter.unusedVariables false
set_option linter.unusedSimpArgs false
def slices_Compare_int_int.l0 : Nat → List Int → List Int → List Int → Int → Int → Option (Int)
  | 0, _, _, _, _, _ => none
  | k + 1, x0, x1, x9, x10, x11 => if x11 < x10 then (if 0 ≤ x11 then (if x11 < (x9.length : Int) then (if x11 ≥ (x1.length : Int) then (some 1) else (if x11 < (x1.length : Int) then ((cmp_Compare_int.f (rd x9 x11) (rd x1 x11)).bind fun t103 => (if t103 = 0 then (slices_Compare_int_int.l0 k x0 x1 x9 x10 (wrap64 (x11 + 1))) else (some t103))) else (none))) else (none)) else (none)) else (if (x0.length : Int) < (x1.length : Int) then (some (-1)) else (some 0))
def slices_Compare_int_int.f (k : Nat) (l0 : List Int) (l1 : List Int) : Option (Int) := slices_Compare_int_int.l0 k l0 l1 l0 (l0.length : Int) 0
set_option maxHeartbeats 8000000 in
set_option maxRecDepth 100000 in
theorem slices_Compare_int_int.calls (k : Nat) (A0 : Option Addr) (c0 : Nat) (l0 : List Int) (A1 : Option Addr) (c1 : Nat) (l1 : List Int) (r : Int) (w : World) (hr0 : Kd.C (Kd.int .i64) w A0 l0.length l0) (hc0 : l0.length ≤ c0) (hr1 : Kd.C (Kd.int .i64) w A1 l1.length l1) (hc1 : l1.length ≤ c1) (h : slices_Compare_int_int.f k l0 l1 = some r) :
  Calls Try.prog 101 #[.slice A0 l0.length c0, .slice A1 l1.length c1] w fun e w' => e = .returned (.int .i64 r) ∧ Drawn0 w w' := by
 have HR0 := Aside0.mk hr0; have HC0 := Aside0.mk hc0; clear hr0 hc0; have HR1 := Aside0.mk hr1; have HC1 := Aside0.mk hc1; clear hr1 hc1; have H : (slices_Compare_int_int.l0 k l0 l1 l0 (l0.length : Int) 0) = some r := h; clear h; have H' := Aside0.mk H; clear H
 go_enter Try.func101, Try.ntmps101
 go_wp2
 go_loopg [11] k (fun kq v11 w' => ∃ (x11_1 : Int), v11 = .int .i64 x11_1 ∧ Aside0 (slices_Compare_int_int.l0 kq l0 l1 l0 (l0.length : Int) x11_1 = some r) ∧ Aside0 (kq ≤ k) ∧ Drawn0 w w')
 case atStart => exact ⟨(0), (by first | rfl | (simp; done) | (simp [*]; done)), H', ⟨Nat.le_refl _⟩, by repeat (first | exact Drawn0.refl _ | apply Drawn0.step)⟩
 case round =>
  clear H'; (try clear c1); (try clear p2); obtain ⟨x11_1, rfl, HA, HK1, ⟨m1, rfl⟩⟩ := hrel
  cases gk with
  | zero => exact absurd HA.out (by simp [slices_Compare_int_int.l0])
  | succ k1 =>
   have H := HA.out; clear HA; simp only [slices_Compare_int_int.l0] at H
   by_cases c3 : x11_1 < (l0.length : Int)
   ·rw [if_pos c3] at H
    have c3b0 : decide (x11_1 < (l0.length : Int)) = true := decide_eq_true c3; clear c3
    by_cases c4 : 0 ≤ x11_1
    ·rw [if_pos c4] at H
     have c4b0 : decide (0 ≤ x11_1) = true := decide_eq_true c4; clear c4
     by_cases c5 : x11_1 < (l0.length : Int)
     ·rw [if_pos c5] at H
      have c5b0 : decide (x11_1 < (l0.length : Int)) = true := decide_eq_true c5; clear c5
      by_cases c6 : x11_1 ≥ (l1.length : Int)
      ·rw [if_pos c6] at H
       have c6b0 : decide ((l1.length : Int) ≤ x11_1) = true := decide_eq_true c6; clear c6; obtain rfl := Option.some.inj H; have p101 : 0 ≤ (x11_1 : Int) := of_decide_eq_true (by first | (with_reducible assumption) | assumption); have q101 : x11_1 < (l0.length : Int) := of_decide_eq_true (by first | (with_reducible assumption) | assumption); obtain ⟨ad101, e101, hx101_0⟩ := Kd.at_int HR0.out x11_1 p101 q101; cases e101; replace p101 := eq_true p101; replace q101 := eq_true q101
       go_wp2
       go_ret
       exact ⟨by first | rfl | (simp; done) | (simp [*]; done), by repeat (first | exact Drawn0.refl _ | apply Drawn0.step)⟩
      ·rw [if_neg c6] at H
       have c6b0 : decide ((l1.length : Int) ≤ x11_1) = false := decide_eq_false c6; clear c6
       by_cases c7 : x11_1 < (l1.length : Int)
       ·rw [if_pos c7] at H
        have c7b0 : decide (x11_1 < (l1.length : Int)) = true := decide_eq_true c7; clear c7; replace H := Option.bind_eq_some_iff.mp H; obtain ⟨t103, A80, H⟩ := H; replace H : (if t103 = 0 then (slices_Compare_int_int.l0 k1 l0 l1 l0 (l0.length : Int) (wrap64 (x11_1 + 1))) else (some t103)) = some r := H; have A8 := Aside0.mk A80; clear A80
        by_cases c9 : t103 = 0
        ·rw [if_pos c9] at H
         have c9b0 : (t103 == 0) = true := beq_iff_eq.mpr c9; have c9b1 : (t103 != 0) = false := bne_eq_false_iff_eq.mpr c9; clear c9; have H' := Aside0.mk H; clear H; have p101 : 0 ≤ (x11_1 : Int) := of_decide_eq_true (by first | (with_reducible assumption) | assumption); have q101 : x11_1 < (l0.length : Int) := of_decide_eq_true (by first | (with_reducible assumption) | assumption); obtain ⟨ad101, e101, hx101_0⟩ := Kd.at_int HR0.out x11_1 p101 q101; cases e101; replace p101 := eq_true p101; replace q101 := eq_true q101; have p102 : 0 ≤ (x11_1 : Int) := of_decide_eq_true (by first | (with_reducible assumption) | assumption); have q102 : x11_1 < (l1.length : Int) := of_decide_eq_true (by first | (with_reducible assumption) | assumption); obtain ⟨ad102, e102, hx102_0⟩ := Kd.at_int HR1.out x11_1 p102 q102; cases e102; replace p102 := eq_true p102; replace q102 := eq_true q102
         go_wp2_with (first | ((with_reducible refine gate_callee (f := 100) rfl ?_); refine goesL_ (some 26) rfl rfl Try.func100 (by kernel_rfl) rfl #[.int .i64 (rd l0 x11_1), .int .i64 (rd l1 x11_1)] rfl (by (try simp only [List.map_toArray, List.map_cons, List.map_nil]); first | done | rfl | (simp only [List.length_drop, List.length_take]; rfl)) ?_; (with_reducible refine (cmp_Compare_int.calls (rd l0 x11_1) (rd l1 x11_1) t103 _ A8.out).mono ?_); rintro e w' ⟨rfl, ⟨nd, rfl⟩⟩; refine ⟨_, rfl, ?_⟩))
         go_roundg k1
         case measure => have := HK1.out; omega
         case rel => exact ⟨(wrap64 (x11_1 + 1)), (by first | rfl | (simp; done) | (simp [*]; done)), H', ⟨by have := HK1.out; omega⟩, by repeat (first | exact Drawn0.refl _ | apply Drawn0.step)⟩
        ·rw [if_neg c9] at H
         have c9b0 : (t103 == 0) = false := beq_eq_false_iff_ne.mpr c9; have c9b1 : (t103 != 0) = true := bne_iff_ne.mpr c9; obtain rfl := Option.some.inj H; have p101 : 0 ≤ (x11_1 : Int) := of_decide_eq_true (by first | (with_reducible assumption) | assumption); have q101 : x11_1 < (l0.length : Int) := of_decide_eq_true (by first | (with_reducible assumption) | assumption); obtain ⟨ad101, e101, hx101_0⟩ := Kd.at_int HR0.out x11_1 p101 q101; cases e101; replace p101 := eq_true p101; replace q101 := eq_true q101; have p102 : 0 ≤ (x11_1 : Int) := of_decide_eq_true (by first | (with_reducible assumption) | assumption); have q102 : x11_1 < (l1.length : Int) := of_decide_eq_true (by first | (with_reducible assumption) | assumption); obtain ⟨ad102, e102, hx102_0⟩ := Kd.at_int HR1.out x11_1 p102 q102; cases e102; replace p102 := eq_true p102; replace q102 := eq_true q102
         go_wp2_with (first | ((with_reducible refine gate_callee (f := 100) rfl ?_); refine goesL_ (some 26) rfl rfl Try.func100 (by kernel_rfl) rfl #[.int .i64 (rd l0 x11_1), .int .i64 (rd l1 x11_1)] rfl (by (try simp only [List.map_toArray, List.map_cons, List.map_nil]); first | done | rfl | (simp only [List.length_drop, List.length_take]; rfl)) ?_; (with_reducible refine (cmp_Compare_int.calls (rd l0 x11_1) (rd l1 x11_1) t103 _ A8.out).mono ?_); rintro e w' ⟨rfl, ⟨nd, rfl⟩⟩; refine ⟨_, rfl, ?_⟩))
         go_ret
         exact ⟨by first | rfl | (simp; done) | (simp [*]; done), by repeat (first | exact Drawn0.refl _ | apply Drawn0.step)⟩
       ·rw [if_neg c7] at H
        exact absurd H (by simp)
     ·rw [if_neg c5] at H
      exact absurd H (by simp)
    ·rw [if_neg c4] at H
     exact absurd H (by simp)
   ·rw [if_neg c3] at H
    have c3b0 : decide (x11_1 < (l0.length : Int)) = false := decide_eq_false c3; clear c3
    by_cases c10 : (l0.length : Int) < (l1.length : Int)
    ·rw [if_pos c10] at H
     have c10b0 : decide ((l0.length : Int) < (l1.length : Int)) = true := decide_eq_true c10; have c10b1 : decide (l0.length < l1.length) = true := decide_eq_true (Int.ofNat_lt.mp c10); clear c10; obtain rfl := Option.some.inj H
     go_wp2
     go_ret
     exact ⟨by first | rfl | (simp; done) | (simp [*]; done), by repeat (first | exact Drawn0.refl _ | apply Drawn0.step)⟩
    ·rw [if_neg c10] at H
     have c10b0 : decide ((l0.length : Int) < (l1.length : Int)) = false := decide_eq_false c10; have c10b1 : decide (l0.length < l1.length) = false := decide_eq_false (fun h => c10 (Int.ofNat_lt.mpr h)); clear c10; obtain rfl := Option.some.inj H
     go_wp2
     go_ret
     exact ⟨by first | rfl | (simp; done) | (simp [*]; done), by repeat (first | exact Drawn0.refl _ | apply Drawn0.step)⟩
end Go.Proofs.Ytonipihlpbaknaa.Print
namespace Go.Proofs.Ytonipihlpbaknaa.Print
open Go.RowKit Go.Proofs.YtonipihlpbaknaaW.PrintWords Go.Proofs.YtonipihlpbaknaaW.PrintLast Go.Proofs.YtonipihlpbaknaaW.PrintMore
attribute [local go_sem] max2_int min2_int max_two min_two max_three min_three max_four min_four   -- for this text's walks alone
set_option linter.unusedVariables false
set_option linter.unusedSimpArgs false
def cmp_Or_int.l0 : Nat → Int → List Int → Int → Int → Option (Int)
  | 0, _, _, _, _ => none
  | k + 1, x3, x6, x7, x8 => if x8 < x7 then (if 0 ≤ x8 then (if x8 < (x6.length : Int) then (if (rd x6 x8) = x3 then (cmp_Or_int.l0 k x3 x6 x7 (wrap64 (x8 + 1))) else (some (rd x6 x8))) else (none)) else (none)) else (some x3)
def cmp_Or_int.f (k : Nat) (l0 : List Int) : Option (Int) := cmp_Or_int.l0 k 0 l0 (l0.length : Int) 0
set_option maxHeartbeats 8000000 in
set_option maxRecDepth 100000 in
theorem cmp_Or_int.calls (k : Nat) (A0 : Option Addr) (c0 : Nat) (l0 : List Int) (r : Int) (w : World) (hr0 : Kd.C (Kd.int .i64) w A0 l0.length l0) (hc0 : l0.length ≤ c0) (h : cmp_Or_int.f k l0 = some r) :
  Calls Try.prog 99 #[.slice A0 l0.length c0] w fun e w' => e = .returned (.int .i64 r) ∧ Drawn0 w w' := by
 have HR0 := Aside0.mk hr0; have HC0 := Aside0.mk hc0; clear hr0 hc0; have H : (cmp_Or_int.l0 k 0 l0 (l0.length : Int) 0) = some r := h; clear h; have H' := Aside0.mk H; clear H
 go_enter Try.func99, Try.ntmps99
 go_wp2
 go_loopg [8] k (fun kq v8 w' => ∃ (x8_1 : Int), v8 = .int .i64 x8_1 ∧ Aside0 (cmp_Or_int.l0 kq 0 l0 (l0.length : Int) x8_1 = some r) ∧ Aside0 (kq ≤ k) ∧ Drawn0 w w')
 case atStart => exact ⟨(0), (by first | rfl | (simp; done) | (simp [*]; done)), H', ⟨Nat.le_refl _⟩, by repeat (first | exact Drawn0.refl _ | apply Drawn0.step)⟩
 case round =>
  clear H'; obtain ⟨x8_1, rfl, HA, HK1, ⟨m1, rfl⟩⟩ := hrel
  cases gk with
  | zero => exact absurd HA.out (by simp [cmp_Or_int.l0])
  | succ k1 =>
   have H := HA.out; clear HA; simp only [cmp_Or_int.l0] at H
   by_cases c2 : x8_1 < (l0.length : Int)
   ·rw [if_pos c2] at H
    have c2b0 : decide (x8_1 < (l0.length : Int)) = true := decide_eq_true c2; clear c2
    by_cases c3 : 0 ≤ x8_1
    ·rw [if_pos c3] at H
     have c3b0 : decide (0 ≤ x8_1) = true := decide_eq_true c3; clear c3
     by_cases c4 : x8_1 < (l0.length : Int)
     ·rw [if_pos c4] at H
      have c4b0 : decide (x8_1 < (l0.length : Int)) = true := decide_eq_true c4; clear c4
      by_cases c5 : (rd l0 x8_1) = 0
      ·rw [if_pos c5] at H
       have c5b0 : ((rd l0 x8_1) == 0) = true := beq_iff_eq.mpr c5; have c5b1 : ((rd l0 x8_1) != 0) = false := bne_eq_false_iff_eq.mpr c5; clear c5; have H' := Aside0.mk H; clear H; have p101 : 0 ≤ (x8_1 : Int) := of_decide_eq_true (by first | (with_reducible assumption) | assumption); have q101 : x8_1 < (l0.length : Int) := of_decide_eq_true (by first | (with_reducible assumption) | assumption); obtain ⟨ad101, e101, hx101_0⟩ := Kd.at_int HR0.out x8_1 p101 q101; cases e101; replace p101 := eq_true p101; replace q101 := eq_true q101
       go_wp2
       go_roundg k1
       case measure => have := HK1.out; omega
       case rel => exact ⟨(wrap64 (x8_1 + 1)), (by first | rfl | (simp; done) | (simp [*]; done)), H', ⟨by have := HK1.out; omega⟩, by repeat (first | exact Drawn0.refl _ | apply Drawn0.step)⟩
      ·rw [if_neg c5] at H
       have c5b0 : ((rd l0 x8_1) == 0) = false := beq_eq_false_iff_ne.mpr c5; have c5b1 : ((rd l0 x8_1) != 0) = true := bne_iff_ne.mpr c5; obtain rfl := Option.some.inj H; have p101 : 0 ≤ (x8_1 : Int) := of_decide_eq_true (by first | (with_reducible assumption) | assumption); have q101 : x8_1 < (l0.length : Int) := of_decide_eq_true (by first | (with_reducible assumption) | assumption); obtain ⟨ad101, e101, hx101_0⟩ := Kd.at_int HR0.out x8_1 p101 q101; cases e101; replace p101 := eq_true p101; replace q101 := eq_true q101
       go_wp2
       go_ret
       exact ⟨by first | rfl | (simp; done) | (simp [*]; done), by repeat (first | exact Drawn0.refl _ | apply Drawn0.step)⟩
     ·rw [if_neg c4] at H
      exact absurd H (by simp)
    ·rw [if_neg c3] at H
     exact absurd H (by simp)
   ·rw [if_neg c2] at H
    have c2b0 : decide (x8_1 < (l0.length : Int)) = false := decide_eq_false c2; clear c2; obtain rfl := Option.some.inj H
    go_wp2
    go_ret
    exact ⟨by first | rfl | (simp; done) | (simp [*]; done), by repeat (first | exact Drawn0.refl _ | apply Drawn0.step)⟩
end Go.Proofs.Ytonipihlpbaknaa.Print
namespace Go.Proofs.Ytonipihlpbaknaa.Print
set_option linter.unusedVariables false
set_option linter.unusedSimpArgs false
open Go.RowKit Go.Sort Go.Proofs.YtonipihlpbaknaaW.PrintWords Go.Proofs.YtonipihlpbaknaaW.PrintLast Go.Proofs.YtonipihlpbaknaaW.PrintMore
/-- Lists compared lexicographically. -/
def lexC : List Int → List Int → Int
  | [], [] => 0
  | [], _ :: _ => -1
  | _ :: _, [] => 1
  | x :: a, y :: b => if x < y then -1 else if y < x then 1 else lexC a b
theorem lexC_swap (a b : List Int) : lexC b a = - lexC a b := by
  induction a generalizing b with
  | nil => cases b <;> simp [lexC]
  | cons x a ih =>
    cases b with
    | nil => simp [lexC]
    | cons y b =>
      simp only [lexC]
      by_cases h1 : x < y
      · rw [if_pos h1, if_neg (by omega), if_pos h1]
        rfl
      · rw [if_neg h1]
        by_cases h2 : y < x
        · rw [if_pos h2, if_pos h2]
          omega
        · rw [if_neg h2, if_neg h2, if_neg h1, ih b]
theorem lexC_zero (a b : List Int) (h : lexC a b = 0) : a = b := by
  induction a generalizing b with
  | nil => cases b with
    | nil => rfl
    | cons y b => simp [lexC] at h
  | cons x a ih =>
    cases b with
    | nil => simp [lexC] at h
    | cons y b =>
      simp only [lexC] at h
      split at h
      · omega
      · split at h
        · omega
        · rw [ih b h, show x = y by omega]
theorem lexC_trans (a b c : List Int) (h1 : lexC a b ≤ 0) (h2 : lexC b c ≤ 0) : lexC a c ≤ 0 ∧ (lexC a b < 0 ∨ lexC b c < 0 → lexC a c < 0) := by
  induction a generalizing b c with
  | nil =>
    cases b with
    | nil => exact ⟨h2, fun h => h.elim (fun h => by simp [lexC] at h) id⟩
    | cons y b =>
      cases c with
      | nil => simp [lexC] at h2
      | cons z c => simp [lexC]
  | cons x a ih =>
    cases b with
    | nil => simp [lexC] at h1
    | cons y b =>
      cases c with
      | nil => simp [lexC] at h2
      | cons z c =>
        simp only [lexC] at h1 h2 ⊢
        by_cases p1 : x < y
        · rw [if_pos p1] at h1
          by_cases p2 : y < z
          · rw [if_pos (show x < z by omega)]
            omega
          · rw [if_neg p2] at h2
            by_cases p3 : z < y
            · rw [if_pos p3] at h2; omega
            · rw [if_pos (show x < z by omega)]
              omega
        · rw [if_neg p1] at h1
          by_cases p4 : y < x
          · rw [if_pos p4] at h1; omega
          · rw [if_neg p4] at h1
            by_cases p2 : y < z
            · rw [if_pos (show x < z by omega)]
              omega
            · rw [if_neg p2] at h2
              by_cases p3 : z < y
              · rw [if_pos p3] at h2; omega
              · rw [if_neg p3] at h2
                have := ih b c h1 h2; rw [if_neg (show ¬ x < z by omega), if_neg (show ¬ z < x by omega), if_neg p1, if_neg p4, if_neg p2, if_neg p3]; exact this
/-- A comparison that is a total order. -/
structure TotC (cf : List Int → List Int → Int) : Prop where
  swap : ∀ a b, cf b a = - cf a b
  zero : ∀ a b, cf a b = 0 → a = b
  trans : ∀ a b c, cf a b ≤ 0 → cf b c ≤ 0 → cf a c ≤ 0 ∧ (cf a b < 0 ∨ cf b c < 0 → cf a c < 0)
theorem TotC.swo {cf : List Int → List Int → Int} (h : TotC cf) : SWO (ltOf cf) := by
  refine ⟨fun x => ?_, fun x y z => ?_, fun x y z => ?_⟩
  · have := h.swap x x
    simp only [ltOf, decide_eq_false_iff_not]
    omega
  · simp only [ltOf, decide_eq_true_eq]
    intro h1 h2; exact (h.trans x y z (by omega) (by omega)).2 (.inl h1)
  · simp only [ltOf, decide_eq_false_iff_not]
    intro h1 h2 h3; have e1 := h.swap x y; have e2 := h.swap y z; have := (h.trans z y x (by omega) (by omega)).1; have e3 := h.swap x z
    omega
theorem TotC.tot {cf : List Int → List Int → Int} (h : TotC cf) : ∀ x y, ltOf cf x y = false → ltOf cf y x = false → x = y := by
  intro x y h1 h2; simp only [ltOf, decide_eq_false_iff_not] at h1 h2; have := h.swap x y; exact h.zero x y (by omega)
/-- The shorter ones first, then lexicographically. -/
def lenC (a b : List Int) : Int := if a.length < b.length then -1 else if b.length < a.length then 1 else lexC a b
theorem lenC_tot : TotC lenC := by
  refine ⟨fun a b => ?_, fun a b h => ?_, fun a b c h1 h2 => ?_⟩
  · unfold lenC
    by_cases p : a.length < b.length
    · rw [if_pos p, if_neg (by omega), if_pos p]
      rfl
    · by_cases q : b.length < a.length
      · rw [if_pos q, if_neg p, if_pos q]
      · rw [if_neg p, if_neg q, if_neg q, if_neg p, lexC_swap]
  · unfold lenC at h
    split at h
    · omega
    · split at h
      · omega
      · exact lexC_zero a b h
  · unfold lenC at *
    by_cases p : a.length < b.length
    · by_cases q : c.length < b.length
      · rw [if_neg (by omega), if_pos q] at h2; omega
      · rw [if_pos (show a.length < c.length by omega)]
        omega
    · rw [if_neg p] at h1
      by_cases p2 : b.length < a.length
      · rw [if_pos p2] at h1; omega
      · rw [if_neg p2] at h1
        by_cases q : b.length < c.length
        · rw [if_pos (show a.length < c.length by omega)]
          omega
        · rw [if_neg q] at h2
          by_cases q2 : c.length < b.length
          · rw [if_pos q2] at h2; omega
          · rw [if_neg q2] at h2
            rw [if_neg (show ¬ a.length < c.length by omega), if_neg (show ¬ c.length < a.length by omega), if_neg p, if_neg p2, if_neg q, if_neg q2]; exact lexC_trans a b c h1 h2
theorem cmp_int (a b : Int) : cmp_Compare_int.f a b = some (if a < b then -1 else if b < a then 1 else 0) := by
  unfold cmp_Compare_int.f; simp only [cmp_isNaN_int.f, Option.bind_some, bne_self_eq_false, Bool.false_eq_true, if_false]
  by_cases h : a < b
  · simp [h]
  · by_cases h2 : b < a
    · simp [h, h2]
    · simp [h, h2]
theorem compare_ends (a b : List Int) (ha : a.length ≤ 9223372036854775807) : ∀ (d k i : Nat), i ≤ a.length → i ≤ b.length → a.length - i ≤ d → d < k →
    slices_Compare_int_int.l0 k a b a a.length i = some (lexC (a.drop i) (b.drop i)) ∨ (a.take i ≠ b.take i) := by
  intro d
  induction d with
  | zero =>
    intro k i hi hb hd hk
    obtain ⟨k, rfl⟩ : ∃ m, k = m + 1 := ⟨k - 1, by omega⟩
    by_cases e : a.take i = b.take i
    · left
      obtain rfl : i = a.length := by omega
      simp only [slices_Compare_int_int.l0]; rw [if_neg (by omega), List.drop_length]
      by_cases c : a.length < b.length
      · rw [if_pos (by omega), List.drop_eq_getElem_cons c]
        rfl
      · rw [if_neg (by omega), List.drop_of_length_le (by omega)]
        rfl
    · exact .inr e
  | succ d ih =>
    intro k i hi hb hd hk
    by_cases e : a.take i = b.take i
    · left
      by_cases c : i < a.length
      · obtain ⟨k, rfl⟩ : ∃ m, k = m + 1 := ⟨k - 1, by omega⟩
        simp only [slices_Compare_int_int.l0]; rw [if_pos (by omega), if_pos (by omega), if_pos (by omega), List.drop_eq_getElem_cons c]
        by_cases c2 : i < b.length
        · rw [if_neg (by omega), if_pos (by omega), rd_get a i c, rd_get b i c2, cmp_int, List.drop_eq_getElem_cons c2]
          simp only [Option.bind_some, lexC]
          by_cases l1 : a[i] < b[i]
          · rw [if_pos l1, if_neg (by decide), if_pos l1]
          · rw [if_neg l1, if_neg l1]
            by_cases l2 : b[i] < a[i]
            · rw [if_pos l2, if_neg (by decide), if_pos l2]
            · rw [if_neg l2, if_pos rfl, if_neg l2, succ_ok i (by omega)]
              have e2 : a.take (i + 1) = b.take (i + 1) := by
                rw [List.take_succ_eq_append_getElem c, List.take_succ_eq_append_getElem c2, e, show a[i] = b[i] by omega]
              rcases ih k (i + 1) (by omega) (by omega) (by omega) (by omega) with h | h
              · exact h
              · exact absurd e2 h
        · rw [if_pos (by omega), List.drop_of_length_le (l := b) (by omega)]
          rfl
      · rcases ih k i hi hb (by omega) (by omega) with h | h
        · exact h
        · exact absurd e h
    · exact .inr e
theorem compare_ok (a b : List Int) (ha : a.length ≤ 9223372036854775807) (k : Nat) (hk : a.length < k) : slices_Compare_int_int.f k a b = some (lexC a b) := by
  unfold slices_Compare_int_int.f
  rcases compare_ends a b ha a.length k 0 (Nat.zero_le _) (Nat.zero_le _) (by omega) hk with h | h
  · simpa using h
  · exact absurd (by simp) h
end Go.Proofs.Ytonipihlpbaknaa.Print
namespace Go.Proofs.Ytonipihlpbaknaa.Print
set_option linter.unusedVariables false
set_option linter.unusedSimpArgs false
open Go.RowKit Go.Sort Go.Proofs.YtonipihlpbaknaaW.PrintWords Go.Proofs.YtonipihlpbaknaaW.PrintLast Go.Proofs.YtonipihlpbaknaaW.PrintMore
/-- A list of numbers with the slice that holds it. -/
structure Held (w : World) (base : Nat) (ok : Nat → Prop) where
  v : Value
  l : List Int
  h : Kd.R (Kd.int .i64) 3 w base ok v l
instance (w : World) (base : Nat) (ok : Nat → Prop) : Inhabited (Held w base ok) := ⟨⟨.slice none 0 0, [], Kd.R_nil _ _ _ _ _⟩⟩
theorem held_one {w : World} {base : Nat} {ok : Nat → Prop} : OneCell (Held.v (w := w) (base := base) (ok := ok)) := by
  intro p; obtain ⟨A, c, e⟩ := Kd.R_slice p.h; rw [e]
  rfl
theorem held_list {w : World} {base : Nat} {ok : Nat → Prop} (xs : List (List Int)) (inner : List Value) (h : Reps ((Kd.slice 3 (Kd.int .i64)).M w base ok) 1 xs inner) :
    ∃ ps : List (Held w base ok), ps.map Held.v = inner ∧ ps.map Held.l = xs := by
  induction xs generalizing inner with
  | nil =>
    have := h.1; simp only [List.length_nil, Nat.zero_mul] at this; exact ⟨[], by simp [List.eq_nil_of_length_eq_zero this], rfl⟩
  | cons x xs ih =>
    have hl := h.1
    cases inner with
    | nil => simp at hl
    | cons u inner =>
      have h0 : (Kd.slice 3 (Kd.int .i64)).M w base ok x [u] := by
        have := h.2 0 x rfl
        simpa using this
      obtain ⟨v, e, hr⟩ := h0; cases e
      obtain ⟨ps, h1, h2⟩ := ih inner ⟨by simpa using hl, fun j p hj => by
        have := h.2 (j + 1) p hj; simp only [Nat.mul_one, List.drop_succ_cons] at this
        simpa using this⟩
      exact ⟨⟨u, x, hr⟩ :: ps, by simp [h1], by simp [h2]⟩
theorem held_reps {w w1 : World} {base : Nat} {ok ok' : Nat → Prop} (ps : List (Held w base ok)) (hm : ∀ (v : Value) (l : List Int), Kd.R (Kd.int .i64) 3 w base ok v l → Kd.R (Kd.int .i64) 3 w1 base ok' v l) :
    Reps ((Kd.slice 3 (Kd.int .i64)).M w1 base ok') 1 (ps.map Held.l) (ps.map Held.v) := by
  refine ⟨by simp, fun j p hj => ?_⟩
  obtain ⟨hl, rfl⟩ := List.getElem?_eq_some_iff.1 hj
  have hl' : j < (ps.map (Held.v (w := w) (base := base) (ok := ok))).length := by simpa using hl
  rw [Nat.mul_one, List.drop_eq_getElem_cons hl']; simp only [List.take_succ_cons, List.take_zero, List.getElem_map]; exact ⟨_, rfl, hm _ _ (ps[j]'(by simpa using hl)).h⟩
/-- The comparison that the sort is given, on the lists. -/
def leOf (cf : List Int → List Int → Int) (x y : List Int) : Bool := !ltOf cf y x
theorem sort_held {α : Type} {w : World} {base : Nat} {ok : Nat → Prop} (cf : List Int → List Int → Int) (hO : SWO (ltOf cf)) (hT : ∀ x y, ltOf cf x y = false → ltOf cf y x = false → x = y) (d d' : Array (Held w base ok)) (hp : PermIn 0 d.size d d') (hs : SortedIn (ltOf fun p q : Held w base ok => cf p.l q.l) 0 d.size d') :
    d'.toList.map Held.l = (d.toList.map Held.l).mergeSort (leOf cf) := by
  obtain ⟨hsz, _, hperm⟩ := hp
  have e1 : d'.extract 0 d.size = d' := by rw [← hsz]; exact Array.extract_size
  rw [e1, Array.extract_size] at hperm
  refine List.Perm.eq_of_pairwise (le := fun x y => leOf cf x y = true) ?_ ?_ ?_ ((hperm.map Held.l).trans (List.mergeSort_perm _ _).symm)
  · intro a b _ _ h1 h2
    simp only [leOf, Bool.not_eq_true'] at h1 h2; exact hT a b h2 h1
  · rw [List.pairwise_map, List.pairwise_iff_getElem]
    intro i j hi hj hij
    have hi' : i < d'.size := by simpa using hi
    have hj' : j < d'.size := by simpa using hj
    have := hs i j (Nat.zero_le _) hij (by omega); rw [getElem!_pos d' j hj', getElem!_pos d' i hi'] at this
    simpa [leOf, ltOf] using this
  · refine List.pairwise_mergeSort ?_ ?_ _
    · intro a b c h1 h2
      simp only [leOf, Bool.not_eq_true'] at h1 h2 ⊢; exact hO.ntrans c b a h2 h1
    · intro a b
      simp only [leOf, Bool.or_eq_true, Bool.not_eq_true']
      by_cases h : ltOf cf b a = true
      · right
        exact hO.asymmA h
      · left
        simpa using h
theorem heap_sortWorld {α : Type} [Inhabited α] (enc : α → Value) (w : World) (g n : Nat) (dk : Array α) (os : Array Obj) (k : Nat) (hk : k < w.heap.size) (hne : k ≠ g) : (sortWorld enc w g 0 n dk os).heap[k]? = w.heap[k]? := by
  unfold sortWorld; rw [heap_grow_old _ _ (by simpa [putRow, mapBlock, Sort.ahead] using hk), heap_putRow_ne enc _ g dk k hne]
  rfl
theorem grownBy_sortWorld {α : Type} [Inhabited α] (enc : α → Value) (w : World) (g n : Nat) (dk : Array α) (os : Array Obj) : w.grownBy (sortWorld enc w g 0 n dk os) (some g) :=
  ⟨rfl, rfl, rfl, by simp [sortWorld, putRow, mapBlock, Sort.ahead], fun k hk hne => heap_sortWorld enc w g n dk os k hk (fun e => hne (by rw [e]))⟩
/-- What is asked of a comparison. -/
def CmpL (g : Nat) (cb : Array Value) (cf : List Int → List Int → Int) : Prop :=
  ∀ (W : World) (A1 : Option Addr) (c1 : Nat) (l1 : List Int) (A2 : Option Addr) (c2 : Nat) (l2 : List Int), Kd.C (Kd.int .i64) W A1 l1.length l1 → l1.length ≤ c1 → Kd.C (Kd.int .i64) W A2 l2.length l2 → l2.length ≤ c2 →
      Calls Try.prog g (#[.slice A1 l1.length c1, .slice A2 l2.length c2] ++ cb) W fun e w' => e = .returned (.int .i64 (cf l1 l2)) ∧ ∃ q os, w' = grow (W.drewN q) os
set_option maxHeartbeats 1000000 in
theorem sortL_some (g : Nat) (cb : Array Value) (cf : List Int → List Int → Int) (hO : SWO (ltOf cf)) (hT : ∀ x y, ltOf cf x y = false → ltOf cf y x = false → x = y) (eg : ∀ args w, (callFunc g args).run Try.prog w = .ok (.enter g args) w) (hcmp : CmpL g cb cf)
    (base b cap : Nat) (ok : Nat → Prop) (w : World) (ps : List (Held w base ok)) (hne : ∀ k, ok k → k ≠ b) (hH : Holds Held.v w b 0 ps.toArray) (hlt : b < w.heap.size) (hl : ps.length < 17592186044416) :
    Calls Try.prog 97 #[.slice (some ⟨b, 0, none⟩) ps.length cap, .func (.func g) #[] cb] w fun e w' => e = .returned (.tuple #[]) ∧ ∃ (d' : Array (Held w base ok)) (n : Nat) (os : Array Obj), d'.toList.map Held.l = (ps.map Held.l).mergeSort (leOf cf) ∧ w' = sortWorld Held.v w b 0 n d' os := by
  have keep : ∀ (n : Nat) (dk : Array (Held w base ok)) (os : Array Obj) (u : Value) (l : List Int), Kd.R (Kd.int .i64) 3 w base ok u l → Kd.R (Kd.int .i64) 3 (sortWorld Held.v w b 0 n dk os) base ok u l :=
    fun n dk os u l h => Kd.R_step h (fun k hk hlt => heap_sortWorld _ w b n dk os k hlt (hne k hk))
  have S := Try.slices_SortFunc (α := Held w base ok) Held.v held_one (fun p q => cf p.l q.l)
    ⟨fun x => hO.irrefl x.l, fun x y z => hO.trans x.l y.l z.l, fun x y z => hO.ntrans x.l y.l z.l⟩ g cb b 0 cap ps.toArray w eg
    (fun m os dk hdk x y => by
      obtain ⟨A1, c1, e1, m1, r1⟩ := Kd.R_reads (keep m dk os x.v x.l x.h); obtain ⟨A2, c2, e2, m2, r2⟩ := Kd.R_reads (keep m dk os y.v y.l y.h); rw [e1, e2]
      exact hcmp _ A1 c1 x.l A2 c2 y.l r1 m1 r2 m2)
    hH hlt (by simp; omega)
  simp only [List.size_toArray] at S
  refine S.mono ?_
  rintro e w' ⟨rfl, d', n, os, hp, hs, rfl⟩
  refine ⟨rfl, d', n, os, ?_, rfl⟩
  have hsort := sort_held (α := Nat) cf hO hT ps.toArray d' (by simpa using hp) (by simpa using hs)
  simpa using hsort
theorem sortL (g : Nat) (cb : Array Value) (cf : List Int → List Int → Int) (hO : SWO (ltOf cf)) (hT : ∀ x y, ltOf cf x y = false → ltOf cf y x = false → x = y) (eg : ∀ args w, (callFunc g args).run Try.prog w = .ok (.enter g args) w) (hcmp : CmpL g cb cf)
    (base : Nat) (ok : Nat → Prop) (v : Value) (xs : List (List Int)) (w : World) (ho : Kd.R (Kd.slice 3 (Kd.int .i64)) 22 w base ok v xs) (hl : xs.length < 17592186044416) :
    Calls Try.prog 97 #[v, .func (.func g) #[] cb] w fun e w' => e = .returned (.tuple #[]) ∧ Kd.R (Kd.slice 3 (Kd.int .i64)) 22 w' base ok v (xs.mergeSort (leOf cf)) ∧ w.grownBy w' v.ownBlock := by
  obtain ⟨hok, inner, hown, hreps⟩ := ho; obtain ⟨ps, hps1, hps2⟩ := held_list xs inner hreps
  have hlen : ps.length = xs.length := by rw [← hps2, List.length_map]
  rcases hown.2 with ⟨rfl, hn⟩ | ⟨b, cap, cur, rfl, hbase, hb, h1, h2, h3, h4⟩
  · have hx : xs = [] := List.eq_nil_of_length_eq_zero hn
    subst hx
    refine (Try.slices_SortFunc_none (α := Nat) none 0 _ w).mono ?_
    rintro e w' ⟨rfl, rfl⟩; rw [List.mergeSort_nil]; exact ⟨rfl, Kd.R_nil _ _ _ _ _, World.grownBy.refl _ _⟩
  · have hown' : w.ownsRow base 22 1 (.slice (some ⟨b, 0, none⟩) xs.length cap) xs.length (ps.map Held.v) := by rw [hps1]; exact hown
    obtain ⟨b', cap', hv, _, hlt, _, _, _, hH⟩ := Lib.holds_of_ownsRow hown' (by simp); cases hv; have S := sortL_some g cb cf hO hT eg hcmp base b cap _ w ps (fun k hk e => hk.2 (by rw [e]; rfl)) hH hlt (by omega); rw [hlen] at S
    refine S.mono ?_
    rintro e w' ⟨rfl, d', n, os, hsort, rfl⟩; rw [hps2] at hsort
    have hdl : d'.toList.length = xs.length := by
      have := congrArg List.length hsort
      simpa [List.length_mergeSort] using this
    have o1 := Lib.ownsRow_putRow (q := n) (k := xs.length) (ys := d'.toList) hown' hdl (Nat.le_refl _); rw [List.take_of_length_le (by omega), Array.toArray_toList] at o1; have o2 := pw_own_below o1 (below_grow _ os)
    refine ⟨rfl, ⟨hok, d'.toList.map Held.v, ?_, ?_⟩, grownBy_sortWorld _ _ _ _ _ _⟩
    · rw [List.length_mergeSort]
      exact o2
    · rw [← hsort]
      exact held_reps d'.toList (fun u l h => Kd.R_step h (fun k hk hlt => heap_sortWorld _ w b n d' os k hlt (fun e => hk.2 (by rw [e]; rfl))))
end Go.Proofs.Ytonipihlpbaknaa.Print
namespace Go.Proofs.Ytonipihlpbaknaa.Print
set_option linter.unusedVariables false
set_option linter.unusedSimpArgs false
open Go.RowKit Go.Proofs.YtonipihlpbaknaaW.PrintWords Go.Proofs.YtonipihlpbaknaaW.PrintLast Go.Proofs.YtonipihlpbaknaaW.PrintMore
theorem or2 (x y : Int) (k : Nat) (hk : 3 < k) : cmp_Or_int.f k [x, y] = some (if x = 0 then y else x) := by
  obtain ⟨k, rfl⟩ : ∃ m, k = m + 4 := ⟨k - 4, by omega⟩
  have e0 : rd [x, y] 0 = x := rfl; have e1 : rd [x, y] 1 = y := rfl
  have w1 : wrap64 (0 + 1) = 1 := by unfold wrap64; omega
  have w2 : wrap64 (1 + 1) = 2 := by unfold wrap64; omega
  show cmp_Or_int.l0 (k + 4) 0 [x, y] ((2 : Nat) : Int) 0 = _
  unfold cmp_Or_int.l0; rw [if_pos (by omega), if_pos (by omega), if_pos (by simp), e0]
  by_cases h : x = 0
  · rw [if_pos h, if_pos h, w1]
    unfold cmp_Or_int.l0; rw [if_pos (by omega), if_pos (by omega), if_pos (by simp), e1]
    by_cases h2 : y = 0
    · rw [if_pos h2, w2]
      unfold cmp_Or_int.l0; rw [if_neg (by omega), h2]
    · rw [if_neg h2]
  · rw [if_neg h, if_neg h]
set_option maxHeartbeats 1000000 in
theorem subsets1 (W : World) (A1 : Option Addr) (c1 : Nat) (l1 : List Int) (A2 : Option Addr) (c2 : Nat) (l2 : List Int) (h1 : Kd.C (Kd.int .i64) W A1 l1.length l1) (hc1 : l1.length ≤ c1) (h2 : Kd.C (Kd.int .i64) W A2 l2.length l2) (hc2 : l2.length ≤ c2) :
  Calls Try.prog 98 (#[.slice A1 l1.length c1, .slice A2 l2.length c2] ++ #[]) W fun e w' => e = .returned (.int .i64 (lenC l1 l2)) ∧ ∃ q os, w' = Go.Sort.grow (W.drewN q) os := by
 have hm1 := Kd.C_max h1; have hm2 := Kd.C_max h2; have K1 := Lib.hid (fun W => cmp_Compare_int.calls l1.length l2.length _ W (cmp_int _ _)); have K2 := Lib.hid (fun (W' : World) (hb : Below W.heap.size W W') => slices_Compare_int_int.calls (l1.length + 1) A1 c1 l1 A2 c2 l2 _ W' (Kd.C_below h1 hb) hc1 (Kd.C_below h2 hb) hc2 (compare_ok l1 l2 hm1 _ (by omega)))
 have V : Hid (lenC l1 l2 = if (if (l1.length : Int) < l2.length then -1 else if (l2.length : Int) < l1.length then 1 else 0) = (0 : Int) then lexC l1 l2 else (if (l1.length : Int) < l2.length then -1 else if (l2.length : Int) < l1.length then 1 else 0)) := by
  show lenC l1 l2 = _
  unfold lenC
  by_cases p : l1.length < l2.length
  ·rw [if_pos p, if_pos (show (l1.length : Int) < l2.length by omega), if_neg (by decide)]
  ·by_cases q : l2.length < l1.length
   ·rw [if_neg p, if_pos q, if_neg (show ¬ (l1.length : Int) < l2.length by omega), if_pos (show (l2.length : Int) < l1.length by omega), if_neg (by decide)]
   ·rw [if_neg p, if_neg q, if_neg (show ¬ (l1.length : Int) < l2.length by omega), if_neg (show ¬ (l2.length : Int) < l1.length by omega), if_pos rfl]
 clear h1 h2; generalize (if (l1.length : Int) < l2.length then -1 else if (l2.length : Int) < l1.length then 1 else 0 : Int) = x at K1 V; generalize lexC l1 l2 = y at K2 V
 show Calls Try.prog 98 #[.slice A1 l1.length c1, .slice A2 l2.length c2] W _
 go_enter Try.func98, Try.ntmps98
 go_wp2_with fail
 refine (K1.out _).mono ?_
 rintro e w1 ⟨rfl, ⟨n1, rfl⟩⟩
 go_wp2_with fail
 refine (K2.out _ (by exact pw_below_drewN (Below.refl _ _) _)).mono ?_
 rintro e w1 ⟨rfl, ⟨n2, rfl⟩⟩
 have HC : Hid (Kd.C (Kd.int .i64) ((W.drewN (n1 + n2)).alloc (.cells #[.int .i64 x, .int .i64 y] 3)) (some ⟨W.heap.size, 0, none⟩) 2 [x, y]) := by
  refine Kd.C_of_reads (d := (0 : Int)) (h1 := fun _ => rfl) (show ReadsOf (Value.int .i64) 0 _ _ _ _ from ⟨rfl, by omega, fun _ => ⟨_, rfl, fun j hj => ?_⟩⟩)
  rw [add_plain]
  rcases (by omega : j = 0 ∨ j = 1) with rfl | rfl
  ·exact (blk_cell (blk_new (W.drewN (n1 + n2)) (.cells #[.int .i64 x, .int .i64 y] 3)) 0).trans rfl
  ·exact (blk_cell (blk_new (W.drewN (n1 + n2)) (.cells #[.int .i64 x, .int .i64 y] 3)) 1).trans rfl
 have O2 := Lib.hid (or2 x y 4 (by omega)); generalize (if x = 0 then y else x) = z at O2 V
 go_wp2_with fail
 refine (cmp_Or_int.calls 4 _ _ [x, y] z _ HC (by simp) O2.out).mono ?_
 rintro e w3 ⟨rfl, ⟨n3, rfl⟩⟩
 go_wp2_with fail
 go_ret
 refine ⟨by rw [show lenC l1 l2 = _ from V]; rfl, n1 + n2 + n3, #[.cells #[.int .i64 x, .int .i64 y] 3], ?_⟩
 rw [Go.Sort.alloc_eq_grow]
 show Go.Sort.grow ((W.drewN (n1 + n2)).drewN n3) _ = _
 rw [World.drewN_drewN]
def bitB (s i : Nat) : Bool := s.testBit i
def bitsL (n s : Nat) : List Int := ((List.range n).filter (bitB s)).map (fun (i : Nat) => (i : Int))
def genL (n : Nat) : List (List Int) := (List.range (2 ^ n)).map (bitsL n)
def subsetsL (n : Nat) : List (List Int) := (genL n).mergeSort (leOf lenC)
theorem bitsL_succ (n s : Nat) : bitsL (n + 1) s = bitsL n s ++ (if bitB s n then [(n : Int)] else []) := by
  unfold bitsL; rw [List.range_succ, List.filter_append, List.map_append]
  congr 1
  by_cases h : bitB s n = true
  · simp [h]
  · simp [h]
theorem genL_take (n k : Nat) (h : k ≤ 2 ^ n) : (genL n).take k = (List.range k).map (bitsL n) := by
  unfold genL; rw [← List.map_take, List.take_range, Nat.min_eq_left h]
theorem bits_run (s i : Nat) (hs : s < 64) (hi : i < 6) : Go.bits .and .i64 ((s : Int) / 2 ^ i) 1 = if bitB s i then 1 else 0 := by
  have : ∀ s : Fin 64, ∀ i : Fin 6, Go.bits .and .i64 (((s : Nat) : Int) / 2 ^ (i : Nat)) 1 = if bitB s i then 1 else 0 := by decide +kernel
  exact this ⟨s, hs⟩ ⟨i, hi⟩
theorem bitsL_len (n s : Nat) : (bitsL n s).length ≤ n := by
  unfold bitsL; rw [List.length_map]; exact Nat.le_trans (List.length_filter_le _ _) (by simp)
theorem genL_snoc (n k : Nat) (h : k < 2 ^ n) : (genL n).take (k + 1) = (genL n).take k ++ [bitsL n k] := by
  rw [genL_take n (k + 1) h, genL_take n k (by omega), List.range_succ, List.map_append]
  rfl
theorem genL_len (n : Nat) : (genL n).length = 2 ^ n := by simp [genL]
theorem R_apart {ok ok' : Nat → Prop} {w : World} {base : Nat} {u v : Value} {l : List Int} {xs : List (List Int)} (h : Kd.R (Kd.int .i64) 3 w base ok u l) (ho : Kd.R (Kd.slice 3 (Kd.int .i64)) 22 w base ok' v xs) : Kd.R (Kd.int .i64) 3 w base (fun k => ok k ∧ some k ≠ v.ownBlock) u l :=
  Kd.R_mono (Kd.R_bound h) (fun k hk => ⟨hk.1, fun e => by
    obtain ⟨_, _, _, q, hq, cells, hc⟩ := hk; obtain ⟨inner, hown⟩ := Kd.R_own ho; obtain ⟨cells', hc'⟩ := own_typed hown k e.symm; rw [hc] at hc'
    injection hc' with hc'
    injection hc' with _ hc'
    have : q = 3 := by simpa [Kd.int, Kd.scalar] using hq
    rw [this] at hc'
    exact absurd hc' (by decide)⟩)
set_option maxHeartbeats 2000000 in
set_option maxRecDepth 100000 in
theorem subsets_gen (n : Nat) (hn : n ≤ 6) (w : World) : Calls Try.prog 67 #[.int .i64 n] w fun e w' => ∃ v0_ : Value, e = .returned (v0_) ∧ Kd.R (Kd.slice 3 (Kd.int .i64)) 22 w' w.heap.size (fun _ => True) v0_ (subsetsL n) ∧ Below w.heap.size w w' := by
 have hp : 2 ^ n ≤ 64 := Nat.le_trans (Nat.pow_le_pow_right (by omega) hn) (by decide)
 have hw : wrap64 ((2 : Int) ^ n) = ((2 ^ n : Nat) : Int) := by
  rcases (by omega : n = 0 ∨ n = 1 ∨ n = 2 ∨ n = 3 ∨ n = 4 ∨ n = 5 ∨ n = 6) with rfl | rfl | rfl | rfl | rfl | rfl | rfl <;> decide +kernel
 obtain ⟨p, EP⟩ : ∃ p, 2 ^ n = p := ⟨_, rfl⟩
 rw [EP] at hp hw; have EP := Lib.hid EP
 rename_i EP0
 clear EP0
 go_enter Try.func67, Try.ntmps67
 go_wp2
 rw [hw]; clear hw
 go_loopg [3, 4, 5, 6, 9, 13] p (fun gg s3 _ _ _ s9 _ wr => ∃ k : Nat, k ≤ p ∧ p - k ≤ gg ∧ s9 = .int .i64 k ∧ Aside0 (Kd.R (Kd.slice 3 (Kd.int .i64)) 22 wr w.heap.size (fun _ => True) s3 ((genL n).take k)) ∧ Aside0 (Below w.heap.size w wr))
 case atStart => exact ⟨0, Nat.zero_le _, by omega, rfl, ⟨by rw [List.take_zero]; exact Kd.R_nil _ _ _ _ _⟩, ⟨Below.refl _ _⟩⟩
 case round =>
  obtain ⟨k, hk, hg, rfl, BO, BW⟩ := hrel
  by_cases hlt : k < p
  ·have hltz : (k : Int) < (p : Int) := by omega
   obtain ⟨wo, rfl⟩ : ∃ wo : World, wo = wr := ⟨_, rfl⟩
   go_wp2
   go_loopg [5, 6, 13] n (fun gg s5 _ s13 wr => ∃ i : Nat, i ≤ n ∧ n - i ≤ gg ∧ s13 = .int .i64 i ∧ Aside0 (Kd.R (Kd.int .i64) 3 wr wo.heap.size (fun _ => True) s5 (bitsL i k)) ∧ Aside0 (Below wo.heap.size wo wr))
   case atStart => exact ⟨0, Nat.zero_le _, by omega, rfl, ⟨by exact Kd.R_nil _ _ _ _ _⟩, ⟨Below.refl _ _⟩⟩
   case round =>
    obtain ⟨i, hi, hgi, rfl, CO, CW⟩ := hrel
    by_cases hlti : i < n
    ·have hltiz : (i : Int) < (n : Int) := by omega
     have hb := bits_run k i (by omega) (by omega)
     cases hbit : bitB k i with
     | true =>
      rw [hbit] at hb; simp only [if_true] at hb; have HB := Lib.hid hbit; clear hbit
      go_wp2_with ((with_reducible refine gate_builtin (b := .append) (xs := #[.tmp 21, .tmp 23]) rfl ?_); at_builtin; refine Kd.R_append (Kd.int .i64) (w0 := wo) wo.heap.size rfl (.tmp 21) (.tmp 23) 22 3 (.int .i64 0) 8 rfl Try.underlying22 info3 rfl (by decide) (by omega) u5 (bitsL i k) (i : Int) [.int .i64 i] (fun _ => True) (fun _ => False) rfl rfl ?aP (fun _ hk => hk.elim) ?aF ?aO ?aB ?aS ?aL ?_; (case aP => exact rfl); (case aB => exact CW.out); (case aF => exact (fun _ _ => trivial)); (case aO => exact CO.out); (case aS => exact CW.out.size); (case aL => have := bitsL_len i k; omega); intro v8 w8 ho hb1 hg1 hat; have HO8 := Lib.hid ho; have BW8 := Lib.hid hb1; clear ho hb1 hg1 hat)
      go_roundg (n - (i + 1))
      case measure => omega
      case rel => exact ⟨i + 1, by omega, by omega, by go_num, ⟨by rw [bitsL_succ, HB.out]; exact HO8.out⟩, ⟨BW8.out⟩⟩
     | false =>
      rw [hbit] at hb; simp only [Bool.false_eq_true, if_false] at hb; have HB := Lib.hid hbit; clear hbit
      go_wp2
      go_roundg (n - (i + 1))
      case measure => omega
      case rel => exact ⟨i + 1, by omega, by omega, by go_num, ⟨by rw [bitsL_succ, HB.out]; simpa using CO.out⟩, ⟨CW.out⟩⟩
    ·have hltiz : ¬ (i : Int) < (n : Int) := by omega
     obtain rfl : i = n := by omega
     have BO2 := Lib.hid (Kd.R_below BO.out CW.out); have BW2 := Lib.hid (below_then BW.out BW.out.size CW.out); have CO2 := Lib.hid (R_apart (Kd.R_lower CO.out BW.out.size) BO2.out); obtain ⟨A5, c5, rfl⟩ := Kd.R_slice CO.out; clear BO BW CO CW hlti
     go_wp2_with ((with_reducible refine gate_builtin (b := .append) (xs := #[.tmp 26, .tmp 28]) rfl ?_); at_builtin; refine Kd.R_append (Kd.slice 3 (Kd.int .i64)) (w0 := w) w.heap.size rfl (.tmp 26) (.tmp 28) 87 22 (.slice none 0 0) 24 rfl Try.underlying87 info22 rfl (by decide) (by omega) u3 ((genL i).take k) (bitsL i k) [.slice A5 (bitsL i k).length c5] (fun _ => True) (fun k => True ∧ some k ≠ (u3 : Value).ownBlock) rfl rfl ?aP ?aK ?aF ?aO ?aB ?aS ?aL ?_; (case aP => exact Kd.M_row CO2.out); (case aK => exact (fun _ hk => hk)); (case aB => exact BW2.out); (case aF => exact (fun _ _ => trivial)); (case aO => exact BO2.out); (case aS => exact BW2.out.size); (case aL => rw [List.length_take]; omega); intro v8 w8 ho hb1 hg1 hat; have HO8 := Lib.hid ho; have BW8 := Lib.hid hb1; clear ho hb1 hg1 hat)
     go_roundg (p - (k + 1))
     case measure => omega
     case rel => exact ⟨k + 1, by omega, by omega, by go_num, ⟨by rw [genL_snoc i k (by have := EP.out; omega)]; exact HO8.out⟩, ⟨BW8.out⟩⟩
  ·have hltz : ¬ (k : Int) < (p : Int) := by omega
   obtain rfl : k = p := by omega
   have BO2 : Hid (Kd.R (Kd.slice 3 (Kd.int .i64)) 22 wr w.heap.size (fun _ => True) u3 (genL n)) := by
    have := BO.out; rw [genL_take n k (by have := EP.out; omega), ← show 2 ^ n = k from EP.out] at this; exact this
   have BW2 := Lib.hid BW.out; clear BO BW hlt
   go_wp2_with fail
   refine (sortL 98 #[] lenC lenC_tot.swo lenC_tot.tot (enters_of Try.func98 (by kernel_rfl) rfl) (fun W A1 c1 l1 A2 c2 l2 h1 m1 h2 m2 => subsets1 W A1 c1 l1 A2 c2 l2 h1 m1 h2 m2) w.heap.size (fun _ => True) u3 (genL n) wr BO2.out (by rw [genL_len]; have := EP.out; omega)).mono ?_
   rintro e w9 ⟨rfl, ho, hg⟩; have HO9 := Lib.hid ho; have HB9 := Lib.hid (BW2.out.grown hg BW2.out.size (Kd.R_base BO2.out)); clear ho hg
   go_wp2_with fail
   go_ret
   exact ⟨_, rfl, HO9.out, HB9.out⟩
end Go.Proofs.Ytonipihlpbaknaa.Print

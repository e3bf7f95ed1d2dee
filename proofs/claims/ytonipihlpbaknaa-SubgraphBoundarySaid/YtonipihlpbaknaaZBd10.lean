/- A part of the proof that the law returns true at every input; what the walked functions compute. -/
import Derived.Test.YtonipihlpbaknaaZBd0
import Derived.Test.YtonipihlpbaknaaZBd1
import Derived.Test.YtonipihlpbaknaaZBd2
import Derived.Test.YtonipihlpbaknaaZBd3
import Derived.Test.YtonipihlpbaknaaZBd4
import Derived.Test.YtonipihlpbaknaaZBd5
import Derived.Test.YtonipihlpbaknaaZBd6
import Derived.Test.YtonipihlpbaknaaZBd7
import Derived.Test.YtonipihlpbaknaaZBd8
import Derived.Test.YtonipihlpbaknaaZBd9
namespace Go.Proofs.Ytonipihlpbaknaa.Print
set_option linter.unusedVariables false
set_option linter.unusedSimpArgs false
open Go.RowKit Go.Proofs.YtonipihlpbaknaaW.PrintWords Go.Proofs.YtonipihlpbaknaaW.PrintLast Go.Proofs.YtonipihlpbaknaaW.PrintMore
def numsL (n : Nat) : List Int := (List.range n).map fun (i : Nat) => (i : Int)
theorem numsL_len (n : Nat) : (numsL n).length = n := by simp [numsL]
theorem numsL_succ (n : Nat) : numsL (n + 1) = numsL n ++ [(n : Int)] := by simp [numsL, List.range_succ]
theorem rd_nums (n : Nat) (v : Int) (h0 : 0 ≤ v) (h1 : v < n) : rd (numsL n) v = v := by
  unfold rd numsL
  simp only [List.getD_eq_getElem?_getD, List.getElem?_map]
  rw [List.getElem?_range (by omega)]
  simp
  omega
theorem nums_l (n : Nat) (hn : n < 1000000) : ∀ (d k i : Nat), i + d = n → d < k → scarfjointref05_Numbers.l0 k 0 n (numsL i) i = some (numsL n) := by
  intro d
  induction d with
  | zero =>
    intro k i hi hk
    obtain ⟨k, rfl⟩ : ∃ m, k = m + 1 := ⟨k - 1, by omega⟩
    rw [scarfjointref05_Numbers.l0, if_neg (by omega), show i = n by omega]
  | succ d ih =>
    intro k i hi hk
    obtain ⟨k, rfl⟩ : ∃ m, k = m + 1 := ⟨k - 1, by omega⟩
    rw [scarfjointref05_Numbers.l0, if_pos (by omega), if_pos (by rw [numsL_len]; omega), succ_ok i (by omega), show wrap64 (0 + (i : Int)) = i by unfold wrap64; omega, ← numsL_succ]
    exact ih k (i + 1) (by omega) (by omega)
theorem nums_ok (n : Nat) (hn : n < 1000000) (k : Nat) (hk : n < k) : scarfjointref05_Numbers.f k 0 n = some (numsL n) := nums_l n hn n k 0 (by omega) hk
/-- One round. -/
theorem comp1 (l0 : List Int) (l1 : List S78) (r : Int) (ho : EndsOk l0.length l1) (hn : l1.length < 1000000) : ∀ (d k i : Nat) (L : List Int), i + d = l1.length → d < k → L.length = l0.length →
    scarfjointref05_Components.l1 k L r i l0 l1 = scarfjointref05_Components.l0 (k - d - 1) ((l1.drop i).foldl stepL L) (wrap64 (r + 1)) l0 l1 := by
  intro d
  induction d with
  | zero =>
    intro k i L hi hk hL
    obtain ⟨k, rfl⟩ : ∃ m, k = m + 1 := ⟨k - 1, by omega⟩
    rw [scarfjointref05_Components.l1, if_neg (by omega), List.drop_of_length_le (by omega)]
    rfl
  | succ d ih =>
    intro k i L hi hk hL
    obtain ⟨k, rfl⟩ : ∃ m, k = m + 1 := ⟨k - 1, by omega⟩
    have hlt : i < l1.length := by omega
    obtain ⟨o1, o2, o3, o4⟩ := ho l1[i] (List.getElem_mem hlt)
    rw [scarfjointref05_Components.l1, if_pos (by omega), if_pos (by omega), rdT_get l1 i hlt, if_pos o1, if_pos (by omega), if_pos o3, if_pos (by omega), succ_ok i (by omega), List.drop_eq_getElem_cons hlt, List.foldl_cons]
    rw [show k + 1 - (d + 1) - 1 = k - d - 1 by omega]
    exact ih k (i + 1) (stepL L l1[i]) (by omega) (by omega) (by rw [stepL_len, hL])
/-- All rounds. -/
theorem comp0 (l0 : List Int) (l1 : List S78) (ho : EndsOk l0.length l1) (hn : l1.length < 1000000) (hn0 : l0.length < 1000000) : ∀ (d k i : Nat) (L : List Int), i + d = l0.length → d * (l1.length + 2) < k → L.length = l0.length →
    scarfjointref05_Components.l0 k L i l0 l1 = scarfjointref05_Components.l2 (k - d * (l1.length + 2) - 1) (iterL l1 d L) [] 0 l0 l1 := by
  intro d
  induction d with
  | zero =>
    intro k i L hi hk hL
    obtain ⟨k, rfl⟩ : ∃ m, k = m + 1 := ⟨k - 1, by omega⟩
    rw [scarfjointref05_Components.l0, if_neg (by omega)]
    simp [iterL]
  | succ d ih =>
    intro k i L hi hk hL
    obtain ⟨k, rfl⟩ : ∃ m, k = m + 1 := ⟨k - 1, by omega⟩
    have e : (d + 1) * (l1.length + 2) = d * (l1.length + 2) + l1.length + 2 := by rw [Nat.add_mul]; omega
    rw [scarfjointref05_Components.l0, if_pos (by omega)]
    have h1 := comp1 l0 l1 i ho hn l1.length k 0 L (by omega) (by omega) hL
    rw [show ((0 : Nat) : Int) = 0 from rfl] at h1
    rw [h1, succ_ok i (by omega), List.drop_zero, ih _ (i + 1) _ (by omega) (by omega) (by rw [foldL_len, hL]), iterL]
    congr 1
    omega
def ndsUpto (L : List Int) (r : Int) (i : Nat) : List Int := ((List.range i).filter fun (j : Nat) => decide (rd L (j : Int) = r)).map fun (j : Nat) => (j : Int)
def egsUpto (l1 : List S78) (L : List Int) (r : Int) (i : Nat) : List Int := ((List.range i).filter fun (j : Nat) => decide (rd L (rd_T78 l1 (j : Int)).f1 = r)).map fun (j : Nat) => (j : Int)
theorem ndsUpto_succ (L : List Int) (r : Int) (i : Nat) : ndsUpto L r (i + 1) = ndsUpto L r i ++ (if rd L (i : Int) = r then [(i : Int)] else []) := by
  unfold ndsUpto
  rw [List.range_succ, List.filter_append, List.map_append]
  by_cases h : rd L (i : Int) = r <;> simp [h]
theorem egsUpto_succ (l1 : List S78) (L : List Int) (r : Int) (i : Nat) : egsUpto l1 L r (i + 1) = egsUpto l1 L r i ++ (if rd L (rd_T78 l1 (i : Int)).f1 = r then [(i : Int)] else []) := by
  unfold egsUpto
  rw [List.range_succ, List.filter_append, List.map_append]
  by_cases h : rd L (rd_T78 l1 (i : Int)).f1 = r <;> simp [h]
theorem ndsUpto_len (L : List Int) (r : Int) (i : Nat) : (ndsUpto L r i).length ≤ i := by
  unfold ndsUpto
  rw [List.length_map]
  exact Nat.le_trans (List.length_filter_le _ _) (by simp)
theorem egsUpto_len (l1 : List S78) (L : List Int) (r : Int) (i : Nat) : (egsUpto l1 L r i).length ≤ i := by
  unfold egsUpto
  rw [List.length_map]
  exact Nat.le_trans (List.length_filter_le _ _) (by simp)
def compP (l0 : List Int) (l1 : List S78) (L : List Int) (r : Int) : S27 := ⟨ndsUpto L r l0.length, egsUpto l1 L r l1.length⟩
def compsUpto (l0 : List Int) (l1 : List S78) (L : List Int) (i : Nat) : List S27 := ((List.range i).filter fun (j : Nat) => decide (rd L (j : Int) = (j : Int))).map fun (j : Nat) => compP l0 l1 L (j : Int)
theorem compsUpto_succ (l0 : List Int) (l1 : List S78) (L : List Int) (i : Nat) : compsUpto l0 l1 L (i + 1) = compsUpto l0 l1 L i ++ (if rd L (i : Int) = (i : Int) then [compP l0 l1 L (i : Int)] else []) := by
  unfold compsUpto
  rw [List.range_succ, List.filter_append, List.map_append]
  by_cases h : rd L (i : Int) = (i : Int) <;> simp [h]
theorem compsUpto_len (l0 : List Int) (l1 : List S78) (L : List Int) (i : Nat) : (compsUpto l0 l1 L i).length ≤ i := by
  unfold compsUpto
  rw [List.length_map]
  exact Nat.le_trans (List.length_filter_le _ _) (by simp)
theorem comp4 (l0 : List Int) (l1 : List S78) (L : List Int) (x11 : List S27) (r : Int) (ns : List Int) (ho : EndsOk l0.length l1) (hn : l1.length < 1000000) (hL : L.length = l0.length) (h11 : x11.length < 1000000) : ∀ (d k i : Nat), i + d = l1.length → d < k →
    scarfjointref05_Components.l4 k L x11 r i l0 l1 ns (egsUpto l1 L r i) = scarfjointref05_Components.l2 (k - d - 1) L (x11 ++ [⟨ns, egsUpto l1 L r l1.length⟩]) (wrap64 (r + 1)) l0 l1 := by
  intro d
  induction d with
  | zero =>
    intro k i hi hk
    obtain ⟨k, rfl⟩ : ∃ m, k = m + 1 := ⟨k - 1, by omega⟩
    rw [scarfjointref05_Components.l4, if_neg (by omega), if_pos (by omega), show i = l1.length by omega]
    rfl
  | succ d ih =>
    intro k i hi hk
    obtain ⟨k, rfl⟩ : ∃ m, k = m + 1 := ⟨k - 1, by omega⟩
    have hlt : i < l1.length := by omega
    obtain ⟨o1, o2, o3, o4⟩ := ho l1[i] (List.getElem_mem hlt)
    have hl := egsUpto_len l1 L r i
    have ih' := ih k (i + 1) (by omega) (by omega)
    rw [egsUpto_succ] at ih'
    rw [rdT_get l1 i hlt] at ih'
    rw [show k + 1 - (d + 1) - 1 = k - d - 1 by omega, scarfjointref05_Components.l4, if_pos (by omega), if_pos (by omega), rdT_get l1 i hlt, if_pos o1, if_pos (by omega), succ_ok i (by omega)]
    by_cases h : rd L l1[i].f1 = r
    · rw [if_pos h] at ih' ⊢
      rw [if_pos (by omega)]
      exact ih'
    · rw [if_neg h] at ih' ⊢
      rw [List.append_nil] at ih'
      exact ih'
theorem comp3 (l0 : List Int) (l1 : List S78) (L : List Int) (x11 : List S27) (r : Int) (ho : EndsOk l0.length l1) (hn : l1.length < 1000000) (hn0 : l0.length < 1000000) (hL : L.length = l0.length) (h11 : x11.length < 1000000) : ∀ (d k i : Nat), i + d = l0.length → d + l1.length + 1 < k →
    scarfjointref05_Components.l3 k L x11 r i l0 l1 (ndsUpto L r i) = scarfjointref05_Components.l2 (k - d - l1.length - 2) L (x11 ++ [compP l0 l1 L r]) (wrap64 (r + 1)) l0 l1 := by
  intro d
  induction d with
  | zero =>
    intro k i hi hk
    obtain ⟨k, rfl⟩ : ∃ m, k = m + 1 := ⟨k - 1, by omega⟩
    have h4 := comp4 l0 l1 L x11 r (ndsUpto L r i) ho hn hL h11 l1.length k 0 (by omega) (by omega)
    rw [scarfjointref05_Components.l3, if_neg (by omega)]
    rw [show ((0 : Nat) : Int) = 0 from rfl, show egsUpto l1 L r 0 = [] from rfl] at h4
    rw [h4, show i = l0.length by omega, compP]
    congr 1
    omega
  | succ d ih =>
    intro k i hi hk
    obtain ⟨k, rfl⟩ : ∃ m, k = m + 1 := ⟨k - 1, by omega⟩
    have hl := ndsUpto_len L r i
    have ih' := ih k (i + 1) (by omega) (by omega)
    rw [ndsUpto_succ] at ih'
    rw [show k + 1 - (d + 1) - l1.length - 2 = k - d - l1.length - 2 by omega, scarfjointref05_Components.l3, if_pos (by omega), if_pos (by omega), if_pos (by omega), succ_ok i (by omega)]
    by_cases h : rd L (i : Int) = r
    · rw [if_pos h] at ih' ⊢
      rw [if_pos (by omega)]
      exact ih'
    · rw [if_neg h] at ih' ⊢
      rw [List.append_nil] at ih'
      exact ih'
theorem comp2 (l0 : List Int) (l1 : List S78) (L : List Int) (ho : EndsOk l0.length l1) (hn : l1.length < 1000000) (hn0 : l0.length < 1000000) (hL : L.length = l0.length) : ∀ (d k i : Nat), i + d = l0.length → d * (l0.length + l1.length + 3) < k →
    scarfjointref05_Components.l2 k L (compsUpto l0 l1 L i) i l0 l1 = some (compsUpto l0 l1 L l0.length, 0) := by
  intro d
  induction d with
  | zero =>
    intro k i hi hk
    obtain ⟨k, rfl⟩ : ∃ m, k = m + 1 := ⟨k - 1, by omega⟩
    rw [scarfjointref05_Components.l2, if_neg (by omega), show i = l0.length by omega]
  | succ d ih =>
    intro k i hi hk
    have e : (d + 1) * (l0.length + l1.length + 3) = d * (l0.length + l1.length + 3) + l0.length + l1.length + 3 := by rw [Nat.add_mul]; omega
    obtain ⟨k, rfl⟩ : ∃ m, k = m + 1 := ⟨k - 1, by omega⟩
    have hl := compsUpto_len l0 l1 L i
    rw [scarfjointref05_Components.l2, if_pos (by omega), if_pos (by omega), if_pos (by omega)]
    by_cases h : rd L (i : Int) = (i : Int)
    · have ih' := ih (k - l0.length - l1.length - 2) (i + 1) (by omega) (by omega)
      rw [compsUpto_succ, if_pos h] at ih'
      have h3 := comp3 l0 l1 L (compsUpto l0 l1 L i) i ho hn hn0 hL (by omega) l0.length k 0 (by omega) (by omega)
      rw [show ((0 : Nat) : Int) = 0 from rfl, show ndsUpto L i 0 = [] from rfl] at h3
      rw [if_pos h, h3, succ_ok i (by omega)]
      exact ih'
    · have ih' := ih k (i + 1) (by omega) (by omega)
      rw [compsUpto_succ, if_neg h, List.append_nil] at ih'
      rw [if_neg h, succ_ok i (by omega)]
      exact ih'
theorem ends_ok {l0 : List Int} {l1 : List S78} (h : validB l0 l1 = 0) : EndsOk l0.length l1 := by
  intro e he
  obtain ⟨j, hj, rfl⟩ := List.getElem_of_mem he
  exact fits_of h j hj
/-- The components that the code finds, told by good labels. -/
theorem comps_ok (l0 : List Int) (l1 : List S78) (hv : validB l0 l1 = 0) (k : Nat) (hk : 10000 < k) : ∃ L, Good l0.length l1 L ∧ scarfjointref05_Components.f k l0 l1 = some (compsUpto l0 l1 L l0.length, 0) := by
  obtain ⟨q0, q1⟩ := validB_sizes l0 l1 hv
  have ho := ends_ok hv
  have e1 : l0.length * (l1.length + 2) ≤ 40 * 82 := Nat.mul_le_mul q0 (by omega)
  have e2 : l0.length * (l0.length + l1.length + 3) ≤ 40 * 123 := Nat.mul_le_mul q0 (by omega)
  have hi : InvL l0.length l1 (numsL l0.length) := ⟨numsL_len _, fun v h0 h1 => by
    rw [rd_nums _ v h0 h1]
    exact ⟨h0, Int.le_refl _, conn_refl _ _⟩⟩
  refine ⟨iterL l1 l0.length (numsL l0.length), iter_good ho hi, ?_⟩
  unfold scarfjointref05_Components.f
  rw [rvalid_ok l0 l1 k (by omega) (by omega) (by omega), Option.bind_some, hv, if_pos rfl, nums_ok _ (by omega) k (by omega), Option.bind_some]
  have h0 := comp0 l0 l1 ho (by omega) (by omega) l0.length k 0 (numsL l0.length) (by omega) (by omega) (numsL_len _)
  rw [show ((0 : Nat) : Int) = 0 from rfl] at h0
  rw [h0]
  exact comp2 l0 l1 _ ho (by omega) (by omega) (by rw [iterL_len, numsL_len]) l0.length _ 0 (by omega) (by omega)
/-- The numbers below i in both lists. -/
def bothUpto (a b : List Int) (i : Nat) : List Int := ((List.range i).filter fun (j : Nat) => decide ((j : Int) ∈ a ∧ (j : Int) ∈ b)).map fun (j : Nat) => (j : Int)
theorem bothUpto_succ (a b : List Int) (i : Nat) : bothUpto a b (i + 1) = bothUpto a b i ++ (if (i : Int) ∈ a ∧ (i : Int) ∈ b then [(i : Int)] else []) := by
  unfold bothUpto
  rw [List.range_succ, List.filter_append, List.map_append]
  by_cases h : (i : Int) ∈ a ∧ (i : Int) ∈ b <;> simp [h]
theorem bothUpto_len (a b : List Int) (i : Nat) : (bothUpto a b i).length ≤ i := by
  unfold bothUpto
  rw [List.length_map]
  exact Nat.le_trans (List.length_filter_le _ _) (by simp)
theorem merged_l (n : Nat) (a b : List Int) (hn : n < 1000000) (ha : a.length < 1000000) (hb : b.length < 1000000) : ∀ (d k i : Nat), i + d = n → 2 * d + a.length + b.length + 1 < k → scarfjointref07_merged.l0 k n a b true (bothUpto a b i) i = some (bothUpto a b n) := by
  intro d
  induction d with
  | zero =>
    intro k i hi hk
    obtain ⟨k, rfl⟩ : ∃ m, k = m + 1 := ⟨k - 1, by omega⟩
    rw [scarfjointref07_merged.l0, if_neg (by omega), show i = n by omega]
  | succ d ih =>
    intro k i hi hk
    obtain ⟨k, rfl⟩ : ∃ m, k = m + 1 + 1 := ⟨k - 2, by omega⟩
    have hl := bothUpto_len a b i
    have ih' := ih k (i + 1) (by omega) (by omega)
    rw [bothUpto_succ] at ih'
    rw [scarfjointref07_merged.l0, if_pos (by omega), rhas_ok a i (k + 1) (by omega) (by omega), Option.bind_some, rhas_ok b i (k + 1) (by omega) (by omega), Option.bind_some]
    by_cases h1 : (i : Int) ∈ a
    · by_cases h2 : (i : Int) ∈ b
      · rw [if_pos ⟨h1, h2⟩] at ih'
        rw [if_pos (decide_eq_true h1), if_pos (decide_eq_true h2), scarfjointref07_merged.j1, if_pos rfl, if_pos (by omega), succ_ok i (by omega)]
        exact ih'
      · rw [if_neg (by simp [h2]), List.append_nil] at ih'
        rw [if_pos (decide_eq_true h1), if_neg (by simp [h2]), if_pos rfl, scarfjointref07_merged.j1, if_neg (by simp), succ_ok i (by omega)]
        exact ih'
    · rw [if_neg (by simp [h1]), List.append_nil] at ih'
      rw [if_neg (by simp [h1]), if_pos rfl, scarfjointref07_merged.j1, if_neg (by simp), succ_ok i (by omega)]
      exact ih'
theorem merged_ok (n : Nat) (a b : List Int) (hn : n < 1000000) (ha : a.length < 1000000) (hb : b.length < 1000000) (k : Nat) (hk : 2 * n + a.length + b.length + 1 < k) : scarfjointref07_merged.f k n a b true = some (bothUpto a b n) :=
  merged_l n a b hn ha hb n k 0 (by omega) hk
theorem meet_ok (l0 : List Int) (l1 : List S78) (ns es ms fs : List Int) (hv : validB l0 l1 = 0) (h1 : partE l0 l1 ns es = 0) (h2 : partE l0 l1 ms fs = 0) (b1 : ns.length ≤ 100) (b2 : es.length ≤ 100) (b3 : ms.length ≤ 100) (b4 : fs.length ≤ 100) (k : Nat) (hk : 1000 < k) :
    scarfjointref07_Meet.f k l0 l1 ns es ms fs = some (bothUpto ns ms l0.length, bothUpto es fs l1.length, 0) := by
  obtain ⟨q0, q1⟩ := validB_sizes l0 l1 hv
  unfold scarfjointref07_Meet.f scarfjointref07_combined.f scarfjointref07_both.f scarfjointref07_Valid.f
  rw [rvalid_ok l0 l1 k (by omega) (by omega) (by omega), Option.bind_some, hv, if_pos rfl, rright_ok l0 l1 ns es (by omega) (by omega) k (by omega), Option.bind_some, h1, Option.bind_some, if_pos rfl,
    rright_ok l0 l1 ms fs (by omega) (by omega) k (by omega), Option.bind_some, h2, Option.bind_some, if_pos rfl, merged_ok _ _ _ (by omega) (by omega) (by omega) k (by omega), Option.bind_some,
    merged_ok _ _ _ (by omega) (by omega) (by omega) k (by omega), Option.bind_some, Option.bind_some]
end Go.Proofs.Ytonipihlpbaknaa.Print
namespace Go.Proofs.Ytonipihlpbaknaa.Print
open Go.RowKit Go.Proofs.YtonipihlpbaknaaW.PrintWords Go.Proofs.YtonipihlpbaknaaW.PrintLast Go.Proofs.YtonipihlpbaknaaW.PrintMore
attribute [local go_sem] max2_int min2_int max_two min_two max_three min_three max_four min_four   -- for this text's walks alone
set_option linter.unusedVariables false
set_option linter.unusedSimpArgs false
mutual
def scarfjointlaw07_SubgraphBoundary.j0 : Nat → Int → Bool → List Int → List (S78) → Option (Bool)
  | 0, _, _, _, _ => none
  | k + 1, x1, x26, x102000, x102001 => if x26 = true then ((scarfjointlaw07_awake.f).bind fun t105 => (some t105)) else ((scarfjointref07_Made.f k x102000 x102001 x1).bind fun bt106 => ((subgraph_Boundary.f k x102000 x102001 bt106.1 bt106.2).bind fun bt113 => ((scarfjointref05_Components.f k x102000 x102001).bind fun bt117 => (if bt113.2 = 0 then (scarfjointlaw07_SubgraphBoundary.j1 k bt113.1 bt117.1 (bt117.2 != 0) x102000 x102001 bt106.1 bt106.2) else (scarfjointlaw07_SubgraphBoundary.j1 k bt113.1 bt117.1 true x102000 x102001 bt106.1 bt106.2)))))
def scarfjointlaw07_SubgraphBoundary.j1 : Nat → List Int → List (S27) → Bool → List Int → List (S78) → List Int → List Int → Option (Bool)
  | 0, _, _, _, _, _, _, _ => none
  | k + 1, x6, x8, x47, x102000, x102001, x113000, x113001 => if x47 = true then (some false) else (scarfjointlaw07_SubgraphBoundary.l0 k x6 true x8 (x8.length : Int) 0 x102000 x102001 x113000 x113001)
def scarfjointlaw07_SubgraphBoundary.l0 : Nat → List Int → Bool → List (S27) → Int → Int → List Int → List (S78) → List Int → List Int → Option (Bool)
  | 0, _, _, _, _, _, _, _, _, _ => none
  | k + 1, x6, x10, x48, x49, x50, x102000, x102001, x113000, x113001 => if x50 < x49 then (if 0 ≤ x50 then (if x50 < (x48.length : Int) then ((scarfjointref07_Meet.f k x102000 x102001 ((rd_T27 x48 x50).f0) ((rd_T27 x48 x50).f1) x113000 x113001).bind fun bt123 => (if bt123.2.2 = 0 then (if (bt123.1.length : Int) > 0 then ((scarfjointref07_In.f k ((rd_T27 x48 x50).f0) ((rd_T27 x48 x50).f1) x113000 x113001).bind fun t131 => (scarfjointlaw07_SubgraphBoundary.j3 k x6 x10 x48 x49 x50 (!t131) x102000 x102001 x113000 x113001)) else (scarfjointlaw07_SubgraphBoundary.j3 k x6 x10 x48 x49 x50 false x102000 x102001 x113000 x113001)) else (scarfjointlaw07_SubgraphBoundary.j3 k x6 x10 x48 x49 x50 false x102000 x102001 x113000 x113001))) else (none)) else (none)) else (some (x10 == ((x6.length : Int) == 0)))
def scarfjointlaw07_SubgraphBoundary.j3 : Nat → List Int → Bool → List (S27) → Int → Int → Bool → List Int → List (S78) → List Int → List Int → Option (Bool)
  | 0, _, _, _, _, _, _, _, _, _, _ => none
  | k + 1, x6, x10, x48, x49, x50, x74, x102000, x102001, x113000, x113001 => if x74 = true then (scarfjointlaw07_SubgraphBoundary.l0 k x6 false x48 x49 (wrap64 (x50 + 1)) x102000 x102001 x113000 x113001) else (scarfjointlaw07_SubgraphBoundary.l0 k x6 x10 x48 x49 (wrap64 (x50 + 1)) x102000 x102001 x113000 x113001)
end
def scarfjointlaw07_SubgraphBoundary.f (k : Nat) (l0_0 : List Int) (l0_1 : List (S78)) (a1 : Int) : Option (Bool) := (scarfjointlaw07_awake.f).bind fun t102 => (if t102 = true then ((scarfjointlaw07_small.f l0_0 l0_1 ([] : List (S27))).bind fun t103 => (if t103 = true then ((scarfjointref05_Valid.f k l0_0 l0_1).bind fun t104 => (scarfjointlaw07_SubgraphBoundary.j0 k a1 (t104 != 0) l0_0 l0_1)) else (scarfjointlaw07_SubgraphBoundary.j0 k a1 true l0_0 l0_1))) else (scarfjointlaw07_SubgraphBoundary.j0 k a1 true l0_0 l0_1))
set_option maxHeartbeats 8000000 in
set_option maxRecDepth 100000 in
theorem scarfjointlaw07_SubgraphBoundary.calls (k : Nat) (A0_0 : Option Addr) (c0_0 : Nat) (l0_0 : List Int) (A0_1 : Option Addr) (c0_1 : Nat) (l0_1 : List (S78)) (a1 : Int) (r : Bool) (w : World) (hr0_0 : Kd.C (Kd.int .i64) w A0_0 l0_0.length l0_0) (hc0_0 : l0_0.length ≤ c0_0) (hr0_1 : Kd.C k78 w A0_1 l0_1.length l0_1) (hc0_1 : l0_1.length ≤ c0_1) (h : scarfjointlaw07_SubgraphBoundary.f k l0_0 l0_1 a1 = some r) :
    Calls Try.prog 4 #[.agg #[.slice A0_0 l0_0.length c0_0, .slice A0_1 l0_1.length c0_1], .int .u64 a1] w fun e w' => e = .returned (.bool r) ∧ Below w.heap.size w w' := by
  have hu25 := Try.underlying25
  have hu27 := Try.underlying27
  have HR0_0 := Aside0.mk hr0_0
  have HC0_0 := Aside0.mk hc0_0
  clear hr0_0 hc0_0
  have HR0_1 := Aside0.mk hr0_1
  have HC0_1 := Aside0.mk hc0_1
  clear hr0_1 hc0_1
  have HB := Aside0.mk (Below.refl w.heap.size w)
  have H : ((scarfjointlaw07_awake.f).bind fun t102 => (if t102 = true then ((scarfjointlaw07_small.f l0_0 l0_1 ([] : List (S27))).bind fun t103 => (if t103 = true then ((scarfjointref05_Valid.f k l0_0 l0_1).bind fun t104 => (scarfjointlaw07_SubgraphBoundary.j0 k a1 (t104 != 0) l0_0 l0_1)) else (scarfjointlaw07_SubgraphBoundary.j0 k a1 true l0_0 l0_1))) else (scarfjointlaw07_SubgraphBoundary.j0 k a1 true l0_0 l0_1))) = some r := h
  clear h
  have HC3 := Aside0.mk H
  clear H
  go_enter Try.func4, Try.ntmps4
  go_upto_region 1 with (first | ((with_reducible refine gate_dst (N := 2) rfl ?_); (try (refine gate_guard (by rfl) ?_; dsimp only)); refine box_event ?hg (N := 2) ?hd (cs := #[.slice A0_0 l0_0.length c0_0, .slice A0_1 l0_1.length c0_1]) (t := 25) ?hr ?_; (case hd => rfl); (case hg => rfl); (case hr => first | (go_simp; done) | (go_simp; rfl)); intro gb101 hg w4 hbox hb; have n0_ := Aside0.mk (below_step (by repeat (first | (with_reducible first | exact HB.out | apply below_alloc | apply pw_below_drewN | apply below_drew1) | exact HB.out)) hb); have n1_ := Aside0.mk (hbox); have n2_ := Aside0.mk ((by rw [hg]; exact (below_size (by repeat (first | (with_reducible first | exact HB.out | apply below_alloc | apply pw_below_drewN | apply below_drew1) | exact HB.out))) : w.heap.size ≤ gb101)); have n3_ := Aside0.mk ((by rw [hg]; exact (below_size (by repeat (first | (with_reducible first | exact HB.out | apply below_alloc | apply pw_below_drewN | apply below_drew1) | exact HB.out))) : w.heap.size ≤ gb101)); clear HB; have HB := n0_; have BK101 := n1_; have GW101 := n2_; have GE101 := n3_; clear n0_ n1_ n2_ n3_; clear hb hbox hg))
  (try simp only [Act.put, List.setIfInBounds_toArray, List.set_cons_zero, List.set_cons_succ])
  go_cut [26] (fun v26 wc => ∃ (kq : Nat) (x26_2 : Bool), v26 = .bool x26_2 ∧ Aside0 (scarfjointlaw07_SubgraphBoundary.j0 kq a1 x26_2 l0_0 l0_1 = some r) ∧ Aside0 (kq ≤ k) ∧ Aside0 (wc.heap[gb101]? = some (.cells #[(.slice A0_0 l0_0.length c0_0), (.slice A0_1 l0_1.length c0_1)] 25 (0, 0))) ∧ Aside0 (Below w.heap.size w wc))
  case first =>
    have H := HC3.out
    clear HC3
    replace H := Option.bind_eq_some_iff.mp H
    obtain ⟨t102, A50, H⟩ := H
    replace H : (if t102 = true then ((scarfjointlaw07_small.f l0_0 l0_1 ([] : List (S27))).bind fun t103 => (if t103 = true then ((scarfjointref05_Valid.f k l0_0 l0_1).bind fun t104 => (scarfjointlaw07_SubgraphBoundary.j0 k a1 (t104 != 0) l0_0 l0_1)) else (scarfjointlaw07_SubgraphBoundary.j0 k a1 true l0_0 l0_1))) else (scarfjointlaw07_SubgraphBoundary.j0 k a1 true l0_0 l0_1)) = some r := H
    have A5 := Aside0.mk A50
    clear A50
    by_cases c6 : t102 = true
    · subst c6
      have H1 : ((scarfjointlaw07_small.f l0_0 l0_1 ([] : List (S27))).bind fun t103 => (if t103 = true then ((scarfjointref05_Valid.f k l0_0 l0_1).bind fun t104 => (scarfjointlaw07_SubgraphBoundary.j0 k a1 (t104 != 0) l0_0 l0_1)) else (scarfjointlaw07_SubgraphBoundary.j0 k a1 true l0_0 l0_1))) = some r := by rw [if_pos rfl] at H; exact H
      clear H
      have H := H1
      clear H1
      replace H := Option.bind_eq_some_iff.mp H
      obtain ⟨t103, A70, H⟩ := H
      replace H : (if t103 = true then ((scarfjointref05_Valid.f k l0_0 l0_1).bind fun t104 => (scarfjointlaw07_SubgraphBoundary.j0 k a1 (t104 != 0) l0_0 l0_1)) else (scarfjointlaw07_SubgraphBoundary.j0 k a1 true l0_0 l0_1)) = some r := H
      have A7 := Aside0.mk A70
      clear A70
      by_cases c8 : t103 = true
      · subst c8
        have H1 : ((scarfjointref05_Valid.f k l0_0 l0_1).bind fun t104 => (scarfjointlaw07_SubgraphBoundary.j0 k a1 (t104 != 0) l0_0 l0_1)) = some r := by rw [if_pos rfl] at H; exact H
        clear H
        have H := H1
        clear H1
        replace H := Option.bind_eq_some_iff.mp H
        obtain ⟨t104, A90, H⟩ := H
        replace H : (scarfjointlaw07_SubgraphBoundary.j0 k a1 (t104 != 0) l0_0 l0_1) = some r := H
        have A9 := Aside0.mk A90
        clear A90
        have H' := Aside0.mk H
        clear H
        go_wp2_with (first | ((with_reducible refine gate_callee (f := 11) rfl ?_); refine goesL_ (some 15) rfl rfl Try.func11 (by kernel_rfl) rfl #[] rfl (by (try simp only [List.map_toArray, List.map_cons, List.map_nil]); first | done | rfl | (simp only [List.length_drop, List.length_take]; rfl)) ?_; (with_reducible refine (scarfjointlaw07_awake.calls  true _ A5.out).mono ?_); rintro e w10 ⟨rfl, hb⟩; refine ⟨_, rfl, ?_⟩; have n0_ := Aside0.mk (blk_below (g := gb101) (o := .cells #[.slice A0_0 l0_0.length c0_0, .slice A0_1 l0_1.length c0_1] 25 (0, 0)) (by (with_reducible repeat (first | refine blk_drewN ?_ _ | refine blk_drew ?_ | refine blk_alloc ?_ _)); exact BK101.out) hb); have n1_ := Aside0.mk (below_step (by repeat (first | (with_reducible first | exact HB.out | apply below_alloc | apply pw_below_drewN | apply below_drew1 | refine below_set ?_ GE101.out) | exact HB.out)) hb); clear BK101; clear HB; have BK101 := n0_; have HB := n1_; clear n0_ n1_; (try clear hb); (try clear hb2); (try clear hk); (try clear hi); have hcz11_0 : w10.cell? ⟨gb101, 0, none⟩ = some (.slice A0_0 l0_0.length c0_0) := (blk_cell BK101.out 0).trans rfl; have hcz11_1 : w10.cell? ⟨gb101, 1, none⟩ = some (.slice A0_1 l0_1.length c0_1) := (blk_cell BK101.out 1).trans rfl; have hfz11_0 := blk_frozen BK101.out 0; have hfz11_1 := blk_frozen BK101.out 1) | (go_at_call 12; (refine (scarfjointlaw07_small.calls _ _ l0_0 _ _ l0_1 _ _ ([] : List (S27)) true _ ?side1 ?side2 ?side3 ?side4 ?side5 ?side6 A7.out).mono ?_); (case side1 => repeat (first | exact (Kd.C_below HR0_0.out HB.out) | (with_reducible refine Kd.C_alloc ?_ _) | (with_reducible refine Kd.C_drewN ?_ _) | (with_reducible refine Kd.C_drew ?_))); (case side2 => exact HC0_0.out); (case side3 => repeat (first | exact (Kd.C_below HR0_1.out HB.out) | (with_reducible refine Kd.C_alloc ?_ _) | (with_reducible refine Kd.C_drewN ?_ _) | (with_reducible refine Kd.C_drew ?_))); (case side4 => exact HC0_1.out); (case side5 => exact Kd.C_nil _ _); (case side6 => exact Nat.le_refl _); rintro e w12 ⟨rfl, hb⟩; have n0_ := Aside0.mk (blk_below (g := gb101) (o := .cells #[.slice A0_0 l0_0.length c0_0, .slice A0_1 l0_1.length c0_1] 25 (0, 0)) (by (with_reducible repeat (first | refine blk_drewN ?_ _ | refine blk_drew ?_ | refine blk_alloc ?_ _)); exact BK101.out) hb); have n1_ := Aside0.mk (below_step (by repeat (first | (with_reducible first | exact HB.out | apply below_alloc | apply pw_below_drewN | apply below_drew1 | refine below_set ?_ GE101.out) | exact HB.out)) hb); clear BK101; clear HB; have BK101 := n0_; have HB := n1_; clear n0_ n1_; (try clear hb); (try clear hb2); (try clear hk); (try clear hi); have hcz13_0 : w12.cell? ⟨gb101, 0, none⟩ = some (.slice A0_0 l0_0.length c0_0) := (blk_cell BK101.out 0).trans rfl; have hcz13_1 : w12.cell? ⟨gb101, 1, none⟩ = some (.slice A0_1 l0_1.length c0_1) := (blk_cell BK101.out 1).trans rfl; have hfz13_0 := blk_frozen BK101.out 0; have hfz13_1 := blk_frozen BK101.out 1) | (go_at_call 20; (with_reducible refine (scarfjointref05_Valid.calls k _ _ l0_0 _ _ l0_1 t104 _ ?side1 ?side2 ?side3 ?side4 A9.out).mono ?_); (case side1 => repeat (first | exact (Kd.C_below HR0_0.out HB.out) | (with_reducible refine Kd.C_alloc ?_ _) | (with_reducible refine Kd.C_drewN ?_ _) | (with_reducible refine Kd.C_drew ?_))); (case side2 => exact HC0_0.out); (case side3 => repeat (first | exact (Kd.C_below HR0_1.out HB.out) | (with_reducible refine Kd.C_alloc ?_ _) | (with_reducible refine Kd.C_drewN ?_ _) | (with_reducible refine Kd.C_drew ?_))); (case side4 => exact HC0_1.out); rintro e w14 ⟨rfl, hb⟩; have n0_ := Aside0.mk (blk_below (g := gb101) (o := .cells #[.slice A0_0 l0_0.length c0_0, .slice A0_1 l0_1.length c0_1] 25 (0, 0)) (by (with_reducible repeat (first | refine blk_drewN ?_ _ | refine blk_drew ?_ | refine blk_alloc ?_ _)); exact BK101.out) hb); have n1_ := Aside0.mk (below_step (by repeat (first | (with_reducible first | exact HB.out | apply below_alloc | apply pw_below_drewN | apply below_drew1 | refine below_set ?_ GE101.out) | exact HB.out)) hb); clear BK101; clear HB; have BK101 := n0_; have HB := n1_; clear n0_ n1_; (try clear hb); (try clear hb2); (try clear hk); (try clear hi)))
        go_meet
        case rel => exact ⟨_, ((t104 != 0)), (by first | rfl | (simp; done) | (simp [*]; done)), H', ⟨by first | omega | exact Nat.le_refl _⟩, ⟨by (with_reducible repeat (first | refine blk_drewN ?_ _ | refine blk_drew ?_ | refine blk_alloc ?_ _)); exact BK101.out⟩, ⟨by repeat (first | (with_reducible first | exact HB.out | apply below_alloc | apply pw_below_drewN | apply below_drew1 | refine below_set ?_ GE101.out) | exact HB.out)⟩⟩
      · replace c8 := Bool.eq_false_iff.mpr c8
        subst c8
        have H1 : (scarfjointlaw07_SubgraphBoundary.j0 k a1 true l0_0 l0_1) = some r := by rw [if_neg (show ¬ (false = true) by decide)] at H; exact H
        clear H
        have H := H1
        clear H1
        have H' := Aside0.mk H
        clear H
        go_wp2_with (first | ((with_reducible refine gate_callee (f := 11) rfl ?_); refine goesL_ (some 15) rfl rfl Try.func11 (by kernel_rfl) rfl #[] rfl (by (try simp only [List.map_toArray, List.map_cons, List.map_nil]); first | done | rfl | (simp only [List.length_drop, List.length_take]; rfl)) ?_; (with_reducible refine (scarfjointlaw07_awake.calls  true _ A5.out).mono ?_); rintro e w15 ⟨rfl, hb⟩; refine ⟨_, rfl, ?_⟩; have n0_ := Aside0.mk (blk_below (g := gb101) (o := .cells #[.slice A0_0 l0_0.length c0_0, .slice A0_1 l0_1.length c0_1] 25 (0, 0)) (by (with_reducible repeat (first | refine blk_drewN ?_ _ | refine blk_drew ?_ | refine blk_alloc ?_ _)); exact BK101.out) hb); have n1_ := Aside0.mk (below_step (by repeat (first | (with_reducible first | exact HB.out | apply below_alloc | apply pw_below_drewN | apply below_drew1 | refine below_set ?_ GE101.out) | exact HB.out)) hb); clear BK101; clear HB; have BK101 := n0_; have HB := n1_; clear n0_ n1_; (try clear hb); (try clear hb2); (try clear hk); (try clear hi); have hcz16_0 : w15.cell? ⟨gb101, 0, none⟩ = some (.slice A0_0 l0_0.length c0_0) := (blk_cell BK101.out 0).trans rfl; have hcz16_1 : w15.cell? ⟨gb101, 1, none⟩ = some (.slice A0_1 l0_1.length c0_1) := (blk_cell BK101.out 1).trans rfl; have hfz16_0 := blk_frozen BK101.out 0; have hfz16_1 := blk_frozen BK101.out 1) | (go_at_call 12; (refine (scarfjointlaw07_small.calls _ _ l0_0 _ _ l0_1 _ _ ([] : List (S27)) false _ ?side1 ?side2 ?side3 ?side4 ?side5 ?side6 A7.out).mono ?_); (case side1 => repeat (first | exact (Kd.C_below HR0_0.out HB.out) | (with_reducible refine Kd.C_alloc ?_ _) | (with_reducible refine Kd.C_drewN ?_ _) | (with_reducible refine Kd.C_drew ?_))); (case side2 => exact HC0_0.out); (case side3 => repeat (first | exact (Kd.C_below HR0_1.out HB.out) | (with_reducible refine Kd.C_alloc ?_ _) | (with_reducible refine Kd.C_drewN ?_ _) | (with_reducible refine Kd.C_drew ?_))); (case side4 => exact HC0_1.out); (case side5 => exact Kd.C_nil _ _); (case side6 => exact Nat.le_refl _); rintro e w17 ⟨rfl, hb⟩; have n0_ := Aside0.mk (blk_below (g := gb101) (o := .cells #[.slice A0_0 l0_0.length c0_0, .slice A0_1 l0_1.length c0_1] 25 (0, 0)) (by (with_reducible repeat (first | refine blk_drewN ?_ _ | refine blk_drew ?_ | refine blk_alloc ?_ _)); exact BK101.out) hb); have n1_ := Aside0.mk (below_step (by repeat (first | (with_reducible first | exact HB.out | apply below_alloc | apply pw_below_drewN | apply below_drew1 | refine below_set ?_ GE101.out) | exact HB.out)) hb); clear BK101; clear HB; have BK101 := n0_; have HB := n1_; clear n0_ n1_; (try clear hb); (try clear hb2); (try clear hk); (try clear hi)))
        go_meet
        case rel => exact ⟨_, (true), (by first | rfl | (simp; done) | (simp [*]; done)), H', ⟨by first | omega | exact Nat.le_refl _⟩, ⟨by (with_reducible repeat (first | refine blk_drewN ?_ _ | refine blk_drew ?_ | refine blk_alloc ?_ _)); exact BK101.out⟩, ⟨by repeat (first | (with_reducible first | exact HB.out | apply below_alloc | apply pw_below_drewN | apply below_drew1 | refine below_set ?_ GE101.out) | exact HB.out)⟩⟩
    · replace c6 := Bool.eq_false_iff.mpr c6
      subst c6
      have H1 : (scarfjointlaw07_SubgraphBoundary.j0 k a1 true l0_0 l0_1) = some r := by rw [if_neg (show ¬ (false = true) by decide)] at H; exact H
      clear H
      have H := H1
      clear H1
      have H' := Aside0.mk H
      clear H
      go_wp2_with (first | ((with_reducible refine gate_callee (f := 11) rfl ?_); refine goesL_ (some 15) rfl rfl Try.func11 (by kernel_rfl) rfl #[] rfl (by (try simp only [List.map_toArray, List.map_cons, List.map_nil]); first | done | rfl | (simp only [List.length_drop, List.length_take]; rfl)) ?_; (with_reducible refine (scarfjointlaw07_awake.calls  false _ A5.out).mono ?_); rintro e w18 ⟨rfl, hb⟩; refine ⟨_, rfl, ?_⟩; have n0_ := Aside0.mk (blk_below (g := gb101) (o := .cells #[.slice A0_0 l0_0.length c0_0, .slice A0_1 l0_1.length c0_1] 25 (0, 0)) (by (with_reducible repeat (first | refine blk_drewN ?_ _ | refine blk_drew ?_ | refine blk_alloc ?_ _)); exact BK101.out) hb); have n1_ := Aside0.mk (below_step (by repeat (first | (with_reducible first | exact HB.out | apply below_alloc | apply pw_below_drewN | apply below_drew1 | refine below_set ?_ GE101.out) | exact HB.out)) hb); clear BK101; clear HB; have BK101 := n0_; have HB := n1_; clear n0_ n1_; (try clear hb); (try clear hb2); (try clear hk); (try clear hi)))
      go_meet
      case rel => exact ⟨_, (true), (by first | rfl | (simp; done) | (simp [*]; done)), H', ⟨by first | omega | exact Nat.le_refl _⟩, ⟨by (with_reducible repeat (first | refine blk_drewN ?_ _ | refine blk_drew ?_ | refine blk_alloc ?_ _)); exact BK101.out⟩, ⟨by repeat (first | (with_reducible first | exact HB.out | apply below_alloc | apply pw_below_drewN | apply below_drew1 | refine below_set ?_ GE101.out) | exact HB.out)⟩⟩
  case rest =>
    clear HC3
    try clear c1
    try clear p2
    try clear c4
    try clear c6
    try clear c8
    try clear c11
    try clear hcz11_0
    try clear hcz11_1
    try clear hcz13_0
    try clear hcz13_1
    try clear hcz16_0
    try clear hcz16_1
    try clear hfz11_0
    try clear hfz11_1
    try clear hfz13_0
    try clear hfz13_1
    try clear hfz16_0
    try clear hfz16_1
    obtain ⟨kq, x26_2, rfl, HA, HJ2, BK101, HB⟩ := hcut
    cases kq with
    | zero => exact absurd HA.out (by simp [scarfjointlaw07_SubgraphBoundary.j0])
    | succ kj2 =>
      have H := HA.out
      clear HA
      simp only [scarfjointlaw07_SubgraphBoundary.j0] at H
      by_cases c19 : x26_2 = true
      · subst c19
        have H1 : ((scarfjointlaw07_awake.f).bind fun t105 => (some t105)) = some r := by rw [if_pos rfl] at H; exact H
        clear H
        have H := H1
        clear H1
        replace H := Option.bind_eq_some_iff.mp H
        obtain ⟨t105, A200, H⟩ := H
        replace H : (some t105) = some r := H
        have A20 := Aside0.mk A200
        clear A200
        obtain rfl := Option.some.inj H
        go_wp2_with (first | ((with_reducible refine gate_callee (f := 11) rfl ?_); refine goesL_ (some 27) rfl rfl Try.func11 (by kernel_rfl) rfl #[] rfl (by (try simp only [List.map_toArray, List.map_cons, List.map_nil]); first | done | rfl | (simp only [List.length_drop, List.length_take]; rfl)) ?_; (with_reducible refine (scarfjointlaw07_awake.calls  t105 _ A20.out).mono ?_); rintro e w21 ⟨rfl, hb⟩; refine ⟨_, rfl, ?_⟩; have n0_ := Aside0.mk (blk_below (g := gb101) (o := .cells #[.slice A0_0 l0_0.length c0_0, .slice A0_1 l0_1.length c0_1] 25 (0, 0)) (by (with_reducible repeat (first | refine blk_drewN ?_ _ | refine blk_drew ?_ | refine blk_alloc ?_ _)); exact BK101.out) hb); have n1_ := Aside0.mk (below_step (by repeat (first | (with_reducible first | exact HB.out | apply below_alloc | apply pw_below_drewN | apply below_drew1 | refine below_set ?_ GE101.out) | exact HB.out)) hb); clear BK101; clear HB; have BK101 := n0_; have HB := n1_; clear n0_ n1_; (try clear hb); (try clear hb2); (try clear hk); (try clear hi)))
        go_ret
        exact ⟨by first | rfl | (simp [errW_none, errW_some] <;> rfl) | (simp [*, errW_none, errW_some] <;> rfl), by repeat (first | (with_reducible first | exact HB.out | apply below_alloc | apply pw_below_drewN | apply below_drew1 | refine below_set ?_ GE101.out) | exact HB.out)⟩
      · replace c19 := Bool.eq_false_iff.mpr c19
        subst c19
        have H1 : ((scarfjointref07_Made.f kj2 l0_0 l0_1 a1).bind fun bt106 => ((subgraph_Boundary.f kj2 l0_0 l0_1 bt106.1 bt106.2).bind fun bt113 => ((scarfjointref05_Components.f kj2 l0_0 l0_1).bind fun bt117 => (if bt113.2 = 0 then (scarfjointlaw07_SubgraphBoundary.j1 kj2 bt113.1 bt117.1 (bt117.2 != 0) l0_0 l0_1 bt106.1 bt106.2) else (scarfjointlaw07_SubgraphBoundary.j1 kj2 bt113.1 bt117.1 true l0_0 l0_1 bt106.1 bt106.2))))) = some r := by rw [if_neg (show ¬ (false = true) by decide)] at H; exact H
        clear H
        have H := H1
        clear H1
        replace H := Option.bind_eq_some_iff.mp H
        obtain ⟨⟨t106, t109⟩, A220, H⟩ := H
        replace H : ((subgraph_Boundary.f kj2 l0_0 l0_1 t106 t109).bind fun bt113 => ((scarfjointref05_Components.f kj2 l0_0 l0_1).bind fun bt117 => (if bt113.2 = 0 then (scarfjointlaw07_SubgraphBoundary.j1 kj2 bt113.1 bt117.1 (bt117.2 != 0) l0_0 l0_1 t106 t109) else (scarfjointlaw07_SubgraphBoundary.j1 kj2 bt113.1 bt117.1 true l0_0 l0_1 t106 t109)))) = some r := H
        have A22 := Aside0.mk A220
        clear A220
        replace H := Option.bind_eq_some_iff.mp H
        obtain ⟨⟨t113, t116⟩, A230, H⟩ := H
        replace H : ((scarfjointref05_Components.f kj2 l0_0 l0_1).bind fun bt117 => (if t116 = 0 then (scarfjointlaw07_SubgraphBoundary.j1 kj2 t113 bt117.1 (bt117.2 != 0) l0_0 l0_1 t106 t109) else (scarfjointlaw07_SubgraphBoundary.j1 kj2 t113 bt117.1 true l0_0 l0_1 t106 t109))) = some r := H
        have A23 := Aside0.mk A230
        clear A230
        replace H := Option.bind_eq_some_iff.mp H
        obtain ⟨⟨t117, t120⟩, A240, H⟩ := H
        replace H : (if t116 = 0 then (scarfjointlaw07_SubgraphBoundary.j1 kj2 t113 t117 (t120 != 0) l0_0 l0_1 t106 t109) else (scarfjointlaw07_SubgraphBoundary.j1 kj2 t113 t117 true l0_0 l0_1 t106 t109)) = some r := H
        have A24 := Aside0.mk A240
        clear A240
        have HC25 := Aside0.mk H
        clear H
        have hcz26_0 : wc.cell? ⟨gb101, 0, none⟩ = some (.slice A0_0 l0_0.length c0_0) := (blk_cell BK101.out 0).trans rfl
        have hcz26_1 : wc.cell? ⟨gb101, 1, none⟩ = some (.slice A0_1 l0_1.length c0_1) := (blk_cell BK101.out 1).trans rfl
        have hfz26_0 := blk_frozen BK101.out 0
        have hfz26_1 := blk_frozen BK101.out 1
        go_upto_region 6 with (first | ((with_reducible refine gate_callee (f := 18) rfl ?_); refine goesL_ (some 30) rfl rfl Try.func18 (by kernel_rfl) rfl #[.agg #[.slice A0_0 l0_0.length c0_0, .slice A0_1 l0_1.length c0_1], .int .u64 a1] rfl (by (try simp only [List.map_toArray, List.map_cons, List.map_nil]); first | done | rfl | (simp only [List.length_drop, List.length_take]; rfl)) ?_; (with_reducible refine (scarfjointref07_Made.calls kj2 _ _ l0_0 _ _ l0_1 a1 t106 t109 _ ?side1 ?side2 ?side3 ?side4 A22.out).mono ?_); (case side1 => repeat (first | exact (Kd.C_below HR0_0.out HB.out) | (with_reducible refine Kd.C_alloc ?_ _) | (with_reducible refine Kd.C_drewN ?_ _) | (with_reducible refine Kd.C_drew ?_))); (case side2 => exact HC0_0.out); (case side3 => repeat (first | exact (Kd.C_below HR0_1.out HB.out) | (with_reducible refine Kd.C_alloc ?_ _) | (with_reducible refine Kd.C_drewN ?_ _) | (with_reducible refine Kd.C_drew ?_))); (case side4 => exact HC0_1.out); rintro e w27 ⟨v107, v110, rfl, ho0, ho1, hb⟩; refine ⟨_, rfl, ?_⟩; have n0_ := Aside0.mk (Kd.R_lower ho0 (below_size (by repeat (first | (with_reducible first | exact HB.out | apply below_alloc | apply pw_below_drewN | apply below_drew1 | refine below_set ?_ GE101.out) | exact HB.out)))); have n1_ := Aside0.mk (Kd.R_lower ho1 (below_size (by repeat (first | (with_reducible first | exact HB.out | apply below_alloc | apply pw_below_drewN | apply below_drew1 | refine below_set ?_ GE101.out) | exact HB.out)))); have n2_ := Aside0.mk (blk_below (g := gb101) (o := .cells #[.slice A0_0 l0_0.length c0_0, .slice A0_1 l0_1.length c0_1] 25 (0, 0)) (by (with_reducible repeat (first | refine blk_drewN ?_ _ | refine blk_drew ?_ | refine blk_alloc ?_ _)); exact BK101.out) hb); have n3_ := Aside0.mk (below_step (by repeat (first | (with_reducible first | exact HB.out | apply below_alloc | apply pw_below_drewN | apply below_drew1 | refine below_set ?_ GE101.out) | exact HB.out)) hb); clear BK101; clear HB; have HO108 := n0_; have HO111 := n1_; have BK101 := n2_; have HB := n3_; clear n0_ n1_ n2_ n3_; (try clear hb); (try clear hb2); (try clear hk); (try clear hi); (try clear ho0); (try clear ho1)) | ((with_reducible refine gate_dst (N := 5) rfl ?_); (try (refine gate_guard (by rfl) ?_; dsimp only)); refine box_event ?hg (N := 5) ?hd (cs := #[.slice none 0 0, .slice none 0 0]) (t := 27) ?hr ?_; (case hd => rfl); (case hg => rfl); (case hr => first | (go_simp; done) | (go_simp; rfl)); intro gb112 hg w28 hbox hb; have n0_ := Aside0.mk (Kd.R_below (by (with_reducible repeat (first | apply Kd.R_alloc | apply Kd.R_drewN | apply Kd.R_drew)); exact HO108.out) hb); have n1_ := Aside0.mk (Kd.R_below (by (with_reducible repeat (first | apply Kd.R_alloc | apply Kd.R_drewN | apply Kd.R_drew)); exact HO111.out) hb); have n2_ := Aside0.mk (blk_below (g := gb101) (o := .cells #[.slice A0_0 l0_0.length c0_0, .slice A0_1 l0_1.length c0_1] 25 (0, 0)) (by (with_reducible repeat (first | refine blk_drewN ?_ _ | refine blk_drew ?_ | refine blk_alloc ?_ _)); exact BK101.out) hb); have n3_ := Aside0.mk (below_step (by repeat (first | (with_reducible first | exact HB.out | apply below_alloc | apply pw_below_drewN | apply below_drew1 | refine below_set ?_ GE101.out) | exact HB.out)) hb); have n4_ := Aside0.mk (hbox); have n5_ := Aside0.mk ((by rw [hg]; exact (below_size (by repeat (first | (with_reducible first | exact HB.out | apply below_alloc | apply pw_below_drewN | apply below_drew1 | refine below_set ?_ GE101.out) | exact HB.out))) : w.heap.size ≤ gb112)); have n6_ := Aside0.mk ((by rw [hg]; exact (below_size (by repeat (first | (with_reducible first | exact HB.out | apply below_alloc | apply pw_below_drewN | apply below_drew1 | refine below_set ?_ GE101.out) | exact HB.out))) : w.heap.size ≤ gb112)); have n7_ := Aside0.mk ((by rw [hg]; exact Nat.ne_of_lt (blk_lt (g := gb101) (o := .cells #[.slice A0_0 l0_0.length c0_0, .slice A0_1 l0_1.length c0_1] 25 (0, 0)) (by (with_reducible repeat (first | refine blk_drewN ?_ _ | refine blk_drew ?_ | refine blk_alloc ?_ _)); exact BK101.out)) : gb101 ≠ gb112)); have n8_ := Aside0.mk ((by rw [hg]; exact Nat.ne_of_gt (blk_lt (g := gb101) (o := .cells #[.slice A0_0 l0_0.length c0_0, .slice A0_1 l0_1.length c0_1] 25 (0, 0)) (by (with_reducible repeat (first | refine blk_drewN ?_ _ | refine blk_drew ?_ | refine blk_alloc ?_ _)); exact BK101.out)) : gb112 ≠ gb101)); clear HO108; clear HO111; clear BK101; clear HB; have HO108 := n0_; have HO111 := n1_; have BK101 := n2_; have HB := n3_; have BK112 := n4_; have GW112 := n5_; have GE112 := n6_; have NB101_112 := n7_; have NB112_101 := n8_; clear n0_ n1_ n2_ n3_ n4_ n5_ n6_ n7_ n8_; clear hb hbox hg; obtain ⟨Ao29, co29, eo29⟩ := Kd.R_slice HO108.out; subst eo29; have hnb30 := NB112_101.out; have hnc30 := NB101_112.out; have hcz31_0 : w28.cell? ⟨gb112, 0, none⟩ = some (.slice none 0 0) := (blk_cell BK112.out 0).trans rfl; have hcz31_1 : w28.cell? ⟨gb112, 1, none⟩ = some (.slice none 0 0) := (blk_cell BK112.out 1).trans rfl; have hfz31_0 := blk_frozen BK112.out 0; have hfz31_1 := blk_frozen BK112.out 1; obtain ⟨Ao32, co32, eo32⟩ := Kd.R_slice HO111.out; subst eo32; have hcz33_0 : w28.cell? ⟨gb101, 0, none⟩ = some (.slice A0_0 l0_0.length c0_0) := (blk_cell BK101.out 0).trans rfl; have hcz33_1 : w28.cell? ⟨gb101, 1, none⟩ = some (.slice A0_1 l0_1.length c0_1) := (blk_cell BK101.out 1).trans rfl; have hfz33_0 := blk_frozen BK101.out 0; have hfz33_1 := blk_frozen BK101.out 1) | ((with_reducible refine gate_callee (f := 21) rfl ?_); refine goesL_ (some 34) rfl rfl Try.func21 (by kernel_rfl) rfl #[.agg #[.slice A0_0 l0_0.length c0_0, .slice A0_1 l0_1.length c0_1], .agg #[.slice Ao29 t106.length co29, .slice Ao32 t109.length co32]] rfl (by (try simp only [List.map_toArray, List.map_cons, List.map_nil]); first | done | rfl | (simp only [List.length_drop, List.length_take]; rfl)) ?_; (with_reducible refine (subgraph_Boundary.calls kj2 _ _ l0_0 _ _ l0_1 _ _ t106 _ _ t109 t113 t116 _ ?side1 ?side2 ?side3 ?side4 ?side5 ?side6 ?side7 ?side8 A23.out).mono ?_); (case side1 => exact Kd.C_below HR0_0.out (by repeat (first | (with_reducible first | exact HB.out | apply below_alloc | apply pw_below_drewN | apply below_drew1 | refine below_set ?_ GE101.out | refine below_set ?_ GE112.out) | exact HB.out))); (case side2 => exact HC0_0.out); (case side3 => exact Kd.C_below HR0_1.out (by repeat (first | (with_reducible first | exact HB.out | apply below_alloc | apply pw_below_drewN | apply below_drew1 | refine below_set ?_ GE101.out | refine below_set ?_ GE112.out) | exact HB.out))); (case side4 => exact HC0_1.out); (case side5 => refine (Kd.R_reads' (e := 3) (base := w.heap.size) (ok := fun k_ => some k_ ≠ (.slice Ao32 t109.length co32 : Value).ownBlock) (n := t106.length) (c := co29) ?_).2.2; exact (by (with_reducible repeat (first | apply Kd.R_alloc | apply Kd.R_drewN | apply Kd.R_drew)); exact (Kd.R_mono (Kd.R_far (p := ⟨gb112, 1, none⟩) (Kd.R_far (p := ⟨gb112, 0, none⟩) (Kd.R_types HO108.out BK112.out (by decide)) (fun _ hk => hk.2) (.slice Ao29 t106.length co29)) (fun _ hk => hk.2) (.slice Ao32 t109.length co32)) (fun _ h_ => h_.1)))); (case side6 => exact (Kd.R_reads' HO108.out).2.1); (case side7 => refine (Kd.R_reads' (e := 3) (base := w.heap.size) (ok := fun k_ => some k_ ≠ (.slice Ao29 t106.length co29 : Value).ownBlock) (n := t109.length) (c := co32) ?_).2.2; exact (by (with_reducible repeat (first | apply Kd.R_alloc | apply Kd.R_drewN | apply Kd.R_drew)); exact (Kd.R_mono (Kd.R_far (p := ⟨gb112, 1, none⟩) (Kd.R_far (p := ⟨gb112, 0, none⟩) (Kd.R_types HO111.out BK112.out (by decide)) (fun _ hk => hk.2) (.slice Ao29 t106.length co29)) (fun _ hk => hk.2) (.slice Ao32 t109.length co32)) (fun _ h_ => h_.1)))); (case side8 => exact (Kd.R_reads' HO111.out).2.1); rintro e w34 ⟨v114, rfl, ho0, hb⟩; refine ⟨_, rfl, ?_⟩; have n0_ := Aside0.mk (Kd.R_elder' (by (with_reducible repeat (first | apply Kd.R_alloc | apply Kd.R_drewN | apply Kd.R_drew)); exact (Kd.R_mono (Kd.R_far (p := ⟨gb112, 1, none⟩) (Kd.R_far (p := ⟨gb112, 0, none⟩) (Kd.R_types HO108.out BK112.out (by decide)) (fun _ hk => hk.2) (.slice Ao29 t106.length co29)) (fun _ hk => hk.2) (.slice Ao32 t109.length co32)) (fun _ h_ => h_.1))) (Kd.R_base ho0) hb); have n1_ := Aside0.mk (Kd.R_elder' (by (with_reducible repeat (first | apply Kd.R_alloc | apply Kd.R_drewN | apply Kd.R_drew)); exact (Kd.R_mono (Kd.R_far (p := ⟨gb112, 1, none⟩) (Kd.R_far (p := ⟨gb112, 0, none⟩) (Kd.R_types HO111.out BK112.out (by decide)) (fun _ hk => hk.2) (.slice Ao29 t106.length co29)) (fun _ hk => hk.2) (.slice Ao32 t109.length co32)) (fun _ h_ => h_.1))) (Kd.R_base ho0) hb); have n2_ := Aside0.mk (Kd.R_lower (Kd.R_new' (Kd.R_new' ho0 (Kd.R_lt (by (with_reducible repeat (first | apply Kd.R_alloc | apply Kd.R_drewN | apply Kd.R_drew)); exact (Kd.R_mono (Kd.R_far (p := ⟨gb112, 1, none⟩) (Kd.R_far (p := ⟨gb112, 0, none⟩) (Kd.R_types HO108.out BK112.out (by decide)) (fun _ hk => hk.2) (.slice Ao29 t106.length co29)) (fun _ hk => hk.2) (.slice Ao32 t109.length co32)) (fun _ h_ => h_.1))))) (Kd.R_lt (by (with_reducible repeat (first | apply Kd.R_alloc | apply Kd.R_drewN | apply Kd.R_drew)); exact (Kd.R_mono (Kd.R_far (p := ⟨gb112, 1, none⟩) (Kd.R_far (p := ⟨gb112, 0, none⟩) (Kd.R_types HO111.out BK112.out (by decide)) (fun _ hk => hk.2) (.slice Ao29 t106.length co29)) (fun _ hk => hk.2) (.slice Ao32 t109.length co32)) (fun _ h_ => h_.1))))) (below_size (by repeat (first | (with_reducible first | exact HB.out | apply below_alloc | apply pw_below_drewN | apply below_drew1 | refine below_set ?_ GE101.out | refine below_set ?_ GE112.out) | exact HB.out)))); have n3_ := Aside0.mk (blk_below (g := gb101) (o := .cells #[.slice A0_0 l0_0.length c0_0, .slice A0_1 l0_1.length c0_1] 25 (0, 0)) (by (with_reducible repeat (first | refine blk_drewN ?_ _ | refine blk_drew ?_ | refine blk_alloc ?_ _)); refine blk_far ?_ NB101_112.out _; (with_reducible repeat (first | refine blk_drewN ?_ _ | refine blk_drew ?_ | refine blk_alloc ?_ _)); refine blk_far ?_ NB101_112.out _; (with_reducible repeat (first | refine blk_drewN ?_ _ | refine blk_drew ?_ | refine blk_alloc ?_ _)); exact BK101.out) hb); have n4_ := Aside0.mk (blk_below (g := gb112) (o := .cells #[.slice Ao29 t106.length co29, .slice Ao32 t109.length co32] 27 (0, 0)) (by (with_reducible repeat (first | refine blk_drewN ?_ _ | refine blk_drew ?_ | refine blk_alloc ?_ _)); refine blk_put (cs := #[.slice Ao29 t106.length co29, .slice none 0 0]) ?_ 1 _ rfl; (with_reducible repeat (first | refine blk_drewN ?_ _ | refine blk_drew ?_ | refine blk_alloc ?_ _)); refine blk_put (cs := #[.slice none 0 0, .slice none 0 0]) ?_ 0 _ rfl; (with_reducible repeat (first | refine blk_drewN ?_ _ | refine blk_drew ?_ | refine blk_alloc ?_ _)); exact BK112.out) hb); have n5_ := Aside0.mk (below_step (by repeat (first | (with_reducible first | exact HB.out | apply below_alloc | apply pw_below_drewN | apply below_drew1 | refine below_set ?_ GE101.out | refine below_set ?_ GE112.out) | exact HB.out)) hb); clear HO108; clear HO111; clear BK101; clear BK112; clear HB; have HO108 := n0_; have HO111 := n1_; have HO115 := n2_; have BK101 := n3_; have BK112 := n4_; have HB := n5_; clear n0_ n1_ n2_ n3_ n4_ n5_; (try clear hb); (try clear hb2); (try clear hk); (try clear hi); (try clear ho0); have hcz35_0 : w34.cell? ⟨gb101, 0, none⟩ = some (.slice A0_0 l0_0.length c0_0) := (blk_cell BK101.out 0).trans rfl; have hcz35_1 : w34.cell? ⟨gb101, 1, none⟩ = some (.slice A0_1 l0_1.length c0_1) := (blk_cell BK101.out 1).trans rfl; have hfz35_0 := blk_frozen BK101.out 0; have hfz35_1 := blk_frozen BK101.out 1) | ((with_reducible refine gate_callee (f := 22) rfl ?_); refine goesL_ (some 39) rfl rfl Try.func22 (by kernel_rfl) rfl #[.agg #[.slice A0_0 l0_0.length c0_0, .slice A0_1 l0_1.length c0_1]] rfl (by (try simp only [List.map_toArray, List.map_cons, List.map_nil]); first | done | rfl | (simp only [List.length_drop, List.length_take]; rfl)) ?_; (with_reducible refine (scarfjointref05_Components.calls kj2 _ _ l0_0 _ _ l0_1 t117 t120 _ ?side1 ?side2 ?side3 ?side4 A24.out).mono ?_); (case side1 => repeat (first | exact (Kd.C_below HR0_0.out HB.out) | (with_reducible refine Kd.C_alloc ?_ _) | (with_reducible refine Kd.C_drewN ?_ _) | (with_reducible refine Kd.C_drew ?_))); (case side2 => exact HC0_0.out); (case side3 => repeat (first | exact (Kd.C_below HR0_1.out HB.out) | (with_reducible refine Kd.C_alloc ?_ _) | (with_reducible refine Kd.C_drewN ?_ _) | (with_reducible refine Kd.C_drew ?_))); (case side4 => exact HC0_1.out); rintro e w36 ⟨v118, rfl, ho0, hb⟩; refine ⟨_, rfl, ?_⟩; have n0_ := Aside0.mk (Kd.R_below (by (with_reducible repeat (first | apply Kd.R_alloc | apply Kd.R_drewN | apply Kd.R_drew)); exact HO108.out) hb); have n1_ := Aside0.mk (Kd.R_below (by (with_reducible repeat (first | apply Kd.R_alloc | apply Kd.R_drewN | apply Kd.R_drew)); exact HO111.out) hb); have n2_ := Aside0.mk (Kd.R_below (by (with_reducible repeat (first | apply Kd.R_alloc | apply Kd.R_drewN | apply Kd.R_drew)); exact HO115.out) hb); have n3_ := Aside0.mk (Kd.S_lower (Kd.S_newB (Kd.S_new' (Kd.S_new' (Kd.S_new' ho0 (Kd.R_lt (by (with_reducible repeat (first | apply Kd.R_alloc | apply Kd.R_drewN | apply Kd.R_drew)); exact HO108.out))) (Kd.R_lt (by (with_reducible repeat (first | apply Kd.R_alloc | apply Kd.R_drewN | apply Kd.R_drew)); exact HO111.out))) (Kd.R_lt (by (with_reducible repeat (first | apply Kd.R_alloc | apply Kd.R_drewN | apply Kd.R_drew)); exact HO115.out))) (g := gb112) (o := .cells #[.slice Ao29 t106.length co29, .slice Ao32 t109.length co32] 27 (0, 0)) (by (with_reducible repeat (first | refine blk_drewN ?_ _ | refine blk_drew ?_ | refine blk_alloc ?_ _)); exact BK112.out)) (below_size (by repeat (first | (with_reducible first | exact HB.out | apply below_alloc | apply pw_below_drewN | apply below_drew1 | refine below_set ?_ GE101.out | refine below_set ?_ GE112.out) | exact HB.out)))); have n4_ := Aside0.mk (blk_below (g := gb101) (o := .cells #[.slice A0_0 l0_0.length c0_0, .slice A0_1 l0_1.length c0_1] 25 (0, 0)) (by (with_reducible repeat (first | refine blk_drewN ?_ _ | refine blk_drew ?_ | refine blk_alloc ?_ _)); exact BK101.out) hb); have n5_ := Aside0.mk (blk_below (g := gb112) (o := .cells #[.slice Ao29 t106.length co29, .slice Ao32 t109.length co32] 27 (0, 0)) (by (with_reducible repeat (first | refine blk_drewN ?_ _ | refine blk_drew ?_ | refine blk_alloc ?_ _)); exact BK112.out) hb); have n6_ := Aside0.mk (below_step (by repeat (first | (with_reducible first | exact HB.out | apply below_alloc | apply pw_below_drewN | apply below_drew1 | refine below_set ?_ GE101.out | refine below_set ?_ GE112.out) | exact HB.out)) hb); clear HO108; clear HO111; clear HO115; clear BK101; clear BK112; clear HB; have HO108 := n0_; have HO111 := n1_; have HO115 := n2_; have HO119 := n3_; have BK101 := n4_; have BK112 := n5_; have HB := n6_; clear n0_ n1_ n2_ n3_ n4_ n5_ n6_; (try clear hb); (try clear hb2); (try clear hk); (try clear hi); (try clear ho0)))
        (try simp only [Act.put, List.setIfInBounds_toArray, List.set_cons_zero, List.set_cons_succ])
        go_cut [47] (fun v47 wc => ∃ (kq : Nat) (x47_24 : Bool), v47 = .bool x47_24 ∧ Aside0 (scarfjointlaw07_SubgraphBoundary.j1 kq t113 t117 x47_24 l0_0 l0_1 t106 t109 = some r) ∧ Aside0 (kq ≤ kj2) ∧ Aside0 (Kd.R (Kd.int .i64) 3 wc w.heap.size (fun k_ => some k_ ≠ ((.slice Ao29 t106.length co29) : Value).ownBlock ∧ some k_ ≠ ((.slice Ao32 t109.length co32) : Value).ownBlock) v114 t113) ∧ Aside0 (Kd.S k27 27 wc w.heap.size (fun k_ => some k_ ≠ (v114 : Value).ownBlock ∧ some k_ ≠ ((.slice Ao29 t106.length co29) : Value).ownBlock ∧ some k_ ≠ ((.slice Ao32 t109.length co32) : Value).ownBlock ∧ k_ ≠ gb112) v118 t117) ∧ Aside0 (Kd.R (Kd.int .i64) 3 wc w.heap.size (fun k_ => some k_ ≠ (v114 : Value).ownBlock ∧ some k_ ≠ ((.slice Ao32 t109.length co32) : Value).ownBlock) (.slice Ao29 t106.length co29) t106) ∧ Aside0 (Kd.R (Kd.int .i64) 3 wc w.heap.size (fun k_ => some k_ ≠ (v114 : Value).ownBlock ∧ some k_ ≠ ((.slice Ao29 t106.length co29) : Value).ownBlock) (.slice Ao32 t109.length co32) t109) ∧ Aside0 (wc.heap[gb101]? = some (.cells #[(.slice A0_0 l0_0.length c0_0), (.slice A0_1 l0_1.length c0_1)] 25 (0, 0))) ∧ Aside0 (wc.heap[gb112]? = some (.cells #[(.slice Ao29 t106.length co29), (.slice Ao32 t109.length co32)] 27 (0, 0))) ∧ Aside0 (Below w.heap.size w wc))
        case first =>
          have H := HC25.out
          clear HC25
          by_cases c37 : t116 = 0
          · rw [if_pos c37] at H
            have c37b0 : (t116 == 0) = true := beq_iff_eq.mpr c37
            have c37b1 : (t116 != 0) = false := bne_eq_false_iff_eq.mpr c37
            clear c37
            (first | rw [c37b0] | (simp only [i64_w, i32_w]; rw [c37b0]) | skip)
            have H' := Aside0.mk H
            clear H
            go_wp2
            go_meet
            case rel => exact ⟨_, ((t120 != 0)), (by first | rfl | (simp; done) | (simp [*]; done)), H', ⟨by have := HJ2.out; first | omega | exact Nat.le_refl _⟩, ⟨by (with_reducible repeat (first | apply Kd.R_alloc | apply Kd.R_drewN | apply Kd.R_drew)); exact Kd.R_mono HO115.out (fun _ hk => ⟨hk.1.2, hk.2⟩)⟩, ⟨by (with_reducible repeat (first | apply Kd.S_alloc | apply Kd.S_drewN | apply Kd.S_drew)); exact Kd.S_mono HO119.out (fun _ hk => ⟨hk.1.2, ⟨hk.1.1.1.2, ⟨hk.1.1.2, hk.2⟩⟩⟩)⟩, ⟨by (with_reducible repeat (first | apply Kd.R_alloc | apply Kd.R_drewN | apply Kd.R_drew)); exact Kd.R_mono HO108.out (fun _ hk => ⟨hk.2, hk.1⟩)⟩, ⟨by (with_reducible repeat (first | apply Kd.R_alloc | apply Kd.R_drewN | apply Kd.R_drew)); exact Kd.R_mono HO111.out (fun _ hk => ⟨hk.2, hk.1⟩)⟩, ⟨by (with_reducible repeat (first | refine blk_drewN ?_ _ | refine blk_drew ?_ | refine blk_alloc ?_ _)); exact BK101.out⟩, ⟨by (with_reducible repeat (first | refine blk_drewN ?_ _ | refine blk_drew ?_ | refine blk_alloc ?_ _)); exact BK112.out⟩, ⟨by repeat (first | (with_reducible first | exact HB.out | apply below_alloc | apply pw_below_drewN | apply below_drew1 | refine below_set ?_ GE101.out | refine below_set ?_ GE112.out) | exact HB.out)⟩⟩
          · rw [if_neg c37] at H
            have c37b0 : (t116 == 0) = false := beq_eq_false_iff_ne.mpr c37
            have c37b1 : (t116 != 0) = true := bne_iff_ne.mpr c37
            (first | rw [c37b0] | (simp only [i64_w, i32_w]; rw [c37b0]) | skip)
            have H' := Aside0.mk H
            clear H
            go_wp2
            go_meet
            case rel => exact ⟨_, (true), (by first | rfl | (simp; done) | (simp [*]; done)), H', ⟨by have := HJ2.out; first | omega | exact Nat.le_refl _⟩, ⟨by (with_reducible repeat (first | apply Kd.R_alloc | apply Kd.R_drewN | apply Kd.R_drew)); exact Kd.R_mono HO115.out (fun _ hk => ⟨hk.1.2, hk.2⟩)⟩, ⟨by (with_reducible repeat (first | apply Kd.S_alloc | apply Kd.S_drewN | apply Kd.S_drew)); exact Kd.S_mono HO119.out (fun _ hk => ⟨hk.1.2, ⟨hk.1.1.1.2, ⟨hk.1.1.2, hk.2⟩⟩⟩)⟩, ⟨by (with_reducible repeat (first | apply Kd.R_alloc | apply Kd.R_drewN | apply Kd.R_drew)); exact Kd.R_mono HO108.out (fun _ hk => ⟨hk.2, hk.1⟩)⟩, ⟨by (with_reducible repeat (first | apply Kd.R_alloc | apply Kd.R_drewN | apply Kd.R_drew)); exact Kd.R_mono HO111.out (fun _ hk => ⟨hk.2, hk.1⟩)⟩, ⟨by (with_reducible repeat (first | refine blk_drewN ?_ _ | refine blk_drew ?_ | refine blk_alloc ?_ _)); exact BK101.out⟩, ⟨by (with_reducible repeat (first | refine blk_drewN ?_ _ | refine blk_drew ?_ | refine blk_alloc ?_ _)); exact BK112.out⟩, ⟨by repeat (first | (with_reducible first | exact HB.out | apply below_alloc | apply pw_below_drewN | apply below_drew1 | refine below_set ?_ GE101.out | refine below_set ?_ GE112.out) | exact HB.out)⟩⟩
        case rest =>
          clear HC25
          try clear c1
          try clear c2
          try clear p2
          try clear c3
          try clear c4
          try clear c6
          try clear c8
          try clear c11
          try clear c18
          try clear c19
          try clear c21
          try clear c22
          try clear c30
          try clear c37
          try clear c37b0
          try clear c37b1
          try clear hcz11_0
          try clear hcz11_1
          try clear hcz13_0
          try clear hcz13_1
          try clear hcz16_0
          try clear hcz16_1
          try clear hcz26_0
          try clear hcz26_1
          try clear hcz31_0
          try clear hcz31_1
          try clear hcz33_0
          try clear hcz33_1
          try clear hcz35_0
          try clear hcz35_1
          try clear hfz11_0
          try clear hfz11_1
          try clear hfz13_0
          try clear hfz13_1
          try clear hfz16_0
          try clear hfz16_1
          try clear hfz26_0
          try clear hfz26_1
          try clear hfz31_0
          try clear hfz31_1
          try clear hfz33_0
          try clear hfz33_1
          try clear hfz35_0
          try clear hfz35_1
          try clear p2
          obtain ⟨kq, x47_24, rfl, HA, HJ24, HO_6, HO_8, HO_113000, HO_113001, BK101, BK112, HB⟩ := hcut
          cases kq with
          | zero => exact absurd HA.out (by simp [scarfjointlaw07_SubgraphBoundary.j1])
          | succ kj24 =>
            have H := HA.out
            clear HA
            simp only [scarfjointlaw07_SubgraphBoundary.j1] at H
            by_cases c38 : x47_24 = true
            · subst c38
              have H1 : (some false) = some r := by rw [if_pos rfl] at H; exact H
              clear H
              have H := H1
              clear H1
              obtain rfl := Option.some.inj H
              go_wp2
              go_ret
              exact ⟨by first | rfl | (simp [errW_none, errW_some] <;> rfl) | (simp [*, errW_none, errW_some] <;> rfl), by repeat (first | (with_reducible first | exact HB.out | apply below_alloc | apply pw_below_drewN | apply below_drew1 | refine below_set ?_ GE101.out | refine below_set ?_ GE112.out) | exact HB.out)⟩
            · replace c38 := Bool.eq_false_iff.mpr c38
              subst c38
              have H1 : (scarfjointlaw07_SubgraphBoundary.l0 kj24 t113 true t117 (t117.length : Int) 0 l0_0 l0_1 t106 t109) = some r := by rw [if_neg (show ¬ (false = true) by decide)] at H; exact H
              clear H
              have H := H1
              clear H1
              have H' := Aside0.mk H
              clear H
              obtain ⟨Ao39, co39, eo39⟩ := Kd.S_slice HO_8.out
              subst eo39
              go_wp2
              go_loopg [10, 50] kj24 (fun kq v10 v50 w' => ∃ (x10_3 : Bool) (x50_3 : Int), v10 = .bool x10_3 ∧ v50 = .int .i64 x50_3 ∧ Aside0 (scarfjointlaw07_SubgraphBoundary.l0 kq t113 x10_3 t117 (t117.length : Int) x50_3 l0_0 l0_1 t106 t109 = some r) ∧ Aside0 (kq ≤ kj24) ∧ Aside0 (Kd.R (Kd.int .i64) 3 w' w.heap.size (fun k_ => some k_ ≠ ((.slice Ao29 t106.length co29) : Value).ownBlock ∧ some k_ ≠ ((.slice Ao32 t109.length co32) : Value).ownBlock) v114 t113) ∧ Aside0 (Kd.S k27 27 w' w.heap.size (fun k_ => some k_ ≠ (v114 : Value).ownBlock ∧ some k_ ≠ ((.slice Ao29 t106.length co29) : Value).ownBlock ∧ some k_ ≠ ((.slice Ao32 t109.length co32) : Value).ownBlock ∧ k_ ≠ gb112) (.slice Ao39 t117.length co39) t117) ∧ Aside0 (Kd.R (Kd.int .i64) 3 w' w.heap.size (fun k_ => some k_ ≠ (v114 : Value).ownBlock ∧ some k_ ≠ ((.slice Ao32 t109.length co32) : Value).ownBlock) (.slice Ao29 t106.length co29) t106) ∧ Aside0 (Kd.R (Kd.int .i64) 3 w' w.heap.size (fun k_ => some k_ ≠ (v114 : Value).ownBlock ∧ some k_ ≠ ((.slice Ao29 t106.length co29) : Value).ownBlock) (.slice Ao32 t109.length co32) t109) ∧ Aside0 (w'.heap[gb101]? = some (.cells #[(.slice A0_0 l0_0.length c0_0), (.slice A0_1 l0_1.length c0_1)] 25 (0, 0))) ∧ Aside0 (w'.heap[gb112]? = some (.cells #[(.slice Ao29 t106.length co29), (.slice Ao32 t109.length co32)] 27 (0, 0))) ∧ Aside0 (Below w.heap.size w w'))
              case atStart => exact ⟨(true), (0), (by first | rfl | (simp; done) | (simp [*]; done)), (by first | rfl | (simp; done) | (simp [*]; done)), H', ⟨Nat.le_refl _⟩, ⟨by (with_reducible repeat (first | apply Kd.R_alloc | apply Kd.R_drewN | apply Kd.R_drew)); exact HO_6.out⟩, ⟨by (with_reducible repeat (first | apply Kd.S_alloc | apply Kd.S_drewN | apply Kd.S_drew)); exact HO_8.out⟩, ⟨by (with_reducible repeat (first | apply Kd.R_alloc | apply Kd.R_drewN | apply Kd.R_drew)); exact HO_113000.out⟩, ⟨by (with_reducible repeat (first | apply Kd.R_alloc | apply Kd.R_drewN | apply Kd.R_drew)); exact HO_113001.out⟩, ⟨by (with_reducible repeat (first | refine blk_drewN ?_ _ | refine blk_drew ?_ | refine blk_alloc ?_ _)); exact BK101.out⟩, ⟨by (with_reducible repeat (first | refine blk_drewN ?_ _ | refine blk_drew ?_ | refine blk_alloc ?_ _)); exact BK112.out⟩, ⟨by repeat (first | (with_reducible first | exact HB.out | apply below_alloc | apply pw_below_drewN | apply below_drew1 | refine below_set ?_ GE101.out | refine below_set ?_ GE112.out) | exact HB.out)⟩⟩
              case round =>
                clear H'
                try clear c1
                try clear c2
                try clear p2
                try clear c3
                try clear c4
                try clear c6
                try clear c8
                try clear c11
                try clear c18
                try clear c19
                try clear c21
                try clear c22
                try clear c30
                try clear c37
                try clear c37b0
                try clear c37b1
                try clear c38
                try clear hcz11_0
                try clear hcz11_1
                try clear hcz13_0
                try clear hcz13_1
                try clear hcz16_0
                try clear hcz16_1
                try clear hcz26_0
                try clear hcz26_1
                try clear hcz31_0
                try clear hcz31_1
                try clear hcz33_0
                try clear hcz33_1
                try clear hcz35_0
                try clear hcz35_1
                try clear hfz11_0
                try clear hfz11_1
                try clear hfz13_0
                try clear hfz13_1
                try clear hfz16_0
                try clear hfz16_1
                try clear hfz26_0
                try clear hfz26_1
                try clear hfz31_0
                try clear hfz31_1
                try clear hfz33_0
                try clear hfz33_1
                try clear hfz35_0
                try clear hfz35_1
                try clear p2
                obtain ⟨x10_3, x50_3, rfl, rfl, HA, HK3, HO_6, HO_48, HO_113000, HO_113001, BK101, BK112, HB⟩ := hrel
                cases gk with
                | zero => exact absurd HA.out (by simp [scarfjointlaw07_SubgraphBoundary.l0])
                | succ k3 =>
                  have H := HA.out
                  clear HA
                  simp only [scarfjointlaw07_SubgraphBoundary.l0] at H
                  by_cases c40 : x50_3 < (t117.length : Int)
                  · rw [if_pos c40] at H
                    have c40b0 : decide (x50_3 < (t117.length : Int)) = true := decide_eq_true c40
                    clear c40
                    by_cases c41 : 0 ≤ x50_3
                    · rw [if_pos c41] at H
                      have c41b0 : decide (0 ≤ x50_3) = true := decide_eq_true c41
                      clear c41
                      by_cases c42 : x50_3 < (t117.length : Int)
                      · rw [if_pos c42] at H
                        have c42b0 : decide (x50_3 < (t117.length : Int)) = true := decide_eq_true c42
                        clear c42
                        replace H := Option.bind_eq_some_iff.mp H
                        obtain ⟨⟨t123, t126, t129⟩, A430, H⟩ := H
                        replace H : (if t129 = 0 then (if (t123.length : Int) > 0 then ((scarfjointref07_In.f k3 ((rd_T27 t117 x50_3).f0) ((rd_T27 t117 x50_3).f1) t106 t109).bind fun t131 => (scarfjointlaw07_SubgraphBoundary.j3 k3 t113 x10_3 t117 (t117.length : Int) x50_3 (!t131) l0_0 l0_1 t106 t109)) else (scarfjointlaw07_SubgraphBoundary.j3 k3 t113 x10_3 t117 (t117.length : Int) x50_3 false l0_0 l0_1 t106 t109)) else (scarfjointlaw07_SubgraphBoundary.j3 k3 t113 x10_3 t117 (t117.length : Int) x50_3 false l0_0 l0_1 t106 t109)) = some r := H
                        have A43 := Aside0.mk A430
                        clear A430
                        have HC44 := Aside0.mk H
                        clear H
                        have p121 : 0 ≤ (x50_3 : Int) := of_decide_eq_true (by first | (with_reducible assumption) | assumption)
                        have q121 : x50_3 < (t117.length : Int) := of_decide_eq_true (by first | (with_reducible assumption) | assumption)
                        obtain ⟨ad121, A121_0, c121_0, A121_1, c121_1, e121, hx121_0, hx121_1, hl121_0, hi121_0, hl121_1, hi121_1⟩ := at_T27 (Kd.S_reads' HO_48.out).2.2 x50_3 p121 q121
                        cases e121
                        obtain ⟨ce121, hce121, hMe121, hcc121⟩ := Kd.S_get HO_48.out z27 x50_3 p121 (by first | exact q121 | exact of_decide_eq_true (by first | (with_reducible assumption) | assumption) | (have e_ := (Kd.S_reads' HO_48.out).1; omega))
                        obtain ⟨ve121_0, ve121_1, rfl, ge121_0, ge121_1⟩ := k27_openM hMe121
                        have hv121_0 := hcc121 0 _ rfl
                        rw [Nat.add_zero] at hv121_0
                        replace hv121_0 := Option.some.inj (hv121_0.symm.trans hx121_0)
                        rw [hv121_0] at ge121_0
                        have HL121_0 := Aside0.mk (show Kd.R (Kd.int .i64) 3 _ _ _ _ ((rd_T27 t117 x50_3).f0) from ge121_0)
                        clear hv121_0 ge121_0
                        have hv121_1 := hcc121 1 _ rfl
                        rw [add_field _ _ 1 (by omega)] at hv121_1
                        replace hv121_1 := Option.some.inj (hv121_1.symm.trans hx121_1)
                        rw [hv121_1] at ge121_1
                        have HL121_1 := Aside0.mk (show Kd.R (Kd.int .i64) 3 _ _ _ _ ((rd_T27 t117 x50_3).f1) from ge121_1)
                        clear hv121_1 ge121_1
                        clear hcc121 hce121
                        have HR121_0 := Aside0.mk hi121_0
                        have HC121_0 := Aside0.mk hl121_0
                        clear hi121_0 hl121_0
                        have HR121_1 := Aside0.mk hi121_1
                        have HC121_1 := Aside0.mk hl121_1
                        clear hi121_1 hl121_1
                        replace p121 := eq_true p121
                        replace q121 := eq_true q121
                        go_upto_region 13 with (first | ((with_reducible refine gate_dst (N := 12) rfl ?_); (try (refine gate_guard (by rfl) ?_; dsimp only)); refine box_event ?hg (N := 12) ?hd (cs := #[.slice none 0 0, .slice none 0 0]) (t := 27) ?hr ?_; (case hd => rfl); (case hg => rfl); (case hr => first | (go_simp; done) | (go_simp; rfl)); intro gb122 hg w45 hbox hb; have n0_ := Aside0.mk (Kd.R_below (by (with_reducible repeat (first | apply Kd.R_alloc | apply Kd.R_drewN | apply Kd.R_drew)); exact HO_6.out) hb); have n1_ := Aside0.mk (Kd.S_below (Kd.S_elderB (by (with_reducible repeat (first | apply Kd.S_alloc | apply Kd.S_drewN | apply Kd.S_drew)); exact HO_48.out) gb122 (Nat.le_of_eq hg.symm)) hb); have n2_ := Aside0.mk (Kd.R_below (by (with_reducible repeat (first | apply Kd.R_alloc | apply Kd.R_drewN | apply Kd.R_drew)); exact HO_113000.out) hb); have n3_ := Aside0.mk (Kd.R_below (by (with_reducible repeat (first | apply Kd.R_alloc | apply Kd.R_drewN | apply Kd.R_drew)); exact HO_113001.out) hb); have n4_ := Aside0.mk (Kd.R_below (by (with_reducible repeat (first | apply Kd.R_alloc | apply Kd.R_drewN | apply Kd.R_drew)); exact HL121_0.out) hb); have n5_ := Aside0.mk (Kd.R_below (by (with_reducible repeat (first | apply Kd.R_alloc | apply Kd.R_drewN | apply Kd.R_drew)); exact HL121_1.out) hb); have n6_ := Aside0.mk (blk_below (g := gb101) (o := .cells #[.slice A0_0 l0_0.length c0_0, .slice A0_1 l0_1.length c0_1] 25 (0, 0)) (by (with_reducible repeat (first | refine blk_drewN ?_ _ | refine blk_drew ?_ | refine blk_alloc ?_ _)); exact BK101.out) hb); have n7_ := Aside0.mk (blk_below (g := gb112) (o := .cells #[.slice Ao29 t106.length co29, .slice Ao32 t109.length co32] 27 (0, 0)) (by (with_reducible repeat (first | refine blk_drewN ?_ _ | refine blk_drew ?_ | refine blk_alloc ?_ _)); exact BK112.out) hb); have n8_ := Aside0.mk (Kd.C_below (by repeat (first | (with_reducible exact HR121_0.out) | (with_reducible refine Kd.C_alloc ?_ _) | (with_reducible refine Kd.C_drewN ?_ _) | (with_reducible refine Kd.C_drew ?_) | exact HR121_0.out)) hb); have n9_ := Aside0.mk (Kd.C_below (by repeat (first | (with_reducible exact HR121_1.out) | (with_reducible refine Kd.C_alloc ?_ _) | (with_reducible refine Kd.C_drewN ?_ _) | (with_reducible refine Kd.C_drew ?_) | exact HR121_1.out)) hb); have n10_ := Aside0.mk (below_step (by repeat (first | (with_reducible first | exact HB.out | apply below_alloc | apply pw_below_drewN | apply below_drew1 | refine below_set ?_ GE101.out | refine below_set ?_ GE112.out) | exact HB.out)) hb); have n11_ := Aside0.mk (hbox); have n12_ := Aside0.mk ((by rw [hg]; exact (below_size (by repeat (first | (with_reducible first | exact HB.out | apply below_alloc | apply pw_below_drewN | apply below_drew1 | refine below_set ?_ GE101.out | refine below_set ?_ GE112.out) | exact HB.out))) : w.heap.size ≤ gb122)); have n13_ := Aside0.mk ((by rw [hg]; exact (below_size (by repeat (first | (with_reducible first | exact HB.out | apply below_alloc | apply pw_below_drewN | apply below_drew1 | refine below_set ?_ GE101.out | refine below_set ?_ GE112.out) | exact HB.out))) : w.heap.size ≤ gb122)); have n14_ := Aside0.mk ((by rw [hg]; exact Nat.ne_of_lt (blk_lt (g := gb101) (o := .cells #[.slice A0_0 l0_0.length c0_0, .slice A0_1 l0_1.length c0_1] 25 (0, 0)) (by (with_reducible repeat (first | refine blk_drewN ?_ _ | refine blk_drew ?_ | refine blk_alloc ?_ _)); exact BK101.out)) : gb101 ≠ gb122)); have n15_ := Aside0.mk ((by rw [hg]; exact Nat.ne_of_gt (blk_lt (g := gb101) (o := .cells #[.slice A0_0 l0_0.length c0_0, .slice A0_1 l0_1.length c0_1] 25 (0, 0)) (by (with_reducible repeat (first | refine blk_drewN ?_ _ | refine blk_drew ?_ | refine blk_alloc ?_ _)); exact BK101.out)) : gb122 ≠ gb101)); have n16_ := Aside0.mk ((by rw [hg]; exact Nat.ne_of_lt (blk_lt (g := gb112) (o := .cells #[.slice Ao29 t106.length co29, .slice Ao32 t109.length co32] 27 (0, 0)) (by (with_reducible repeat (first | refine blk_drewN ?_ _ | refine blk_drew ?_ | refine blk_alloc ?_ _)); exact BK112.out)) : gb112 ≠ gb122)); have n17_ := Aside0.mk ((by rw [hg]; exact Nat.ne_of_gt (blk_lt (g := gb112) (o := .cells #[.slice Ao29 t106.length co29, .slice Ao32 t109.length co32] 27 (0, 0)) (by (with_reducible repeat (first | refine blk_drewN ?_ _ | refine blk_drew ?_ | refine blk_alloc ?_ _)); exact BK112.out)) : gb122 ≠ gb112)); clear HO_6; clear HO_48; clear HO_113000; clear HO_113001; clear HL121_0; clear HL121_1; clear BK101; clear BK112; clear HR121_0; clear HR121_1; clear HB; have HO_6 := n0_; have HO_48 := n1_; have HO_113000 := n2_; have HO_113001 := n3_; have HL121_0 := n4_; have HL121_1 := n5_; have BK101 := n6_; have BK112 := n7_; have HR121_0 := n8_; have HR121_1 := n9_; have HB := n10_; have BK122 := n11_; have GW122 := n12_; have GE122 := n13_; have NB101_122 := n14_; have NB122_101 := n15_; have NB112_122 := n16_; have NB122_112 := n17_; clear n0_ n1_ n2_ n3_ n4_ n5_ n6_ n7_ n8_ n9_ n10_ n11_ n12_ n13_ n14_ n15_ n16_ n17_; clear hb hbox hg; have hnb46 := NB122_101.out; have hnc46 := NB101_122.out; have hnb47 := NB122_112.out; have hnc47 := NB112_122.out; have hcz48_0 : w45.cell? ⟨gb122, 0, none⟩ = some (.slice none 0 0) := (blk_cell BK122.out 0).trans rfl; have hcz48_1 : w45.cell? ⟨gb122, 1, none⟩ = some (.slice none 0 0) := (blk_cell BK122.out 1).trans rfl; have hfz48_0 := blk_frozen BK122.out 0; have hfz48_1 := blk_frozen BK122.out 1; have hnb49 := NB101_112.out; have hnc49 := NB112_101.out; have hcz50_0 : w45.cell? ⟨gb101, 0, none⟩ = some (.slice A0_0 l0_0.length c0_0) := (blk_cell BK101.out 0).trans rfl; have hcz50_1 : w45.cell? ⟨gb101, 1, none⟩ = some (.slice A0_1 l0_1.length c0_1) := (blk_cell BK101.out 1).trans rfl; have hfz50_0 := blk_frozen BK101.out 0; have hfz50_1 := blk_frozen BK101.out 1; have hcz51_0 : w45.cell? ⟨gb112, 0, none⟩ = some (.slice Ao29 t106.length co29) := (blk_cell BK112.out 0).trans rfl; have hcz51_1 : w45.cell? ⟨gb112, 1, none⟩ = some (.slice Ao32 t109.length co32) := (blk_cell BK112.out 1).trans rfl; have hfz51_0 := blk_frozen BK112.out 0; have hfz51_1 := blk_frozen BK112.out 1) | ((with_reducible refine gate_callee (f := 23) rfl ?_); refine goesL_ (some 58) rfl rfl Try.func23 (by kernel_rfl) rfl #[.agg #[.slice A0_0 l0_0.length c0_0, .slice A0_1 l0_1.length c0_1], .agg #[.slice A121_0 ((rd_T27 t117 x50_3).f0).length c121_0, .slice A121_1 ((rd_T27 t117 x50_3).f1).length c121_1], .agg #[.slice Ao29 t106.length co29, .slice Ao32 t109.length co32]] rfl (by (try simp only [List.map_toArray, List.map_cons, List.map_nil]); first | done | rfl | (simp only [List.length_drop, List.length_take]; rfl)) ?_; (with_reducible refine (scarfjointref07_Meet.calls k3 _ _ l0_0 _ _ l0_1 _ _ ((rd_T27 t117 x50_3).f0) _ _ ((rd_T27 t117 x50_3).f1) _ _ t106 _ _ t109 t123 t126 t129 _ ?side1 ?side2 ?side3 ?side4 ?side5 ?side6 ?side7 ?side8 ?side9 ?side10 ?side11 ?side12 A43.out).mono ?_); (case side1 => exact Kd.C_below HR0_0.out (by repeat (first | (with_reducible first | exact HB.out | apply below_alloc | apply pw_below_drewN | apply below_drew1 | refine below_set ?_ GE101.out | refine below_set ?_ GE112.out | refine below_set ?_ GE122.out) | exact HB.out))); (case side2 => exact HC0_0.out); (case side3 => exact Kd.C_below HR0_1.out (by repeat (first | (with_reducible first | exact HB.out | apply below_alloc | apply pw_below_drewN | apply below_drew1 | refine below_set ?_ GE101.out | refine below_set ?_ GE112.out | refine below_set ?_ GE122.out) | exact HB.out))); (case side4 => exact HC0_1.out); (case side5 => repeat (first | exact ((Kd.R_reads' (by (with_reducible repeat (first | apply Kd.R_alloc | apply Kd.R_drewN | apply Kd.R_drew)); exact (Kd.R_mono (Kd.R_far (p := ⟨gb122, 1, none⟩) (Kd.R_far (p := ⟨gb122, 0, none⟩) (Kd.R_types HL121_0.out BK122.out (by decide)) (fun _ hk => hk.2) (.slice A121_0 ((rd_T27 t117 x50_3).f0).length c121_0)) (fun _ hk => hk.2) (.slice A121_1 ((rd_T27 t117 x50_3).f1).length c121_1)) (fun _ h_ => h_.1)))).2.2) | (with_reducible refine Kd.C_alloc ?_ _) | (with_reducible refine Kd.C_drewN ?_ _) | (with_reducible refine Kd.C_drew ?_))); (case side6 => exact HC121_0.out); (case side7 => repeat (first | exact ((Kd.R_reads' (by (with_reducible repeat (first | apply Kd.R_alloc | apply Kd.R_drewN | apply Kd.R_drew)); exact (Kd.R_mono (Kd.R_far (p := ⟨gb122, 1, none⟩) (Kd.R_far (p := ⟨gb122, 0, none⟩) (Kd.R_types HL121_1.out BK122.out (by decide)) (fun _ hk => hk.2) (.slice A121_0 ((rd_T27 t117 x50_3).f0).length c121_0)) (fun _ hk => hk.2) (.slice A121_1 ((rd_T27 t117 x50_3).f1).length c121_1)) (fun _ h_ => h_.1)))).2.2) | (with_reducible refine Kd.C_alloc ?_ _) | (with_reducible refine Kd.C_drewN ?_ _) | (with_reducible refine Kd.C_drew ?_))); (case side8 => exact HC121_1.out); (case side9 => refine (Kd.R_reads' (e := 3) (base := w.heap.size) (ok := fun k_ => (some k_ ≠ (v114 : Value).ownBlock ∧ some k_ ≠ (.slice Ao32 t109.length co32 : Value).ownBlock)) (n := t106.length) (c := co29) ?_).2.2; exact (by (with_reducible repeat (first | apply Kd.R_alloc | apply Kd.R_drewN | apply Kd.R_drew)); exact (Kd.R_mono (Kd.R_far (p := ⟨gb122, 1, none⟩) (Kd.R_far (p := ⟨gb122, 0, none⟩) (Kd.R_types HO_113000.out BK122.out (by decide)) (fun _ hk => hk.2) (.slice A121_0 ((rd_T27 t117 x50_3).f0).length c121_0)) (fun _ hk => hk.2) (.slice A121_1 ((rd_T27 t117 x50_3).f1).length c121_1)) (fun _ h_ => h_.1)))); (case side10 => exact (Kd.R_reads' HO_113000.out).2.1); (case side11 => refine (Kd.R_reads' (e := 3) (base := w.heap.size) (ok := fun k_ => (some k_ ≠ (v114 : Value).ownBlock ∧ some k_ ≠ (.slice Ao29 t106.length co29 : Value).ownBlock)) (n := t109.length) (c := co32) ?_).2.2; exact (by (with_reducible repeat (first | apply Kd.R_alloc | apply Kd.R_drewN | apply Kd.R_drew)); exact (Kd.R_mono (Kd.R_far (p := ⟨gb122, 1, none⟩) (Kd.R_far (p := ⟨gb122, 0, none⟩) (Kd.R_types HO_113001.out BK122.out (by decide)) (fun _ hk => hk.2) (.slice A121_0 ((rd_T27 t117 x50_3).f0).length c121_0)) (fun _ hk => hk.2) (.slice A121_1 ((rd_T27 t117 x50_3).f1).length c121_1)) (fun _ h_ => h_.1)))); (case side12 => exact (Kd.R_reads' HO_113001.out).2.1); rintro e w52 ⟨v124, v127, rfl, ho0, ho1, hb⟩; refine ⟨_, rfl, ?_⟩; have n0_ := Aside0.mk (Kd.R_mono (Kd.R_told (Kd.R_told (Kd.R_old (by (with_reducible repeat (first | apply Kd.R_alloc | apply Kd.R_drewN | apply Kd.R_drew)); exact (Kd.R_mono (Kd.R_far (p := ⟨gb122, 1, none⟩) (Kd.R_far (p := ⟨gb122, 0, none⟩) (Kd.R_types HO_6.out BK122.out (by decide)) (fun _ hk => hk.2) (.slice A121_0 ((rd_T27 t117 x50_3).f0).length c121_0)) (fun _ hk => hk.2) (.slice A121_1 ((rd_T27 t117 x50_3).f1).length c121_1)) (fun _ h_ => h_.1))) hb) (Kd.R_base ho0)) (Kd.R_base ho1)) (fun _ h_ => h_.1)); have n1_ := Aside0.mk (Kd.S_mono (Kd.S_told (Kd.S_told (Kd.S_old (by (with_reducible repeat (first | apply Kd.S_alloc | apply Kd.S_drewN | apply Kd.S_drew)); exact (Kd.S_mono (Kd.S_far (p := ⟨gb122, 1, none⟩) (Kd.S_far (p := ⟨gb122, 0, none⟩) (Kd.S_mono HO_48.out (fun k_ hk => (⟨hk, hk.2⟩ : _ ∧ k_ ≠ gb122))) (fun _ hk => hk.2) (.slice A121_0 ((rd_T27 t117 x50_3).f0).length c121_0)) (fun _ hk => hk.2) (.slice A121_1 ((rd_T27 t117 x50_3).f1).length c121_1)) (fun _ h_ => h_.1))) hb) (Kd.R_base ho0)) (Kd.R_base ho1)) (fun _ h_ => h_.1)); have n2_ := Aside0.mk (Kd.R_mono (Kd.R_told (Kd.R_told (Kd.R_old (by (with_reducible repeat (first | apply Kd.R_alloc | apply Kd.R_drewN | apply Kd.R_drew)); exact (Kd.R_mono (Kd.R_far (p := ⟨gb122, 1, none⟩) (Kd.R_far (p := ⟨gb122, 0, none⟩) (Kd.R_types HO_113000.out BK122.out (by decide)) (fun _ hk => hk.2) (.slice A121_0 ((rd_T27 t117 x50_3).f0).length c121_0)) (fun _ hk => hk.2) (.slice A121_1 ((rd_T27 t117 x50_3).f1).length c121_1)) (fun _ h_ => h_.1))) hb) (Kd.R_base ho0)) (Kd.R_base ho1)) (fun _ h_ => h_.1)); have n3_ := Aside0.mk (Kd.R_mono (Kd.R_told (Kd.R_told (Kd.R_old (by (with_reducible repeat (first | apply Kd.R_alloc | apply Kd.R_drewN | apply Kd.R_drew)); exact (Kd.R_mono (Kd.R_far (p := ⟨gb122, 1, none⟩) (Kd.R_far (p := ⟨gb122, 0, none⟩) (Kd.R_types HO_113001.out BK122.out (by decide)) (fun _ hk => hk.2) (.slice A121_0 ((rd_T27 t117 x50_3).f0).length c121_0)) (fun _ hk => hk.2) (.slice A121_1 ((rd_T27 t117 x50_3).f1).length c121_1)) (fun _ h_ => h_.1))) hb) (Kd.R_base ho0)) (Kd.R_base ho1)) (fun _ h_ => h_.1)); have n4_ := Aside0.mk (Kd.R_mono (Kd.R_told (Kd.R_told (Kd.R_old (by (with_reducible repeat (first | apply Kd.R_alloc | apply Kd.R_drewN | apply Kd.R_drew)); exact (Kd.R_mono (Kd.R_far (p := ⟨gb122, 1, none⟩) (Kd.R_far (p := ⟨gb122, 0, none⟩) (Kd.R_types HL121_0.out BK122.out (by decide)) (fun _ hk => hk.2) (.slice A121_0 ((rd_T27 t117 x50_3).f0).length c121_0)) (fun _ hk => hk.2) (.slice A121_1 ((rd_T27 t117 x50_3).f1).length c121_1)) (fun _ h_ => h_.1))) hb) (Kd.R_base ho0)) (Kd.R_base ho1)) (fun _ h_ => h_.1)); have n5_ := Aside0.mk (Kd.R_mono (Kd.R_told (Kd.R_told (Kd.R_old (by (with_reducible repeat (first | apply Kd.R_alloc | apply Kd.R_drewN | apply Kd.R_drew)); exact (Kd.R_mono (Kd.R_far (p := ⟨gb122, 1, none⟩) (Kd.R_far (p := ⟨gb122, 0, none⟩) (Kd.R_types HL121_1.out BK122.out (by decide)) (fun _ hk => hk.2) (.slice A121_0 ((rd_T27 t117 x50_3).f0).length c121_0)) (fun _ hk => hk.2) (.slice A121_1 ((rd_T27 t117 x50_3).f1).length c121_1)) (fun _ h_ => h_.1))) hb) (Kd.R_base ho0)) (Kd.R_base ho1)) (fun _ h_ => h_.1)); have n6_ := Aside0.mk (Kd.R_lower (Kd.R_new' (Kd.R_new' (Kd.R_new' (Kd.R_new' (Kd.R_new' ho0 (Kd.R_lt (by (with_reducible repeat (first | apply Kd.R_alloc | apply Kd.R_drewN | apply Kd.R_drew)); exact (Kd.R_mono (Kd.R_far (p := ⟨gb122, 1, none⟩) (Kd.R_far (p := ⟨gb122, 0, none⟩) (Kd.R_types HO_6.out BK122.out (by decide)) (fun _ hk => hk.2) (.slice A121_0 ((rd_T27 t117 x50_3).f0).length c121_0)) (fun _ hk => hk.2) (.slice A121_1 ((rd_T27 t117 x50_3).f1).length c121_1)) (fun _ h_ => h_.1))))) (Kd.R_lt (by (with_reducible repeat (first | apply Kd.R_alloc | apply Kd.R_drewN | apply Kd.R_drew)); exact (Kd.R_mono (Kd.R_far (p := ⟨gb122, 1, none⟩) (Kd.R_far (p := ⟨gb122, 0, none⟩) (Kd.R_types HO_113000.out BK122.out (by decide)) (fun _ hk => hk.2) (.slice A121_0 ((rd_T27 t117 x50_3).f0).length c121_0)) (fun _ hk => hk.2) (.slice A121_1 ((rd_T27 t117 x50_3).f1).length c121_1)) (fun _ h_ => h_.1))))) (Kd.R_lt (by (with_reducible repeat (first | apply Kd.R_alloc | apply Kd.R_drewN | apply Kd.R_drew)); exact (Kd.R_mono (Kd.R_far (p := ⟨gb122, 1, none⟩) (Kd.R_far (p := ⟨gb122, 0, none⟩) (Kd.R_types HO_113001.out BK122.out (by decide)) (fun _ hk => hk.2) (.slice A121_0 ((rd_T27 t117 x50_3).f0).length c121_0)) (fun _ hk => hk.2) (.slice A121_1 ((rd_T27 t117 x50_3).f1).length c121_1)) (fun _ h_ => h_.1))))) (Kd.R_lt (by (with_reducible repeat (first | apply Kd.R_alloc | apply Kd.R_drewN | apply Kd.R_drew)); exact (Kd.R_mono (Kd.R_far (p := ⟨gb122, 1, none⟩) (Kd.R_far (p := ⟨gb122, 0, none⟩) (Kd.R_types HL121_0.out BK122.out (by decide)) (fun _ hk => hk.2) (.slice A121_0 ((rd_T27 t117 x50_3).f0).length c121_0)) (fun _ hk => hk.2) (.slice A121_1 ((rd_T27 t117 x50_3).f1).length c121_1)) (fun _ h_ => h_.1))))) (Kd.R_lt (by (with_reducible repeat (first | apply Kd.R_alloc | apply Kd.R_drewN | apply Kd.R_drew)); exact (Kd.R_mono (Kd.R_far (p := ⟨gb122, 1, none⟩) (Kd.R_far (p := ⟨gb122, 0, none⟩) (Kd.R_types HL121_1.out BK122.out (by decide)) (fun _ hk => hk.2) (.slice A121_0 ((rd_T27 t117 x50_3).f0).length c121_0)) (fun _ hk => hk.2) (.slice A121_1 ((rd_T27 t117 x50_3).f1).length c121_1)) (fun _ h_ => h_.1))))) (below_size (by repeat (first | (with_reducible first | exact HB.out | apply below_alloc | apply pw_below_drewN | apply below_drew1 | refine below_set ?_ GE101.out | refine below_set ?_ GE112.out | refine below_set ?_ GE122.out) | exact HB.out)))); have n7_ := Aside0.mk (Kd.R_lower (Kd.R_new' (Kd.R_new' (Kd.R_new' (Kd.R_new' (Kd.R_new' ho1 (Kd.R_lt (by (with_reducible repeat (first | apply Kd.R_alloc | apply Kd.R_drewN | apply Kd.R_drew)); exact (Kd.R_mono (Kd.R_far (p := ⟨gb122, 1, none⟩) (Kd.R_far (p := ⟨gb122, 0, none⟩) (Kd.R_types HO_6.out BK122.out (by decide)) (fun _ hk => hk.2) (.slice A121_0 ((rd_T27 t117 x50_3).f0).length c121_0)) (fun _ hk => hk.2) (.slice A121_1 ((rd_T27 t117 x50_3).f1).length c121_1)) (fun _ h_ => h_.1))))) (Kd.R_lt (by (with_reducible repeat (first | apply Kd.R_alloc | apply Kd.R_drewN | apply Kd.R_drew)); exact (Kd.R_mono (Kd.R_far (p := ⟨gb122, 1, none⟩) (Kd.R_far (p := ⟨gb122, 0, none⟩) (Kd.R_types HO_113000.out BK122.out (by decide)) (fun _ hk => hk.2) (.slice A121_0 ((rd_T27 t117 x50_3).f0).length c121_0)) (fun _ hk => hk.2) (.slice A121_1 ((rd_T27 t117 x50_3).f1).length c121_1)) (fun _ h_ => h_.1))))) (Kd.R_lt (by (with_reducible repeat (first | apply Kd.R_alloc | apply Kd.R_drewN | apply Kd.R_drew)); exact (Kd.R_mono (Kd.R_far (p := ⟨gb122, 1, none⟩) (Kd.R_far (p := ⟨gb122, 0, none⟩) (Kd.R_types HO_113001.out BK122.out (by decide)) (fun _ hk => hk.2) (.slice A121_0 ((rd_T27 t117 x50_3).f0).length c121_0)) (fun _ hk => hk.2) (.slice A121_1 ((rd_T27 t117 x50_3).f1).length c121_1)) (fun _ h_ => h_.1))))) (Kd.R_lt (by (with_reducible repeat (first | apply Kd.R_alloc | apply Kd.R_drewN | apply Kd.R_drew)); exact (Kd.R_mono (Kd.R_far (p := ⟨gb122, 1, none⟩) (Kd.R_far (p := ⟨gb122, 0, none⟩) (Kd.R_types HL121_0.out BK122.out (by decide)) (fun _ hk => hk.2) (.slice A121_0 ((rd_T27 t117 x50_3).f0).length c121_0)) (fun _ hk => hk.2) (.slice A121_1 ((rd_T27 t117 x50_3).f1).length c121_1)) (fun _ h_ => h_.1))))) (Kd.R_lt (by (with_reducible repeat (first | apply Kd.R_alloc | apply Kd.R_drewN | apply Kd.R_drew)); exact (Kd.R_mono (Kd.R_far (p := ⟨gb122, 1, none⟩) (Kd.R_far (p := ⟨gb122, 0, none⟩) (Kd.R_types HL121_1.out BK122.out (by decide)) (fun _ hk => hk.2) (.slice A121_0 ((rd_T27 t117 x50_3).f0).length c121_0)) (fun _ hk => hk.2) (.slice A121_1 ((rd_T27 t117 x50_3).f1).length c121_1)) (fun _ h_ => h_.1))))) (below_size (by repeat (first | (with_reducible first | exact HB.out | apply below_alloc | apply pw_below_drewN | apply below_drew1 | refine below_set ?_ GE101.out | refine below_set ?_ GE112.out | refine below_set ?_ GE122.out) | exact HB.out)))); have n8_ := Aside0.mk (blk_below (g := gb101) (o := .cells #[.slice A0_0 l0_0.length c0_0, .slice A0_1 l0_1.length c0_1] 25 (0, 0)) (by (with_reducible repeat (first | refine blk_drewN ?_ _ | refine blk_drew ?_ | refine blk_alloc ?_ _)); refine blk_far ?_ NB101_122.out _; (with_reducible repeat (first | refine blk_drewN ?_ _ | refine blk_drew ?_ | refine blk_alloc ?_ _)); refine blk_far ?_ NB101_122.out _; (with_reducible repeat (first | refine blk_drewN ?_ _ | refine blk_drew ?_ | refine blk_alloc ?_ _)); exact BK101.out) hb); have n9_ := Aside0.mk (blk_below (g := gb112) (o := .cells #[.slice Ao29 t106.length co29, .slice Ao32 t109.length co32] 27 (0, 0)) (by (with_reducible repeat (first | refine blk_drewN ?_ _ | refine blk_drew ?_ | refine blk_alloc ?_ _)); refine blk_far ?_ NB112_122.out _; (with_reducible repeat (first | refine blk_drewN ?_ _ | refine blk_drew ?_ | refine blk_alloc ?_ _)); refine blk_far ?_ NB112_122.out _; (with_reducible repeat (first | refine blk_drewN ?_ _ | refine blk_drew ?_ | refine blk_alloc ?_ _)); exact BK112.out) hb); have n10_ := Aside0.mk (Kd.C_below ((Kd.R_reads' (by (with_reducible repeat (first | apply Kd.R_alloc | apply Kd.R_drewN | apply Kd.R_drew)); exact (Kd.R_mono (Kd.R_far (p := ⟨gb122, 1, none⟩) (Kd.R_far (p := ⟨gb122, 0, none⟩) (Kd.R_types HL121_0.out BK122.out (by decide)) (fun _ hk => hk.2) (.slice A121_0 ((rd_T27 t117 x50_3).f0).length c121_0)) (fun _ hk => hk.2) (.slice A121_1 ((rd_T27 t117 x50_3).f1).length c121_1)) (fun _ h_ => h_.1)))).2.2) hb); have n11_ := Aside0.mk (Kd.C_below ((Kd.R_reads' (by (with_reducible repeat (first | apply Kd.R_alloc | apply Kd.R_drewN | apply Kd.R_drew)); exact (Kd.R_mono (Kd.R_far (p := ⟨gb122, 1, none⟩) (Kd.R_far (p := ⟨gb122, 0, none⟩) (Kd.R_types HL121_1.out BK122.out (by decide)) (fun _ hk => hk.2) (.slice A121_0 ((rd_T27 t117 x50_3).f0).length c121_0)) (fun _ hk => hk.2) (.slice A121_1 ((rd_T27 t117 x50_3).f1).length c121_1)) (fun _ h_ => h_.1)))).2.2) hb); have n12_ := Aside0.mk (blk_below (g := gb122) (o := .cells #[.slice A121_0 ((rd_T27 t117 x50_3).f0).length c121_0, .slice A121_1 ((rd_T27 t117 x50_3).f1).length c121_1] 27 (0, 0)) (by (with_reducible repeat (first | refine blk_drewN ?_ _ | refine blk_drew ?_ | refine blk_alloc ?_ _)); refine blk_put (cs := #[.slice A121_0 ((rd_T27 t117 x50_3).f0).length c121_0, .slice none 0 0]) ?_ 1 _ rfl; (with_reducible repeat (first | refine blk_drewN ?_ _ | refine blk_drew ?_ | refine blk_alloc ?_ _)); refine blk_put (cs := #[.slice none 0 0, .slice none 0 0]) ?_ 0 _ rfl; (with_reducible repeat (first | refine blk_drewN ?_ _ | refine blk_drew ?_ | refine blk_alloc ?_ _)); exact BK122.out) hb); have n13_ := Aside0.mk (below_step (by repeat (first | (with_reducible first | exact HB.out | apply below_alloc | apply pw_below_drewN | apply below_drew1 | refine below_set ?_ GE101.out | refine below_set ?_ GE112.out | refine below_set ?_ GE122.out) | exact HB.out)) hb); clear HO_6; clear HO_48; clear HO_113000; clear HO_113001; clear HL121_0; clear HL121_1; clear BK101; clear BK112; clear HR121_0; clear HR121_1; clear BK122; clear HB; have HO_6 := n0_; have HO_48 := n1_; have HO_113000 := n2_; have HO_113001 := n3_; have HL121_0 := n4_; have HL121_1 := n5_; have HO125 := n6_; have HO128 := n7_; have BK101 := n8_; have BK112 := n9_; have HR121_0 := n10_; have HR121_1 := n11_; have BK122 := n12_; have HB := n13_; clear n0_ n1_ n2_ n3_ n4_ n5_ n6_ n7_ n8_ n9_ n10_ n11_ n12_ n13_; (try clear hb); (try clear hb2); (try clear hk); (try clear hi); (try clear ho0); (try clear ho1)) | ((with_reducible refine gate_dst (N := 13) rfl ?_); (try (refine gate_guard (by rfl) ?_; dsimp only)); refine box_event ?hg (N := 13) ?hd (cs := #[.slice none 0 0, .slice none 0 0]) (t := 27) ?hr ?_; (case hd => rfl); (case hg => rfl); (case hr => first | (go_simp; done) | (go_simp; rfl)); intro gb130 hg w53 hbox hb; have n0_ := Aside0.mk (Kd.R_below (by (with_reducible repeat (first | apply Kd.R_alloc | apply Kd.R_drewN | apply Kd.R_drew)); exact HO_6.out) hb); have n1_ := Aside0.mk (Kd.S_below (Kd.S_elderB (by (with_reducible repeat (first | apply Kd.S_alloc | apply Kd.S_drewN | apply Kd.S_drew)); exact HO_48.out) gb130 (Nat.le_of_eq hg.symm)) hb); have n2_ := Aside0.mk (Kd.R_below (by (with_reducible repeat (first | apply Kd.R_alloc | apply Kd.R_drewN | apply Kd.R_drew)); exact HO_113000.out) hb); have n3_ := Aside0.mk (Kd.R_below (by (with_reducible repeat (first | apply Kd.R_alloc | apply Kd.R_drewN | apply Kd.R_drew)); exact HO_113001.out) hb); have n4_ := Aside0.mk (Kd.R_below (by (with_reducible repeat (first | apply Kd.R_alloc | apply Kd.R_drewN | apply Kd.R_drew)); exact HL121_0.out) hb); have n5_ := Aside0.mk (Kd.R_below (by (with_reducible repeat (first | apply Kd.R_alloc | apply Kd.R_drewN | apply Kd.R_drew)); exact HL121_1.out) hb); have n6_ := Aside0.mk (Kd.R_below (by (with_reducible repeat (first | apply Kd.R_alloc | apply Kd.R_drewN | apply Kd.R_drew)); exact HO125.out) hb); have n7_ := Aside0.mk (Kd.R_below (by (with_reducible repeat (first | apply Kd.R_alloc | apply Kd.R_drewN | apply Kd.R_drew)); exact HO128.out) hb); have n8_ := Aside0.mk (blk_below (g := gb101) (o := .cells #[.slice A0_0 l0_0.length c0_0, .slice A0_1 l0_1.length c0_1] 25 (0, 0)) (by (with_reducible repeat (first | refine blk_drewN ?_ _ | refine blk_drew ?_ | refine blk_alloc ?_ _)); exact BK101.out) hb); have n9_ := Aside0.mk (blk_below (g := gb112) (o := .cells #[.slice Ao29 t106.length co29, .slice Ao32 t109.length co32] 27 (0, 0)) (by (with_reducible repeat (first | refine blk_drewN ?_ _ | refine blk_drew ?_ | refine blk_alloc ?_ _)); exact BK112.out) hb); have n10_ := Aside0.mk (Kd.C_below (by repeat (first | (with_reducible exact HR121_0.out) | (with_reducible refine Kd.C_alloc ?_ _) | (with_reducible refine Kd.C_drewN ?_ _) | (with_reducible refine Kd.C_drew ?_) | exact HR121_0.out)) hb); have n11_ := Aside0.mk (Kd.C_below (by repeat (first | (with_reducible exact HR121_1.out) | (with_reducible refine Kd.C_alloc ?_ _) | (with_reducible refine Kd.C_drewN ?_ _) | (with_reducible refine Kd.C_drew ?_) | exact HR121_1.out)) hb); have n12_ := Aside0.mk (blk_below (g := gb122) (o := .cells #[.slice A121_0 ((rd_T27 t117 x50_3).f0).length c121_0, .slice A121_1 ((rd_T27 t117 x50_3).f1).length c121_1] 27 (0, 0)) (by (with_reducible repeat (first | refine blk_drewN ?_ _ | refine blk_drew ?_ | refine blk_alloc ?_ _)); exact BK122.out) hb); have n13_ := Aside0.mk (below_step (by repeat (first | (with_reducible first | exact HB.out | apply below_alloc | apply pw_below_drewN | apply below_drew1 | refine below_set ?_ GE101.out | refine below_set ?_ GE112.out | refine below_set ?_ GE122.out) | exact HB.out)) hb); have n14_ := Aside0.mk (hbox); have n15_ := Aside0.mk ((by rw [hg]; exact (below_size (by repeat (first | (with_reducible first | exact HB.out | apply below_alloc | apply pw_below_drewN | apply below_drew1 | refine below_set ?_ GE101.out | refine below_set ?_ GE112.out | refine below_set ?_ GE122.out) | exact HB.out))) : w.heap.size ≤ gb130)); have n16_ := Aside0.mk ((by rw [hg]; exact (below_size (by repeat (first | (with_reducible first | exact HB.out | apply below_alloc | apply pw_below_drewN | apply below_drew1 | refine below_set ?_ GE101.out | refine below_set ?_ GE112.out | refine below_set ?_ GE122.out) | exact HB.out))) : w.heap.size ≤ gb130)); have n17_ := Aside0.mk ((by rw [hg]; exact Nat.ne_of_lt (blk_lt (g := gb101) (o := .cells #[.slice A0_0 l0_0.length c0_0, .slice A0_1 l0_1.length c0_1] 25 (0, 0)) (by (with_reducible repeat (first | refine blk_drewN ?_ _ | refine blk_drew ?_ | refine blk_alloc ?_ _)); exact BK101.out)) : gb101 ≠ gb130)); have n18_ := Aside0.mk ((by rw [hg]; exact Nat.ne_of_gt (blk_lt (g := gb101) (o := .cells #[.slice A0_0 l0_0.length c0_0, .slice A0_1 l0_1.length c0_1] 25 (0, 0)) (by (with_reducible repeat (first | refine blk_drewN ?_ _ | refine blk_drew ?_ | refine blk_alloc ?_ _)); exact BK101.out)) : gb130 ≠ gb101)); have n19_ := Aside0.mk ((by rw [hg]; exact Nat.ne_of_lt (blk_lt (g := gb112) (o := .cells #[.slice Ao29 t106.length co29, .slice Ao32 t109.length co32] 27 (0, 0)) (by (with_reducible repeat (first | refine blk_drewN ?_ _ | refine blk_drew ?_ | refine blk_alloc ?_ _)); exact BK112.out)) : gb112 ≠ gb130)); have n20_ := Aside0.mk ((by rw [hg]; exact Nat.ne_of_gt (blk_lt (g := gb112) (o := .cells #[.slice Ao29 t106.length co29, .slice Ao32 t109.length co32] 27 (0, 0)) (by (with_reducible repeat (first | refine blk_drewN ?_ _ | refine blk_drew ?_ | refine blk_alloc ?_ _)); exact BK112.out)) : gb130 ≠ gb112)); have n21_ := Aside0.mk ((by rw [hg]; exact Nat.ne_of_lt (blk_lt (g := gb122) (o := .cells #[.slice A121_0 ((rd_T27 t117 x50_3).f0).length c121_0, .slice A121_1 ((rd_T27 t117 x50_3).f1).length c121_1] 27 (0, 0)) (by (with_reducible repeat (first | refine blk_drewN ?_ _ | refine blk_drew ?_ | refine blk_alloc ?_ _)); exact BK122.out)) : gb122 ≠ gb130)); have n22_ := Aside0.mk ((by rw [hg]; exact Nat.ne_of_gt (blk_lt (g := gb122) (o := .cells #[.slice A121_0 ((rd_T27 t117 x50_3).f0).length c121_0, .slice A121_1 ((rd_T27 t117 x50_3).f1).length c121_1] 27 (0, 0)) (by (with_reducible repeat (first | refine blk_drewN ?_ _ | refine blk_drew ?_ | refine blk_alloc ?_ _)); exact BK122.out)) : gb130 ≠ gb122)); clear HO_6; clear HO_48; clear HO_113000; clear HO_113001; clear HL121_0; clear HL121_1; clear HO125; clear HO128; clear BK101; clear BK112; clear HR121_0; clear HR121_1; clear BK122; clear HB; have HO_6 := n0_; have HO_48 := n1_; have HO_113000 := n2_; have HO_113001 := n3_; have HL121_0 := n4_; have HL121_1 := n5_; have HO125 := n6_; have HO128 := n7_; have BK101 := n8_; have BK112 := n9_; have HR121_0 := n10_; have HR121_1 := n11_; have BK122 := n12_; have HB := n13_; have BK130 := n14_; have GW130 := n15_; have GE130 := n16_; have NB101_130 := n17_; have NB130_101 := n18_; have NB112_130 := n19_; have NB130_112 := n20_; have NB122_130 := n21_; have NB130_122 := n22_; clear n0_ n1_ n2_ n3_ n4_ n5_ n6_ n7_ n8_ n9_ n10_ n11_ n12_ n13_ n14_ n15_ n16_ n17_ n18_ n19_ n20_ n21_ n22_; clear hb hbox hg; obtain ⟨Ao54, co54, eo54⟩ := Kd.R_slice HO125.out; subst eo54; have hnb55 := NB130_101.out; have hnc55 := NB101_130.out; have hnb56 := NB130_112.out; have hnc56 := NB112_130.out; have hnb57 := NB130_122.out; have hnc57 := NB122_130.out; have hcz58_0 : w53.cell? ⟨gb130, 0, none⟩ = some (.slice none 0 0) := (blk_cell BK130.out 0).trans rfl; have hcz58_1 : w53.cell? ⟨gb130, 1, none⟩ = some (.slice none 0 0) := (blk_cell BK130.out 1).trans rfl; have hfz58_0 := blk_frozen BK130.out 0; have hfz58_1 := blk_frozen BK130.out 1; obtain ⟨Ao59, co59, eo59⟩ := Kd.R_slice HO128.out; subst eo59))
                        (try simp only [Act.put, List.setIfInBounds_toArray, List.set_cons_zero, List.set_cons_succ])
                        go_cut [74] (fun v74 wc => ∃ (kq : Nat) (x74_43 : Bool), v74 = .bool x74_43 ∧ Aside0 (scarfjointlaw07_SubgraphBoundary.j3 kq t113 x10_3 t117 (t117.length : Int) x50_3 x74_43 l0_0 l0_1 t106 t109 = some r) ∧ Aside0 (kq ≤ k3) ∧ Aside0 (Kd.R (Kd.int .i64) 3 wc w.heap.size (fun k_ => some k_ ≠ ((.slice Ao29 t106.length co29) : Value).ownBlock ∧ some k_ ≠ ((.slice Ao32 t109.length co32) : Value).ownBlock ∧ some k_ ≠ ((.slice Ao54 t123.length co54) : Value).ownBlock ∧ some k_ ≠ ((.slice Ao59 t126.length co59) : Value).ownBlock) v114 t113) ∧ Aside0 (Kd.S k27 27 wc w.heap.size (fun k_ => some k_ ≠ (v114 : Value).ownBlock ∧ some k_ ≠ ((.slice Ao29 t106.length co29) : Value).ownBlock ∧ some k_ ≠ ((.slice Ao32 t109.length co32) : Value).ownBlock ∧ some k_ ≠ ((.slice Ao54 t123.length co54) : Value).ownBlock ∧ some k_ ≠ ((.slice Ao59 t126.length co59) : Value).ownBlock ∧ k_ ≠ gb112 ∧ k_ ≠ gb130) (.slice (some ad121) t117.length co39) t117) ∧ Aside0 (Kd.R (Kd.int .i64) 3 wc w.heap.size (fun k_ => some k_ ≠ (v114 : Value).ownBlock ∧ some k_ ≠ ((.slice Ao32 t109.length co32) : Value).ownBlock ∧ some k_ ≠ ((.slice Ao54 t123.length co54) : Value).ownBlock ∧ some k_ ≠ ((.slice Ao59 t126.length co59) : Value).ownBlock) (.slice Ao29 t106.length co29) t106) ∧ Aside0 (Kd.R (Kd.int .i64) 3 wc w.heap.size (fun k_ => some k_ ≠ (v114 : Value).ownBlock ∧ some k_ ≠ ((.slice Ao29 t106.length co29) : Value).ownBlock ∧ some k_ ≠ ((.slice Ao54 t123.length co54) : Value).ownBlock ∧ some k_ ≠ ((.slice Ao59 t126.length co59) : Value).ownBlock) (.slice Ao32 t109.length co32) t109) ∧ Aside0 (Kd.R (Kd.int .i64) 3 wc w.heap.size (fun k_ => some k_ ≠ (v114 : Value).ownBlock ∧ some k_ ≠ ((.slice Ao29 t106.length co29) : Value).ownBlock ∧ some k_ ≠ ((.slice Ao32 t109.length co32) : Value).ownBlock ∧ some k_ ≠ ((.slice Ao59 t126.length co59) : Value).ownBlock) (.slice Ao54 t123.length co54) t123) ∧ Aside0 (Kd.R (Kd.int .i64) 3 wc w.heap.size (fun k_ => some k_ ≠ (v114 : Value).ownBlock ∧ some k_ ≠ ((.slice Ao29 t106.length co29) : Value).ownBlock ∧ some k_ ≠ ((.slice Ao32 t109.length co32) : Value).ownBlock ∧ some k_ ≠ ((.slice Ao54 t123.length co54) : Value).ownBlock) (.slice Ao59 t126.length co59) t126) ∧ Aside0 (wc.heap[gb101]? = some (.cells #[(.slice A0_0 l0_0.length c0_0), (.slice A0_1 l0_1.length c0_1)] 25 (0, 0))) ∧ Aside0 (wc.heap[gb112]? = some (.cells #[(.slice Ao29 t106.length co29), (.slice Ao32 t109.length co32)] 27 (0, 0))) ∧ Aside0 (wc.heap[gb130]? = some (.cells #[(.slice Ao54 t123.length co54), (.slice Ao59 t126.length co59)] 27 (0, 0))) ∧ Aside0 (Kd.C (Kd.int .i64) wc A121_0 ((rd_T27 t117 x50_3).f0).length ((rd_T27 t117 x50_3).f0)) ∧ Aside0 (Kd.C (Kd.int .i64) wc A121_1 ((rd_T27 t117 x50_3).f1).length ((rd_T27 t117 x50_3).f1)) ∧ Aside0 (Below w.heap.size w wc))
                        case first =>
                          have H := HC44.out
                          clear HC44
                          by_cases c60 : t129 = 0
                          · rw [if_pos c60] at H
                            have c60b0 : (t129 == 0) = true := beq_iff_eq.mpr c60
                            have c60b1 : (t129 != 0) = false := bne_eq_false_iff_eq.mpr c60
                            clear c60
                            (first | rw [c60b0] | (simp only [i64_w, i32_w]; rw [c60b0]) | skip)
                            by_cases c61 : (t123.length : Int) > 0
                            · rw [if_pos c61] at H
                              have c61b0 : decide (0 < (t123.length : Int)) = true := decide_eq_true c61
                              have c61b1 : decide (0 < t123.length) = true := decide_eq_true (by omega)
                              clear c61
                              replace H := Option.bind_eq_some_iff.mp H
                              obtain ⟨t131, A620, H⟩ := H
                              replace H : (scarfjointlaw07_SubgraphBoundary.j3 k3 t113 x10_3 t117 (t117.length : Int) x50_3 (!t131) l0_0 l0_1 t106 t109) = some r := H
                              have A62 := Aside0.mk A620
                              clear A620
                              have H' := Aside0.mk H
                              clear H
                              have hnb63 := NB130_101.out
                              have hnc63 := NB101_130.out
                              have hnb64 := NB130_112.out
                              have hnc64 := NB112_130.out
                              have hnb65 := NB130_122.out
                              have hnc65 := NB122_130.out
                              have hcz66_0 : w53.cell? ⟨gb130, 0, none⟩ = some (.slice none 0 0) := (blk_cell BK130.out 0).trans rfl
                              have hcz66_1 : w53.cell? ⟨gb130, 1, none⟩ = some (.slice none 0 0) := (blk_cell BK130.out 1).trans rfl
                              have hfz66_0 := blk_frozen BK130.out 0
                              have hfz66_1 := blk_frozen BK130.out 1
                              have hnb67 := NB122_101.out
                              have hnc67 := NB101_122.out
                              have hnb68 := NB122_112.out
                              have hnc68 := NB112_122.out
                              have hcz69_0 : w53.cell? ⟨gb122, 0, none⟩ = some (.slice A121_0 ((rd_T27 t117 x50_3).f0).length c121_0) := (blk_cell BK122.out 0).trans rfl
                              have hcz69_1 : w53.cell? ⟨gb122, 1, none⟩ = some (.slice A121_1 ((rd_T27 t117 x50_3).f1).length c121_1) := (blk_cell BK122.out 1).trans rfl
                              have hfz69_0 := blk_frozen BK122.out 0
                              have hfz69_1 := blk_frozen BK122.out 1
                              have hnb70 := NB112_101.out
                              have hnc70 := NB101_112.out
                              have hcz71_0 : w53.cell? ⟨gb112, 0, none⟩ = some (.slice Ao29 t106.length co29) := (blk_cell BK112.out 0).trans rfl
                              have hcz71_1 : w53.cell? ⟨gb112, 1, none⟩ = some (.slice Ao32 t109.length co32) := (blk_cell BK112.out 1).trans rfl
                              have hfz71_0 := blk_frozen BK112.out 0
                              have hfz71_1 := blk_frozen BK112.out 1
                              go_wp2_with (first | (go_at_call 19; (with_reducible refine (scarfjointref07_In.calls k3 _ _ ((rd_T27 t117 x50_3).f0) _ _ ((rd_T27 t117 x50_3).f1) _ _ t106 _ _ t109 t131 _ ?side1 ?side2 ?side3 ?side4 ?side5 ?side6 ?side7 ?side8 A62.out).mono ?_); (case side1 => repeat (first | exact ((Kd.R_reads' (by (with_reducible repeat (first | apply Kd.R_alloc | apply Kd.R_drewN | apply Kd.R_drew)); exact (Kd.R_mono (Kd.R_far (p := ⟨gb130, 1, none⟩) (Kd.R_far (p := ⟨gb130, 0, none⟩) (Kd.R_types HL121_0.out BK130.out (by decide)) (fun _ hk => hk.2) (.slice Ao54 t123.length co54)) (fun _ hk => hk.2) (.slice Ao59 t126.length co59)) (fun _ h_ => h_.1)))).2.2) | (with_reducible refine Kd.C_alloc ?_ _) | (with_reducible refine Kd.C_drewN ?_ _) | (with_reducible refine Kd.C_drew ?_))); (case side2 => exact HC121_0.out); (case side3 => repeat (first | exact ((Kd.R_reads' (by (with_reducible repeat (first | apply Kd.R_alloc | apply Kd.R_drewN | apply Kd.R_drew)); exact (Kd.R_mono (Kd.R_far (p := ⟨gb130, 1, none⟩) (Kd.R_far (p := ⟨gb130, 0, none⟩) (Kd.R_types HL121_1.out BK130.out (by decide)) (fun _ hk => hk.2) (.slice Ao54 t123.length co54)) (fun _ hk => hk.2) (.slice Ao59 t126.length co59)) (fun _ h_ => h_.1)))).2.2) | (with_reducible refine Kd.C_alloc ?_ _) | (with_reducible refine Kd.C_drewN ?_ _) | (with_reducible refine Kd.C_drew ?_))); (case side4 => exact HC121_1.out); (case side5 => refine (Kd.R_reads' (e := 3) (base := w.heap.size) (ok := fun k_ => (((some k_ ≠ (v114 : Value).ownBlock ∧ some k_ ≠ (.slice Ao32 t109.length co32 : Value).ownBlock) ∧ some k_ ≠ (.slice Ao54 t123.length co54 : Value).ownBlock) ∧ some k_ ≠ (.slice Ao59 t126.length co59 : Value).ownBlock)) (n := t106.length) (c := co29) ?_).2.2; exact (by (with_reducible repeat (first | apply Kd.R_alloc | apply Kd.R_drewN | apply Kd.R_drew)); exact (Kd.R_mono (Kd.R_far (p := ⟨gb130, 1, none⟩) (Kd.R_far (p := ⟨gb130, 0, none⟩) (Kd.R_types HO_113000.out BK130.out (by decide)) (fun _ hk => hk.2) (.slice Ao54 t123.length co54)) (fun _ hk => hk.2) (.slice Ao59 t126.length co59)) (fun _ h_ => h_.1)))); (case side6 => exact (Kd.R_reads' HO_113000.out).2.1); (case side7 => refine (Kd.R_reads' (e := 3) (base := w.heap.size) (ok := fun k_ => (((some k_ ≠ (v114 : Value).ownBlock ∧ some k_ ≠ (.slice Ao29 t106.length co29 : Value).ownBlock) ∧ some k_ ≠ (.slice Ao54 t123.length co54 : Value).ownBlock) ∧ some k_ ≠ (.slice Ao59 t126.length co59 : Value).ownBlock)) (n := t109.length) (c := co32) ?_).2.2; exact (by (with_reducible repeat (first | apply Kd.R_alloc | apply Kd.R_drewN | apply Kd.R_drew)); exact (Kd.R_mono (Kd.R_far (p := ⟨gb130, 1, none⟩) (Kd.R_far (p := ⟨gb130, 0, none⟩) (Kd.R_types HO_113001.out BK130.out (by decide)) (fun _ hk => hk.2) (.slice Ao54 t123.length co54)) (fun _ hk => hk.2) (.slice Ao59 t126.length co59)) (fun _ h_ => h_.1)))); (case side8 => exact (Kd.R_reads' HO_113001.out).2.1); rintro e w72 ⟨rfl, hb⟩; have n0_ := Aside0.mk (Kd.R_below (by (with_reducible repeat (first | apply Kd.R_alloc | apply Kd.R_drewN | apply Kd.R_drew)); exact (Kd.R_mono (Kd.R_far (p := ⟨gb130, 1, none⟩) (Kd.R_far (p := ⟨gb130, 0, none⟩) (Kd.R_types HO_6.out BK130.out (by decide)) (fun _ hk => hk.2) (.slice Ao54 t123.length co54)) (fun _ hk => hk.2) (.slice Ao59 t126.length co59)) (fun _ h_ => h_.1))) hb); have n1_ := Aside0.mk (Kd.S_below (by (with_reducible repeat (first | apply Kd.S_alloc | apply Kd.S_drewN | apply Kd.S_drew)); exact (Kd.S_mono (Kd.S_far (p := ⟨gb130, 1, none⟩) (Kd.S_far (p := ⟨gb130, 0, none⟩) (Kd.S_mono HO_48.out (fun k_ hk => (⟨hk, hk.2⟩ : _ ∧ k_ ≠ gb130))) (fun _ hk => hk.2) (.slice Ao54 t123.length co54)) (fun _ hk => hk.2) (.slice Ao59 t126.length co59)) (fun _ h_ => h_.1))) hb); have n2_ := Aside0.mk (Kd.R_below (by (with_reducible repeat (first | apply Kd.R_alloc | apply Kd.R_drewN | apply Kd.R_drew)); exact (Kd.R_mono (Kd.R_far (p := ⟨gb130, 1, none⟩) (Kd.R_far (p := ⟨gb130, 0, none⟩) (Kd.R_types HO_113000.out BK130.out (by decide)) (fun _ hk => hk.2) (.slice Ao54 t123.length co54)) (fun _ hk => hk.2) (.slice Ao59 t126.length co59)) (fun _ h_ => h_.1))) hb); have n3_ := Aside0.mk (Kd.R_below (by (with_reducible repeat (first | apply Kd.R_alloc | apply Kd.R_drewN | apply Kd.R_drew)); exact (Kd.R_mono (Kd.R_far (p := ⟨gb130, 1, none⟩) (Kd.R_far (p := ⟨gb130, 0, none⟩) (Kd.R_types HO_113001.out BK130.out (by decide)) (fun _ hk => hk.2) (.slice Ao54 t123.length co54)) (fun _ hk => hk.2) (.slice Ao59 t126.length co59)) (fun _ h_ => h_.1))) hb); have n4_ := Aside0.mk (Kd.R_below (by (with_reducible repeat (first | apply Kd.R_alloc | apply Kd.R_drewN | apply Kd.R_drew)); exact (Kd.R_mono (Kd.R_far (p := ⟨gb130, 1, none⟩) (Kd.R_far (p := ⟨gb130, 0, none⟩) (Kd.R_types HL121_0.out BK130.out (by decide)) (fun _ hk => hk.2) (.slice Ao54 t123.length co54)) (fun _ hk => hk.2) (.slice Ao59 t126.length co59)) (fun _ h_ => h_.1))) hb); have n5_ := Aside0.mk (Kd.R_below (by (with_reducible repeat (first | apply Kd.R_alloc | apply Kd.R_drewN | apply Kd.R_drew)); exact (Kd.R_mono (Kd.R_far (p := ⟨gb130, 1, none⟩) (Kd.R_far (p := ⟨gb130, 0, none⟩) (Kd.R_types HL121_1.out BK130.out (by decide)) (fun _ hk => hk.2) (.slice Ao54 t123.length co54)) (fun _ hk => hk.2) (.slice Ao59 t126.length co59)) (fun _ h_ => h_.1))) hb); have n6_ := Aside0.mk (Kd.R_below (by (with_reducible repeat (first | apply Kd.R_alloc | apply Kd.R_drewN | apply Kd.R_drew)); exact (Kd.R_mono (Kd.R_far (p := ⟨gb130, 1, none⟩) (Kd.R_far (p := ⟨gb130, 0, none⟩) (Kd.R_types HO125.out BK130.out (by decide)) (fun _ hk => hk.2) (.slice Ao54 t123.length co54)) (fun _ hk => hk.2) (.slice Ao59 t126.length co59)) (fun _ h_ => h_.1))) hb); have n7_ := Aside0.mk (Kd.R_below (by (with_reducible repeat (first | apply Kd.R_alloc | apply Kd.R_drewN | apply Kd.R_drew)); exact (Kd.R_mono (Kd.R_far (p := ⟨gb130, 1, none⟩) (Kd.R_far (p := ⟨gb130, 0, none⟩) (Kd.R_types HO128.out BK130.out (by decide)) (fun _ hk => hk.2) (.slice Ao54 t123.length co54)) (fun _ hk => hk.2) (.slice Ao59 t126.length co59)) (fun _ h_ => h_.1))) hb); have n8_ := Aside0.mk (blk_below (g := gb101) (o := .cells #[.slice A0_0 l0_0.length c0_0, .slice A0_1 l0_1.length c0_1] 25 (0, 0)) (by (with_reducible repeat (first | refine blk_drewN ?_ _ | refine blk_drew ?_ | refine blk_alloc ?_ _)); refine blk_far ?_ NB101_130.out _; (with_reducible repeat (first | refine blk_drewN ?_ _ | refine blk_drew ?_ | refine blk_alloc ?_ _)); refine blk_far ?_ NB101_130.out _; (with_reducible repeat (first | refine blk_drewN ?_ _ | refine blk_drew ?_ | refine blk_alloc ?_ _)); exact BK101.out) hb); have n9_ := Aside0.mk (blk_below (g := gb112) (o := .cells #[.slice Ao29 t106.length co29, .slice Ao32 t109.length co32] 27 (0, 0)) (by (with_reducible repeat (first | refine blk_drewN ?_ _ | refine blk_drew ?_ | refine blk_alloc ?_ _)); refine blk_far ?_ NB112_130.out _; (with_reducible repeat (first | refine blk_drewN ?_ _ | refine blk_drew ?_ | refine blk_alloc ?_ _)); refine blk_far ?_ NB112_130.out _; (with_reducible repeat (first | refine blk_drewN ?_ _ | refine blk_drew ?_ | refine blk_alloc ?_ _)); exact BK112.out) hb); have n10_ := Aside0.mk (Kd.C_below ((Kd.R_reads' (by (with_reducible repeat (first | apply Kd.R_alloc | apply Kd.R_drewN | apply Kd.R_drew)); exact (Kd.R_mono (Kd.R_far (p := ⟨gb130, 1, none⟩) (Kd.R_far (p := ⟨gb130, 0, none⟩) (Kd.R_types HL121_0.out BK130.out (by decide)) (fun _ hk => hk.2) (.slice Ao54 t123.length co54)) (fun _ hk => hk.2) (.slice Ao59 t126.length co59)) (fun _ h_ => h_.1)))).2.2) hb); have n11_ := Aside0.mk (Kd.C_below ((Kd.R_reads' (by (with_reducible repeat (first | apply Kd.R_alloc | apply Kd.R_drewN | apply Kd.R_drew)); exact (Kd.R_mono (Kd.R_far (p := ⟨gb130, 1, none⟩) (Kd.R_far (p := ⟨gb130, 0, none⟩) (Kd.R_types HL121_1.out BK130.out (by decide)) (fun _ hk => hk.2) (.slice Ao54 t123.length co54)) (fun _ hk => hk.2) (.slice Ao59 t126.length co59)) (fun _ h_ => h_.1)))).2.2) hb); have n12_ := Aside0.mk (blk_below (g := gb122) (o := .cells #[.slice A121_0 ((rd_T27 t117 x50_3).f0).length c121_0, .slice A121_1 ((rd_T27 t117 x50_3).f1).length c121_1] 27 (0, 0)) (by (with_reducible repeat (first | refine blk_drewN ?_ _ | refine blk_drew ?_ | refine blk_alloc ?_ _)); refine blk_far ?_ NB122_130.out _; (with_reducible repeat (first | refine blk_drewN ?_ _ | refine blk_drew ?_ | refine blk_alloc ?_ _)); refine blk_far ?_ NB122_130.out _; (with_reducible repeat (first | refine blk_drewN ?_ _ | refine blk_drew ?_ | refine blk_alloc ?_ _)); exact BK122.out) hb); have n13_ := Aside0.mk (blk_below (g := gb130) (o := .cells #[.slice Ao54 t123.length co54, .slice Ao59 t126.length co59] 27 (0, 0)) (by (with_reducible repeat (first | refine blk_drewN ?_ _ | refine blk_drew ?_ | refine blk_alloc ?_ _)); refine blk_put (cs := #[.slice Ao54 t123.length co54, .slice none 0 0]) ?_ 1 _ rfl; (with_reducible repeat (first | refine blk_drewN ?_ _ | refine blk_drew ?_ | refine blk_alloc ?_ _)); refine blk_put (cs := #[.slice none 0 0, .slice none 0 0]) ?_ 0 _ rfl; (with_reducible repeat (first | refine blk_drewN ?_ _ | refine blk_drew ?_ | refine blk_alloc ?_ _)); exact BK130.out) hb); have n14_ := Aside0.mk (below_step (by repeat (first | (with_reducible first | exact HB.out | apply below_alloc | apply pw_below_drewN | apply below_drew1 | refine below_set ?_ GE101.out | refine below_set ?_ GE112.out | refine below_set ?_ GE122.out | refine below_set ?_ GE130.out) | exact HB.out)) hb); clear HO_6; clear HO_48; clear HO_113000; clear HO_113001; clear HL121_0; clear HL121_1; clear HO125; clear HO128; clear BK101; clear BK112; clear HR121_0; clear HR121_1; clear BK122; clear BK130; clear HB; have HO_6 := n0_; have HO_48 := n1_; have HO_113000 := n2_; have HO_113001 := n3_; have HL121_0 := n4_; have HL121_1 := n5_; have HO125 := n6_; have HO128 := n7_; have BK101 := n8_; have BK112 := n9_; have HR121_0 := n10_; have HR121_1 := n11_; have BK122 := n12_; have BK130 := n13_; have HB := n14_; clear n0_ n1_ n2_ n3_ n4_ n5_ n6_ n7_ n8_ n9_ n10_ n11_ n12_ n13_ n14_; (try clear hb); (try clear hb2); (try clear hk); (try clear hi)))
                              go_meet
                              case rel => exact ⟨_, (!t131), (by first | rfl | (simp; done) | (simp [*]; done)), H', ⟨by have := HJ2.out; have := HJ24.out; have := HK3.out; first | omega | exact Nat.le_refl _⟩, ⟨by (with_reducible repeat (first | apply Kd.R_alloc | apply Kd.R_drewN | apply Kd.R_drew)); exact Kd.R_mono HO_6.out (fun _ hk => ⟨hk.1.1.1, ⟨hk.1.1.2, ⟨hk.1.2, hk.2⟩⟩⟩)⟩, ⟨by (with_reducible repeat (first | apply Kd.S_alloc | apply Kd.S_drewN | apply Kd.S_drew)); exact Kd.S_mono HO_48.out (fun _ hk => ⟨hk.1.1.1.1.1, ⟨hk.1.1.1.1.2.1, ⟨hk.1.1.1.1.2.2.1, ⟨hk.1.1.2, ⟨hk.1.2, ⟨hk.1.1.1.1.2.2.2, hk.2⟩⟩⟩⟩⟩⟩)⟩, ⟨by (with_reducible repeat (first | apply Kd.R_alloc | apply Kd.R_drewN | apply Kd.R_drew)); exact Kd.R_mono HO_113000.out (fun _ hk => ⟨hk.1.1.1, ⟨hk.1.1.2, ⟨hk.1.2, hk.2⟩⟩⟩)⟩, ⟨by (with_reducible repeat (first | apply Kd.R_alloc | apply Kd.R_drewN | apply Kd.R_drew)); exact Kd.R_mono HO_113001.out (fun _ hk => ⟨hk.1.1.1, ⟨hk.1.1.2, ⟨hk.1.2, hk.2⟩⟩⟩)⟩, ⟨by (with_reducible repeat (first | apply Kd.R_alloc | apply Kd.R_drewN | apply Kd.R_drew)); exact Kd.R_mono HO125.out (fun _ hk => ⟨hk.1.1.1.1.2, ⟨hk.1.1.1.2, ⟨hk.1.1.2, hk.1.1.1.1.1⟩⟩⟩)⟩, ⟨by (with_reducible repeat (first | apply Kd.R_alloc | apply Kd.R_drewN | apply Kd.R_drew)); exact Kd.R_mono HO128.out (fun _ hk => ⟨hk.1.1.1.1.2, ⟨hk.1.1.1.2, ⟨hk.1.1.2, hk.1.1.1.1.1⟩⟩⟩)⟩, ⟨by (with_reducible repeat (first | refine blk_drewN ?_ _ | refine blk_drew ?_ | refine blk_alloc ?_ _)); exact BK101.out⟩, ⟨by (with_reducible repeat (first | refine blk_drewN ?_ _ | refine blk_drew ?_ | refine blk_alloc ?_ _)); exact BK112.out⟩, ⟨by (with_reducible repeat (first | refine blk_drewN ?_ _ | refine blk_drew ?_ | refine blk_alloc ?_ _)); exact BK130.out⟩, ⟨by repeat (first | (with_reducible exact HR121_0.out) | (with_reducible refine Kd.C_alloc ?_ _) | (with_reducible refine Kd.C_drewN ?_ _) | (with_reducible refine Kd.C_drew ?_) | exact HR121_0.out)⟩, ⟨by repeat (first | (with_reducible exact HR121_1.out) | (with_reducible refine Kd.C_alloc ?_ _) | (with_reducible refine Kd.C_drewN ?_ _) | (with_reducible refine Kd.C_drew ?_) | exact HR121_1.out)⟩, ⟨by repeat (first | (with_reducible first | exact HB.out | apply below_alloc | apply pw_below_drewN | apply below_drew1 | refine below_set ?_ GE101.out | refine below_set ?_ GE112.out | refine below_set ?_ GE122.out | refine below_set ?_ GE130.out) | exact HB.out)⟩⟩
                            · rw [if_neg c61] at H
                              have c61b0 : decide (0 < (t123.length : Int)) = false := decide_eq_false c61
                              have c61b1 : decide (0 < t123.length) = false := decide_eq_false (by omega)
                              clear c61
                              have H' := Aside0.mk H
                              clear H
                              have hnb73 := NB130_101.out
                              have hnc73 := NB101_130.out
                              have hnb74 := NB130_112.out
                              have hnc74 := NB112_130.out
                              have hnb75 := NB130_122.out
                              have hnc75 := NB122_130.out
                              have hcz76_0 : w53.cell? ⟨gb130, 0, none⟩ = some (.slice none 0 0) := (blk_cell BK130.out 0).trans rfl
                              have hcz76_1 : w53.cell? ⟨gb130, 1, none⟩ = some (.slice none 0 0) := (blk_cell BK130.out 1).trans rfl
                              have hfz76_0 := blk_frozen BK130.out 0
                              have hfz76_1 := blk_frozen BK130.out 1
                              go_wp2
                              go_meet
                              case rel => exact ⟨_, (false), (by first | rfl | (simp; done) | (simp [*]; done)), H', ⟨by have := HJ2.out; have := HJ24.out; have := HK3.out; first | omega | exact Nat.le_refl _⟩, ⟨by (with_reducible repeat (first | apply Kd.R_alloc | apply Kd.R_drewN | apply Kd.R_drew)); exact Kd.R_mono (Kd.R_far (p := ⟨gb130, 1, none⟩) (Kd.R_far (p := ⟨gb130, 0, none⟩) (Kd.R_types HO_6.out BK130.out (by decide)) (fun _ hk => hk.2) (.slice Ao54 t123.length co54)) (fun _ hk => hk.2) (.slice Ao59 t126.length co59)) (fun _ hk => ⟨hk.1.1.1.1, ⟨hk.1.1.1.2, ⟨hk.1.1.2, hk.1.2⟩⟩⟩)⟩, ⟨by (with_reducible repeat (first | apply Kd.S_alloc | apply Kd.S_drewN | apply Kd.S_drew)); exact Kd.S_mono (Kd.S_far (p := ⟨gb130, 1, none⟩) (Kd.S_far (p := ⟨gb130, 0, none⟩) (Kd.S_mono HO_48.out (fun k_ hk => (⟨hk, hk.2⟩ : _ ∧ k_ ≠ gb130))) (fun _ hk => hk.2) (.slice Ao54 t123.length co54)) (fun _ hk => hk.2) (.slice Ao59 t126.length co59)) (fun _ hk => ⟨hk.1.1.1.1.1.1, ⟨hk.1.1.1.1.1.2.1, ⟨hk.1.1.1.1.1.2.2.1, ⟨hk.1.1.1.2, ⟨hk.1.1.2, ⟨hk.1.1.1.1.1.2.2.2, hk.1.2⟩⟩⟩⟩⟩⟩)⟩, ⟨by (with_reducible repeat (first | apply Kd.R_alloc | apply Kd.R_drewN | apply Kd.R_drew)); exact Kd.R_mono (Kd.R_far (p := ⟨gb130, 1, none⟩) (Kd.R_far (p := ⟨gb130, 0, none⟩) (Kd.R_types HO_113000.out BK130.out (by decide)) (fun _ hk => hk.2) (.slice Ao54 t123.length co54)) (fun _ hk => hk.2) (.slice Ao59 t126.length co59)) (fun _ hk => ⟨hk.1.1.1.1, ⟨hk.1.1.1.2, ⟨hk.1.1.2, hk.1.2⟩⟩⟩)⟩, ⟨by (with_reducible repeat (first | apply Kd.R_alloc | apply Kd.R_drewN | apply Kd.R_drew)); exact Kd.R_mono (Kd.R_far (p := ⟨gb130, 1, none⟩) (Kd.R_far (p := ⟨gb130, 0, none⟩) (Kd.R_types HO_113001.out BK130.out (by decide)) (fun _ hk => hk.2) (.slice Ao54 t123.length co54)) (fun _ hk => hk.2) (.slice Ao59 t126.length co59)) (fun _ hk => ⟨hk.1.1.1.1, ⟨hk.1.1.1.2, ⟨hk.1.1.2, hk.1.2⟩⟩⟩)⟩, ⟨by (with_reducible repeat (first | apply Kd.R_alloc | apply Kd.R_drewN | apply Kd.R_drew)); exact Kd.R_mono (Kd.R_far (p := ⟨gb130, 1, none⟩) (Kd.R_far (p := ⟨gb130, 0, none⟩) (Kd.R_types HO125.out BK130.out (by decide)) (fun _ hk => hk.2) (.slice Ao54 t123.length co54)) (fun _ hk => hk.2) (.slice Ao59 t126.length co59)) (fun _ hk => ⟨hk.1.1.1.1.1.2, ⟨hk.1.1.1.1.2, ⟨hk.1.1.1.2, hk.1.1.1.1.1.1⟩⟩⟩)⟩, ⟨by (with_reducible repeat (first | apply Kd.R_alloc | apply Kd.R_drewN | apply Kd.R_drew)); exact Kd.R_mono (Kd.R_far (p := ⟨gb130, 1, none⟩) (Kd.R_far (p := ⟨gb130, 0, none⟩) (Kd.R_types HO128.out BK130.out (by decide)) (fun _ hk => hk.2) (.slice Ao54 t123.length co54)) (fun _ hk => hk.2) (.slice Ao59 t126.length co59)) (fun _ hk => ⟨hk.1.1.1.1.1.2, ⟨hk.1.1.1.1.2, ⟨hk.1.1.1.2, hk.1.1.1.1.1.1⟩⟩⟩)⟩, ⟨by (with_reducible repeat (first | refine blk_drewN ?_ _ | refine blk_drew ?_ | refine blk_alloc ?_ _)); refine blk_far ?_ NB101_130.out _; (with_reducible repeat (first | refine blk_drewN ?_ _ | refine blk_drew ?_ | refine blk_alloc ?_ _)); refine blk_far ?_ NB101_130.out _; (with_reducible repeat (first | refine blk_drewN ?_ _ | refine blk_drew ?_ | refine blk_alloc ?_ _)); exact BK101.out⟩, ⟨by (with_reducible repeat (first | refine blk_drewN ?_ _ | refine blk_drew ?_ | refine blk_alloc ?_ _)); refine blk_far ?_ NB112_130.out _; (with_reducible repeat (first | refine blk_drewN ?_ _ | refine blk_drew ?_ | refine blk_alloc ?_ _)); refine blk_far ?_ NB112_130.out _; (with_reducible repeat (first | refine blk_drewN ?_ _ | refine blk_drew ?_ | refine blk_alloc ?_ _)); exact BK112.out⟩, ⟨by (with_reducible repeat (first | refine blk_drewN ?_ _ | refine blk_drew ?_ | refine blk_alloc ?_ _)); refine blk_put (cs := #[.slice Ao54 t123.length co54, .slice none 0 0]) ?_ 1 _ rfl; (with_reducible repeat (first | refine blk_drewN ?_ _ | refine blk_drew ?_ | refine blk_alloc ?_ _)); refine blk_put (cs := #[.slice none 0 0, .slice none 0 0]) ?_ 0 _ rfl; (with_reducible repeat (first | refine blk_drewN ?_ _ | refine blk_drew ?_ | refine blk_alloc ?_ _)); exact BK130.out⟩, ⟨(Kd.R_reads' (by (with_reducible repeat (first | apply Kd.R_alloc | apply Kd.R_drewN | apply Kd.R_drew)); exact (Kd.R_mono (Kd.R_far (p := ⟨gb130, 1, none⟩) (Kd.R_far (p := ⟨gb130, 0, none⟩) (Kd.R_types HL121_0.out BK130.out (by decide)) (fun _ hk => hk.2) (.slice Ao54 t123.length co54)) (fun _ hk => hk.2) (.slice Ao59 t126.length co59)) (fun _ h_ => h_.1)))).2.2⟩, ⟨(Kd.R_reads' (by (with_reducible repeat (first | apply Kd.R_alloc | apply Kd.R_drewN | apply Kd.R_drew)); exact (Kd.R_mono (Kd.R_far (p := ⟨gb130, 1, none⟩) (Kd.R_far (p := ⟨gb130, 0, none⟩) (Kd.R_types HL121_1.out BK130.out (by decide)) (fun _ hk => hk.2) (.slice Ao54 t123.length co54)) (fun _ hk => hk.2) (.slice Ao59 t126.length co59)) (fun _ h_ => h_.1)))).2.2⟩, ⟨by repeat (first | (with_reducible first | exact HB.out | apply below_alloc | apply pw_below_drewN | apply below_drew1 | refine below_set ?_ GE101.out | refine below_set ?_ GE112.out | refine below_set ?_ GE122.out | refine below_set ?_ GE130.out) | exact HB.out)⟩⟩
                          · rw [if_neg c60] at H
                            have c60b0 : (t129 == 0) = false := beq_eq_false_iff_ne.mpr c60
                            have c60b1 : (t129 != 0) = true := bne_iff_ne.mpr c60
                            (first | rw [c60b0] | (simp only [i64_w, i32_w]; rw [c60b0]) | skip)
                            have H' := Aside0.mk H
                            clear H
                            go_wp2
                            go_meet
                            case rel => exact ⟨_, (false), (by first | rfl | (simp; done) | (simp [*]; done)), H', ⟨by have := HJ2.out; have := HJ24.out; have := HK3.out; first | omega | exact Nat.le_refl _⟩, ⟨by (with_reducible repeat (first | apply Kd.R_alloc | apply Kd.R_drewN | apply Kd.R_drew)); exact Kd.R_mono (Kd.R_far (p := ⟨gb130, 1, none⟩) (Kd.R_far (p := ⟨gb130, 0, none⟩) (Kd.R_types HO_6.out BK130.out (by decide)) (fun _ hk => hk.2) (.slice Ao54 t123.length co54)) (fun _ hk => hk.2) (.slice Ao59 t126.length co59)) (fun _ hk => ⟨hk.1.1.1.1, ⟨hk.1.1.1.2, ⟨hk.1.1.2, hk.1.2⟩⟩⟩)⟩, ⟨by (with_reducible repeat (first | apply Kd.S_alloc | apply Kd.S_drewN | apply Kd.S_drew)); exact Kd.S_mono (Kd.S_far (p := ⟨gb130, 1, none⟩) (Kd.S_far (p := ⟨gb130, 0, none⟩) (Kd.S_mono HO_48.out (fun k_ hk => (⟨hk, hk.2⟩ : _ ∧ k_ ≠ gb130))) (fun _ hk => hk.2) (.slice Ao54 t123.length co54)) (fun _ hk => hk.2) (.slice Ao59 t126.length co59)) (fun _ hk => ⟨hk.1.1.1.1.1.1, ⟨hk.1.1.1.1.1.2.1, ⟨hk.1.1.1.1.1.2.2.1, ⟨hk.1.1.1.2, ⟨hk.1.1.2, ⟨hk.1.1.1.1.1.2.2.2, hk.1.2⟩⟩⟩⟩⟩⟩)⟩, ⟨by (with_reducible repeat (first | apply Kd.R_alloc | apply Kd.R_drewN | apply Kd.R_drew)); exact Kd.R_mono (Kd.R_far (p := ⟨gb130, 1, none⟩) (Kd.R_far (p := ⟨gb130, 0, none⟩) (Kd.R_types HO_113000.out BK130.out (by decide)) (fun _ hk => hk.2) (.slice Ao54 t123.length co54)) (fun _ hk => hk.2) (.slice Ao59 t126.length co59)) (fun _ hk => ⟨hk.1.1.1.1, ⟨hk.1.1.1.2, ⟨hk.1.1.2, hk.1.2⟩⟩⟩)⟩, ⟨by (with_reducible repeat (first | apply Kd.R_alloc | apply Kd.R_drewN | apply Kd.R_drew)); exact Kd.R_mono (Kd.R_far (p := ⟨gb130, 1, none⟩) (Kd.R_far (p := ⟨gb130, 0, none⟩) (Kd.R_types HO_113001.out BK130.out (by decide)) (fun _ hk => hk.2) (.slice Ao54 t123.length co54)) (fun _ hk => hk.2) (.slice Ao59 t126.length co59)) (fun _ hk => ⟨hk.1.1.1.1, ⟨hk.1.1.1.2, ⟨hk.1.1.2, hk.1.2⟩⟩⟩)⟩, ⟨by (with_reducible repeat (first | apply Kd.R_alloc | apply Kd.R_drewN | apply Kd.R_drew)); exact Kd.R_mono (Kd.R_far (p := ⟨gb130, 1, none⟩) (Kd.R_far (p := ⟨gb130, 0, none⟩) (Kd.R_types HO125.out BK130.out (by decide)) (fun _ hk => hk.2) (.slice Ao54 t123.length co54)) (fun _ hk => hk.2) (.slice Ao59 t126.length co59)) (fun _ hk => ⟨hk.1.1.1.1.1.2, ⟨hk.1.1.1.1.2, ⟨hk.1.1.1.2, hk.1.1.1.1.1.1⟩⟩⟩)⟩, ⟨by (with_reducible repeat (first | apply Kd.R_alloc | apply Kd.R_drewN | apply Kd.R_drew)); exact Kd.R_mono (Kd.R_far (p := ⟨gb130, 1, none⟩) (Kd.R_far (p := ⟨gb130, 0, none⟩) (Kd.R_types HO128.out BK130.out (by decide)) (fun _ hk => hk.2) (.slice Ao54 t123.length co54)) (fun _ hk => hk.2) (.slice Ao59 t126.length co59)) (fun _ hk => ⟨hk.1.1.1.1.1.2, ⟨hk.1.1.1.1.2, ⟨hk.1.1.1.2, hk.1.1.1.1.1.1⟩⟩⟩)⟩, ⟨by (with_reducible repeat (first | refine blk_drewN ?_ _ | refine blk_drew ?_ | refine blk_alloc ?_ _)); refine blk_far ?_ NB101_130.out _; (with_reducible repeat (first | refine blk_drewN ?_ _ | refine blk_drew ?_ | refine blk_alloc ?_ _)); refine blk_far ?_ NB101_130.out _; (with_reducible repeat (first | refine blk_drewN ?_ _ | refine blk_drew ?_ | refine blk_alloc ?_ _)); exact BK101.out⟩, ⟨by (with_reducible repeat (first | refine blk_drewN ?_ _ | refine blk_drew ?_ | refine blk_alloc ?_ _)); refine blk_far ?_ NB112_130.out _; (with_reducible repeat (first | refine blk_drewN ?_ _ | refine blk_drew ?_ | refine blk_alloc ?_ _)); refine blk_far ?_ NB112_130.out _; (with_reducible repeat (first | refine blk_drewN ?_ _ | refine blk_drew ?_ | refine blk_alloc ?_ _)); exact BK112.out⟩, ⟨by (with_reducible repeat (first | refine blk_drewN ?_ _ | refine blk_drew ?_ | refine blk_alloc ?_ _)); refine blk_put (cs := #[.slice Ao54 t123.length co54, .slice none 0 0]) ?_ 1 _ rfl; (with_reducible repeat (first | refine blk_drewN ?_ _ | refine blk_drew ?_ | refine blk_alloc ?_ _)); refine blk_put (cs := #[.slice none 0 0, .slice none 0 0]) ?_ 0 _ rfl; (with_reducible repeat (first | refine blk_drewN ?_ _ | refine blk_drew ?_ | refine blk_alloc ?_ _)); exact BK130.out⟩, ⟨(Kd.R_reads' (by (with_reducible repeat (first | apply Kd.R_alloc | apply Kd.R_drewN | apply Kd.R_drew)); exact (Kd.R_mono (Kd.R_far (p := ⟨gb130, 1, none⟩) (Kd.R_far (p := ⟨gb130, 0, none⟩) (Kd.R_types HL121_0.out BK130.out (by decide)) (fun _ hk => hk.2) (.slice Ao54 t123.length co54)) (fun _ hk => hk.2) (.slice Ao59 t126.length co59)) (fun _ h_ => h_.1)))).2.2⟩, ⟨(Kd.R_reads' (by (with_reducible repeat (first | apply Kd.R_alloc | apply Kd.R_drewN | apply Kd.R_drew)); exact (Kd.R_mono (Kd.R_far (p := ⟨gb130, 1, none⟩) (Kd.R_far (p := ⟨gb130, 0, none⟩) (Kd.R_types HL121_1.out BK130.out (by decide)) (fun _ hk => hk.2) (.slice Ao54 t123.length co54)) (fun _ hk => hk.2) (.slice Ao59 t126.length co59)) (fun _ h_ => h_.1)))).2.2⟩, ⟨by repeat (first | (with_reducible first | exact HB.out | apply below_alloc | apply pw_below_drewN | apply below_drew1 | refine below_set ?_ GE101.out | refine below_set ?_ GE112.out | refine below_set ?_ GE122.out | refine below_set ?_ GE130.out) | exact HB.out)⟩⟩
                        case rest =>
                          clear HC44
                          try clear c1
                          try clear p1
                          try clear q1
                          try clear hx1
                          try clear c2
                          try clear p2
                          try clear c3
                          try clear c4
                          try clear c5
                          try clear c6
                          try clear c7
                          try clear c8
                          try clear c11
                          try clear c12
                          try clear p12
                          try clear q12
                          try clear hx12
                          try clear c18
                          try clear c19
                          try clear c21
                          try clear c22
                          try clear c23
                          try clear c30
                          try clear c37
                          try clear c37b0
                          try clear c37b1
                          try clear c38
                          try clear c40
                          try clear c40b0
                          try clear c41
                          try clear c41b0
                          try clear c42
                          try clear c42b0
                          try clear c46
                          try clear c47
                          try clear c49
                          try clear c55
                          try clear c56
                          try clear c57
                          try clear c60
                          try clear c60b0
                          try clear c60b1
                          try clear c61
                          try clear c61b0
                          try clear c61b1
                          try clear c63
                          try clear c64
                          try clear c65
                          try clear c67
                          try clear c68
                          try clear c70
                          try clear c73
                          try clear c74
                          try clear c75
                          try clear hcz11_0
                          try clear hcz11_1
                          try clear hcz13_0
                          try clear hcz13_1
                          try clear hcz16_0
                          try clear hcz16_1
                          try clear hcz26_0
                          try clear hcz26_1
                          try clear hcz31_0
                          try clear hcz31_1
                          try clear hcz33_0
                          try clear hcz33_1
                          try clear hcz35_0
                          try clear hcz35_1
                          try clear hcz48_0
                          try clear hcz48_1
                          try clear hcz50_0
                          try clear hcz50_1
                          try clear hcz51_0
                          try clear hcz51_1
                          try clear hcz58_0
                          try clear hcz58_1
                          try clear hcz66_0
                          try clear hcz66_1
                          try clear hcz69_0
                          try clear hcz69_1
                          try clear hcz71_0
                          try clear hcz71_1
                          try clear hcz76_0
                          try clear hcz76_1
                          try clear hfz11_0
                          try clear hfz11_1
                          try clear hfz13_0
                          try clear hfz13_1
                          try clear hfz16_0
                          try clear hfz16_1
                          try clear hfz26_0
                          try clear hfz26_1
                          try clear hfz31_0
                          try clear hfz31_1
                          try clear hfz33_0
                          try clear hfz33_1
                          try clear hfz35_0
                          try clear hfz35_1
                          try clear hfz48_0
                          try clear hfz48_1
                          try clear hfz50_0
                          try clear hfz50_1
                          try clear hfz51_0
                          try clear hfz51_1
                          try clear hfz58_0
                          try clear hfz58_1
                          try clear hfz66_0
                          try clear hfz66_1
                          try clear hfz69_0
                          try clear hfz69_1
                          try clear hfz71_0
                          try clear hfz71_1
                          try clear hfz76_0
                          try clear hfz76_1
                          try clear hx121_0
                          try clear hx121_1
                          try clear p121
                          try clear p2
                          try clear q121
                          obtain ⟨kq, x74_43, rfl, HA, HJ43, HO_6, HO_48, HO_113000, HO_113001, HO_131000, HO_131001, BK101, BK112, BK130, HR121_0, HR121_1, HB⟩ := hcut
                          cases kq with
                          | zero => exact absurd HA.out (by simp [scarfjointlaw07_SubgraphBoundary.j3])
                          | succ kj43 =>
                            have H := HA.out
                            clear HA
                            simp only [scarfjointlaw07_SubgraphBoundary.j3] at H
                            by_cases c77 : x74_43 = true
                            · subst c77
                              have H1 : (scarfjointlaw07_SubgraphBoundary.l0 kj43 t113 false t117 (t117.length : Int) (wrap64 (x50_3 + 1)) l0_0 l0_1 t106 t109) = some r := by rw [if_pos rfl] at H; exact H
                              clear H
                              have H := H1
                              clear H1
                              have H' := Aside0.mk H
                              clear H
                              go_wp2
                              go_roundg kj43
                              case measure => have := HJ2.out; have := HJ24.out; have := HK3.out; have := HJ43.out; omega
                              case rel => exact ⟨(false), (wrap64 (x50_3 + 1)), (by first | rfl | (simp; done) | (simp [*]; done)), (by first | rfl | (simp; done) | (simp [*]; done)), H', ⟨by have := HJ2.out; have := HJ24.out; have := HK3.out; have := HJ43.out; omega⟩, ⟨by (with_reducible repeat (first | apply Kd.R_alloc | apply Kd.R_drewN | apply Kd.R_drew)); exact Kd.R_mono HO_6.out (fun _ hk => ⟨hk.1, hk.2.1⟩)⟩, ⟨by (with_reducible repeat (first | apply Kd.S_alloc | apply Kd.S_drewN | apply Kd.S_drew)); exact Kd.S_mono HO_48.out (fun _ hk => ⟨hk.1, ⟨hk.2.1, ⟨hk.2.2.1, hk.2.2.2.2.2.1⟩⟩⟩)⟩, ⟨by (with_reducible repeat (first | apply Kd.R_alloc | apply Kd.R_drewN | apply Kd.R_drew)); exact Kd.R_mono HO_113000.out (fun _ hk => ⟨hk.1, hk.2.1⟩)⟩, ⟨by (with_reducible repeat (first | apply Kd.R_alloc | apply Kd.R_drewN | apply Kd.R_drew)); exact Kd.R_mono HO_113001.out (fun _ hk => ⟨hk.1, hk.2.1⟩)⟩, ⟨by (with_reducible repeat (first | refine blk_drewN ?_ _ | refine blk_drew ?_ | refine blk_alloc ?_ _)); exact BK101.out⟩, ⟨by (with_reducible repeat (first | refine blk_drewN ?_ _ | refine blk_drew ?_ | refine blk_alloc ?_ _)); exact BK112.out⟩, ⟨by repeat (first | (with_reducible first | exact HB.out | apply below_alloc | apply pw_below_drewN | apply below_drew1 | refine below_set ?_ GE101.out | refine below_set ?_ GE112.out | refine below_set ?_ GE130.out) | exact HB.out)⟩⟩
                            · replace c77 := Bool.eq_false_iff.mpr c77
                              subst c77
                              have H1 : (scarfjointlaw07_SubgraphBoundary.l0 kj43 t113 x10_3 t117 (t117.length : Int) (wrap64 (x50_3 + 1)) l0_0 l0_1 t106 t109) = some r := by rw [if_neg (show ¬ (false = true) by decide)] at H; exact H
                              clear H
                              have H := H1
                              clear H1
                              have H' := Aside0.mk H
                              clear H
                              go_wp2
                              go_roundg kj43
                              case measure => have := HJ2.out; have := HJ24.out; have := HK3.out; have := HJ43.out; omega
                              case rel => exact ⟨(x10_3), (wrap64 (x50_3 + 1)), (by first | rfl | (simp; done) | (simp [*]; done)), (by first | rfl | (simp; done) | (simp [*]; done)), H', ⟨by have := HJ2.out; have := HJ24.out; have := HK3.out; have := HJ43.out; omega⟩, ⟨by (with_reducible repeat (first | apply Kd.R_alloc | apply Kd.R_drewN | apply Kd.R_drew)); exact Kd.R_mono HO_6.out (fun _ hk => ⟨hk.1, hk.2.1⟩)⟩, ⟨by (with_reducible repeat (first | apply Kd.S_alloc | apply Kd.S_drewN | apply Kd.S_drew)); exact Kd.S_mono HO_48.out (fun _ hk => ⟨hk.1, ⟨hk.2.1, ⟨hk.2.2.1, hk.2.2.2.2.2.1⟩⟩⟩)⟩, ⟨by (with_reducible repeat (first | apply Kd.R_alloc | apply Kd.R_drewN | apply Kd.R_drew)); exact Kd.R_mono HO_113000.out (fun _ hk => ⟨hk.1, hk.2.1⟩)⟩, ⟨by (with_reducible repeat (first | apply Kd.R_alloc | apply Kd.R_drewN | apply Kd.R_drew)); exact Kd.R_mono HO_113001.out (fun _ hk => ⟨hk.1, hk.2.1⟩)⟩, ⟨by (with_reducible repeat (first | refine blk_drewN ?_ _ | refine blk_drew ?_ | refine blk_alloc ?_ _)); exact BK101.out⟩, ⟨by (with_reducible repeat (first | refine blk_drewN ?_ _ | refine blk_drew ?_ | refine blk_alloc ?_ _)); exact BK112.out⟩, ⟨by repeat (first | (with_reducible first | exact HB.out | apply below_alloc | apply pw_below_drewN | apply below_drew1 | refine below_set ?_ GE101.out | refine below_set ?_ GE112.out | refine below_set ?_ GE130.out) | exact HB.out)⟩⟩
                      · rw [if_neg c42] at H
                        exact absurd H (by simp)
                    · rw [if_neg c41] at H
                      exact absurd H (by simp)
                  · rw [if_neg c40] at H
                    have c40b0 : decide (x50_3 < (t117.length : Int)) = false := decide_eq_false c40
                    clear c40
                    obtain rfl := Option.some.inj H
                    obtain ⟨Ao78, co78, eo78⟩ := Kd.R_slice HO_6.out
                    subst eo78
                    go_wp2
                    go_ret
                    exact ⟨by first | rfl | (simp [errW_none, errW_some] <;> rfl) | (simp [*, errW_none, errW_some] <;> rfl), by repeat (first | (with_reducible first | exact HB.out | apply below_alloc | apply pw_below_drewN | apply below_drew1 | refine below_set ?_ GE101.out | refine below_set ?_ GE112.out) | exact HB.out)⟩
end Go.Proofs.Ytonipihlpbaknaa.Print

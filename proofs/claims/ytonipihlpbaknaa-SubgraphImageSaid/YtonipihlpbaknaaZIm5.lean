/- A part of the proof that the law returns true at every input; what the walked functions compute. -/
import Derived.Lib.Hide
import Derived.Shelf.Abstract
import Derived.Test.YtonipihlpbaknaaZIm0
import Derived.Test.YtonipihlpbaknaaZIm1
import Derived.Test.YtonipihlpbaknaaZIm2
import Derived.Test.YtonipihlpbaknaaZIm3
import Derived.Test.YtonipihlpbaknaaZIm4
namespace Go.Proofs.Ytonipihlpbaknaa.Print
set_option linter.unusedVariables false
set_option linter.unusedSimpArgs false
open Go.RowKit Go.Proofs.YtonipihlpbaknaaW.PrintWords Go.Proofs.YtonipihlpbaknaaW.PrintLast Go.Proofs.YtonipihlpbaknaaW.PrintMore
def partsIn (l0 : List Int) (l1 : List S78) (ns : List Int) (ess : List (List Int)) : List S27 := (ess.filter fun es => partE l0 l1 ns es == 0).map fun es => ⟨ns, es⟩
def partsL (l0 : List Int) (l1 : List S78) : List S27 := (subsetsL l0.length).flatMap fun ns => partsIn l0 l1 ns (subsetsL l1.length)
def subgraph_All.f (l0_0 : List Int) (l0_1 : List S78) : Option (List S27 × Int) :=
  some (if validB l0_0 l0_1 = 0 then if 6 < l0_0.length + l0_1.length then ([], 3) else (partsL l0_0 l0_1, 0) else ([], validB l0_0 l0_1))
/-- An element of a row of rows of the call's own. -/
theorem R_elem {ok : Nat → Prop} {w : World} {base : Nat} {v : Value} {xs : List (List Int)} (h : Kd.R (Kd.slice 3 (Kd.int .i64)) 22 w base ok v xs) (j : Nat) (hj : j < xs.length) :
    ∃ b cap u, v = .slice (some ⟨b, 0, none⟩) xs.length cap ∧ w.cell? ⟨b, j, none⟩ = some u ∧ Kd.R (Kd.int .i64) 3 w base ok u xs[j] := by
  obtain ⟨b, cap, rfl, _, _, _⟩ := Kd.R_form h (by omega); obtain ⟨hok, inner, hown, hreps⟩ := h; have hel := hreps.2 j xs[j] (List.getElem?_eq_getElem hj); have hl : inner.length = xs.length * 1 := hreps.1
  have hl' : j < inner.length := by omega
  have e : (inner.drop (j * 1)).take 1 = [inner[j]] := by
    rw [Nat.mul_one, List.drop_eq_getElem_cons hl']
    rfl
  rw [show (Kd.slice 3 (Kd.int .i64)).sz = 1 from rfl, e] at hel; obtain ⟨u, eu, hr⟩ := hel; cases eu
  refine ⟨b, cap, _, rfl, ?_, Kd.R_mono hr (fun k hk => hk.1)⟩
  have := hown.cells (g := b) rfl j inner[j] (by rw [List.getElem?_eq_getElem hl'])
  rwa [add_plain] at this
theorem R_apart2 {ok ok' : Nat → Prop} {w : World} {base : Nat} {u v : Value} {l : List Int} {xs : List S27} (h : Kd.R (Kd.int .i64) 3 w base ok u l) (ho : Kd.R k27 27 w base ok' v xs) : Kd.R (Kd.int .i64) 3 w base (fun k => True ∧ some k ≠ v.ownBlock) u l :=
  Kd.R_mono (Kd.R_bound h) (fun k hk => ⟨trivial, fun e => by
    obtain ⟨_, _, _, q, hq, cells, hc⟩ := hk; obtain ⟨inner, hown⟩ := Kd.R_own ho; obtain ⟨cells', hc'⟩ := own_typed hown k e.symm; rw [hc] at hc'
    injection hc' with hc'
    injection hc' with _ hc'
    have : q = 3 := by simpa [Kd.int, Kd.scalar] using hq
    rw [this] at hc'
    exact absurd hc' (by decide)⟩)
theorem subsetsL_len (n : Nat) (l : List Int) (h : l ∈ subsetsL n) : l.length ≤ n := by
  unfold subsetsL at h; rw [List.mem_mergeSort] at h; obtain ⟨s, _, rfl⟩ := List.mem_map.1 h; exact bitsL_len n s
theorem subsetsL_size (n : Nat) : (subsetsL n).length = 2 ^ n := by
  unfold subsetsL; rw [List.length_mergeSort, genL_len]
theorem flatMap_le {α β : Type} (l : List α) (f : α → List β) (M : Nat) (h : ∀ x, (f x).length ≤ M) : (l.flatMap f).length ≤ l.length * M := by
  induction l with
  | nil => simp
  | cons x l ih =>
    have := h x; simp only [List.flatMap_cons, List.length_append, List.length_cons, Nat.add_mul, Nat.one_mul]
    omega
theorem partsIn_le (l0 : List Int) (l1 : List S78) (ns : List Int) (ess : List (List Int)) : (partsIn l0 l1 ns ess).length ≤ ess.length := by
  unfold partsIn; rw [List.length_map]; exact List.length_filter_le _ _
theorem partsL_lim (l0 : List Int) (l1 : List S78) (ns : List Int) (k j : Nat) (hs : l0.length + l1.length ≤ 6) : (((((subsetsL l0.length).take k).flatMap fun ns => partsIn l0 l1 ns (subsetsL l1.length)) ++ partsIn l0 l1 ns ((subsetsL l1.length).take j)).length + 1) * 48 ≤ 140737488355328 := by
  have e1 : (subsetsL l0.length).length ≤ 64 := by rw [subsetsL_size]; exact Nat.le_trans (Nat.pow_le_pow_right (by omega) (show l0.length ≤ 6 by omega)) (by decide)
  have e2 : (subsetsL l1.length).length ≤ 64 := by rw [subsetsL_size]; exact Nat.le_trans (Nat.pow_le_pow_right (by omega) (show l1.length ≤ 6 by omega)) (by decide)
  have h1 := flatMap_le ((subsetsL l0.length).take k) (fun ns => partsIn l0 l1 ns (subsetsL l1.length)) 64 (fun x => Nat.le_trans (partsIn_le _ _ _ _) e2); have h2 := partsIn_le l0 l1 ns ((subsetsL l1.length).take j); rw [List.length_take] at h1 h2; rw [List.length_append]
  omega
theorem partsIn_snoc (l0 : List Int) (l1 : List S78) (nss ess : List (List Int)) (k : Nat) (h : k < nss.length) : ((nss.take (k + 1)).flatMap fun ns => partsIn l0 l1 ns ess) = ((nss.take k).flatMap fun ns => partsIn l0 l1 ns ess) ++ partsIn l0 l1 nss[k] ess := by
  rw [List.take_succ_eq_append_getElem h, List.flatMap_append]
  simp
theorem partsIn_step (l0 : List Int) (l1 : List S78) (ns : List Int) (ess : List (List Int)) (j : Nat) (h : j < ess.length) : partsIn l0 l1 ns (ess.take (j + 1)) = partsIn l0 l1 ns (ess.take j) ++ (if partE l0 l1 ns ess[j] == 0 then [⟨ns, ess[j]⟩] else []) := by
  unfold partsIn; rw [List.take_succ_eq_append_getElem h, List.filter_append, List.map_append]
  congr 1
  by_cases e : (partE l0 l1 ns ess[j] == 0) = true
  · simp only [List.filter_cons, e, if_true, List.filter_nil, List.map_cons, List.map_nil]
  · simp only [List.filter_cons, e, List.filter_nil, List.map_nil]
    rfl
set_option maxHeartbeats 4000000 in
set_option maxRecDepth 100000 in
theorem All_c (A0 : Option Addr) (c0 : Nat) (l0 : List Int) (A1 : Option Addr) (c1 : Nat) (l1 : List S78) (w : World) (hr0 : Kd.C (Kd.int .i64) w A0 l0.length l0) (hc0 : l0.length ≤ c0) (hr1 : Kd.C k78 w A1 l1.length l1) (hc1 : l1.length ≤ c1) (hv : validB l0 l1 = 0) (hs : l0.length + l1.length ≤ 6) :
  Calls Try.prog 24 #[.agg #[.slice A0 l0.length c0, .slice A1 l1.length c1]] w fun e w' => ∃ v0_ : Value, e = .returned (.tuple #[v0_, .int .i64 0]) ∧ Kd.R k27 27 w' w.heap.size (fun _ => True) v0_ (partsL l0 l1) ∧ Below w.heap.size w w' := by
 have H0 := fun (W : World) (hb : Below w.heap.size w W) => graph_Valid.calls0 A0 c0 l0 A1 c1 l1 W (Kd.C_below hr0 hb) (Kd.C_below hr1 hb)
 rw [hv] at H0; have D0 := Lib.hid H0; have D1 := Lib.hid (fun (W : World) => subsets_gen l0.length (by omega) W); have D2 := Lib.hid (fun (W : World) => subsets_gen l1.length (by omega) W)
 have D3 := Lib.hid (fun (W : World) (hb : Below w.heap.size w W) (B0 : Option Addr) (d0 : Nat) (ns : List Int) (B1 : Option Addr) (d1 : Nat) (es : List Int) (h0 : Kd.C (Kd.int .i64) W B0 ns.length ns) (m0 : ns.length ≤ d0) (h1 : Kd.C (Kd.int .i64) W B1 es.length es) (m1 : es.length ≤ d1) (hn : ns.length < 100) (he : es.length < 100) =>
  subgraph_part.calls 1000 A0 c0 l0 A1 c1 l1 B0 d0 ns B1 d1 es _ W (Kd.C_below hr0 hb) hc0 (Kd.C_below hr1 hb) hc1 h0 m0 h1 m1 (part_ok l0 l1 ns es (by omega) (by omega) 1000 (by omega)))
 clear H0 hr0 hr1 hv
 have hL0 : (subsetsL l0.length).length ≤ 64 := by rw [subsetsL_size]; exact Nat.le_trans (Nat.pow_le_pow_right (by omega) (show l0.length ≤ 6 by omega)) (by decide)
 have hL1 : (subsetsL l1.length).length ≤ 64 := by rw [subsetsL_size]; exact Nat.le_trans (Nat.pow_le_pow_right (by omega) (show l1.length ≤ 6 by omega)) (by decide)
 have gs : decide ((l0.length : Int) + l1.length > 6) = false := by simp; omega
 go_enter Try.func24, Try.ntmps24
 go_wp2_with fail
 refine (D0.out _ (by exact below_alloc (Below.refl _ _) _)).mono ?_
 rintro en w1 ⟨rfl, hb⟩; have HB := Lib.hid (below_then (below_alloc (Below.refl w.heap.size w) (.cells #[.slice A0 l0.length c0, .slice A1 l1.length c1] 25)) (by simp) hb); have HG := Lib.hid (blk_below (blk_new w (.cells #[.slice A0 l0.length c0, .slice A1 l1.length c1] 25)) hb); clear hb D0; have k0 := (blk_cell HG.out 0).trans rfl; have k1 := (blk_cell HG.out 1).trans rfl
 go_wp2_with fail
 refine (D1.out _).mono ?_
 rintro en w2 ⟨v2, rfl, ho, hb⟩; have HO2 := Lib.hid (Kd.R_lower ho HB.out.size); have HB2 := Lib.hid (below_then HB.out HB.out.size hb); have HG2 := Lib.hid (blk_below HG.out hb); obtain ⟨A2, c2, rfl⟩ := Kd.R_slice ho; clear ho hb k0 k1 HB HG D1
 go_wp2_with fail
 go_loopg [5, 7, 29] (subsetsL l0.length).length (fun gg s5 _ s29 wr => ∃ k : Nat, k ≤ (subsetsL l0.length).length ∧ (subsetsL l0.length).length - k ≤ gg ∧ s29 = .int .i64 k ∧ Aside0 (Kd.R k27 27 wr w2.heap.size (fun _ => True) s5 (((subsetsL l0.length).take k).flatMap fun ns => partsIn l0 l1 ns (subsetsL l1.length))) ∧ Aside0 (Below w2.heap.size w2 wr))
 case atStart => exact ⟨0, Nat.zero_le _, by omega, rfl, ⟨by simpa using Kd.R_nil _ _ _ _ _⟩, ⟨Below.refl _ _⟩⟩
 case round =>
  obtain ⟨k, hk, hg, rfl, BO, BW⟩ := hrel
  by_cases hlt : k < (subsetsL l0.length).length
  ·have hltz : (k : Int) < ((subsetsL l0.length).length : Int) := by omega
   obtain ⟨b2, cap2, u2, e2, q2', r2⟩ := R_elem HO2.out k hlt; have q2 := (BW.out.cell (World.block_lt_of_cell? w2 _ q2')).trans q2'; clear q2'
   injection e2 with e21 e22 e23
   subst e21 e23; obtain ⟨B7, d7, rfl, m7, h7⟩ := Kd.R_reads r2; have C7 := Lib.hid h7
   have N7 : Hid ((subsetsL l0.length)[k].length < 100) := by have := subsetsL_len l0.length _ (List.getElem_mem hlt); show _ < 100; omega
   have E7 := Lib.hid (partsIn_snoc l0 l1 (subsetsL l0.length) (subsetsL l1.length) k hlt); have M7 := Lib.hid m7
   obtain ⟨wo, rfl⟩ : ∃ wo : World, wo = wr := ⟨_, rfl⟩
   have HGo := Lib.hid (blk_below HG2.out BW.out); have HBo := Lib.hid (below_then HB2.out HB2.out.size BW.out); have g0 := (blk_cell HGo.out 0).trans rfl; have g1 := (blk_cell HGo.out 1).trans rfl; clear r2 h7 m7; generalize (subsetsL l0.length)[k] = ns at C7 N7 E7 q2 M7
   go_wp2_with fail
   refine (D2.out _).mono ?_
   rintro en w3 ⟨v3, rfl, ho, hb⟩; obtain ⟨A3, c3, rfl⟩ := Kd.R_slice ho; have HO3 := Lib.hid (Kd.R_lower ho BW.out.size); have BO3 := Lib.hid (Kd.R_below BO.out hb); have BW3 := Lib.hid (below_then BW.out BW.out.size hb); clear ho hb BO BW HGo HBo q2 g0 g1
   go_wp2_with fail
   go_loopg [5, 9, 10, 38] (subsetsL l1.length).length (fun gg s5 _ _ s38 wr => ∃ j : Nat, j ≤ (subsetsL l1.length).length ∧ (subsetsL l1.length).length - j ≤ gg ∧ s38 = .int .i64 j ∧ Aside0 (Kd.R k27 27 wr w2.heap.size (fun _ => True) s5 ((((subsetsL l0.length).take k).flatMap fun ns => partsIn l0 l1 ns (subsetsL l1.length)) ++ partsIn l0 l1 ns ((subsetsL l1.length).take j))) ∧ Aside0 (Kd.R (Kd.slice 3 (Kd.int .i64)) 22 wr w2.heap.size (fun _ => True) (.slice A3 (subsetsL l1.length).length c3) (subsetsL l1.length)) ∧ Aside0 (Below w2.heap.size w2 wr))
   case atStart => exact ⟨0, Nat.zero_le _, by omega, rfl, ⟨by simpa [partsIn] using BO3.out⟩, ⟨HO3.out⟩, ⟨BW3.out⟩⟩
   case round =>
    clear BO3 HO3 BW3; obtain ⟨j, hj, hgj, rfl, BO, RO, BW⟩ := hrel
    by_cases hltj : j < (subsetsL l1.length).length
    ·have hltjz : (j : Int) < ((subsetsL l1.length).length : Int) := by omega
     obtain ⟨b3, cap3, u3, e3, q3, r3⟩ := R_elem RO.out j hltj
     injection e3 with e31 e32 e33
     subst e31 e33; obtain ⟨B9, d9, rfl, m9, h9⟩ := Kd.R_reads r3
     have N9 : Hid ((subsetsL l1.length)[j].length < 100) := by have := subsetsL_len l1.length _ (List.getElem_mem hltj); show _ < 100; omega
     have E9 := Lib.hid (partsIn_step l0 l1 ns (subsetsL l1.length) j hltj); have M9 := Lib.hid m9; have R9 := Lib.hid r3; clear r3 h9 m9; generalize (subsetsL l1.length)[j] = es at N9 E9 q3 M9 R9
     go_wp2_with fail
     refine (slices_Clone_int_int.calls B7 d7 ns ns _ (Kd.C_below C7.out BW.out) M7.out (if_pos (by have := N7.out; omega))).mono ?_
     rintro en w4 ⟨v4, rfl, ho, hb⟩; obtain ⟨A4, c4, rfl⟩ := Kd.R_slice ho; have R4 := Lib.hid (Kd.R_lower ho BW.out.size); have BO4 := Lib.hid (Kd.R_below BO.out hb); have RO4 := Lib.hid (Kd.R_below RO.out hb); have R94 := Lib.hid (Kd.R_below R9.out hb); have BW4 := Lib.hid (below_then BW.out BW.out.size hb); clear ho hb BO RO R9 BW q3; have HG4 := Lib.hid (blk_below HG2.out BW4.out); have g0 := (blk_cell HG4.out 0).trans rfl; have g1 := (blk_cell HG4.out 1).trans rfl; have hlt4 : w.heap.size < w4.heap.size := blk_lt HG4.out
     go_wp2_with fail
     have PC := Lib.hid (D3.out (w4.alloc (.cells #[.slice A4 ns.length c4, .slice B9 es.length d9] 27)) (below_alloc (below_then HB2.out HB2.out.size BW4.out) _) A4 c4 ns B9 d9 es (Kd.C_alloc (Kd.R_reads' R4.out).2.2 _) (Kd.R_reads' R4.out).2.1 (Kd.C_alloc (Kd.R_reads' R94.out).2.2 _) (Kd.R_reads' R94.out).2.1 N7.out N9.out)
     refine PC.out.mono ?_
     rintro en w5 ⟨rfl, hb⟩; have BO5 := Lib.hid (Kd.R_below (Kd.R_alloc BO4.out (.cells #[.slice A4 ns.length c4, .slice B9 es.length d9] 27)) hb); have RO5 := Lib.hid (Kd.R_below (Kd.R_alloc RO4.out (.cells #[.slice A4 ns.length c4, .slice B9 es.length d9] 27)) hb); have R45 := Lib.hid (Kd.R_below (Kd.R_alloc R4.out (.cells #[.slice A4 ns.length c4, .slice B9 es.length d9] 27)) hb); have R95 := Lib.hid (Kd.R_below (Kd.R_alloc R94.out (.cells #[.slice A4 ns.length c4, .slice B9 es.length d9] 27)) hb); have BW5 := Lib.hid (below_then (below_alloc BW4.out (.cells #[.slice A4 ns.length c4, .slice B9 es.length d9] 27)) (by have := BW4.out.size; simp; omega) hb); have HP5 := Lib.hid (blk_below (blk_new w4 (.cells #[.slice A4 ns.length c4, .slice B9 es.length d9] 27)) hb); clear hb BO4 RO4 R4 R94 BW4 HG4 g0 g1 PC; have p0 := (blk_cell HP5.out 0).trans rfl; have p1 := (blk_cell HP5.out 1).trans rfl; generalize partE l0 l1 ns es = pe at E9 ⊢
     cases hpe : (pe == 0) with
     | true =>
      have S1 := Lib.hid (R_apart2 R45.out BO5.out); have S2 := Lib.hid (R_apart2 R95.out BO5.out)
      go_wp2_with ((with_reducible refine gate_builtin (b := .append) (xs := #[.tmp 50, .tmp 52]) rfl ?_); at_builtin; refine Kd.R_append k27 (w0 := w2) w2.heap.size rfl (.tmp 50) (.tmp 52) 42 27 (.agg #[.slice none 0 0, .slice none 0 0]) 48 rfl Try.underlying42 info27 rfl (by decide) (by omega) u5 ((((subsetsL l0.length).take k).flatMap fun ns => partsIn l0 l1 ns (subsetsL l1.length)) ++ partsIn l0 l1 ns ((subsetsL l1.length).take j)) (⟨ns, es⟩ : S27) [.slice A4 ns.length c4, .slice B9 es.length d9] (fun _ => True) (fun k => True ∧ some k ≠ (u5 : Value).ownBlock) rfl rfl ?aP ?aK ?aF ?aO ?aB ?aS ?aL ?_; (case aP => exact k27_mkM _ _ _ (⟨ns, es⟩ : S27) S1.out S2.out); (case aK => exact (fun _ hk => hk)); (case aB => exact BW5.out); (case aF => exact (fun _ _ => trivial)); (case aO => exact BO5.out); (case aS => exact BW5.out.size); (case aL => exact partsL_lim l0 l1 ns k j hs); intro v8 w8 ho hb1 hg1 hat; have HO8 := Lib.hid ho; have BW8 := Lib.hid hb1; have RO8 := Lib.hid (Kd.R_over RO5.out BO5.out (by decide) hg1); clear ho hb1 hg1 hat)
      go_roundg ((subsetsL l1.length).length - (j + 1))
      case measure => omega
      case rel => exact ⟨j + 1, by omega, by omega, by go_num, ⟨by rw [E9.out, if_pos hpe, ← List.append_assoc]; exact HO8.out⟩, ⟨RO8.out⟩, ⟨BW8.out⟩⟩
     | false =>
      go_wp2_with fail
      go_roundg ((subsetsL l1.length).length - (j + 1))
      case measure => omega
      case rel => exact ⟨j + 1, by omega, by omega, by go_num, ⟨by rw [E9.out, if_neg (by simp [hpe]), List.append_nil]; exact BO5.out⟩, ⟨RO5.out⟩, ⟨BW5.out⟩⟩
    ·have hltjz : ¬ (j : Int) < ((subsetsL l1.length).length : Int) := by omega
     obtain rfl : j = (subsetsL l1.length).length := by omega
     have BO6 : Hid (Kd.R k27 27 wr w2.heap.size (fun _ => True) u5 (((subsetsL l0.length).take (k + 1)).flatMap fun ns => partsIn l0 l1 ns (subsetsL l1.length))) := by
      have := BO.out; rw [List.take_length, ← E7.out] at this; exact this
     have BW6 := Lib.hid BW.out; clear BO RO BW hltj
     go_wp2_with fail
     go_roundg ((subsetsL l0.length).length - (k + 1))
     case measure => omega
     case rel => exact ⟨k + 1, by omega, by omega, by go_num, ⟨BO6.out⟩, ⟨BW6.out⟩⟩
  ·have hltz : ¬ (k : Int) < ((subsetsL l0.length).length : Int) := by omega
   obtain rfl : k = (subsetsL l0.length).length := by omega
   have BO6 : Hid (Kd.R k27 27 wr w2.heap.size (fun _ => True) u5 (partsL l0 l1)) := by
    have := BO.out; rw [List.take_length] at this; exact this
   have BW6 := Lib.hid (below_then HB2.out HB2.out.size BW.out); clear BO BW hlt
   go_wp2_with fail
   go_ret2
   exact ⟨_, rfl, Kd.R_lower BO6.out HB2.out.size, BW6.out⟩
set_option maxHeartbeats 1000000 in
theorem All_a (A0 : Option Addr) (c0 : Nat) (l0 : List Int) (A1 : Option Addr) (c1 : Nat) (l1 : List S78) (w : World) (hr0 : Kd.C (Kd.int .i64) w A0 l0.length l0) (hr1 : Kd.C k78 w A1 l1.length l1) (e : Int) (he : validB l0 l1 = e) (hne : (e == 0) = false) :
    Calls Try.prog 24 #[.agg #[.slice A0 l0.length c0, .slice A1 l1.length c1]] w fun en w' => en = .returned (.tuple #[.slice none 0 0, .int .i64 e]) ∧ Below w.heap.size w w' := by
  have H0 := fun (W : World) (hb : Below w.heap.size w W) => graph_Valid.calls0 A0 c0 l0 A1 c1 l1 W (Kd.C_below hr0 hb) (Kd.C_below hr1 hb)
  rw [he] at H0; have D0 := Lib.hid H0
  have hne2 : (e != 0) = true := by simpa [bne] using hne
  clear H0 hr0 hr1 he
  go_enter Try.func24, Try.ntmps24
  go_wp2_with fail
  refine (D0.out _ (by exact below_alloc (Below.refl _ _) _)).mono ?_
  rintro en w1 ⟨rfl, hb⟩; have HB := Lib.hid (below_then (below_alloc (Below.refl w.heap.size w) (.cells #[.slice A0 l0.length c0, .slice A1 l1.length c1] 25)) (by simp) hb); clear hb D0
  go_wp2_with fail
  go_ret2
  exact ⟨rfl, HB.out⟩
set_option maxHeartbeats 1000000 in
theorem All_b (A0 : Option Addr) (c0 : Nat) (l0 : List Int) (A1 : Option Addr) (c1 : Nat) (l1 : List S78) (w : World) (hr0 : Kd.C (Kd.int .i64) w A0 l0.length l0) (hr1 : Kd.C k78 w A1 l1.length l1) (hv : validB l0 l1 = 0) (hs : 6 < l0.length + l1.length) (hm : l0.length + l1.length < 1000) :
    Calls Try.prog 24 #[.agg #[.slice A0 l0.length c0, .slice A1 l1.length c1]] w fun en w' => en = .returned (.tuple #[.slice none 0 0, .int .i64 3]) ∧ Below w.heap.size w w' := by
  have H0 := fun (W : World) (hb : Below w.heap.size w W) => graph_Valid.calls0 A0 c0 l0 A1 c1 l1 W (Kd.C_below hr0 hb) (Kd.C_below hr1 hb)
  rw [hv] at H0; have D0 := Lib.hid H0
  have gs : decide ((6 : Int) < (l0.length : Int) + l1.length) = true := by simp; omega
  clear H0 hr0 hr1 hv
  go_enter Try.func24, Try.ntmps24
  go_wp2_with fail
  refine (D0.out _ (by exact below_alloc (Below.refl _ _) _)).mono ?_
  rintro en w1 ⟨rfl, hb⟩; have HB := Lib.hid (below_then (below_alloc (Below.refl w.heap.size w) (.cells #[.slice A0 l0.length c0, .slice A1 l1.length c1] 25)) (by simp) hb); have HG := Lib.hid (blk_below (blk_new w (.cells #[.slice A0 l0.length c0, .slice A1 l1.length c1] 25)) hb); clear hb D0; have k0 := (blk_cell HG.out 0).trans rfl; have k1 := (blk_cell HG.out 1).trans rfl
  go_wp2_with fail
  go_ret2
  exact ⟨rfl, HB.out⟩
theorem validB_size (l0 : List Int) (l1 : List S78) (h : validB l0 l1 = 0) : l0.length ≤ 40 ∧ l1.length ≤ 80 := by
  unfold validB at h
  split at h
  · omega
  · split at h
    · omega
    · omega
theorem subgraph_All.callsR (A0_0 : Option Addr) (c0_0 : Nat) (l0_0 : List Int) (A0_1 : Option Addr) (c0_1 : Nat) (l0_1 : List (S78)) (r1 : List S27) (r2 : Int) (w : World) (hr0_0 : Kd.C (Kd.int .i64) w A0_0 l0_0.length l0_0) (hc0_0 : l0_0.length ≤ c0_0) (hr0_1 : Kd.C k78 w A0_1 l0_1.length l0_1) (hc0_1 : l0_1.length ≤ c0_1) (h : subgraph_All.f l0_0 l0_1 = some (r1, r2)) :
    Calls Try.prog 24 #[.agg #[.slice A0_0 l0_0.length c0_0, .slice A0_1 l0_1.length c0_1]] w fun e w' => ∃ v0_ : Value, e = .returned (.tuple #[v0_, .int .i64 r2]) ∧ Kd.R k27 27 w' w.heap.size (fun _ => True) v0_ r1 ∧ Below w.heap.size w w' := by
  unfold subgraph_All.f at h
  by_cases hv : validB l0_0 l0_1 = 0
  · rw [if_pos hv] at h
    have hz := validB_size l0_0 l0_1 hv
    by_cases hs : 6 < l0_0.length + l0_1.length
    · rw [if_pos hs] at h
      simp only [Option.some.injEq, Prod.mk.injEq] at h; obtain ⟨rfl, rfl⟩ := h
      exact (All_b A0_0 c0_0 l0_0 A0_1 c0_1 l0_1 w hr0_0 hr0_1 hv hs (by omega)).mono fun e w' ⟨he, hb⟩ => ⟨_, he, Kd.R_nil _ _ _ _ _, hb⟩
    · rw [if_neg hs] at h
      simp only [Option.some.injEq, Prod.mk.injEq] at h; obtain ⟨rfl, rfl⟩ := h; exact All_c A0_0 c0_0 l0_0 A0_1 c0_1 l0_1 w hr0_0 hc0_0 hr0_1 hc0_1 hv (by omega)
  · rw [if_neg hv] at h
    simp only [Option.some.injEq, Prod.mk.injEq] at h; obtain ⟨rfl, rfl⟩ := h
    exact (All_a A0_0 c0_0 l0_0 A0_1 c0_1 l0_1 w hr0_0 hr0_1 _ rfl (beq_eq_false_iff_ne.2 hv)).mono fun e w' ⟨he, hb⟩ => ⟨_, he, Kd.R_nil _ _ _ _ _, hb⟩
end Go.Proofs.Ytonipihlpbaknaa.Print
namespace Go.Proofs.Ytonipihlpbaknaa.Print
open Go.RowKit Go.Proofs.YtonipihlpbaknaaW.PrintWords Go.Proofs.YtonipihlpbaknaaW.PrintLast Go.Proofs.YtonipihlpbaknaaW.PrintMore
attribute [local go_sem] max2_int min2_int max_two min_two max_three min_three max_four min_four   -- for this text's walks alone
set_option linter.unusedVariables false
set_option linter.unusedSimpArgs false
def scarfjointlaw07_line.f  : Option (List Int × (List (S78))) := some ((([0, 0, 0] : List Int)), (([(⟨0, 0, 1⟩ : S78), (⟨0, 1, 2⟩ : S78)] : List (S78))))
set_option maxHeartbeats 8000000 in
set_option maxRecDepth 100000 in
theorem scarfjointlaw07_line.calls  (r1 : List Int) (r2 : List (S78)) (w : World) (h : scarfjointlaw07_line.f  = some (r1, r2)) :
  Calls Try.prog 49 #[] w fun e w' => ∃ v0_ v1_ : Value, e = .returned (.agg #[v0_, v1_]) ∧ Kd.R (Kd.int .i64) 3 w' w.heap.size (fun _ => True) v0_ r1 ∧ Kd.R k78 78 w' w.heap.size (fun _ => True) v1_ r2 ∧ Below w.heap.size w w' := by
 have hu25 := Try.underlying25; have hu78 := Try.underlying78; have HB := Aside0.mk (Below.refl w.heap.size w); have H : (some ((([0, 0, 0] : List Int)), (([(⟨0, 0, 1⟩ : S78), (⟨0, 1, 2⟩ : S78)] : List (S78))))) = some (r1, r2) := h; clear h
 obtain ⟨y102, hy102⟩ : ∃ y_ : List Int, y_ = (([0, 0, 0] : List Int)) := ⟨_, rfl⟩
 replace H : (some (y102, (([(⟨0, 0, 1⟩ : S78), (⟨0, 1, 2⟩ : S78)] : List (S78))))) = some (r1, r2) := by first | (rw [hy102]; with_reducible exact H) | (have H2_ := (Option.bind_some _ _).symm.trans H; rw [hy102]; with_reducible exact H2_) | (have H2_ := (Option.bind_some _ _).symm.trans H; with_reducible exact H2_) | with_reducible exact H | (rw [hy102]; exact H) | exact H
 have Ny102 := Aside0.mk hy102; clear hy102
 obtain ⟨y105, hy105⟩ : ∃ y_ : List (S78), y_ = (([(⟨0, 0, 1⟩ : S78), (⟨0, 1, 2⟩ : S78)] : List (S78))) := ⟨_, rfl⟩
 replace H : (some (y102, y105)) = some (r1, r2) := by first | (rw [hy105]; with_reducible exact H) | (have H2_ := (Option.bind_some _ _).symm.trans H; rw [hy105]; with_reducible exact H2_) | (have H2_ := (Option.bind_some _ _).symm.trans H; with_reducible exact H2_) | with_reducible exact H | (rw [hy105]; exact H) | exact H
 have Ny105 := Aside0.mk hy105; clear hy105; simp only [Option.some.injEq, Prod.mk.injEq] at H; obtain ⟨rfl, rfl⟩ := H
 go_enter Try.func49, Try.ntmps49
 go_wp2_with (first | ((with_reducible refine gate_dst (N := 0) rfl ?_); refine box_event ?hg (N := 0) ?hd (cs := #[.slice none 0 0, .slice none 0 0]) (t := 25) ?hr ?_; (case hd => rfl); (case hg => rfl); (case hr => first | (go_simp; done) | (go_simp; rfl)); intro gb101 hg w1 hbox hb; have n0_ := Aside0.mk (below_step (by repeat (first | (with_reducible first | exact HB.out | apply lA_ | apply lN_ | apply lD_) | exact HB.out)) hb); have n1_ := Aside0.mk (hbox); have n2_ := Aside0.mk ((by rw [hg]; exact (below_size (by repeat (first | (with_reducible first | exact HB.out | apply lA_ | apply lN_ | apply lD_) | exact HB.out))) : w.heap.size ≤ gb101)); have n3_ := Aside0.mk ((by rw [hg]; exact (below_size (by repeat (first | (with_reducible first | exact HB.out | apply lA_ | apply lN_ | apply lD_) | exact HB.out))) : w.heap.size ≤ gb101)); clear HB; have HB := n0_; have BK101 := n1_; have GW101 := n2_; have GE101 := n3_; clear n0_ n1_ n2_ n3_; clear hb hbox hg) | ((with_reducible refine gate_dst (N := 1) rfl ?_); refine Kd.R_lit (Kd.int .i64) _ 3 ?hg (N := 1) ?hd (xs := ([0, 0, 0] : List Int)) (inner := [.int .i64 0, .int .i64 0, .int .i64 0]) (ok := fun _ => True) (okp := fun _ => True) ?hr ?hp (fun _ hk => hk) trivial (Below.refl _ _) (Nat.le_refl _) (by simp) ?_; (case hd => rfl); (case hg => rfl); (case hr => first | (go_simp; done) | (go_simp; rfl)); (case hp => exact (Reps.one (show Kd.M (Kd.int .i64) _ _ _ 0 [.int .i64 0] from rfl) (Reps.one (show Kd.M (Kd.int .i64) _ _ _ 0 [.int .i64 0] from rfl) (Reps.one (show Kd.M (Kd.int .i64) _ _ _ 0 [.int .i64 0] from rfl) (Reps.none _ _))))); intro v103 w2 ho3 hb hg_ hnew_; clear hg_ hnew_; (first | rw [← Ny102.out] at ho3 | (simp only [Int.reduceToNat] at ho3; rw [← Ny102.out] at ho3)); have n0_ := Aside0.mk (Kd.R_lower ho3 (below_size (by repeat (first | (with_reducible first | exact HB.out | apply lA_ | apply lN_ | apply lD_ | refine below_set ?_ GE101.out) | exact HB.out)))); have n1_ := Aside0.mk (blk_below (g := gb101) (o := .cells #[.slice none 0 0, .slice none 0 0] 25 (0, 0)) (by (with_reducible repeat first | refine bN_ ?_ _ | refine bD_ ?_ | refine bA_ ?_ _); exact BK101.out) hb); have n2_ := Aside0.mk (below_step (by repeat (first | (with_reducible first | exact HB.out | apply lA_ | apply lN_ | apply lD_ | refine below_set ?_ GE101.out) | exact HB.out)) hb); clear BK101; clear HB; have HO104 := n0_; have BK101 := n1_; have HB := n2_; clear n0_ n1_ n2_; clear hb ho3) | ((with_reducible refine gate_dst (N := 4) rfl ?_); refine Kd.R_lit k78 _ 78 ?hg (N := 4) ?hd (xs := ([(⟨0, 0, 1⟩ : S78), (⟨0, 1, 2⟩ : S78)] : List (S78))) (inner := [.int .i64 0, .int .i64 0, .int .i64 1, .int .i64 0, .int .i64 1, .int .i64 2]) (ok := fun _ => True) (okp := fun _ => True) ?hr ?hp (fun _ hk => hk) trivial (Below.refl _ _) (Nat.le_refl _) (by simp) ?_; (case hd => rfl); (case hg => rfl); (case hr => first | (go_simp; done) | (go_simp; rfl)); (case hp => exact (Reps.c3 (show Kd.M k78 _ _ _ (⟨0, 0, 1⟩ : S78) [.int .i64 0, .int .i64 0, .int .i64 1] from (k78_mkM _ _ _ (⟨0, 0, 1⟩ : S78) )) (Reps.c3 (show Kd.M k78 _ _ _ (⟨0, 1, 2⟩ : S78) [.int .i64 0, .int .i64 1, .int .i64 2] from (k78_mkM _ _ _ (⟨0, 1, 2⟩ : S78) )) (Reps.none _ _)))); intro v106 w4 ho5 hb hg_ hnew_; clear hg_ hnew_; (first | rw [← Ny105.out] at ho5 | (simp only [Int.reduceToNat] at ho5; rw [← Ny105.out] at ho5)); have n0_ := Aside0.mk (Kd.R_below (by (with_reducible repeat (first | apply rA_ | apply rN_ | apply rD_)); exact HO104.out) hb); have n1_ := Aside0.mk (Kd.R_lower ho5 (below_size (by repeat (first | (with_reducible first | exact HB.out | apply lA_ | apply lN_ | apply lD_ | refine below_set ?_ GE101.out) | exact HB.out)))); have n2_ := Aside0.mk (blk_below (g := gb101) (o := .cells #[.slice none 0 0, .slice none 0 0] 25 (0, 0)) (by (with_reducible repeat first | refine bN_ ?_ _ | refine bD_ ?_ | refine bA_ ?_ _); exact BK101.out) hb); have n3_ := Aside0.mk (below_step (by repeat (first | (with_reducible first | exact HB.out | apply lA_ | apply lN_ | apply lD_ | refine below_set ?_ GE101.out) | exact HB.out)) hb); clear HO104; clear BK101; clear HB; have HO104 := n0_; have HO107 := n1_; have BK101 := n2_; have HB := n3_; clear n0_ n1_ n2_ n3_; clear hb ho5; obtain ⟨Ao6, co6, eo6⟩ := Kd.R_slice HO107.out; subst eo6; obtain ⟨Ao7, co7, eo7⟩ := Kd.R_slice HO104.out; subst eo7; have hcz8_0 : w4.cell? ⟨gb101, 0, none⟩ = some (.slice none 0 0) := (blk_cell BK101.out 0).trans rfl; have hcz8_1 : w4.cell? ⟨gb101, 1, none⟩ = some (.slice none 0 0) := (blk_cell BK101.out 1).trans rfl; have hfz8_0 := blk_frozen BK101.out 0; have hfz8_1 := blk_frozen BK101.out 1))
 refine bodyPost_ret (results_cell_row rfl _ _ gb101 25 #[.slice Ao7 y102.length co7, .slice Ao6 y105.length co6] (0, 0) _ rfl (by (with_reducible repeat first | refine bN_ ?_ _ | refine bD_ ?_ | refine bA_ ?_ _); refine blk_put (cs := #[.slice Ao7 y102.length co7, .slice none 0 0]) ?_ 1 _ rfl; (with_reducible repeat first | refine bN_ ?_ _ | refine bD_ ?_ | refine bA_ ?_ _); refine blk_put (cs := #[.slice none 0 0, .slice none 0 0]) ?_ 0 _ rfl; (with_reducible repeat first | refine bN_ ?_ _ | refine bD_ ?_ | refine bA_ ?_ _); exact BK101.out) Try.underlying25 rfl (by kernel_rfl)) rfl ?_
 exact ⟨_, _, by first | rfl | (simp [errW_none, errW_some] <;> rfl) | (simp [*, errW_none, errW_some] <;> rfl), by (with_reducible repeat (first | apply rA_ | apply rN_ | apply rD_)); exact Kd.R_mono (Kd.R_far (p := ⟨gb101, 1, none⟩) (Kd.R_far (p := ⟨gb101, 0, none⟩) (Kd.R_types HO104.out BK101.out (by decide)) (fun _ hk => hk.2) (.slice Ao7 y102.length co7)) (fun _ hk => hk.2) (.slice Ao6 y105.length co6)) (fun _ hk => trivial), by (with_reducible repeat (first | apply rA_ | apply rN_ | apply rD_)); exact Kd.R_mono (Kd.R_far (p := ⟨gb101, 1, none⟩) (Kd.R_far (p := ⟨gb101, 0, none⟩) (Kd.R_types HO107.out BK101.out (by decide)) (fun _ hk => hk.2) (.slice Ao7 y102.length co7)) (fun _ hk => hk.2) (.slice Ao6 y105.length co6)) (fun _ hk => trivial), by repeat (first | (with_reducible first | exact HB.out | apply lA_ | apply lN_ | apply lD_ | refine below_set ?_ GE101.out) | exact HB.out)⟩
end Go.Proofs.Ytonipihlpbaknaa.Print
namespace Go.Proofs.Ytonipihlpbaknaa.Print
open Go.RowKit Go.Proofs.YtonipihlpbaknaaW.PrintWords Go.Proofs.YtonipihlpbaknaaW.PrintLast Go.Proofs.YtonipihlpbaknaaW.PrintMore
attribute [local go_sem] max2_int min2_int max_two min_two max_three min_three max_four min_four   -- for this text's walks alone
set_option linter.unusedVariables false
set_option linter.unusedSimpArgs false
def slices_Equal_int_int.l0 : Nat → List Int → List Int → Int → Int → Option (Bool)
  | 0, _, _, _, _ => none
  | k + 1, x0, x1, x12, x13 => if x13 < x12 then (if 0 ≤ x13 then (if x13 < (x0.length : Int) then (if x13 < (x1.length : Int) then (if (rd x0 x13) = (rd x1 x13) then (slices_Equal_int_int.l0 k x0 x1 x12 (wrap64 (x13 + 1))) else (some false)) else (none)) else (none)) else (none)) else (some true)
def slices_Equal_int_int.f (k : Nat) (l0 : List Int) (l1 : List Int) : Option (Bool) := if (l0.length : Int) = (l1.length : Int) then (slices_Equal_int_int.l0 k l0 l1 (l0.length : Int) 0) else (some false)
set_option maxHeartbeats 8000000 in
set_option maxRecDepth 100000 in
theorem slices_Equal_int_int.calls (k : Nat) (A0 : Option Addr) (c0 : Nat) (l0 : List Int) (A1 : Option Addr) (c1 : Nat) (l1 : List Int) (r : Bool) (w : World) (hr0 : Kd.C (Kd.int .i64) w A0 l0.length l0) (hc0 : l0.length ≤ c0) (hr1 : Kd.C (Kd.int .i64) w A1 l1.length l1) (hc1 : l1.length ≤ c1) (h : slices_Equal_int_int.f k l0 l1 = some r) :
  Calls Try.prog 36 #[.slice A0 l0.length c0, .slice A1 l1.length c1] w fun e w' => e = .returned (.bool r) ∧ Drawn0 w w' := by
 have HR0 := Aside0.mk hr0; have HC0 := Aside0.mk hc0; clear hr0 hc0; have HR1 := Aside0.mk hr1; have HC1 := Aside0.mk hc1; clear hr1 hc1; have H : (if (l0.length : Int) = (l1.length : Int) then (slices_Equal_int_int.l0 k l0 l1 (l0.length : Int) 0) else (some false)) = some r := h; clear h
 by_cases c3 : (l0.length : Int) = (l1.length : Int)
 ·rw [if_pos c3] at H
  have c3b0 : ((l0.length : Int) == (l1.length : Int)) = true := beq_iff_eq.mpr c3; have c3b1 : ((l0.length : Int) != (l1.length : Int)) = false := bne_eq_false_iff_eq.mpr c3
  have c3b2 : (l0.length == l1.length) = true := by first | simpa using c3 | (simp at c3 ⊢; omega)
  clear c3; have H' := Aside0.mk H; clear H
  go_enter Try.func36, Try.ntmps36
  go_wp2
  repeat (go_quiet (fail); try go_wp2)
  go_loopg [13] k (fun kq v13 w' => ∃ (x13_1 : Int), v13 = .int .i64 x13_1 ∧ Aside0 (slices_Equal_int_int.l0 kq l0 l1 (l0.length : Int) x13_1 = some r) ∧ Aside0 (kq ≤ k) ∧ Drawn0 w w')
  case atStart => exact ⟨(0), (by first | rfl | (simp; done) | (simp [*]; done)), H', ⟨Nat.le_refl _⟩, by repeat (first | exact Drawn0.refl _ | apply Drawn0.step)⟩
  case round =>
   clear H'; (try clear c1); (try clear p2); (try clear c3); (try clear c3b0); (try clear c3b1); (try clear c3b2); obtain ⟨x13_1, rfl, HA, HK1, ⟨m1, rfl⟩⟩ := hrel
   cases gk with
   | zero => exact absurd HA.out (by simp [slices_Equal_int_int.l0])
   | succ k1 =>
    have H := HA.out; clear HA; simp only [slices_Equal_int_int.l0] at H
    by_cases c4 : x13_1 < (l0.length : Int)
    ·rw [if_pos c4] at H
     have c4b0 : decide (x13_1 < (l0.length : Int)) = true := decide_eq_true c4; clear c4
     by_cases c5 : 0 ≤ x13_1
     ·rw [if_pos c5] at H
      have c5b0 : decide (0 ≤ x13_1) = true := decide_eq_true c5; clear c5
      by_cases c6 : x13_1 < (l0.length : Int)
      ·rw [if_pos c6] at H
       have c6b0 : decide (x13_1 < (l0.length : Int)) = true := decide_eq_true c6; clear c6
       by_cases c7 : x13_1 < (l1.length : Int)
       ·rw [if_pos c7] at H
        have c7b0 : decide (x13_1 < (l1.length : Int)) = true := decide_eq_true c7; clear c7
        by_cases c8 : (rd l0 x13_1) = (rd l1 x13_1)
        ·rw [if_pos c8] at H
         have c8b0 : ((rd l0 x13_1) == (rd l1 x13_1)) = true := beq_iff_eq.mpr c8; have c8b1 : ((rd l0 x13_1) != (rd l1 x13_1)) = false := bne_eq_false_iff_eq.mpr c8; clear c8; have H' := Aside0.mk H; clear H; have p101 : 0 ≤ (x13_1 : Int) := of_decide_eq_true (by first | (with_reducible assumption) | assumption); have q101 : x13_1 < (l0.length : Int) := of_decide_eq_true (by first | (with_reducible assumption) | assumption); obtain ⟨ad101, e101, hx101_0⟩ := Kd.at_int HR0.out x13_1 p101 q101; cases e101; replace p101 := eq_true p101; replace q101 := eq_true q101; have p102 : 0 ≤ (x13_1 : Int) := of_decide_eq_true (by first | (with_reducible assumption) | assumption); have q102 : x13_1 < (l1.length : Int) := of_decide_eq_true (by first | (with_reducible assumption) | assumption); obtain ⟨ad102, e102, hx102_0⟩ := Kd.at_int HR1.out x13_1 p102 q102; cases e102; replace p102 := eq_true p102; replace q102 := eq_true q102
         go_wp2
         repeat (go_quiet (fail); try go_wp2)
         go_roundg k1
         case measure => have := HK1.out; omega
         case rel => exact ⟨(wrap64 (x13_1 + 1)), (by first | rfl | (simp; done) | (simp [*]; done)), H', ⟨by have := HK1.out; omega⟩, by repeat (first | exact Drawn0.refl _ | apply Drawn0.step)⟩
        ·rw [if_neg c8] at H
         have c8b0 : ((rd l0 x13_1) == (rd l1 x13_1)) = false := beq_eq_false_iff_ne.mpr c8; have c8b1 : ((rd l0 x13_1) != (rd l1 x13_1)) = true := bne_iff_ne.mpr c8; obtain rfl := Option.some.inj H; have p101 : 0 ≤ (x13_1 : Int) := of_decide_eq_true (by first | (with_reducible assumption) | assumption); have q101 : x13_1 < (l0.length : Int) := of_decide_eq_true (by first | (with_reducible assumption) | assumption); obtain ⟨ad101, e101, hx101_0⟩ := Kd.at_int HR0.out x13_1 p101 q101; cases e101; replace p101 := eq_true p101; replace q101 := eq_true q101; have p102 : 0 ≤ (x13_1 : Int) := of_decide_eq_true (by first | (with_reducible assumption) | assumption); have q102 : x13_1 < (l1.length : Int) := of_decide_eq_true (by first | (with_reducible assumption) | assumption); obtain ⟨ad102, e102, hx102_0⟩ := Kd.at_int HR1.out x13_1 p102 q102; cases e102; replace p102 := eq_true p102; replace q102 := eq_true q102
         go_wp2
         repeat (go_quiet (fail); try go_wp2)
         go_ret
         exact ⟨by first | rfl | (simp; done) | (simp [*]; done), by repeat (first | exact Drawn0.refl _ | apply Drawn0.step)⟩
       ·rw [if_neg c7] at H
        exact absurd H (by simp)
      ·rw [if_neg c6] at H
       exact absurd H (by simp)
     ·rw [if_neg c5] at H
      exact absurd H (by simp)
    ·rw [if_neg c4] at H
     have c4b0 : decide (x13_1 < (l0.length : Int)) = false := decide_eq_false c4; clear c4; obtain rfl := Option.some.inj H
     go_wp2
     repeat (go_quiet (fail); try go_wp2)
     go_ret
     exact ⟨by first | rfl | (simp; done) | (simp [*]; done), by repeat (first | exact Drawn0.refl _ | apply Drawn0.step)⟩
 ·rw [if_neg c3] at H
  have c3b0 : ((l0.length : Int) == (l1.length : Int)) = false := beq_eq_false_iff_ne.mpr c3; have c3b1 : ((l0.length : Int) != (l1.length : Int)) = true := bne_iff_ne.mpr c3
  have c3b2 : (l0.length == l1.length) = false := by first | simpa using c3 | (simp at c3 ⊢; omega)
  obtain rfl := Option.some.inj H
  go_enter Try.func36, Try.ntmps36
  go_wp2
  repeat (go_quiet (fail); try go_wp2)
  go_ret
  exact ⟨by first | rfl | (simp; done) | (simp [*]; done), by repeat (first | exact Drawn0.refl _ | apply Drawn0.step)⟩
end Go.Proofs.Ytonipihlpbaknaa.Print
namespace Go.Proofs.Ytonipihlpbaknaa.Print
set_option linter.unusedVariables false
set_option linter.unusedSimpArgs false
open Go.RowKit Go.Proofs.YtonipihlpbaknaaW.PrintWords Go.Proofs.YtonipihlpbaknaaW.PrintLast Go.Proofs.YtonipihlpbaknaaW.PrintMore
def lnN : List Int := [0, 0, 0]
def lnE : List S78 := [⟨0, 0, 1⟩, ⟨0, 1, 2⟩]
theorem sortI_asc (l : List Int) (h : l.Pairwise (· ≤ ·)) : sortI l = l := List.mergeSort_of_pairwise (h.imp (by simp))
theorem subs_ln (n : Nat) (L : List (List Int)) (h1 : L.Pairwise (fun x y => leOf lenC x y = true)) (h2 : L.Perm (genL n)) : subsetsL n = L := by
  unfold subsetsL
  refine List.Perm.eq_of_pairwise (le := fun x y => leOf lenC x y = true) ?_ ?_ h1 ((List.mergeSort_perm _ _).trans h2.symm)
  · intro a b _ _ p q
    simp only [leOf, Bool.not_eq_true'] at p q; exact lenC_tot.tot a b q p
  · refine List.pairwise_mergeSort ?_ ?_ _
    · intro a b c p q
      simp only [leOf, Bool.not_eq_true'] at p q ⊢; exact lenC_tot.swo.ntrans c b a q p
    · intro a b
      simp only [leOf, Bool.or_eq_true, Bool.not_eq_true']
      by_cases h : ltOf lenC b a = true
      · right
        exact lenC_tot.swo.asymmA h
      · left
        simpa using h
theorem subs2 : subsetsL 2 = [[], [0], [1], [0, 1]] := subs_ln 2 _ (by decide +kernel) (by decide +kernel)
theorem subs3 : subsetsL 3 = [[], [0], [1], [2], [0, 1], [0, 2], [1, 2], [0, 1, 2]] := subs_ln 3 _ (by decide +kernel) (by decide +kernel)
theorem parts_ln : (partsL lnN lnE).length = 13 := by
  unfold partsL; rw [show lnN.length = 3 from rfl, show lnE.length = 2 from rfl, subs3, subs2]
  decide +kernel
theorem valid_ln : validB lnN lnE = 0 := by decide +kernel
theorem close_ln : subgraph_Close.f lnN lnE [] [0] = some ([0, 1], [0], 0) := by
  unfold subgraph_Close.f; rw [if_pos (by decide), if_pos valid_ln, if_neg (by decide), if_neg (by decide), show ([] : List Int) ++ endsOf lnE [0] = [0, 1] from rfl, sortI_asc _ (by decide), sortI_asc _ (by decide)]
  decide +kernel
theorem bdry_ln : subgraph_Boundary.f 1000 lnN lnE [0, 1] [0] = some ([1], 0) := by
  rw [bdry_ok lnN lnE [0, 1] [0] (by decide) (by decide) 1000 (by decide), if_pos (by decide +kernel)]; unfold bdryL; rw [show outUpto lnE [0] lnE.length = [1, 2] by decide +kernel, sortI_asc _ (by decide)]
  decide +kernel
theorem all_ln : subgraph_All.f lnN lnE = some (partsL lnN lnE, 0) := by
  unfold subgraph_All.f; rw [if_pos valid_ln, if_neg (by decide)]
theorem same_ln : scarfjointref07_Same.f 10 [0, 1] [0] [0, 1] [0] = some true := by decide +kernel
theorem equal_ln : slices_Equal_int_int.f 10 [1] [1] = some true := by decide +kernel
theorem line_ln : scarfjointlaw07_line.f = some (lnN, lnE) := rfl
set_option maxHeartbeats 2000000 in
set_option maxRecDepth 100000 in
theorem scarfjointlaw07_awake.calls0 (w : World) : Calls Try.prog 11 #[] w fun e w' => e = .returned (.bool true) ∧ Below w.heap.size w w' := by
 have L0 := Lib.hid (fun W => scarfjointlaw07_line.calls lnN lnE W line_ln); have eN : lnN.length = 3 := rfl
 go_enter Try.func11, Try.ntmps11
 go_wp2_with fail
 refine (L0.out _).mono ?_
 rintro e w1 ⟨v1, v2, rfl, ho1, ho2, hb⟩; obtain ⟨A1, c1, rfl, m1, r1⟩ := Kd.R_reads ho1; obtain ⟨A2, c2, rfl, m2, r2⟩ := Kd.R_reads ho2; have R1 := Lib.hid r1; have R2 := Lib.hid r2; have M1 := Lib.hid m1; have M2 := Lib.hid m2; have B1 := Lib.hid hb; clear ho1 ho2 r1 r2 hb eN m1 m2
 go_wp2_with (first
  | ((with_reducible refine gate_dst (N := 9) rfl ?_); refine Kd.R_lit (Kd.int .i64) _ 3 ?hg (N := 9) ?hd (xs := [0]) (inner := [.int .i64 0]) (ok := fun _ => True) (okp := fun _ => True) ?hr ?hp (fun _ hk => hk) trivial (Below.refl _ _) (Nat.le_refl _) (by simp) ?_; (case hd => rfl); (case hg => rfl); (case hr => first | (go_simp; done) | (go_simp; rfl)); (case hp => exact (Reps.one (show Kd.M (Kd.int .i64) _ _ _ 0 [.int .i64 0] from rfl) (Reps.none _ _))); intro v3 w2 ho hb hg_ hne; obtain ⟨A3, c3, rfl, m3, r3⟩ := Kd.R_reads ho; have R3 := Lib.hid r3; have M3 := Lib.hid m3; have R12 := Lib.hid (Kd.C_below R1.out hb); have R22 := Lib.hid (Kd.C_below R2.out hb); have B2 := Lib.hid (below_then B1.out B1.out.size hb); clear ho hb hg_ hne r3 m3 R1 R2 B1)
  | (go_at_call 13; refine (subgraph_Close.calls A1 c1 lnN A2 c2 lnE none 0 [] A3 c3 [0] [0, 1] [0] 0 _ R12.out M1.out R22.out M2.out (Kd.C_nil _ _) (Nat.le_refl _) R3.out M3.out close_ln).mono ?_; rintro e w3 ⟨v4, v5, rfl, ho4, ho5, hb⟩; obtain ⟨A4, c4, rfl, m4, r4⟩ := Kd.R_reads ho4; obtain ⟨A5, c5, rfl, m5, r5⟩ := Kd.R_reads ho5; have R4 := Lib.hid r4; have R5 := Lib.hid r5; have M4 := Lib.hid m4; have M5 := Lib.hid m5; have B3 := Lib.hid (below_then B2.out B2.out.size hb); clear ho4 ho5 r4 r5 m4 m5 hb R12 R22 R3 B2))
 have BK := Lib.hid (blk_new w3 (.cells #[.slice A4 2 c4, .slice A5 1 c5] 27)); have R42 := Lib.hid (Kd.C_alloc R4.out (.cells #[.slice A4 2 c4, .slice A5 1 c5] 27)); have R52 := Lib.hid (Kd.C_alloc R5.out (.cells #[.slice A4 2 c4, .slice A5 1 c5] 27)); have B4 := Lib.hid (below_alloc (o := .cells #[.slice A4 2 c4, .slice A5 1 c5] 27) B3.out); clear R4 R5 B3; generalize w3.heap.size = g at BK ⊢; generalize w3.alloc (.cells #[.slice A4 2 c4, .slice A5 1 c5] 27) = w4 at BK R42 R52 B4 ⊢
 refine start_ (n := 8) (S := fun w' => w'.cell? ⟨g, 0, none⟩ = some (.slice A4 2 c4) ∧ w'.cell? ⟨g, 1, none⟩ = some (.slice A5 1 c5)) (ds := []) #[false, false, false, false, false, false, false, false] (by kernel_rfl) rfl rfl ⟨(blk_cell BK.out 0).trans rfl, (blk_cell BK.out 1).trans rfl⟩ (fun hHeld => ?_)
 refine take_ (i := 1) (N := some 15) (v := ?_) (a' := ?_) #[false, true, false, false, false, false, false, false] rfl rfl (by kernel_rfl) (fun _ _ _ h => h) (Or.inl ⟨by rfl, ?_⟩) hHeld ?_ ?_
 rotate_left
 ·rintro w' ⟨s0, s1⟩
  go_simp
  with_reducible rfl
 rotate_left
 ·simp only [Act.put, sI_, s0_, sS_, i64_w, i32_w]
  rfl
 refine one_ (i := 0) (N := some 14) #[true, true, false, false, false, false, false, false] rfl rfl (by kernel_rfl) (by decide) (fun K hK => ?_)
 refine goes_ Try.func49 (by kernel_rfl) rfl #[] (by rfl) rfl rfl (by (try simp only [List.map_toArray, List.map_cons, List.map_nil]); first | done | rfl) ?_
 refine (scarfjointlaw07_line.calls lnN lnE _ line_ln).mono ?_
 rintro e w5 ⟨v6, v7, rfl, ho6, ho7, hb⟩
 refine ⟨_, rfl, ?_⟩
 obtain ⟨A6, c6, rfl, m6, r6⟩ := Kd.R_reads ho6; obtain ⟨A7, c7, rfl, m7, r7⟩ := Kd.R_reads ho7; have R6 := Lib.hid r6; have R7 := Lib.hid r7; have M6 := Lib.hid m6; have M7 := Lib.hid m7; have R43 := Lib.hid (Kd.C_below (Kd.C_drew R42.out) hb); have R53 := Lib.hid (Kd.C_below (Kd.C_drew R52.out) hb); have BK2 := Lib.hid (blk_below (blk_drew BK.out) hb); have B5 := Lib.hid (below_then (below_drew1 B4.out) (below_drew1 B4.out).size hb); clear ho6 ho7 r6 r7 m6 m7 hb R42 R52 BK B4
 refine hK.out _ _ ⟨(blk_cell BK2.out 0).trans rfl, (blk_cell BK2.out 1).trans rfl⟩ (fun hHeld => ?_)
 clear hK K
 refine norm_ (a' := ?_) ?_ ?_
 rotate_left
 ·show Act.put _ (some 14) _ = _
  simp only [Act.put, sI_, s0_, sS_, i64_w, i32_w]
  rfl
 refine one_ (i := 2) (N := some 16) #[true, true, true, false, false, false, false, false] rfl rfl (by kernel_rfl) (by decide) (fun K hK => ?_)
 refine goes_ Try.func21 (by kernel_rfl) rfl #[.agg #[.slice A6 lnN.length c6, .slice A7 lnE.length c7], .agg #[.slice A4 2 c4, .slice A5 1 c5]] (by rfl) rfl rfl (by (try simp only [List.map_toArray, List.map_cons, List.map_nil]); first | done | rfl) ?_
 refine (subgraph_Boundary.calls 1000 A6 c6 lnN A7 c7 lnE A4 c4 [0, 1] A5 c5 [0] [1] 0 _ R6.out M6.out R7.out M7.out R43.out M4.out R53.out M5.out bdry_ln).mono ?_
 rintro e w6 ⟨v8, rfl, ho8, hb⟩
 refine ⟨_, rfl, ?_⟩
 obtain ⟨A8, c8, rfl, m8, r8⟩ := Kd.R_reads ho8; have R8 := Lib.hid r8; have M8 := Lib.hid m8; have R44 := Lib.hid (Kd.C_below R43.out hb); have R54 := Lib.hid (Kd.C_below R53.out hb); have BK3 := Lib.hid (blk_below BK2.out hb); have B6 := Lib.hid (below_then B5.out B5.out.size hb); clear ho8 r8 m8 hb R43 R53 R6 R7 M6 M7 BK2 B5
 refine hK.out _ _ ⟨(blk_cell BK3.out 0).trans rfl, (blk_cell BK3.out 1).trans rfl⟩ (fun hHeld => ?_)
 clear hK K
 refine norm_ (a' := ?_) ?_ ?_
 rotate_left
 ·show Act.put _ (some 16) _ = _
  simp only [Act.put, sI_, s0_, sS_, i64_w, i32_w]
  rfl
 refine pure_ (i := 3) (N := some 13) (v := ?_) (a' := ?_) #[true, true, true, true, false, false, false, false] rfl rfl (by kernel_rfl) (fun _ _ _ h => h) (Or.inl ⟨by rfl, ?_⟩) ?_ ?_
 rotate_left
 ·intro w'
  go_simp
  with_reducible rfl
 rotate_left
 ·simp only [Act.put, sI_, s0_, sS_, i64_w, i32_w]
  rfl
 refine pure_ (i := 4) (N := some 17) (v := ?_) (a' := ?_) #[true, true, true, true, true, false, false, false] rfl rfl (by kernel_rfl) (fun _ _ _ h => h) (Or.inl ⟨by rfl, ?_⟩) ?_ ?_
 rotate_left
 ·intro w'
  go_simp
  with_reducible rfl
 rotate_left
 ·simp only [Act.put, sI_, s0_, sS_, i64_w, i32_w]
  rfl
 refine pure_ (i := 5) (N := some 18) (v := ?_) (a' := ?_) #[true, true, true, true, true, true, false, false] rfl rfl (by kernel_rfl) (fun _ _ _ h => h) (Or.inl ⟨by rfl, ?_⟩) ?_ ?_
 rotate_left
 ·intro w'
  go_simp
  with_reducible rfl
 rotate_left
 ·simp only [Act.put, sI_, s0_, sS_, i64_w, i32_w]
  rfl
 refine pure_ (i := 6) (N := some 3) (v := ?_) (a' := ?_) #[true, true, true, true, true, true, true, false] rfl rfl (by kernel_rfl) (fun _ _ _ h => h) (Or.inl ⟨by rfl, ?_⟩) ?_ ?_
 rotate_left
 ·intro w'
  go_simp
  with_reducible rfl
 rotate_left
 ·simp only [Act.put, sI_, s0_, sS_, i64_w, i32_w]
  rfl
 refine pure_ (i := 7) (N := some 4) (v := ?_) (a' := ?_) #[true, true, true, true, true, true, true, true] rfl rfl (by kernel_rfl) (fun _ _ _ h => h) (Or.inl ⟨by rfl, ?_⟩) ?_ ?_
 rotate_left
 ·intro w'
  go_simp
  with_reducible rfl
 rotate_left
 ·simp only [Act.put, sI_, s0_, sS_, i64_w, i32_w]
  rfl
 refine done_ (by kernel_rfl) ?_
 go_wp2_with fail
 refine (L0.out _).mono ?_
 rintro e w7 ⟨v9, v10, rfl, ho9, ho10, hb⟩; obtain ⟨A9, c9, rfl, m9, r9⟩ := Kd.R_reads ho9; obtain ⟨A10, c10, rfl, m10, r10⟩ := Kd.R_reads ho10; have R9 := Lib.hid r9; have R10 := Lib.hid r10; have M9 := Lib.hid m9; have M10 := Lib.hid m10; have R82 := Lib.hid (Kd.C_below R8.out hb); have R45 := Lib.hid (Kd.C_below R44.out hb); have R55 := Lib.hid (Kd.C_below R54.out hb); have BK4 := Lib.hid (blk_below BK3.out hb); have B7 := Lib.hid (below_then B6.out B6.out.size hb); clear ho9 ho10 r9 r10 m9 m10 hb R8 R44 R54 BK3 B6
 go_wp2_with (first
  | (go_at_call 24; refine (subgraph_All.callsR A9 c9 lnN A10 c10 lnE (partsL lnN lnE) 0 _ R9.out M9.out R10.out M10.out all_ln).mono ?_; rintro e w8 ⟨v11, rfl, ho11, hb⟩; obtain ⟨A11, c11, rfl⟩ := Kd.R_slice ho11; rw [parts_ln]; have R83 := Lib.hid (Kd.C_below R82.out hb); have R46 := Lib.hid (Kd.C_below R45.out hb); have R56 := Lib.hid (Kd.C_below R55.out hb); have BK5 := Lib.hid (blk_below BK4.out hb); have B8 := Lib.hid (below_then B7.out B7.out.size hb); have C0 : w8.cell? ⟨g, 0, none⟩ = some (.slice A4 2 c4) := (blk_cell BK5.out 0).trans rfl; have C1 : w8.cell? ⟨g, 1, none⟩ = some (.slice A5 1 c5) := (blk_cell BK5.out 1).trans rfl; clear ho11 hb R82 R45 R55 BK4 B7)
  | ((with_reducible refine gate_dst (N := 36) rfl ?_); (try (refine gate_guard (by rfl) ?_; dsimp only)); refine Kd.R_lit (Kd.int .i64) _ 3 ?hg (N := 36) ?hd (xs := [0, 1]) (inner := [.int .i64 0, .int .i64 1]) (ok := fun _ => True) (okp := fun _ => True) ?hr ?hp (fun _ hk => hk) trivial (Below.refl _ _) (Nat.le_refl _) (by simp) ?_; (case hd => rfl); (case hg => rfl); (case hr => first | (go_simp; done) | (go_simp; rfl)); (case hp => exact (Reps.one (show Kd.M (Kd.int .i64) _ _ _ 0 [.int .i64 0] from rfl) (Reps.one (show Kd.M (Kd.int .i64) _ _ _ 1 [.int .i64 1] from rfl) (Reps.none _ _)))); intro v12 w9 ho hb hg_ hne; obtain ⟨A12, c12, rfl, m12, r12⟩ := Kd.R_reads ho; have R12 := Lib.hid r12; have M12 := Lib.hid m12; have R84 := Lib.hid (Kd.C_below R83.out hb); have R47 := Lib.hid (Kd.C_below R46.out hb); have R57 := Lib.hid (Kd.C_below R56.out hb); have B9 := Lib.hid (below_then B8.out B8.out.size hb); clear ho hb hg_ hne r12 m12 C0 C1 R83 R46 R56 B8)
  | ((with_reducible refine gate_dst (N := 37) rfl ?_); (try (refine gate_guard (by rfl) ?_; dsimp only)); refine Kd.R_lit (Kd.int .i64) _ 3 ?hg (N := 37) ?hd (xs := [0]) (inner := [.int .i64 0]) (ok := fun _ => True) (okp := fun _ => True) ?hr ?hp (fun _ hk => hk) trivial (Below.refl _ _) (Nat.le_refl _) (by simp) ?_; (case hd => rfl); (case hg => rfl); (case hr => first | (go_simp; done) | (go_simp; rfl)); (case hp => exact (Reps.one (show Kd.M (Kd.int .i64) _ _ _ 0 [.int .i64 0] from rfl) (Reps.none _ _))); intro v13 w10 ho hb hg_ hne; obtain ⟨A13, c13, rfl, m13, r13⟩ := Kd.R_reads ho; have R13 := Lib.hid r13; have M13 := Lib.hid m13; have R85 := Lib.hid (Kd.C_below R84.out hb); have R48 := Lib.hid (Kd.C_below R47.out hb); have R58 := Lib.hid (Kd.C_below R57.out hb); have R122 := Lib.hid (Kd.C_below R12.out hb); have B10 := Lib.hid (below_then B9.out B9.out.size hb); clear ho hb hg_ hne r13 m13 R84 R47 R57 B9 R12)
  | (go_at_call 17; refine (scarfjointref07_Same.calls 10 A4 c4 [0, 1] A5 c5 [0] A12 c12 [0, 1] A13 c13 [0] true _ R48.out M4.out R58.out M5.out R122.out M12.out R13.out M13.out same_ln).mono ?_; rintro e w11 ⟨rfl, hb⟩; have R86 := Lib.hid (Kd.C_below R85.out hb); have B11 := Lib.hid (below_then B10.out B10.out.size hb); clear hb R85 R48 R58 R122 R13 B10)
  | ((with_reducible refine gate_dst (N := 43) rfl ?_); (try (refine gate_guard (by rfl) ?_; dsimp only)); refine Kd.R_lit (Kd.int .i64) _ 3 ?hg (N := 43) ?hd (xs := [1]) (inner := [.int .i64 1]) (ok := fun _ => True) (okp := fun _ => True) ?hr ?hp (fun _ hk => hk) trivial (Below.refl _ _) (Nat.le_refl _) (by simp) ?_; (case hd => rfl); (case hg => rfl); (case hr => first | (go_simp; done) | (go_simp; rfl)); (case hp => exact (Reps.one (show Kd.M (Kd.int .i64) _ _ _ 1 [.int .i64 1] from rfl) (Reps.none _ _))); intro v14 w12 ho hb hg_ hne; obtain ⟨A14, c14, rfl, m14, r14⟩ := Kd.R_reads ho; have R14 := Lib.hid r14; have M14 := Lib.hid m14; have R87 := Lib.hid (Kd.C_below R86.out hb); have B12 := Lib.hid (below_then B11.out B11.out.size hb); clear ho hb hg_ hne r14 m14 R86 B11)
  | (go_at_call 36; refine (slices_Equal_int_int.calls 10 A8 c8 [1] A14 c14 [1] true _ R87.out M8.out R14.out M14.out equal_ln).mono ?_; rintro e w13 ⟨rfl, hb⟩; have B13 := Lib.hid (below_then B12.out B12.out.size hb.below); clear hb R87 R14 B12))
 exact bodyPost_ret (v := .bool true) (by simp [results, Try.f11, go_sem]) rfl ⟨rfl, B13.out⟩
end Go.Proofs.Ytonipihlpbaknaa.Print
namespace Go.Proofs.Ytonipihlpbaknaa.Print
open Go.RowKit Go.Proofs.YtonipihlpbaknaaW.PrintWords Go.Proofs.YtonipihlpbaknaaW.PrintLast Go.Proofs.YtonipihlpbaknaaW.PrintMore
/-- A row told without its place of birth. -/
theorem toR {α : Type} {d : Kd α} {e b : Nat} {w : World} {ok : Nat → Prop} {v : Value} {l : List α} (h : Kd.R d e w b ok v l) : Kd.R d e w 0 (fun _ => True) v l := Kd.R_mono (Kd.R_lower h (Nat.zero_le _)) (fun _ _ => trivial)
theorem int_ne27 : ∀ q : Nat, q ∈ 3 :: (Kd.int .i64).E → q ≠ 27 := by decide
theorem cell2 {w : World} {x t : Nat} {a b : Value} (h : w.heap[x]? = some (.cells #[a, b] t (0, 0))) : w.cell? ⟨x, 0, none⟩ = some a ∧ w.cell? ⟨x, 1, none⟩ = some b := ⟨(blk_cell h 0).trans rfl, (blk_cell h 1).trans rfl⟩
end Go.Proofs.Ytonipihlpbaknaa.Print
namespace Go.Proofs.Ytonipihlpbaknaa.Print
open Go.RowKit Go.Proofs.YtonipihlpbaknaaW.PrintWords Go.Proofs.YtonipihlpbaknaaW.PrintLast Go.Proofs.YtonipihlpbaknaaW.PrintMore
attribute [local go_sem] max2_int min2_int max_two min_two max_three min_three max_four min_four   -- for this text's walks alone
set_option linter.unusedVariables false
set_option linter.unusedSimpArgs false
def scarfjointref07_Few.f (l0_0 : List Int) (l0_1 : List Int) (a1 : Int) : Option (Bool) := some (decide ((wrap64 ((l0_0.length : Int) + (l0_1.length : Int))) ≤ a1))
set_option maxHeartbeats 8000000 in
set_option maxRecDepth 100000 in
theorem scarfjointref07_Few.calls (A0_0 : Option Addr) (c0_0 : Nat) (l0_0 : List Int) (A0_1 : Option Addr) (c0_1 : Nat) (l0_1 : List Int) (a1 : Int) (r : Bool) (w : World) (hr0_0 : Kd.C (Kd.int .i64) w A0_0 l0_0.length l0_0) (hc0_0 : l0_0.length ≤ c0_0) (hr0_1 : Kd.C (Kd.int .i64) w A0_1 l0_1.length l0_1) (hc0_1 : l0_1.length ≤ c0_1) (h : scarfjointref07_Few.f l0_0 l0_1 a1 = some r) :
  Calls Try.prog 43 #[.agg #[.slice A0_0 l0_0.length c0_0, .slice A0_1 l0_1.length c0_1], .int .i64 a1] w fun e w' => e = .returned (.bool r) ∧ Below w.heap.size w w' := by
 have hu27 := Try.underlying27; have HR0_0 := Aside0.mk hr0_0; have HC0_0 := Aside0.mk hc0_0; clear hr0_0 hc0_0; have HR0_1 := Aside0.mk hr0_1; have HC0_1 := Aside0.mk hc0_1; clear hr0_1 hc0_1; have HB := Aside0.mk (Below.refl w.heap.size w); have H : (some (decide ((wrap64 ((l0_0.length : Int) + (l0_1.length : Int))) ≤ a1))) = some r := h; clear h; obtain rfl := Option.some.inj H
 go_enter Try.func43, Try.ntmps43
 go_wp2_with (first | ((with_reducible refine gate_dst (N := 2) rfl ?_); refine box_event ?hg (N := 2) ?hd (cs := #[.slice A0_0 l0_0.length c0_0, .slice A0_1 l0_1.length c0_1]) (t := 27) ?hr ?_; (case hd => rfl); (case hg => rfl); (case hr => first | (go_simp; done) | (go_simp; rfl)); intro gb101 hg w3 hbox hb; have n0_ := Aside0.mk (below_step (by repeat (first | (with_reducible first | exact HB.out | apply lA_ | apply lN_ | apply lD_) | exact HB.out)) hb); have n1_ := Aside0.mk (hbox); have n2_ := Aside0.mk ((by rw [hg]; exact (below_size (by repeat (first | (with_reducible first | exact HB.out | apply lA_ | apply lN_ | apply lD_) | exact HB.out))) : w.heap.size ≤ gb101)); have n3_ := Aside0.mk ((by rw [hg]; exact (below_size (by repeat (first | (with_reducible first | exact HB.out | apply lA_ | apply lN_ | apply lD_) | exact HB.out))) : w.heap.size ≤ gb101)); clear HB; have HB := n0_; have BK101 := n1_; have GW101 := n2_; have GE101 := n3_; clear n0_ n1_ n2_ n3_; clear hb hbox hg; have hcz4_0 : w3.cell? ⟨gb101, 0, none⟩ = some (.slice A0_0 l0_0.length c0_0) := (blk_cell BK101.out 0).trans rfl; have hcz4_1 : w3.cell? ⟨gb101, 1, none⟩ = some (.slice A0_1 l0_1.length c0_1) := (blk_cell BK101.out 1).trans rfl; have hfz4_0 := blk_frozen BK101.out 0; have hfz4_1 := blk_frozen BK101.out 1))
 go_ret
 exact ⟨by first | rfl | (simp [errW_none, errW_some] <;> rfl) | (simp [*, errW_none, errW_some] <;> rfl), by repeat (first | (with_reducible first | exact HB.out | apply lA_ | apply lN_ | apply lD_ | refine below_set ?_ GE101.out) | exact HB.out)⟩
end Go.Proofs.Ytonipihlpbaknaa.Print
namespace Go.Proofs.Ytonipihlpbaknaa.Print
open Go.RowKit Go.Proofs.YtonipihlpbaknaaW.PrintWords Go.Proofs.YtonipihlpbaknaaW.PrintLast Go.Proofs.YtonipihlpbaknaaW.PrintMore
attribute [local go_sem] max2_int min2_int max_two min_two max_three min_three max_four min_four   -- for this text's walks alone
set_option linter.unusedVariables false
set_option linter.unusedSimpArgs false
def scarfjointref05_Few.f (l0_0 : List Int) (l0_1 : List (S78)) : Option (Bool) := if (l0_0.length : Int) ≤ 45 then (some (decide ((l0_1.length : Int) ≤ 90))) else (some false)
set_option maxHeartbeats 8000000 in
set_option maxRecDepth 100000 in
theorem scarfjointref05_Few.calls (A0_0 : Option Addr) (c0_0 : Nat) (l0_0 : List Int) (A0_1 : Option Addr) (c0_1 : Nat) (l0_1 : List (S78)) (r : Bool) (w : World) (hr0_0 : Kd.C (Kd.int .i64) w A0_0 l0_0.length l0_0) (hc0_0 : l0_0.length ≤ c0_0) (hr0_1 : Kd.C k78 w A0_1 l0_1.length l0_1) (hc0_1 : l0_1.length ≤ c0_1) (h : scarfjointref05_Few.f l0_0 l0_1 = some r) :
  Calls Try.prog 50 #[.agg #[.slice A0_0 l0_0.length c0_0, .slice A0_1 l0_1.length c0_1]] w fun e w' => e = .returned (.bool r) ∧ Below w.heap.size w w' := by
 have hu25 := Try.underlying25; have HR0_0 := Aside0.mk hr0_0; have HC0_0 := Aside0.mk hc0_0; clear hr0_0 hc0_0; have HR0_1 := Aside0.mk hr0_1; have HC0_1 := Aside0.mk hc0_1; clear hr0_1 hc0_1; have HB := Aside0.mk (Below.refl w.heap.size w); have H : (if (l0_0.length : Int) ≤ 45 then (some (decide ((l0_1.length : Int) ≤ 90))) else (some false)) = some r := h; clear h
 by_cases c2 : (l0_0.length : Int) ≤ 45
 ·rw [if_pos c2] at H
  have c2b0 : decide ((l0_0.length : Int) ≤ 45) = true := decide_eq_true c2; have c2b1 : decide (l0_0.length ≤ 45) = true := decide_eq_true (by omega); clear c2; obtain rfl := Option.some.inj H
  go_enter Try.func50, Try.ntmps50
  go_wp2_with (first | ((with_reducible refine gate_dst (N := 1) rfl ?_); (try (refine gate_guard (by rfl) ?_; dsimp only)); refine box_event ?hg (N := 1) ?hd (cs := #[.slice A0_0 l0_0.length c0_0, .slice A0_1 l0_1.length c0_1]) (t := 25) ?hr ?_; (case hd => rfl); (case hg => rfl); (case hr => first | (go_simp; done) | (go_simp; rfl)); intro gb101 hg w3 hbox hb; have n0_ := Aside0.mk (below_step (by repeat (first | (with_reducible first | exact HB.out | apply lA_ | apply lN_ | apply lD_) | exact HB.out)) hb); have n1_ := Aside0.mk (hbox); have n2_ := Aside0.mk ((by rw [hg]; exact (below_size (by repeat (first | (with_reducible first | exact HB.out | apply lA_ | apply lN_ | apply lD_) | exact HB.out))) : w.heap.size ≤ gb101)); have n3_ := Aside0.mk ((by rw [hg]; exact (below_size (by repeat (first | (with_reducible first | exact HB.out | apply lA_ | apply lN_ | apply lD_) | exact HB.out))) : w.heap.size ≤ gb101)); clear HB; have HB := n0_; have BK101 := n1_; have GW101 := n2_; have GE101 := n3_; clear n0_ n1_ n2_ n3_; clear hb hbox hg; have hcz4_0 : w3.cell? ⟨gb101, 0, none⟩ = some (.slice A0_0 l0_0.length c0_0) := (blk_cell BK101.out 0).trans rfl; have hcz4_1 : w3.cell? ⟨gb101, 1, none⟩ = some (.slice A0_1 l0_1.length c0_1) := (blk_cell BK101.out 1).trans rfl; have hfz4_0 := blk_frozen BK101.out 0; have hfz4_1 := blk_frozen BK101.out 1))
  go_ret
  exact ⟨by first | rfl | (simp [errW_none, errW_some] <;> rfl) | (simp [*, errW_none, errW_some] <;> rfl), by repeat (first | (with_reducible first | exact HB.out | apply lA_ | apply lN_ | apply lD_ | refine below_set ?_ GE101.out) | exact HB.out)⟩
 ·rw [if_neg c2] at H
  have c2b0 : decide ((l0_0.length : Int) ≤ 45) = false := decide_eq_false c2; have c2b1 : decide (l0_0.length ≤ 45) = false := decide_eq_false (by omega); clear c2; obtain rfl := Option.some.inj H
  go_enter Try.func50, Try.ntmps50
  go_wp2_with (first | ((with_reducible refine gate_dst (N := 1) rfl ?_); (try (refine gate_guard (by rfl) ?_; dsimp only)); refine box_event ?hg (N := 1) ?hd (cs := #[.slice A0_0 l0_0.length c0_0, .slice A0_1 l0_1.length c0_1]) (t := 25) ?hr ?_; (case hd => rfl); (case hg => rfl); (case hr => first | (go_simp; done) | (go_simp; rfl)); intro gb101 hg w5 hbox hb; have n0_ := Aside0.mk (below_step (by repeat (first | (with_reducible first | exact HB.out | apply lA_ | apply lN_ | apply lD_) | exact HB.out)) hb); have n1_ := Aside0.mk (hbox); have n2_ := Aside0.mk ((by rw [hg]; exact (below_size (by repeat (first | (with_reducible first | exact HB.out | apply lA_ | apply lN_ | apply lD_) | exact HB.out))) : w.heap.size ≤ gb101)); have n3_ := Aside0.mk ((by rw [hg]; exact (below_size (by repeat (first | (with_reducible first | exact HB.out | apply lA_ | apply lN_ | apply lD_) | exact HB.out))) : w.heap.size ≤ gb101)); clear HB; have HB := n0_; have BK101 := n1_; have GW101 := n2_; have GE101 := n3_; clear n0_ n1_ n2_ n3_; clear hb hbox hg; have hcz6_0 : w5.cell? ⟨gb101, 0, none⟩ = some (.slice A0_0 l0_0.length c0_0) := (blk_cell BK101.out 0).trans rfl; have hcz6_1 : w5.cell? ⟨gb101, 1, none⟩ = some (.slice A0_1 l0_1.length c0_1) := (blk_cell BK101.out 1).trans rfl; have hfz6_0 := blk_frozen BK101.out 0; have hfz6_1 := blk_frozen BK101.out 1))
  go_ret
  exact ⟨by first | rfl | (simp [errW_none, errW_some] <;> rfl) | (simp [*, errW_none, errW_some] <;> rfl), by repeat (first | (with_reducible first | exact HB.out | apply lA_ | apply lN_ | apply lD_ | refine below_set ?_ GE101.out) | exact HB.out)⟩
end Go.Proofs.Ytonipihlpbaknaa.Print
namespace Go.Proofs.Ytonipihlpbaknaa.Print
set_option linter.unusedVariables false
open Go.RowKit Go.Proofs.YtonipihlpbaknaaW.PrintWords Go.Proofs.YtonipihlpbaknaaW.PrintLast Go.Proofs.YtonipihlpbaknaaW.PrintMore
def fewB (x : S27) : Bool := decide (wrap64 ((x.f0.length : Int) + (x.f1.length : Int)) ≤ 150)
end Go.Proofs.Ytonipihlpbaknaa.Print
namespace Go.Proofs.Ytonipihlpbaknaa.Print
open Go.RowKit Go.Proofs.YtonipihlpbaknaaW.PrintWords Go.Proofs.YtonipihlpbaknaaW.PrintLast Go.Proofs.YtonipihlpbaknaaW.PrintMore
def scarfjointlaw07_awake.f : Option Bool := some true
theorem scarfjointlaw07_awake.calls (r : Bool) (w : World) (h : scarfjointlaw07_awake.f = some r) : Calls Try.prog 11 #[] w fun e w' => e = .returned (.bool r) ∧ Below w.heap.size w w' := by
  obtain rfl : true = r := by simpa [scarfjointlaw07_awake.f] using h
  exact scarfjointlaw07_awake.calls0 w
end Go.Proofs.Ytonipihlpbaknaa.Print
namespace Go.Proofs.Ytonipihlpbaknaa.Print
open Go.RowKit Go.Proofs.YtonipihlpbaknaaW.PrintWords Go.Proofs.YtonipihlpbaknaaW.PrintLast Go.Proofs.YtonipihlpbaknaaW.PrintMore
attribute [local go_sem] max2_int min2_int max_two min_two max_three min_three max_four min_four   -- for this text's walks alone
set_option linter.unusedVariables false
set_option linter.unusedSimpArgs false
mutual
def scarfjointref07_merged.l0 : Nat → Int → List Int → List Int → Bool → List Int → Int → Option (List Int)
  | 0, _, _, _, _, _, _ => none
  | k + 1, x0, x1, x2, x3, x9, x10 => if x10 < x0 then ((scarfjointref07_has.f k x1 x10).bind fun t101 => ((scarfjointref07_has.f k x2 x10).bind fun t102 => (if t101 = true then (if t102 = true then (scarfjointref07_merged.j1 k x0 x1 x2 x3 x9 x10 true) else (if x3 = true then (scarfjointref07_merged.j1 k x0 x1 x2 x3 x9 x10 false) else (scarfjointref07_merged.j1 k x0 x1 x2 x3 x9 x10 true))) else (if x3 = true then (scarfjointref07_merged.j1 k x0 x1 x2 x3 x9 x10 false) else (scarfjointref07_merged.j1 k x0 x1 x2 x3 x9 x10 t102))))) else (some x9)
def scarfjointref07_merged.j1 : Nat → Int → List Int → List Int → Bool → List Int → Int → Bool → Option (List Int)
  | 0, _, _, _, _, _, _, _ => none
  | k + 1, x0, x1, x2, x3, x9, x10, x37 => if x37 = true then (if x9.length < 17592186044416 then (scarfjointref07_merged.l0 k x0 x1 x2 x3 (x9 ++ [x10]) (wrap64 (x10 + 1))) else (none)) else (scarfjointref07_merged.l0 k x0 x1 x2 x3 x9 (wrap64 (x10 + 1)))
end
def scarfjointref07_merged.f (k : Nat) (a0 : Int) (l1 : List Int) (l2 : List Int) (a3 : Bool) : Option (List Int) := scarfjointref07_merged.l0 k a0 l1 l2 a3 ([] : List Int) 0
set_option maxHeartbeats 8000000 in
set_option maxRecDepth 100000 in
theorem scarfjointref07_merged.calls (k : Nat) (a0 : Int) (A1 : Option Addr) (c1 : Nat) (l1 : List Int) (A2 : Option Addr) (c2 : Nat) (l2 : List Int) (a3 : Bool) (r : List Int) (w : World) (hr1 : Kd.C (Kd.int .i64) w A1 l1.length l1) (hc1 : l1.length ≤ c1) (hr2 : Kd.C (Kd.int .i64) w A2 l2.length l2) (hc2 : l2.length ≤ c2) (h : scarfjointref07_merged.f k a0 l1 l2 a3 = some r) :
  Calls Try.prog 75 #[.int .i64 a0, .slice A1 l1.length c1, .slice A2 l2.length c2, .bool a3] w fun e w' => ∃ v0_ : Value, e = .returned (v0_) ∧ Kd.R (Kd.int .i64) 3 w' w.heap.size (fun _ => True) v0_ r ∧ Below w.heap.size w w' := by
 have HR1 := Aside0.mk hr1; have HC1 := Aside0.mk hc1; clear hr1 hc1; have HR2 := Aside0.mk hr2; have HC2 := Aside0.mk hc2; clear hr2 hc2; have HB := Aside0.mk (Below.refl w.heap.size w); have H : (scarfjointref07_merged.l0 k a0 l1 l2 a3 ([] : List Int) 0) = some r := h; clear h; have H' := Aside0.mk H; clear H
 go_enter Try.func75, Try.ntmps75
 go_wp2
 go_loopg [9, 10] k (fun kq v9 v10 w' => ∃ (x9_1 : List Int) (x10_1 : Int), v10 = .int .i64 x10_1 ∧ Aside0 (scarfjointref07_merged.l0 kq a0 l1 l2 a3 x9_1 x10_1 = some r) ∧ Aside0 (kq ≤ k) ∧ Aside0 (Kd.R (Kd.int .i64) 3 w' w.heap.size (fun _ => True) v9 x9_1) ∧ Aside0 (Below w.heap.size w w'))
 case atStart => exact ⟨(([] : List Int)), (0), (by first | rfl | (simp; done) | (simp [*]; done)), H', ⟨Nat.le_refl _⟩, ⟨by first | exact Kd.R_nil _ _ _ _ _ | exact Kd.N_nil _ _ _ _ _ | exact Kd.V_nil _ _ _ _ _ | exact Kd.Q_nil _ _ _ _ _ | exact Kd.S_nil _ _ _ _ _⟩, ⟨by repeat (first | (with_reducible first | exact HB.out | apply lA_ | apply lN_ | apply lD_) | exact HB.out)⟩⟩
 case round =>
  clear H'; (try clear c1); (try clear c2); (try clear p2); obtain ⟨x9_1, x10_1, rfl, HA, HK1, HO_9, HB⟩ := hrel
  cases gk with
  | zero => exact absurd HA.out (by simp [scarfjointref07_merged.l0])
  | succ k1 =>
   have H := HA.out; clear HA; simp only [scarfjointref07_merged.l0] at H
   by_cases c5 : x10_1 < a0
   ·rw [if_pos c5] at H
    have c5b0 : decide (x10_1 < a0) = true := decide_eq_true c5; clear c5; replace H := Option.bind_eq_some_iff.mp H; obtain ⟨t101, A60, H⟩ := H; replace H : ((scarfjointref07_has.f k1 l2 x10_1).bind fun t102 => (if t101 = true then (if t102 = true then (scarfjointref07_merged.j1 k1 a0 l1 l2 a3 x9_1 x10_1 true) else (if a3 = true then (scarfjointref07_merged.j1 k1 a0 l1 l2 a3 x9_1 x10_1 false) else (scarfjointref07_merged.j1 k1 a0 l1 l2 a3 x9_1 x10_1 true))) else (if a3 = true then (scarfjointref07_merged.j1 k1 a0 l1 l2 a3 x9_1 x10_1 false) else (scarfjointref07_merged.j1 k1 a0 l1 l2 a3 x9_1 x10_1 t102)))) = some r := H; have A6 := Aside0.mk A60; clear A60; replace H := Option.bind_eq_some_iff.mp H; obtain ⟨t102, A70, H⟩ := H; replace H : (if t101 = true then (if t102 = true then (scarfjointref07_merged.j1 k1 a0 l1 l2 a3 x9_1 x10_1 true) else (if a3 = true then (scarfjointref07_merged.j1 k1 a0 l1 l2 a3 x9_1 x10_1 false) else (scarfjointref07_merged.j1 k1 a0 l1 l2 a3 x9_1 x10_1 true))) else (if a3 = true then (scarfjointref07_merged.j1 k1 a0 l1 l2 a3 x9_1 x10_1 false) else (scarfjointref07_merged.j1 k1 a0 l1 l2 a3 x9_1 x10_1 t102))) = some r := H; have A7 := Aside0.mk A70; clear A70; have HC8 := Aside0.mk H; clear H
    go_upto_region 6 with (first | ((with_reducible refine gate_callee (f := 74) rfl ?_); refine goesL_ (some 20) rfl rfl Try.func74 (by kernel_rfl) rfl #[.slice A1 l1.length c1, .int .i64 x10_1] rfl (by (try simp only [List.map_toArray, List.map_cons, List.map_nil]); first | done | rfl | (simp only [List.length_drop, List.length_take]; rfl)) ?_; (with_reducible refine (scarfjointref07_has.calls k1 _ _ l1 x10_1 t101 _ ?side1 ?side2 A6.out).mono ?_); (case side1 => repeat (first | exact (Kd.C_below HR1.out HB.out) | (with_reducible refine Kd.C_alloc ?_ _) | (with_reducible refine Kd.C_drewN ?_ _) | (with_reducible refine Kd.C_drew ?_))); (case side2 => exact HC1.out); rintro e w' ⟨rfl, ⟨nd, rfl⟩⟩; refine ⟨_, rfl, ?_⟩) | ((with_reducible refine gate_callee (f := 74) rfl ?_); refine goesL_ (some 23) rfl rfl Try.func74 (by kernel_rfl) rfl #[.slice A2 l2.length c2, .int .i64 x10_1] rfl (by (try simp only [List.map_toArray, List.map_cons, List.map_nil]); first | done | rfl | (simp only [List.length_drop, List.length_take]; rfl)) ?_; (with_reducible refine (scarfjointref07_has.calls k1 _ _ l2 x10_1 t102 _ ?side1 ?side2 A7.out).mono ?_); (case side1 => repeat (first | exact (Kd.C_below HR2.out (by repeat (first | (with_reducible first | exact HB.out | apply lA_ | apply lN_ | apply lD_) | exact HB.out))) | (with_reducible refine Kd.C_alloc ?_ _) | (with_reducible refine Kd.C_drewN ?_ _) | (with_reducible refine Kd.C_drew ?_))); (case side2 => exact HC2.out); rintro e w' ⟨rfl, ⟨nd, rfl⟩⟩; refine ⟨_, rfl, ?_⟩))
    (try simp only [Act.put, sI_, s0_, sS_])
    go_cut [37] (fun v37 wc => ∃ (kq : Nat) (x37_7 : Bool), v37 = .bool x37_7 ∧ Aside0 (scarfjointref07_merged.j1 kq a0 l1 l2 a3 x9_1 x10_1 x37_7 = some r) ∧ Aside0 (kq ≤ k1) ∧ Aside0 (Kd.R (Kd.int .i64) 3 wc w.heap.size (fun _ => True) u9 x9_1) ∧ Aside0 (Below w.heap.size w wc))
    case first =>
     have H := HC8.out; clear HC8
     by_cases c9 : t101 = true
     ·subst c9
      have H1 : (if t102 = true then (scarfjointref07_merged.j1 k1 a0 l1 l2 a3 x9_1 x10_1 true) else (if a3 = true then (scarfjointref07_merged.j1 k1 a0 l1 l2 a3 x9_1 x10_1 false) else (scarfjointref07_merged.j1 k1 a0 l1 l2 a3 x9_1 x10_1 true))) = some r := by rw [if_pos rfl] at H; exact H
      clear H; have H := H1; clear H1
      by_cases c10 : t102 = true
      ·subst c10
       have H1 : (scarfjointref07_merged.j1 k1 a0 l1 l2 a3 x9_1 x10_1 true) = some r := by rw [if_pos rfl] at H; exact H
       clear H; have H := H1; clear H1; have H' := Aside0.mk H; clear H
       go_wp2
       go_meet
       case rel => exact ⟨_, (true), (by first | rfl | (simp; done) | (simp [*]; done)), H', ⟨by have := HK1.out; first | omega | exact Nat.le_refl _⟩, ⟨by (with_reducible repeat (first | apply rA_ | apply rN_ | apply rD_)); exact HO_9.out⟩, ⟨by repeat (first | (with_reducible first | exact HB.out | apply lA_ | apply lN_ | apply lD_) | exact HB.out)⟩⟩
      ·replace c10 := Bool.eq_false_iff.mpr c10
       subst c10
       have H1 : (if a3 = true then (scarfjointref07_merged.j1 k1 a0 l1 l2 a3 x9_1 x10_1 false) else (scarfjointref07_merged.j1 k1 a0 l1 l2 a3 x9_1 x10_1 true)) = some r := by rw [if_neg (show ¬ (false = true) by decide)] at H; exact H
       clear H; have H := H1; clear H1
       by_cases c11 : a3 = true
       ·subst c11
        have H1 : (scarfjointref07_merged.j1 k1 a0 l1 l2 true x9_1 x10_1 false) = some r := by rw [if_pos rfl] at H; exact H
        clear H; have H := H1; clear H1; have H' := Aside0.mk H; clear H
        go_wp2
        go_meet
        case rel => exact ⟨_, (false), (by first | rfl | (simp; done) | (simp [*]; done)), H', ⟨by have := HK1.out; first | omega | exact Nat.le_refl _⟩, ⟨by (with_reducible repeat (first | apply rA_ | apply rN_ | apply rD_)); exact HO_9.out⟩, ⟨by repeat (first | (with_reducible first | exact HB.out | apply lA_ | apply lN_ | apply lD_) | exact HB.out)⟩⟩
       ·replace c11 := Bool.eq_false_iff.mpr c11
        subst c11
        have H1 : (scarfjointref07_merged.j1 k1 a0 l1 l2 false x9_1 x10_1 true) = some r := by rw [if_neg (show ¬ (false = true) by decide)] at H; exact H
        clear H; have H := H1; clear H1; have H' := Aside0.mk H; clear H
        go_wp2
        go_meet
        case rel => exact ⟨_, (true), (by first | rfl | (simp; done) | (simp [*]; done)), H', ⟨by have := HK1.out; first | omega | exact Nat.le_refl _⟩, ⟨by (with_reducible repeat (first | apply rA_ | apply rN_ | apply rD_)); exact HO_9.out⟩, ⟨by repeat (first | (with_reducible first | exact HB.out | apply lA_ | apply lN_ | apply lD_) | exact HB.out)⟩⟩
     ·replace c9 := Bool.eq_false_iff.mpr c9
      subst c9
      have H1 : (if a3 = true then (scarfjointref07_merged.j1 k1 a0 l1 l2 a3 x9_1 x10_1 false) else (scarfjointref07_merged.j1 k1 a0 l1 l2 a3 x9_1 x10_1 t102)) = some r := by rw [if_neg (show ¬ (false = true) by decide)] at H; exact H
      clear H; have H := H1; clear H1
      by_cases c12 : a3 = true
      ·subst c12
       have H1 : (scarfjointref07_merged.j1 k1 a0 l1 l2 true x9_1 x10_1 false) = some r := by rw [if_pos rfl] at H; exact H
       clear H; have H := H1; clear H1; have H' := Aside0.mk H; clear H
       go_wp2
       go_meet
       case rel => exact ⟨_, (false), (by first | rfl | (simp; done) | (simp [*]; done)), H', ⟨by have := HK1.out; first | omega | exact Nat.le_refl _⟩, ⟨by (with_reducible repeat (first | apply rA_ | apply rN_ | apply rD_)); exact HO_9.out⟩, ⟨by repeat (first | (with_reducible first | exact HB.out | apply lA_ | apply lN_ | apply lD_) | exact HB.out)⟩⟩
      ·replace c12 := Bool.eq_false_iff.mpr c12
       subst c12
       have H1 : (scarfjointref07_merged.j1 k1 a0 l1 l2 false x9_1 x10_1 t102) = some r := by rw [if_neg (show ¬ (false = true) by decide)] at H; exact H
       clear H; have H := H1; clear H1; have H' := Aside0.mk H; clear H
       go_wp2
       go_meet
       case rel => exact ⟨_, (t102), (by first | rfl | (simp; done) | (simp [*]; done)), H', ⟨by have := HK1.out; first | omega | exact Nat.le_refl _⟩, ⟨by (with_reducible repeat (first | apply rA_ | apply rN_ | apply rD_)); exact HO_9.out⟩, ⟨by repeat (first | (with_reducible first | exact HB.out | apply lA_ | apply lN_ | apply lD_) | exact HB.out)⟩⟩
    case rest =>
     clear HC8; (try clear c1); (try clear c2); (try clear p2); (try clear c5); (try clear c5b0); (try clear c7); (try clear c9); (try clear c10); (try clear c11); (try clear c12); (try clear p2); obtain ⟨kq, x37_7, rfl, HA, HJ7, HO_9, HB⟩ := hcut
     cases kq with
     | zero => exact absurd HA.out (by simp [scarfjointref07_merged.j1])
     | succ kj7 =>
      have H := HA.out; clear HA; simp only [scarfjointref07_merged.j1] at H
      by_cases c13 : x37_7 = true
      ·subst c13
       have H1 : (if x9_1.length < 17592186044416 then (scarfjointref07_merged.l0 kj7 a0 l1 l2 a3 (x9_1 ++ [x10_1]) (wrap64 (x10_1 + 1))) else (none)) = some r := by rw [if_pos rfl] at H; exact H
       clear H; have H := H1; clear H1
       by_cases c14 : x9_1.length < 17592186044416
       ·rw [if_pos c14] at H
        have LMc14 := Aside0.mk c14; clear c14
        obtain ⟨y103, hy103⟩ : ∃ y_ : List Int, y_ = (x9_1 ++ [x10_1]) := ⟨_, rfl⟩
        replace H : (scarfjointref07_merged.l0 kj7 a0 l1 l2 a3 y103 (wrap64 (x10_1 + 1))) = some r := by first | (rw [hy103]; with_reducible exact H) | (have H2_ := (Option.bind_some _ _).symm.trans H; rw [hy103]; with_reducible exact H2_) | (have H2_ := (Option.bind_some _ _).symm.trans H; with_reducible exact H2_) | with_reducible exact H | (rw [hy103]; exact H) | exact H
        have Ny103 := Aside0.mk hy103; clear hy103; have H' := Aside0.mk H; clear H
        go_wp2_with (first | ((with_reducible refine gate_builtin (b := .append) (xs := #[.tmp 38, .tmp 40]) rfl ?_); at_builtin; refine Kd.R_append (Kd.int .i64) (w0 := w) w.heap.size rfl (.tmp 38) (.tmp 40) 22 3 (.int .i64 0) 8 rfl Try.underlying22 info3 rfl (by decide) (by omega) u9 x9_1 x10_1 [.int .i64 x10_1] (fun _ => True) (fun _ => False) rfl rfl ?aP (fun _ hk => hk.elim) ?aF ?aO ?aB ?aS ?aL ?_; (case aP => exact rfl); (case aB => exact (by repeat (first | (with_reducible first | exact HB.out | apply lA_ | apply lN_ | apply lD_) | exact HB.out))); (case aF => exact (fun _ _ => trivial)); (case aO => exact (by (with_reducible repeat (first | apply rA_ | apply rN_ | apply rD_)); exact HO_9.out)); (case aS => exact (below_size (by repeat (first | (with_reducible first | exact HB.out | apply lA_ | apply lN_ | apply lD_) | exact HB.out)))); (case aL => have := LMc14.out; omega); intro v104 w15 ho hb hg hat; rw [← Ny103.out] at ho; have n0_ := Aside0.mk (hb); have n1_ := Aside0.mk (ho); clear HB; clear HO_9; have HB := n0_; have HO105 := n1_; clear n0_ n1_; clear ho hb hg hat))
        go_roundg kj7
        case measure => have := HK1.out; have := HJ7.out; omega
        case rel => exact ⟨(y103), (wrap64 (x10_1 + 1)), (by first | rfl | (simp; done) | (simp [*]; done)), H', ⟨by have := HK1.out; have := HJ7.out; omega⟩, ⟨by (with_reducible repeat (first | apply rA_ | apply rN_ | apply rD_)); exact HO105.out⟩, ⟨by repeat (first | (with_reducible first | exact HB.out | apply lA_ | apply lN_ | apply lD_) | exact HB.out)⟩⟩
       ·rw [if_neg c14] at H
        exact absurd H (by simp)
      ·replace c13 := Bool.eq_false_iff.mpr c13
       subst c13
       have H1 : (scarfjointref07_merged.l0 kj7 a0 l1 l2 a3 x9_1 (wrap64 (x10_1 + 1))) = some r := by rw [if_neg (show ¬ (false = true) by decide)] at H; exact H
       clear H; have H := H1; clear H1; have H' := Aside0.mk H; clear H
       go_wp2
       go_roundg kj7
       case measure => have := HK1.out; have := HJ7.out; omega
       case rel => exact ⟨(x9_1), (wrap64 (x10_1 + 1)), (by first | rfl | (simp; done) | (simp [*]; done)), H', ⟨by have := HK1.out; have := HJ7.out; omega⟩, ⟨by (with_reducible repeat (first | apply rA_ | apply rN_ | apply rD_)); exact HO_9.out⟩, ⟨by repeat (first | (with_reducible first | exact HB.out | apply lA_ | apply lN_ | apply lD_) | exact HB.out)⟩⟩
   ·rw [if_neg c5] at H
    have c5b0 : decide (x10_1 < a0) = false := decide_eq_false c5; clear c5; obtain rfl := Option.some.inj H
    go_wp2
    go_ret
    exact ⟨_, by first | rfl | (simp [errW_none, errW_some] <;> rfl) | (simp [*, errW_none, errW_some] <;> rfl), by (with_reducible repeat (first | apply rA_ | apply rN_ | apply rD_)); exact HO_9.out, by repeat (first | (with_reducible first | exact HB.out | apply lA_ | apply lN_ | apply lD_) | exact HB.out)⟩
end Go.Proofs.Ytonipihlpbaknaa.Print
namespace Go.Proofs.Ytonipihlpbaknaa.Print
set_option linter.unusedVariables false
set_option linter.unusedSimpArgs false
open Go.RowKit Go.Proofs.YtonipihlpbaknaaW.PrintWords Go.Proofs.YtonipihlpbaknaaW.PrintLast Go.Proofs.YtonipihlpbaknaaW.PrintMore
theorem mem_filtR {p : Nat → Bool} {n : Nat} {x : Int} : x ∈ ((List.range n).filter p).map (fun (j : Nat) => (j : Int)) ↔ 0 ≤ x ∧ x < n ∧ p x.toNat = true := by
  simp only [List.mem_map, List.mem_filter, List.mem_range]
  constructor
  · rintro ⟨j, ⟨h1, h2⟩, rfl⟩
    exact ⟨by omega, by omega, by simpa using h2⟩
  · rintro ⟨h1, h2, h3⟩
    exact ⟨x.toNat, ⟨by omega, h3⟩, by omega⟩
theorem filtR_asc (p : Nat → Bool) (n : Nat) : (((List.range n).filter p).map (fun (j : Nat) => (j : Int))).Pairwise (· < ·) := by
  rw [List.pairwise_map]
  exact (List.pairwise_lt_range.filter _).imp fun h => by omega
end Go.Proofs.Ytonipihlpbaknaa.Print
namespace Go.Proofs.Ytonipihlpbaknaa.Print
open Go.RowKit Go.Proofs.YtonipihlpbaknaaW.PrintWords Go.Proofs.YtonipihlpbaknaaW.PrintLast Go.Proofs.YtonipihlpbaknaaW.PrintMore
attribute [local go_sem] max2_int min2_int max_two min_two max_three min_three max_four min_four   -- for this text's walks alone
set_option linter.unusedVariables false
set_option linter.unusedSimpArgs false
theorem eqA78 (d : Nat) (w : World) (x0 y0 : Int) (x1 y1 : Int) (x2 y2 : Int) :
    (Op.equalIn (d + 2) 78 (.agg #[.int .i64 x0, .int .i64 x1, .int .i64 x2]) (.agg #[.int .i64 y0, .int .i64 y1, .int .i64 y2])).run Try.prog w = .ok (x0 == y0 && (x1 == y1 && (x2 == y2))) w := by
  refine eqA_of Try.underlying78 (by kernel_rfl) ?_
  refine eqf_cons (by rfl) (by go_simp; rfl) (by go_simp; rfl) (by go_simp) ?_
  refine eqf_cons (by rfl) (by go_simp; rfl) (by go_simp; rfl) (by go_simp) ?_
  exact eqf_last (by rfl) (by go_simp; rfl) (by go_simp; rfl) (by go_simp)
end Go.Proofs.Ytonipihlpbaknaa.Print
namespace Go.Proofs.Ytonipihlpbaknaa.Print
open Go.RowKit Go.Proofs.YtonipihlpbaknaaW.PrintWords Go.Proofs.YtonipihlpbaknaaW.PrintLast Go.Proofs.YtonipihlpbaknaaW.PrintMore
attribute [local go_sem] max2_int min2_int max_two min_two max_three min_three max_four min_four   -- for this text's walks alone
set_option linter.unusedVariables false
set_option linter.unusedSimpArgs false
def scarfjointlaw07_own.f (l0_0 : List Int) (l0_1 : List Int) : Option (List Int × List Int) := (slices_Clone_int_int.f l0_0).bind fun t103 => ((slices_Clone_int_int.f l0_1).bind fun t106 => (some (t103, t106)))
def scarfjointlaw07_own.T1 : Bool × List (List Nat × List Nat) := (true, [([], []), ([0], [0]), ([1], [1]), ([], []), ([3], [3]), ([4, 2], [4]), ([2, 5], [2, 5]), ([6, 5, 0, 1, 2, 3, 4, 5, 6], [6])])
def scarfjointlaw07_own.B1 : List Nat := [0, 1, 3, 0, 8, 31, 63, 127]
theorem scarfjointlaw07_own.tab1 : rtab .any (opsOf Try.f30 1) = scarfjointlaw07_own.T1 := by kernel_rfl
theorem scarfjointlaw07_own.bits1 : waitsOk scarfjointlaw07_own.T1.2 scarfjointlaw07_own.B1 = true := by kernel_rfl
set_option maxHeartbeats 8000000 in
set_option maxRecDepth 100000 in
theorem scarfjointlaw07_own.calls (A0_0 : Option Addr) (c0_0 : Nat) (l0_0 : List Int) (A0_1 : Option Addr) (c0_1 : Nat) (l0_1 : List Int) (r1 : List Int) (r2 : List Int) (w : World) (hr0_0 : Kd.C (Kd.int .i64) w A0_0 l0_0.length l0_0) (hc0_0 : l0_0.length ≤ c0_0) (hr0_1 : Kd.C (Kd.int .i64) w A0_1 l0_1.length l0_1) (hc0_1 : l0_1.length ≤ c0_1) (h : scarfjointlaw07_own.f l0_0 l0_1 = some (r1, r2)) :
  Calls Try.prog 30 #[.agg #[.slice A0_0 l0_0.length c0_0, .slice A0_1 l0_1.length c0_1]] w fun e w' => ∃ v0_ v1_ : Value, e = .returned (.agg #[v0_, v1_]) ∧ Kd.R (Kd.int .i64) 3 w' w.heap.size (fun k_ => some k_ ≠ (v1_ : Value).ownBlock) v0_ r1 ∧ Kd.R (Kd.int .i64) 3 w' w.heap.size (fun k_ => some k_ ≠ (v0_ : Value).ownBlock) v1_ r2 ∧ Below w.heap.size w w' := by
 have hu27 := Try.underlying27; have HR0_0 := Aside0.mk hr0_0; have HC0_0 := Aside0.mk hc0_0; clear hr0_0 hc0_0; have HR0_1 := Aside0.mk hr0_1; have HC0_1 := Aside0.mk hc0_1; clear hr0_1 hc0_1; have HB := Aside0.mk (Below.refl w.heap.size w); have H : ((slices_Clone_int_int.f l0_0).bind fun t103 => ((slices_Clone_int_int.f l0_1).bind fun t106 => (some (t103, t106)))) = some (r1, r2) := h; clear h; replace H := Option.bind_eq_some_iff.mp H; obtain ⟨t103, A20, H⟩ := H; replace H : ((slices_Clone_int_int.f l0_1).bind fun t106 => (some (t103, t106))) = some (r1, r2) := H; have A2 := Aside0.mk A20; clear A20; replace H := Option.bind_eq_some_iff.mp H; obtain ⟨t106, A30, H⟩ := H; replace H : (some (t103, t106)) = some (r1, r2) := H; have A3 := Aside0.mk A30; clear A30; simp only [Option.some.injEq, Prod.mk.injEq] at H; obtain ⟨rfl, rfl⟩ := H
 go_enter Try.func30, Try.ntmps30
 try go_wp2_with (first | ((with_reducible refine gate_dst (N := 1) rfl ?_); refine box_event ?hg (N := 1) ?hd (cs := #[.slice A0_0 l0_0.length c0_0, .slice A0_1 l0_1.length c0_1]) (t := 27) ?hr ?_; (case hd => rfl); (case hg => rfl); (case hr => first | (go_simp; done) | (go_simp; rfl)); intro gb101 hg w4 hbox hb; have n0_ := Aside0.mk (below_step (by repeat (first | (with_reducible first | exact HB.out | apply lA_ | apply lN_ | apply lD_) | exact HB.out)) hb); have n1_ := Aside0.mk (hbox); have n2_ := Aside0.mk ((by rw [hg]; exact (below_size (by repeat (first | (with_reducible first | exact HB.out | apply lA_ | apply lN_ | apply lD_) | exact HB.out))) : w.heap.size ≤ gb101)); have n3_ := Aside0.mk ((by rw [hg]; exact (below_size (by repeat (first | (with_reducible first | exact HB.out | apply lA_ | apply lN_ | apply lD_) | exact HB.out))) : w.heap.size ≤ gb101)); clear HB; have HB := n0_; have BK101 := n1_; have GW101 := n2_; have GE101 := n3_; clear n0_ n1_ n2_ n3_; clear hb hbox hg) | ((with_reducible refine gate_dst (N := 2) rfl ?_); refine box_event ?hg (N := 2) ?hd (cs := #[.slice none 0 0, .slice none 0 0]) (t := 27) ?hr ?_; (case hd => rfl); (case hg => rfl); (case hr => first | (go_simp; done) | (go_simp; rfl)); intro gb102 hg w5 hbox hb; have n0_ := Aside0.mk (blk_below (g := gb101) (o := .cells #[.slice A0_0 l0_0.length c0_0, .slice A0_1 l0_1.length c0_1] 27 (0, 0)) (by (with_reducible repeat first | refine bN_ ?_ _ | refine bD_ ?_ | refine bA_ ?_ _); exact BK101.out) hb); have n1_ := Aside0.mk (below_step (by repeat (first | (with_reducible first | exact HB.out | apply lA_ | apply lN_ | apply lD_ | refine below_set ?_ GE101.out) | exact HB.out)) hb); have n2_ := Aside0.mk (hbox); have n3_ := Aside0.mk ((by rw [hg]; exact (below_size (by repeat (first | (with_reducible first | exact HB.out | apply lA_ | apply lN_ | apply lD_ | refine below_set ?_ GE101.out) | exact HB.out))) : w.heap.size ≤ gb102)); have n4_ := Aside0.mk ((by rw [hg]; exact (below_size (by repeat (first | (with_reducible first | exact HB.out | apply lA_ | apply lN_ | apply lD_ | refine below_set ?_ GE101.out) | exact HB.out))) : w.heap.size ≤ gb102)); have n5_ := Aside0.mk ((by rw [hg]; exact Nat.ne_of_lt (blk_lt (g := gb101) (o := .cells #[.slice A0_0 l0_0.length c0_0, .slice A0_1 l0_1.length c0_1] 27 (0, 0)) (by (with_reducible repeat first | refine bN_ ?_ _ | refine bD_ ?_ | refine bA_ ?_ _); exact BK101.out)) : gb101 ≠ gb102)); have n6_ := Aside0.mk ((by rw [hg]; exact Nat.ne_of_gt (blk_lt (g := gb101) (o := .cells #[.slice A0_0 l0_0.length c0_0, .slice A0_1 l0_1.length c0_1] 27 (0, 0)) (by (with_reducible repeat first | refine bN_ ?_ _ | refine bD_ ?_ | refine bA_ ?_ _); exact BK101.out)) : gb102 ≠ gb101)); clear BK101; clear HB; have BK101 := n0_; have HB := n1_; have BK102 := n2_; have GW102 := n3_; have GE102 := n4_; have NB101_102 := n5_; have NB102_101 := n6_; clear n0_ n1_ n2_ n3_ n4_ n5_ n6_; clear hb hbox hg))
 have n0_ := Aside0.mk (blk_drew BK101.out); have n1_ := Aside0.mk (blk_drew BK102.out); have n2_ := Aside0.mk (below_drew1 HB.out); clear BK101; clear BK102; clear HB; have BK101 := n0_; have BK102 := n1_; have HB := n2_; clear n0_ n1_ n2_
 refine start_ (n := 8) (S := fun w' => w'.cell? ⟨gb101, 0, none⟩ = some (.slice A0_0 l0_0.length c0_0) ∧ w'.cell? ⟨gb101, 1, none⟩ = some (.slice A0_1 l0_1.length c0_1)) (ds := []) #[false, false, false, false, false, false, false, false] (by kernel_rfl) rfl rfl ⟨(blk_cell BK101.out 0).trans rfl, (blk_cell BK101.out 1).trans rfl⟩ (fun hHeld => ?_); refine with_tabW scarfjointlaw07_own.tab1 scarfjointlaw07_own.bits1 (fun HT_ HW_ => ?_)
 generalize w5.drew = w6 at BK101 BK102 HB hHeld ⊢
 refine pure_ (i := 0) (N := some 3) (v := ?_) (a' := ?_) #[true, false, false, false, false, false, false, false] rfl rfl (any_of HT_.out (by kernel_rfl)) (fun _ _ _ h => h) (Or.inl ⟨by rfl, ?_⟩) ?_ ?_
 rotate_left
 ·intro w'
  go_simp
  with_reducible rfl
 rotate_left
 ·simp only [Act.put, sI_, s0_, sS_, i64_w, i32_w]
  rfl
 refine pure_ (i := 3) (N := some 6) (v := ?_) (a' := ?_) #[true, false, false, true, false, false, false, false] rfl rfl (any_of HT_.out (by kernel_rfl)) (fun _ _ _ h => h) (Or.inl ⟨by rfl, ?_⟩) ?_ ?_
 rotate_left
 ·intro w'
  go_simp
  with_reducible rfl
 rotate_left
 ·simp only [Act.put, sI_, s0_, sS_, i64_w, i32_w]
  rfl
 refine take_ (i := 1) (N := some 4) (v := ?_) (a' := ?_) #[true, true, false, true, false, false, false, false] rfl rfl (take_ofW HT_.out HW_.out (by kernel_rfl)) (fun _ _ _ h => h) (Or.inl ⟨by rfl, ?_⟩) hHeld ?_ ?_
 rotate_left
 ·rintro w' ⟨s0, s1⟩
  go_simp
  with_reducible rfl
 rotate_left
 ·simp only [Act.put, sI_, s0_, sS_, i64_w, i32_w]
  rfl
 refine take_ (i := 4) (N := some 7) (v := ?_) (a' := ?_) #[true, true, false, true, true, false, false, false] rfl rfl (take_ofW HT_.out HW_.out (by kernel_rfl)) (fun _ _ _ h => h) (Or.inl ⟨by rfl, ?_⟩) hHeld ?_ ?_
 rotate_left
 ·rintro w' ⟨s0, s1⟩
  go_simp
  with_reducible rfl
 rotate_left
 ·simp only [Act.put, sI_, s0_, sS_, i64_w, i32_w]
  rfl
 refine one_ (i := 2) (N := some 5) #[true, true, true, true, true, false, false, false] rfl rfl (one_of HT_.out (by kernel_rfl)) (by decide) (fun K hK => ?_)
 refine goes_ Try.func15 (by kernel_rfl) rfl #[.slice A0_0 l0_0.length c0_0] (by rfl) rfl rfl (by (try simp only [List.map_toArray, List.map_cons, List.map_nil]); first | done | rfl | (simp only [List.length_drop, List.length_take]; rfl)) ?_
 with_reducible refine (slices_Clone_int_int.calls _ _ l0_0 t103 _ ?side1 ?side2 A2.out).mono ?_
 (case side1 => repeat (first | exact (Kd.C_below HR0_0.out HB.out) | (with_reducible refine Kd.C_alloc ?_ _) | (with_reducible refine Kd.C_drewN ?_ _) | (with_reducible refine Kd.C_drew ?_)))
 (case side2 => exact HC0_0.out)
 rintro e w7 ⟨v104, rfl, ho0, hb⟩
 refine ⟨_, rfl, ?_⟩
 have n0_ := Aside0.mk (Kd.R_lower ho0 (below_size (by repeat (first | (with_reducible first | exact HB.out | apply lA_ | apply lN_ | apply lD_ | refine below_set ?_ GE101.out | refine below_set ?_ GE102.out) | exact HB.out)))); have n1_ := Aside0.mk (blk_below (g := gb101) (o := .cells #[.slice A0_0 l0_0.length c0_0, .slice A0_1 l0_1.length c0_1] 27 (0, 0)) (by (with_reducible repeat first | refine bN_ ?_ _ | refine bD_ ?_ | refine bA_ ?_ _); exact BK101.out) hb); have n2_ := Aside0.mk (blk_below (g := gb102) (o := .cells #[.slice none 0 0, .slice none 0 0] 27 (0, 0)) (by (with_reducible repeat first | refine bN_ ?_ _ | refine bD_ ?_ | refine bA_ ?_ _); exact BK102.out) hb); have n3_ := Aside0.mk (below_step (by repeat (first | (with_reducible first | exact HB.out | apply lA_ | apply lN_ | apply lD_ | refine below_set ?_ GE101.out | refine below_set ?_ GE102.out) | exact HB.out)) hb); clear BK101; clear BK102; clear HB; have HO105 := n0_; have BK101 := n1_; have BK102 := n2_; have HB := n3_; clear n0_ n1_ n2_ n3_
 (try clear hb)
 (try clear hb2)
 (try clear hk)
 (try clear hi)
 (try clear ho0)
 refine hK.out _ _ ⟨(blk_cell BK101.out 0).trans rfl, (blk_cell BK101.out 1).trans rfl⟩ (fun hHeld => ?_)
 clear hK K
 refine norm_ (a' := ?_) ?_ ?_
 rotate_left
 ·show Act.put _ (some 5) _ = _
  simp only [Act.put, sI_, s0_, sS_, i64_w, i32_w]
  rfl
 refine one_ (i := 5) (N := some 8) #[true, true, true, true, true, true, false, false] rfl rfl (one_of HT_.out (by kernel_rfl)) (by decide) (fun K hK => ?_)
 refine goes_ Try.func15 (by kernel_rfl) rfl #[.slice A0_1 l0_1.length c0_1] (by rfl) rfl rfl (by (try simp only [List.map_toArray, List.map_cons, List.map_nil]); first | done | rfl | (simp only [List.length_drop, List.length_take]; rfl)) ?_
 with_reducible refine (slices_Clone_int_int.calls _ _ l0_1 t106 _ ?side1 ?side2 A3.out).mono ?_
 (case side1 => repeat (first | exact (Kd.C_below HR0_1.out HB.out) | (with_reducible refine Kd.C_alloc ?_ _) | (with_reducible refine Kd.C_drewN ?_ _) | (with_reducible refine Kd.C_drew ?_)))
 (case side2 => exact HC0_1.out)
 rintro e w8 ⟨v107, rfl, ho0, hb⟩
 refine ⟨_, rfl, ?_⟩
 have n0_ := Aside0.mk (Kd.R_elder' (by (with_reducible repeat (first | apply rA_ | apply rN_ | apply rD_)); exact HO105.out) (Kd.R_base ho0) hb); have n1_ := Aside0.mk (Kd.R_lower (Kd.R_new' ho0 (Kd.R_lt (by (with_reducible repeat (first | apply rA_ | apply rN_ | apply rD_)); exact HO105.out))) (below_size (by repeat (first | (with_reducible first | exact HB.out | apply lA_ | apply lN_ | apply lD_ | refine below_set ?_ GE101.out | refine below_set ?_ GE102.out) | exact HB.out)))); have n2_ := Aside0.mk (blk_below (g := gb101) (o := .cells #[.slice A0_0 l0_0.length c0_0, .slice A0_1 l0_1.length c0_1] 27 (0, 0)) (by (with_reducible repeat first | refine bN_ ?_ _ | refine bD_ ?_ | refine bA_ ?_ _); exact BK101.out) hb); have n3_ := Aside0.mk (blk_below (g := gb102) (o := .cells #[.slice none 0 0, .slice none 0 0] 27 (0, 0)) (by (with_reducible repeat first | refine bN_ ?_ _ | refine bD_ ?_ | refine bA_ ?_ _); exact BK102.out) hb); have n4_ := Aside0.mk (below_step (by repeat (first | (with_reducible first | exact HB.out | apply lA_ | apply lN_ | apply lD_ | refine below_set ?_ GE101.out | refine below_set ?_ GE102.out) | exact HB.out)) hb); clear HO105; clear BK101; clear BK102; clear HB; have HO105 := n0_; have HO108 := n1_; have BK101 := n2_; have BK102 := n3_; have HB := n4_; clear n0_ n1_ n2_ n3_ n4_
 (try clear hb)
 (try clear hb2)
 (try clear hk)
 (try clear hi)
 (try clear ho0)
 obtain ⟨Ao9, co9, eo9⟩ := Kd.R_slice HO108.out
 (first | subst eo9 | (injection eo9 with f1_ f2_ f3_; have f4_ := f1_.symm; have f5_ := f3_.symm; clear f1_ f2_ f3_; subst f4_; subst f5_))
 obtain ⟨Ao10, co10, eo10⟩ := Kd.R_slice HO105.out
 (first | subst eo10 | (injection eo10 with f1_ f2_ f3_; have f4_ := f1_.symm; have f5_ := f3_.symm; clear f1_ f2_ f3_; subst f4_; subst f5_))
 refine hK.out _ _ ⟨(blk_cell BK101.out 0).trans rfl, (blk_cell BK101.out 1).trans rfl⟩ (fun hHeld => ?_)
 clear hK K
 refine norm_ (a' := ?_) ?_ ?_
 rotate_left
 ·show Act.put _ (some 8) _ = _
  simp only [Act.put, sI_, s0_, sS_, i64_w, i32_w]
  rfl
 refine pure_ (i := 6) (N := some 9) (v := ?_) (a' := ?_) #[true, true, true, true, true, true, true, false] rfl rfl (any_of HT_.out (by kernel_rfl)) (fun _ _ _ h => h) (Or.inl ⟨by rfl, ?_⟩) ?_ ?_
 rotate_left
 ·intro w'
  go_simp
  with_reducible rfl
 rotate_left
 ·simp only [Act.put, sI_, s0_, sS_, i64_w, i32_w]
  rfl
 refine one_ (i := 7) (N := none) #[true, true, true, true, true, true, true, true] rfl rfl (one_of HT_.out (by kernel_rfl)) (by decide) (fun K hK => ?_)
 have hs11 : w8.cell? ⟨gb102, 0, none⟩ = some (.slice none 0 0) := (blk_cell BK102.out 0).trans rfl
 have hfs11 := blk_frozen BK102.out 0; have hns11_0 := NB101_102.out; have hms11_0 := NB102_101.out
 have hs12 : w8.cell? ⟨gb102, 1, none⟩ = some (.slice none 0 0) := (blk_cell BK102.out 1).trans rfl
 have hfs12 := blk_frozen BK102.out 1; have hns12_0 := NB101_102.out; have hms12_0 := NB102_101.out
 refine skip_ (w1 := ?_) (by rfl) rfl ?_ ?_
 rotate_left
 ·go_simp
  rfl
 refine hK.out _ _ ⟨((cell_far (p := ⟨gb102, _, none⟩) NB101_102.out _).trans (((cell_far (p := ⟨gb102, _, none⟩) NB101_102.out _).trans (hHeld.1)))), ((cell_far (p := ⟨gb102, _, none⟩) NB101_102.out _).trans (((cell_far (p := ⟨gb102, _, none⟩) NB101_102.out _).trans (hHeld.2))))⟩ (fun hHeld => ?_)
 clear hK K
 refine done_ (done_of HT_.out (by kernel_rfl)) ?_
 try go_wp2
 refine bodyPost_ret (results_cell_row rfl _ _ gb102 27 #[.slice Ao10 t103.length co10, .slice Ao9 t106.length co9] (0, 0) _ rfl (by (with_reducible repeat first | refine bN_ ?_ _ | refine bD_ ?_ | refine bA_ ?_ _); refine blk_put (cs := #[.slice Ao10 t103.length co10, .slice none 0 0]) ?_ 1 _ rfl; (with_reducible repeat first | refine bN_ ?_ _ | refine bD_ ?_ | refine bA_ ?_ _); refine blk_put (cs := #[.slice none 0 0, .slice none 0 0]) ?_ 0 _ rfl; (with_reducible repeat first | refine bN_ ?_ _ | refine bD_ ?_ | refine bA_ ?_ _); exact BK102.out) Try.underlying27 rfl (by kernel_rfl)) rfl ?_
 exact ⟨_, _, by first | rfl | (simp [errW_none, errW_some] <;> rfl) | (simp [*, errW_none, errW_some] <;> rfl), by (with_reducible repeat (first | apply rA_ | apply rN_ | apply rD_)); exact Kd.R_mono (Kd.R_far (p := ⟨gb102, 1, none⟩) (Kd.R_far (p := ⟨gb102, 0, none⟩) (Kd.R_types HO105.out BK102.out (by decide)) (fun _ hk => hk.2) (.slice Ao10 t103.length co10)) (fun _ hk => hk.2) (.slice Ao9 t106.length co9)) (fun _ hk => hk.1.2), by (with_reducible repeat (first | apply rA_ | apply rN_ | apply rD_)); exact Kd.R_mono (Kd.R_far (p := ⟨gb102, 1, none⟩) (Kd.R_far (p := ⟨gb102, 0, none⟩) (Kd.R_types HO108.out BK102.out (by decide)) (fun _ hk => hk.2) (.slice Ao10 t103.length co10)) (fun _ hk => hk.2) (.slice Ao9 t106.length co9)) (fun _ hk => hk.1.2), by repeat (first | (with_reducible first | exact HB.out | apply lA_ | apply lN_ | apply lD_ | refine below_set ?_ GE101.out | refine below_set ?_ GE102.out) | exact HB.out)⟩
end Go.Proofs.Ytonipihlpbaknaa.Print
namespace Go.Proofs.Ytonipihlpbaknaa.Print
set_option linter.unusedVariables false
set_option linter.unusedSimpArgs false
open Go.RowKit Go.Proofs.YtonipihlpbaknaaW.PrintWords Go.Proofs.YtonipihlpbaknaaW.PrintLast Go.Proofs.YtonipihlpbaknaaW.PrintMore
section
variable (l0 : List Int) (l1 : List S78) (ns es : List Int)
theorem partE_facts (h : partE l0 l1 ns es = 0) : (∀ x ∈ ns, 0 ≤ x ∧ x < l0.length) ∧ ns.Pairwise (· < ·) ∧ (∀ x ∈ es, 0 ≤ x ∧ x < l1.length) ∧ es.Pairwise (· < ·) ∧ ∀ x ∈ es, (rd_T78 l1 x).f1 ∈ ns ∧ (rd_T78 l1 x).f2 ∈ ns := by
  obtain ⟨z1, z2, z3⟩ := partE_zero h; obtain ⟨n1, n2, _⟩ := listE_none z1; obtain ⟨e1, e2, _⟩ := listE_none z2
  refine ⟨n1, n2, e1, e2, fun x hx => ?_⟩
  have := List.all_eq_true.1 z3 x hx
  simpa only [endsIn, Bool.and_eq_true, decide_eq_true_eq] using this
end
end Go.Proofs.Ytonipihlpbaknaa.Print
namespace Go.Proofs.Ytonipihlpbaknaa.Print
set_option linter.unusedVariables false
set_option linter.unusedSimpArgs false
open Go.RowKit Go.Proofs.YtonipihlpbaknaaW.PrintWords Go.Proofs.YtonipihlpbaknaaW.PrintLast Go.Proofs.YtonipihlpbaknaaW.PrintMore
theorem validB_facts {l0 : List Int} {l1 : List S78} (h : validB l0 l1 = 0) : l0.length ≤ 40 ∧ l1.length ≤ 80 ∧ (∀ t ∈ l0, withinB t 99 = true) ∧ ∀ e ∈ l1, fitsB e l0.length = true := by
  unfold validB at h
  split at h
  · omega
  · split at h
    · omega
    · split at h
      · omega
      · split at h
        · omega
        · rename_i h1 h2 h3 h4
          simp only [List.any_eq_true, not_exists, not_and, Bool.not_eq_true, Bool.not_eq_false'] at h3 h4; exact ⟨by omega, by omega, h3, h4⟩
end Go.Proofs.Ytonipihlpbaknaa.Print
namespace Go.Proofs.Ytonipihlpbaknaa.Print
open Go.RowKit Go.Proofs.YtonipihlpbaknaaW.PrintWords Go.Proofs.YtonipihlpbaknaaW.PrintLast Go.Proofs.YtonipihlpbaknaaW.PrintMore
/-- Short words for what the walks keep. -/
abbrev RI (w : World) (A : Option Addr) (c : Nat) (l : List Int) : Prop := Kd.R (Kd.int .i64) 3 w 0 (fun _ => True) (.slice A l.length c) l
abbrev Bk (w : World) (x t : Nat) (u v : Value) : Prop := w.heap[x]? = some (.cells #[u, v] t (0, 0))
abbrev nl : Value := .slice none 0 0
end Go.Proofs.Ytonipihlpbaknaa.Print

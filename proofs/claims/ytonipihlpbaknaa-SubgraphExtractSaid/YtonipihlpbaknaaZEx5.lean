/- A part of the proof that the law returns true at every input; what the walked functions compute. -/
import Derived.Lib.Hide
import Derived.Shelf.Abstract
import Derived.Test.YtonipihlpbaknaaZEx0
import Derived.Test.YtonipihlpbaknaaZEx1
import Derived.Test.YtonipihlpbaknaaZEx2
import Derived.Test.YtonipihlpbaknaaZEx3
import Derived.Test.YtonipihlpbaknaaZEx4
namespace Go.Proofs.Ytonipihlpbaknaa.Print
set_option linter.unusedVariables false
set_option linter.unusedSimpArgs false
open Go.RowKit Go.Proofs.YtonipihlpbaknaaW.PrintWords Go.Proofs.YtonipihlpbaknaaW.PrintLast Go.Proofs.YtonipihlpbaknaaW.PrintMore
def partsIn (l0 : List Int) (l1 : List S78) (ns : List Int) (ess : List (List Int)) : List S27 := (ess.filter fun es => partE l0 l1 ns es == 0).map fun es => ⟨ns, es⟩
def partsL (l0 : List Int) (l1 : List S78) : List S27 := (subsetsL l0.length).flatMap fun ns => partsIn l0 l1 ns (subsetsL l1.length)
def subgraph_All.f (l0_0 : List Int) (l0_1 : List S78) : Option (List S27 × Int) :=
  some (if validB l0_0 l0_1 = 0 then if 6 < l0_0.length + l0_1.length then ([], 3) else (partsL l0_0 l0_1, 0) else ([], validB l0_0 l0_1))
/-- An element of a row of rows of the call's own. -/
theorem R_elem {ok : Nat → Prop} {w : World} {base : Nat} {v : Value} {xs : List (List Int)} (h : Kd.R (Kd.slice 3 (Kd.int .i64)) 22 w base ok v xs) (j : Nat) (hj : j < xs.length) :
    ∃ b cap u, v = .slice (some ⟨b, 0, none⟩) xs.length cap ∧ w.cell? ⟨b, j, none⟩ = some u ∧ Kd.R (Kd.int .i64) 3 w base ok u xs[j] := by
  obtain ⟨b, cap, rfl, _, _, _⟩ := Kd.R_form h (by omega); obtain ⟨hok, inner, hown, hreps⟩ := h; have hel := hreps.2 j xs[j] (List.getElem?_eq_getElem hj); have hl : inner.length = xs.length * 1 := hreps.1
  have hl' : j < inner.length := by omega
  have e : (inner.drop (j * 1)).take 1 = [inner[j]] := by
    rw [Nat.mul_one, List.drop_eq_getElem_cons hl']
    rfl
  rw [show (Kd.slice 3 (Kd.int .i64)).sz = 1 from rfl, e] at hel; obtain ⟨u, eu, hr⟩ := hel; cases eu
  refine ⟨b, cap, _, rfl, ?_, Kd.R_mono hr (fun k hk => hk.1)⟩
  have := hown.cells (g := b) rfl j inner[j] (by rw [List.getElem?_eq_getElem hl'])
  rwa [add_plain] at this
theorem R_apart2 {ok ok' : Nat → Prop} {w : World} {base : Nat} {u v : Value} {l : List Int} {xs : List S27} (h : Kd.R (Kd.int .i64) 3 w base ok u l) (ho : Kd.R k27 27 w base ok' v xs) : Kd.R (Kd.int .i64) 3 w base (fun k => True ∧ some k ≠ v.ownBlock) u l :=
  Kd.R_mono (Kd.R_bound h) (fun k hk => ⟨trivial, fun e => by
    obtain ⟨_, _, _, q, hq, cells, hc⟩ := hk; obtain ⟨inner, hown⟩ := Kd.R_own ho; obtain ⟨cells', hc'⟩ := own_typed hown k e.symm; rw [hc] at hc'
    injection hc' with hc'
    injection hc' with _ hc'
    have : q = 3 := by simpa [Kd.int, Kd.scalar] using hq
    rw [this] at hc'
    exact absurd hc' (by decide)⟩)
theorem subsetsL_len (n : Nat) (l : List Int) (h : l ∈ subsetsL n) : l.length ≤ n := by
  unfold subsetsL at h; rw [List.mem_mergeSort] at h; obtain ⟨s, _, rfl⟩ := List.mem_map.1 h; exact bitsL_len n s
theorem subsetsL_size (n : Nat) : (subsetsL n).length = 2 ^ n := by
  unfold subsetsL; rw [List.length_mergeSort, genL_len]
theorem flatMap_le {α β : Type} (l : List α) (f : α → List β) (M : Nat) (h : ∀ x, (f x).length ≤ M) : (l.flatMap f).length ≤ l.length * M := by
  induction l with
  | nil => simp
  | cons x l ih =>
    have := h x; simp only [List.flatMap_cons, List.length_append, List.length_cons, Nat.add_mul, Nat.one_mul]
    omega
theorem partsIn_le (l0 : List Int) (l1 : List S78) (ns : List Int) (ess : List (List Int)) : (partsIn l0 l1 ns ess).length ≤ ess.length := by
  unfold partsIn; rw [List.length_map]; exact List.length_filter_le _ _
theorem partsL_lim (l0 : List Int) (l1 : List S78) (ns : List Int) (k j : Nat) (hs : l0.length + l1.length ≤ 6) : (((((subsetsL l0.length).take k).flatMap fun ns => partsIn l0 l1 ns (subsetsL l1.length)) ++ partsIn l0 l1 ns ((subsetsL l1.length).take j)).length + 1) * 48 ≤ 140737488355328 := by
  have e1 : (subsetsL l0.length).length ≤ 64 := by rw [subsetsL_size]; exact Nat.le_trans (Nat.pow_le_pow_right (by omega) (show l0.length ≤ 6 by omega)) (by decide)
  have e2 : (subsetsL l1.length).length ≤ 64 := by rw [subsetsL_size]; exact Nat.le_trans (Nat.pow_le_pow_right (by omega) (show l1.length ≤ 6 by omega)) (by decide)
  have h1 := flatMap_le ((subsetsL l0.length).take k) (fun ns => partsIn l0 l1 ns (subsetsL l1.length)) 64 (fun x => Nat.le_trans (partsIn_le _ _ _ _) e2); have h2 := partsIn_le l0 l1 ns ((subsetsL l1.length).take j); rw [List.length_take] at h1 h2; rw [List.length_append]
  omega
theorem partsIn_snoc (l0 : List Int) (l1 : List S78) (nss ess : List (List Int)) (k : Nat) (h : k < nss.length) : ((nss.take (k + 1)).flatMap fun ns => partsIn l0 l1 ns ess) = ((nss.take k).flatMap fun ns => partsIn l0 l1 ns ess) ++ partsIn l0 l1 nss[k] ess := by
  rw [List.take_succ_eq_append_getElem h, List.flatMap_append]
  simp
theorem partsIn_step (l0 : List Int) (l1 : List S78) (ns : List Int) (ess : List (List Int)) (j : Nat) (h : j < ess.length) : partsIn l0 l1 ns (ess.take (j + 1)) = partsIn l0 l1 ns (ess.take j) ++ (if partE l0 l1 ns ess[j] == 0 then [⟨ns, ess[j]⟩] else []) := by
  unfold partsIn; rw [List.take_succ_eq_append_getElem h, List.filter_append, List.map_append]
  congr 1
  by_cases e : (partE l0 l1 ns ess[j] == 0) = true
  · simp only [List.filter_cons, e, if_true, List.filter_nil, List.map_cons, List.map_nil]
  · simp only [List.filter_cons, e, List.filter_nil, List.map_nil]
    rfl
set_option maxHeartbeats 4000000 in
set_option maxRecDepth 100000 in
theorem All_c (A0 : Option Addr) (c0 : Nat) (l0 : List Int) (A1 : Option Addr) (c1 : Nat) (l1 : List S78) (w : World) (hr0 : Kd.C (Kd.int .i64) w A0 l0.length l0) (hc0 : l0.length ≤ c0) (hr1 : Kd.C k78 w A1 l1.length l1) (hc1 : l1.length ≤ c1) (hv : validB l0 l1 = 0) (hs : l0.length + l1.length ≤ 6) :
  Calls Try.prog 24 #[.agg #[.slice A0 l0.length c0, .slice A1 l1.length c1]] w fun e w' => ∃ v0_ : Value, e = .returned (.tuple #[v0_, .int .i64 0]) ∧ Kd.R k27 27 w' w.heap.size (fun _ => True) v0_ (partsL l0 l1) ∧ Below w.heap.size w w' := by
 have H0 := fun (W : World) (hb : Below w.heap.size w W) => graph_Valid.calls0 A0 c0 l0 A1 c1 l1 W (Kd.C_below hr0 hb) (Kd.C_below hr1 hb)
 rw [hv] at H0; have D0 := Lib.hid H0; have D1 := Lib.hid (fun (W : World) => subsets_gen l0.length (by omega) W); have D2 := Lib.hid (fun (W : World) => subsets_gen l1.length (by omega) W)
 have D3 := Lib.hid (fun (W : World) (hb : Below w.heap.size w W) (B0 : Option Addr) (d0 : Nat) (ns : List Int) (B1 : Option Addr) (d1 : Nat) (es : List Int) (h0 : Kd.C (Kd.int .i64) W B0 ns.length ns) (m0 : ns.length ≤ d0) (h1 : Kd.C (Kd.int .i64) W B1 es.length es) (m1 : es.length ≤ d1) (hn : ns.length < 100) (he : es.length < 100) =>
  subgraph_part.calls 1000 A0 c0 l0 A1 c1 l1 B0 d0 ns B1 d1 es _ W (Kd.C_below hr0 hb) hc0 (Kd.C_below hr1 hb) hc1 h0 m0 h1 m1 (part_ok l0 l1 ns es (by omega) (by omega) 1000 (by omega)))
 clear H0 hr0 hr1 hv
 have hL0 : (subsetsL l0.length).length ≤ 64 := by rw [subsetsL_size]; exact Nat.le_trans (Nat.pow_le_pow_right (by omega) (show l0.length ≤ 6 by omega)) (by decide)
 have hL1 : (subsetsL l1.length).length ≤ 64 := by rw [subsetsL_size]; exact Nat.le_trans (Nat.pow_le_pow_right (by omega) (show l1.length ≤ 6 by omega)) (by decide)
 have gs : decide ((l0.length : Int) + l1.length > 6) = false := by simp; omega
 go_enter Try.func24, Try.ntmps24
 go_wp2_with fail
 refine (D0.out _ (by exact below_alloc (Below.refl _ _) _)).mono ?_
 rintro en w1 ⟨rfl, hb⟩; have HB := Lib.hid (below_then (below_alloc (Below.refl w.heap.size w) (.cells #[.slice A0 l0.length c0, .slice A1 l1.length c1] 25)) (by simp) hb); have HG := Lib.hid (blk_below (blk_new w (.cells #[.slice A0 l0.length c0, .slice A1 l1.length c1] 25)) hb); clear hb D0; have k0 := (blk_cell HG.out 0).trans rfl; have k1 := (blk_cell HG.out 1).trans rfl
 go_wp2_with fail
 refine (D1.out _).mono ?_
 rintro en w2 ⟨v2, rfl, ho, hb⟩; have HO2 := Lib.hid (Kd.R_lower ho HB.out.size); have HB2 := Lib.hid (below_then HB.out HB.out.size hb); have HG2 := Lib.hid (blk_below HG.out hb); obtain ⟨A2, c2, rfl⟩ := Kd.R_slice ho; clear ho hb k0 k1 HB HG D1
 go_wp2_with fail
 go_loopg [5, 7, 29] (subsetsL l0.length).length (fun gg s5 _ s29 wr => ∃ k : Nat, k ≤ (subsetsL l0.length).length ∧ (subsetsL l0.length).length - k ≤ gg ∧ s29 = .int .i64 k ∧ Aside0 (Kd.R k27 27 wr w2.heap.size (fun _ => True) s5 (((subsetsL l0.length).take k).flatMap fun ns => partsIn l0 l1 ns (subsetsL l1.length))) ∧ Aside0 (Below w2.heap.size w2 wr))
 case atStart => exact ⟨0, Nat.zero_le _, by omega, rfl, ⟨by simpa using Kd.R_nil _ _ _ _ _⟩, ⟨Below.refl _ _⟩⟩
 case round =>
  obtain ⟨k, hk, hg, rfl, BO, BW⟩ := hrel
  by_cases hlt : k < (subsetsL l0.length).length
  ·have hltz : (k : Int) < ((subsetsL l0.length).length : Int) := by omega
   obtain ⟨b2, cap2, u2, e2, q2', r2⟩ := R_elem HO2.out k hlt; have q2 := (BW.out.cell (World.block_lt_of_cell? w2 _ q2')).trans q2'; clear q2'
   injection e2 with e21 e22 e23
   subst e21 e23; obtain ⟨B7, d7, rfl, m7, h7⟩ := Kd.R_reads r2; have C7 := Lib.hid h7
   have N7 : Hid ((subsetsL l0.length)[k].length < 100) := by have := subsetsL_len l0.length _ (List.getElem_mem hlt); show _ < 100; omega
   have E7 := Lib.hid (partsIn_snoc l0 l1 (subsetsL l0.length) (subsetsL l1.length) k hlt); have M7 := Lib.hid m7
   obtain ⟨wo, rfl⟩ : ∃ wo : World, wo = wr := ⟨_, rfl⟩
   have HGo := Lib.hid (blk_below HG2.out BW.out); have HBo := Lib.hid (below_then HB2.out HB2.out.size BW.out); have g0 := (blk_cell HGo.out 0).trans rfl; have g1 := (blk_cell HGo.out 1).trans rfl; clear r2 h7 m7; generalize (subsetsL l0.length)[k] = ns at C7 N7 E7 q2 M7
   go_wp2_with fail
   refine (D2.out _).mono ?_
   rintro en w3 ⟨v3, rfl, ho, hb⟩; obtain ⟨A3, c3, rfl⟩ := Kd.R_slice ho; have HO3 := Lib.hid (Kd.R_lower ho BW.out.size); have BO3 := Lib.hid (Kd.R_below BO.out hb); have BW3 := Lib.hid (below_then BW.out BW.out.size hb); clear ho hb BO BW HGo HBo q2 g0 g1
   go_wp2_with fail
   go_loopg [5, 9, 10, 38] (subsetsL l1.length).length (fun gg s5 _ _ s38 wr => ∃ j : Nat, j ≤ (subsetsL l1.length).length ∧ (subsetsL l1.length).length - j ≤ gg ∧ s38 = .int .i64 j ∧ Aside0 (Kd.R k27 27 wr w2.heap.size (fun _ => True) s5 ((((subsetsL l0.length).take k).flatMap fun ns => partsIn l0 l1 ns (subsetsL l1.length)) ++ partsIn l0 l1 ns ((subsetsL l1.length).take j))) ∧ Aside0 (Kd.R (Kd.slice 3 (Kd.int .i64)) 22 wr w2.heap.size (fun _ => True) (.slice A3 (subsetsL l1.length).length c3) (subsetsL l1.length)) ∧ Aside0 (Below w2.heap.size w2 wr))
   case atStart => exact ⟨0, Nat.zero_le _, by omega, rfl, ⟨by simpa [partsIn] using BO3.out⟩, ⟨HO3.out⟩, ⟨BW3.out⟩⟩
   case round =>
    clear BO3 HO3 BW3; obtain ⟨j, hj, hgj, rfl, BO, RO, BW⟩ := hrel
    by_cases hltj : j < (subsetsL l1.length).length
    ·have hltjz : (j : Int) < ((subsetsL l1.length).length : Int) := by omega
     obtain ⟨b3, cap3, u3, e3, q3, r3⟩ := R_elem RO.out j hltj
     injection e3 with e31 e32 e33
     subst e31 e33; obtain ⟨B9, d9, rfl, m9, h9⟩ := Kd.R_reads r3
     have N9 : Hid ((subsetsL l1.length)[j].length < 100) := by have := subsetsL_len l1.length _ (List.getElem_mem hltj); show _ < 100; omega
     have E9 := Lib.hid (partsIn_step l0 l1 ns (subsetsL l1.length) j hltj); have M9 := Lib.hid m9; have R9 := Lib.hid r3; clear r3 h9 m9; generalize (subsetsL l1.length)[j] = es at N9 E9 q3 M9 R9
     go_wp2_with fail
     refine (slices_Clone_int_int.calls B7 d7 ns ns _ (Kd.C_below C7.out BW.out) M7.out (if_pos (by have := N7.out; omega))).mono ?_
     rintro en w4 ⟨v4, rfl, ho, hb⟩; obtain ⟨A4, c4, rfl⟩ := Kd.R_slice ho; have R4 := Lib.hid (Kd.R_lower ho BW.out.size); have BO4 := Lib.hid (Kd.R_below BO.out hb); have RO4 := Lib.hid (Kd.R_below RO.out hb); have R94 := Lib.hid (Kd.R_below R9.out hb); have BW4 := Lib.hid (below_then BW.out BW.out.size hb); clear ho hb BO RO R9 BW q3; have HG4 := Lib.hid (blk_below HG2.out BW4.out); have g0 := (blk_cell HG4.out 0).trans rfl; have g1 := (blk_cell HG4.out 1).trans rfl; have hlt4 : w.heap.size < w4.heap.size := blk_lt HG4.out
     go_wp2_with fail
     have PC := Lib.hid (D3.out (w4.alloc (.cells #[.slice A4 ns.length c4, .slice B9 es.length d9] 27)) (below_alloc (below_then HB2.out HB2.out.size BW4.out) _) A4 c4 ns B9 d9 es (Kd.C_alloc (Kd.R_reads' R4.out).2.2 _) (Kd.R_reads' R4.out).2.1 (Kd.C_alloc (Kd.R_reads' R94.out).2.2 _) (Kd.R_reads' R94.out).2.1 N7.out N9.out)
     refine PC.out.mono ?_
     rintro en w5 ⟨rfl, hb⟩; have BO5 := Lib.hid (Kd.R_below (Kd.R_alloc BO4.out (.cells #[.slice A4 ns.length c4, .slice B9 es.length d9] 27)) hb); have RO5 := Lib.hid (Kd.R_below (Kd.R_alloc RO4.out (.cells #[.slice A4 ns.length c4, .slice B9 es.length d9] 27)) hb); have R45 := Lib.hid (Kd.R_below (Kd.R_alloc R4.out (.cells #[.slice A4 ns.length c4, .slice B9 es.length d9] 27)) hb); have R95 := Lib.hid (Kd.R_below (Kd.R_alloc R94.out (.cells #[.slice A4 ns.length c4, .slice B9 es.length d9] 27)) hb); have BW5 := Lib.hid (below_then (below_alloc BW4.out (.cells #[.slice A4 ns.length c4, .slice B9 es.length d9] 27)) (by have := BW4.out.size; simp; omega) hb); have HP5 := Lib.hid (blk_below (blk_new w4 (.cells #[.slice A4 ns.length c4, .slice B9 es.length d9] 27)) hb); clear hb BO4 RO4 R4 R94 BW4 HG4 g0 g1 PC; have p0 := (blk_cell HP5.out 0).trans rfl; have p1 := (blk_cell HP5.out 1).trans rfl; generalize partE l0 l1 ns es = pe at E9 ⊢
     cases hpe : (pe == 0) with
     | true =>
      have S1 := Lib.hid (R_apart2 R45.out BO5.out); have S2 := Lib.hid (R_apart2 R95.out BO5.out)
      go_wp2_with ((with_reducible refine gate_builtin (b := .append) (xs := #[.tmp 50, .tmp 52]) rfl ?_); at_builtin; refine Kd.R_append k27 (w0 := w2) w2.heap.size rfl (.tmp 50) (.tmp 52) 42 27 (.agg #[.slice none 0 0, .slice none 0 0]) 48 rfl Try.underlying42 info27 rfl (by decide) (by omega) u5 ((((subsetsL l0.length).take k).flatMap fun ns => partsIn l0 l1 ns (subsetsL l1.length)) ++ partsIn l0 l1 ns ((subsetsL l1.length).take j)) (⟨ns, es⟩ : S27) [.slice A4 ns.length c4, .slice B9 es.length d9] (fun _ => True) (fun k => True ∧ some k ≠ (u5 : Value).ownBlock) rfl rfl ?aP ?aK ?aF ?aO ?aB ?aS ?aL ?_; (case aP => exact k27_mkM _ _ _ (⟨ns, es⟩ : S27) S1.out S2.out); (case aK => exact (fun _ hk => hk)); (case aB => exact BW5.out); (case aF => exact (fun _ _ => trivial)); (case aO => exact BO5.out); (case aS => exact BW5.out.size); (case aL => exact partsL_lim l0 l1 ns k j hs); intro v8 w8 ho hb1 hg1 hat; have HO8 := Lib.hid ho; have BW8 := Lib.hid hb1; have RO8 := Lib.hid (Kd.R_over RO5.out BO5.out (by decide) hg1); clear ho hb1 hg1 hat)
      go_roundg ((subsetsL l1.length).length - (j + 1))
      case measure => omega
      case rel => exact ⟨j + 1, by omega, by omega, by go_num, ⟨by rw [E9.out, if_pos hpe, ← List.append_assoc]; exact HO8.out⟩, ⟨RO8.out⟩, ⟨BW8.out⟩⟩
     | false =>
      go_wp2_with fail
      go_roundg ((subsetsL l1.length).length - (j + 1))
      case measure => omega
      case rel => exact ⟨j + 1, by omega, by omega, by go_num, ⟨by rw [E9.out, if_neg (by simp [hpe]), List.append_nil]; exact BO5.out⟩, ⟨RO5.out⟩, ⟨BW5.out⟩⟩
    ·have hltjz : ¬ (j : Int) < ((subsetsL l1.length).length : Int) := by omega
     obtain rfl : j = (subsetsL l1.length).length := by omega
     have BO6 : Hid (Kd.R k27 27 wr w2.heap.size (fun _ => True) u5 (((subsetsL l0.length).take (k + 1)).flatMap fun ns => partsIn l0 l1 ns (subsetsL l1.length))) := by
      have := BO.out; rw [List.take_length, ← E7.out] at this; exact this
     have BW6 := Lib.hid BW.out; clear BO RO BW hltj
     go_wp2_with fail
     go_roundg ((subsetsL l0.length).length - (k + 1))
     case measure => omega
     case rel => exact ⟨k + 1, by omega, by omega, by go_num, ⟨BO6.out⟩, ⟨BW6.out⟩⟩
  ·have hltz : ¬ (k : Int) < ((subsetsL l0.length).length : Int) := by omega
   obtain rfl : k = (subsetsL l0.length).length := by omega
   have BO6 : Hid (Kd.R k27 27 wr w2.heap.size (fun _ => True) u5 (partsL l0 l1)) := by
    have := BO.out; rw [List.take_length] at this; exact this
   have BW6 := Lib.hid (below_then HB2.out HB2.out.size BW.out); clear BO BW hlt
   go_wp2_with fail
   go_ret2
   exact ⟨_, rfl, Kd.R_lower BO6.out HB2.out.size, BW6.out⟩
set_option maxHeartbeats 1000000 in
theorem All_a (A0 : Option Addr) (c0 : Nat) (l0 : List Int) (A1 : Option Addr) (c1 : Nat) (l1 : List S78) (w : World) (hr0 : Kd.C (Kd.int .i64) w A0 l0.length l0) (hr1 : Kd.C k78 w A1 l1.length l1) (e : Int) (he : validB l0 l1 = e) (hne : (e == 0) = false) :
    Calls Try.prog 24 #[.agg #[.slice A0 l0.length c0, .slice A1 l1.length c1]] w fun en w' => en = .returned (.tuple #[.slice none 0 0, .int .i64 e]) ∧ Below w.heap.size w w' := by
  have H0 := fun (W : World) (hb : Below w.heap.size w W) => graph_Valid.calls0 A0 c0 l0 A1 c1 l1 W (Kd.C_below hr0 hb) (Kd.C_below hr1 hb)
  rw [he] at H0; have D0 := Lib.hid H0
  have hne2 : (e != 0) = true := by simpa [bne] using hne
  clear H0 hr0 hr1 he
  go_enter Try.func24, Try.ntmps24
  go_wp2_with fail
  refine (D0.out _ (by exact below_alloc (Below.refl _ _) _)).mono ?_
  rintro en w1 ⟨rfl, hb⟩; have HB := Lib.hid (below_then (below_alloc (Below.refl w.heap.size w) (.cells #[.slice A0 l0.length c0, .slice A1 l1.length c1] 25)) (by simp) hb); clear hb D0
  go_wp2_with fail
  go_ret2
  exact ⟨rfl, HB.out⟩
set_option maxHeartbeats 1000000 in
theorem All_b (A0 : Option Addr) (c0 : Nat) (l0 : List Int) (A1 : Option Addr) (c1 : Nat) (l1 : List S78) (w : World) (hr0 : Kd.C (Kd.int .i64) w A0 l0.length l0) (hr1 : Kd.C k78 w A1 l1.length l1) (hv : validB l0 l1 = 0) (hs : 6 < l0.length + l1.length) (hm : l0.length + l1.length < 1000) :
    Calls Try.prog 24 #[.agg #[.slice A0 l0.length c0, .slice A1 l1.length c1]] w fun en w' => en = .returned (.tuple #[.slice none 0 0, .int .i64 3]) ∧ Below w.heap.size w w' := by
  have H0 := fun (W : World) (hb : Below w.heap.size w W) => graph_Valid.calls0 A0 c0 l0 A1 c1 l1 W (Kd.C_below hr0 hb) (Kd.C_below hr1 hb)
  rw [hv] at H0; have D0 := Lib.hid H0
  have gs : decide ((6 : Int) < (l0.length : Int) + l1.length) = true := by simp; omega
  clear H0 hr0 hr1 hv
  go_enter Try.func24, Try.ntmps24
  go_wp2_with fail
  refine (D0.out _ (by exact below_alloc (Below.refl _ _) _)).mono ?_
  rintro en w1 ⟨rfl, hb⟩; have HB := Lib.hid (below_then (below_alloc (Below.refl w.heap.size w) (.cells #[.slice A0 l0.length c0, .slice A1 l1.length c1] 25)) (by simp) hb); have HG := Lib.hid (blk_below (blk_new w (.cells #[.slice A0 l0.length c0, .slice A1 l1.length c1] 25)) hb); clear hb D0; have k0 := (blk_cell HG.out 0).trans rfl; have k1 := (blk_cell HG.out 1).trans rfl
  go_wp2_with fail
  go_ret2
  exact ⟨rfl, HB.out⟩
theorem validB_size (l0 : List Int) (l1 : List S78) (h : validB l0 l1 = 0) : l0.length ≤ 40 ∧ l1.length ≤ 80 := by
  unfold validB at h
  split at h
  · omega
  · split at h
    · omega
    · omega
theorem subgraph_All.callsR (A0_0 : Option Addr) (c0_0 : Nat) (l0_0 : List Int) (A0_1 : Option Addr) (c0_1 : Nat) (l0_1 : List (S78)) (r1 : List S27) (r2 : Int) (w : World) (hr0_0 : Kd.C (Kd.int .i64) w A0_0 l0_0.length l0_0) (hc0_0 : l0_0.length ≤ c0_0) (hr0_1 : Kd.C k78 w A0_1 l0_1.length l0_1) (hc0_1 : l0_1.length ≤ c0_1) (h : subgraph_All.f l0_0 l0_1 = some (r1, r2)) :
    Calls Try.prog 24 #[.agg #[.slice A0_0 l0_0.length c0_0, .slice A0_1 l0_1.length c0_1]] w fun e w' => ∃ v0_ : Value, e = .returned (.tuple #[v0_, .int .i64 r2]) ∧ Kd.R k27 27 w' w.heap.size (fun _ => True) v0_ r1 ∧ Below w.heap.size w w' := by
  unfold subgraph_All.f at h
  by_cases hv : validB l0_0 l0_1 = 0
  · rw [if_pos hv] at h
    have hz := validB_size l0_0 l0_1 hv
    by_cases hs : 6 < l0_0.length + l0_1.length
    · rw [if_pos hs] at h
      simp only [Option.some.injEq, Prod.mk.injEq] at h; obtain ⟨rfl, rfl⟩ := h
      exact (All_b A0_0 c0_0 l0_0 A0_1 c0_1 l0_1 w hr0_0 hr0_1 hv hs (by omega)).mono fun e w' ⟨he, hb⟩ => ⟨_, he, Kd.R_nil _ _ _ _ _, hb⟩
    · rw [if_neg hs] at h
      simp only [Option.some.injEq, Prod.mk.injEq] at h; obtain ⟨rfl, rfl⟩ := h; exact All_c A0_0 c0_0 l0_0 A0_1 c0_1 l0_1 w hr0_0 hc0_0 hr0_1 hc0_1 hv (by omega)
  · rw [if_neg hv] at h
    simp only [Option.some.injEq, Prod.mk.injEq] at h; obtain ⟨rfl, rfl⟩ := h
    exact (All_a A0_0 c0_0 l0_0 A0_1 c0_1 l0_1 w hr0_0 hr0_1 _ rfl (beq_eq_false_iff_ne.2 hv)).mono fun e w' ⟨he, hb⟩ => ⟨_, he, Kd.R_nil _ _ _ _ _, hb⟩
end Go.Proofs.Ytonipihlpbaknaa.Print
namespace Go.Proofs.Ytonipihlpbaknaa.Print
open Go.RowKit Go.Proofs.YtonipihlpbaknaaW.PrintWords Go.Proofs.YtonipihlpbaknaaW.PrintLast Go.Proofs.YtonipihlpbaknaaW.PrintMore
attribute [local go_sem] max2_int min2_int max_two min_two max_three min_three max_four min_four   -- for this text's walks alone
set_option linter.unusedVariables false
set_option linter.unusedSimpArgs false
def scarfjointlaw07_line.f  : Option (List Int × (List (S78))) := some ((([0, 0, 0] : List Int)), (([(⟨0, 0, 1⟩ : S78), (⟨0, 1, 2⟩ : S78)] : List (S78))))
set_option maxHeartbeats 8000000 in
set_option maxRecDepth 100000 in
theorem scarfjointlaw07_line.calls  (r1 : List Int) (r2 : List (S78)) (w : World) (h : scarfjointlaw07_line.f  = some (r1, r2)) :
  Calls Try.prog 49 #[] w fun e w' => ∃ v0_ v1_ : Value, e = .returned (.agg #[v0_, v1_]) ∧ Kd.R (Kd.int .i64) 3 w' w.heap.size (fun _ => True) v0_ r1 ∧ Kd.R k78 78 w' w.heap.size (fun _ => True) v1_ r2 ∧ Below w.heap.size w w' := by
 have hu25 := Try.underlying25; have hu78 := Try.underlying78; have HB := Aside0.mk (Below.refl w.heap.size w); have H : (some ((([0, 0, 0] : List Int)), (([(⟨0, 0, 1⟩ : S78), (⟨0, 1, 2⟩ : S78)] : List (S78))))) = some (r1, r2) := h; clear h
 obtain ⟨y102, hy102⟩ : ∃ y_ : List Int, y_ = (([0, 0, 0] : List Int)) := ⟨_, rfl⟩
 replace H : (some (y102, (([(⟨0, 0, 1⟩ : S78), (⟨0, 1, 2⟩ : S78)] : List (S78))))) = some (r1, r2) := by first | (rw [hy102]; with_reducible exact H) | (have H2_ := (Option.bind_some _ _).symm.trans H; rw [hy102]; with_reducible exact H2_) | (have H2_ := (Option.bind_some _ _).symm.trans H; with_reducible exact H2_) | with_reducible exact H | (rw [hy102]; exact H) | exact H
 have Ny102 := Aside0.mk hy102; clear hy102
 obtain ⟨y105, hy105⟩ : ∃ y_ : List (S78), y_ = (([(⟨0, 0, 1⟩ : S78), (⟨0, 1, 2⟩ : S78)] : List (S78))) := ⟨_, rfl⟩
 replace H : (some (y102, y105)) = some (r1, r2) := by first | (rw [hy105]; with_reducible exact H) | (have H2_ := (Option.bind_some _ _).symm.trans H; rw [hy105]; with_reducible exact H2_) | (have H2_ := (Option.bind_some _ _).symm.trans H; with_reducible exact H2_) | with_reducible exact H | (rw [hy105]; exact H) | exact H
 have Ny105 := Aside0.mk hy105; clear hy105; simp only [Option.some.injEq, Prod.mk.injEq] at H; obtain ⟨rfl, rfl⟩ := H
 go_enter Try.func49, Try.ntmps49
 go_wp2_with (first | ((with_reducible refine gate_dst (N := 0) rfl ?_); refine box_event ?hg (N := 0) ?hd (cs := #[.slice none 0 0, .slice none 0 0]) (t := 25) ?hr ?_; (case hd => rfl); (case hg => rfl); (case hr => first | (go_simp; done) | (go_simp; rfl)); intro gb101 hg w1 hbox hb; have n0_ := Aside0.mk (below_step (by repeat (first | (with_reducible first | exact HB.out | apply lA_ | apply lN_ | apply lD_) | exact HB.out)) hb); have n1_ := Aside0.mk (hbox); have n2_ := Aside0.mk ((by rw [hg]; exact (below_size (by repeat (first | (with_reducible first | exact HB.out | apply lA_ | apply lN_ | apply lD_) | exact HB.out))) : w.heap.size ≤ gb101)); have n3_ := Aside0.mk ((by rw [hg]; exact (below_size (by repeat (first | (with_reducible first | exact HB.out | apply lA_ | apply lN_ | apply lD_) | exact HB.out))) : w.heap.size ≤ gb101)); clear HB; have HB := n0_; have BK101 := n1_; have GW101 := n2_; have GE101 := n3_; clear n0_ n1_ n2_ n3_; clear hb hbox hg) | ((with_reducible refine gate_dst (N := 1) rfl ?_); refine Kd.R_lit (Kd.int .i64) _ 3 ?hg (N := 1) ?hd (xs := ([0, 0, 0] : List Int)) (inner := [.int .i64 0, .int .i64 0, .int .i64 0]) (ok := fun _ => True) (okp := fun _ => True) ?hr ?hp (fun _ hk => hk) trivial (Below.refl _ _) (Nat.le_refl _) (by simp) ?_; (case hd => rfl); (case hg => rfl); (case hr => first | (go_simp; done) | (go_simp; rfl)); (case hp => exact (Reps.one (show Kd.M (Kd.int .i64) _ _ _ 0 [.int .i64 0] from rfl) (Reps.one (show Kd.M (Kd.int .i64) _ _ _ 0 [.int .i64 0] from rfl) (Reps.one (show Kd.M (Kd.int .i64) _ _ _ 0 [.int .i64 0] from rfl) (Reps.none _ _))))); intro v103 w2 ho3 hb hg_ hnew_; clear hg_ hnew_; (first | rw [← Ny102.out] at ho3 | (simp only [Int.reduceToNat] at ho3; rw [← Ny102.out] at ho3)); have n0_ := Aside0.mk (Kd.R_lower ho3 (below_size (by repeat (first | (with_reducible first | exact HB.out | apply lA_ | apply lN_ | apply lD_ | refine below_set ?_ GE101.out) | exact HB.out)))); have n1_ := Aside0.mk (blk_below (g := gb101) (o := .cells #[.slice none 0 0, .slice none 0 0] 25 (0, 0)) (by (with_reducible repeat first | refine bN_ ?_ _ | refine bD_ ?_ | refine bA_ ?_ _); exact BK101.out) hb); have n2_ := Aside0.mk (below_step (by repeat (first | (with_reducible first | exact HB.out | apply lA_ | apply lN_ | apply lD_ | refine below_set ?_ GE101.out) | exact HB.out)) hb); clear BK101; clear HB; have HO104 := n0_; have BK101 := n1_; have HB := n2_; clear n0_ n1_ n2_; clear hb ho3) | ((with_reducible refine gate_dst (N := 4) rfl ?_); refine Kd.R_lit k78 _ 78 ?hg (N := 4) ?hd (xs := ([(⟨0, 0, 1⟩ : S78), (⟨0, 1, 2⟩ : S78)] : List (S78))) (inner := [.int .i64 0, .int .i64 0, .int .i64 1, .int .i64 0, .int .i64 1, .int .i64 2]) (ok := fun _ => True) (okp := fun _ => True) ?hr ?hp (fun _ hk => hk) trivial (Below.refl _ _) (Nat.le_refl _) (by simp) ?_; (case hd => rfl); (case hg => rfl); (case hr => first | (go_simp; done) | (go_simp; rfl)); (case hp => exact (Reps.c3 (show Kd.M k78 _ _ _ (⟨0, 0, 1⟩ : S78) [.int .i64 0, .int .i64 0, .int .i64 1] from (k78_mkM _ _ _ (⟨0, 0, 1⟩ : S78) )) (Reps.c3 (show Kd.M k78 _ _ _ (⟨0, 1, 2⟩ : S78) [.int .i64 0, .int .i64 1, .int .i64 2] from (k78_mkM _ _ _ (⟨0, 1, 2⟩ : S78) )) (Reps.none _ _)))); intro v106 w4 ho5 hb hg_ hnew_; clear hg_ hnew_; (first | rw [← Ny105.out] at ho5 | (simp only [Int.reduceToNat] at ho5; rw [← Ny105.out] at ho5)); have n0_ := Aside0.mk (Kd.R_below (by (with_reducible repeat (first | apply rA_ | apply rN_ | apply rD_)); exact HO104.out) hb); have n1_ := Aside0.mk (Kd.R_lower ho5 (below_size (by repeat (first | (with_reducible first | exact HB.out | apply lA_ | apply lN_ | apply lD_ | refine below_set ?_ GE101.out) | exact HB.out)))); have n2_ := Aside0.mk (blk_below (g := gb101) (o := .cells #[.slice none 0 0, .slice none 0 0] 25 (0, 0)) (by (with_reducible repeat first | refine bN_ ?_ _ | refine bD_ ?_ | refine bA_ ?_ _); exact BK101.out) hb); have n3_ := Aside0.mk (below_step (by repeat (first | (with_reducible first | exact HB.out | apply lA_ | apply lN_ | apply lD_ | refine below_set ?_ GE101.out) | exact HB.out)) hb); clear HO104; clear BK101; clear HB; have HO104 := n0_; have HO107 := n1_; have BK101 := n2_; have HB := n3_; clear n0_ n1_ n2_ n3_; clear hb ho5; obtain ⟨Ao6, co6, eo6⟩ := Kd.R_slice HO107.out; subst eo6; obtain ⟨Ao7, co7, eo7⟩ := Kd.R_slice HO104.out; subst eo7; have hcz8_0 : w4.cell? ⟨gb101, 0, none⟩ = some (.slice none 0 0) := (blk_cell BK101.out 0).trans rfl; have hcz8_1 : w4.cell? ⟨gb101, 1, none⟩ = some (.slice none 0 0) := (blk_cell BK101.out 1).trans rfl; have hfz8_0 := blk_frozen BK101.out 0; have hfz8_1 := blk_frozen BK101.out 1))
 refine bodyPost_ret (results_cell_row rfl _ _ gb101 25 #[.slice Ao7 y102.length co7, .slice Ao6 y105.length co6] (0, 0) _ rfl (by (with_reducible repeat first | refine bN_ ?_ _ | refine bD_ ?_ | refine bA_ ?_ _); refine blk_put (cs := #[.slice Ao7 y102.length co7, .slice none 0 0]) ?_ 1 _ rfl; (with_reducible repeat first | refine bN_ ?_ _ | refine bD_ ?_ | refine bA_ ?_ _); refine blk_put (cs := #[.slice none 0 0, .slice none 0 0]) ?_ 0 _ rfl; (with_reducible repeat first | refine bN_ ?_ _ | refine bD_ ?_ | refine bA_ ?_ _); exact BK101.out) Try.underlying25 rfl (by kernel_rfl)) rfl ?_
 exact ⟨_, _, by first | rfl | (simp [errW_none, errW_some] <;> rfl) | (simp [*, errW_none, errW_some] <;> rfl), by (with_reducible repeat (first | apply rA_ | apply rN_ | apply rD_)); exact Kd.R_mono (Kd.R_far (p := ⟨gb101, 1, none⟩) (Kd.R_far (p := ⟨gb101, 0, none⟩) (Kd.R_types HO104.out BK101.out (by decide)) (fun _ hk => hk.2) (.slice Ao7 y102.length co7)) (fun _ hk => hk.2) (.slice Ao6 y105.length co6)) (fun _ hk => trivial), by (with_reducible repeat (first | apply rA_ | apply rN_ | apply rD_)); exact Kd.R_mono (Kd.R_far (p := ⟨gb101, 1, none⟩) (Kd.R_far (p := ⟨gb101, 0, none⟩) (Kd.R_types HO107.out BK101.out (by decide)) (fun _ hk => hk.2) (.slice Ao7 y102.length co7)) (fun _ hk => hk.2) (.slice Ao6 y105.length co6)) (fun _ hk => trivial), by repeat (first | (with_reducible first | exact HB.out | apply lA_ | apply lN_ | apply lD_ | refine below_set ?_ GE101.out) | exact HB.out)⟩
end Go.Proofs.Ytonipihlpbaknaa.Print
namespace Go.Proofs.Ytonipihlpbaknaa.Print
open Go.RowKit Go.Proofs.YtonipihlpbaknaaW.PrintWords Go.Proofs.YtonipihlpbaknaaW.PrintLast Go.Proofs.YtonipihlpbaknaaW.PrintMore
attribute [local go_sem] max2_int min2_int max_two min_two max_three min_three max_four min_four   -- for this text's walks alone
set_option linter.unusedVariables false
set_option linter.unusedSimpArgs false
def slices_Equal_int_int.l0 : Nat → List Int → List Int → Int → Int → Option (Bool)
  | 0, _, _, _, _ => none
  | k + 1, x0, x1, x12, x13 => if x13 < x12 then (if 0 ≤ x13 then (if x13 < (x0.length : Int) then (if x13 < (x1.length : Int) then (if (rd x0 x13) = (rd x1 x13) then (slices_Equal_int_int.l0 k x0 x1 x12 (wrap64 (x13 + 1))) else (some false)) else (none)) else (none)) else (none)) else (some true)
def slices_Equal_int_int.f (k : Nat) (l0 : List Int) (l1 : List Int) : Option (Bool) := if (l0.length : Int) = (l1.length : Int) then (slices_Equal_int_int.l0 k l0 l1 (l0.length : Int) 0) else (some false)
set_option maxHeartbeats 8000000 in
set_option maxRecDepth 100000 in
theorem slices_Equal_int_int.calls (k : Nat) (A0 : Option Addr) (c0 : Nat) (l0 : List Int) (A1 : Option Addr) (c1 : Nat) (l1 : List Int) (r : Bool) (w : World) (hr0 : Kd.C (Kd.int .i64) w A0 l0.length l0) (hc0 : l0.length ≤ c0) (hr1 : Kd.C (Kd.int .i64) w A1 l1.length l1) (hc1 : l1.length ≤ c1) (h : slices_Equal_int_int.f k l0 l1 = some r) :
  Calls Try.prog 36 #[.slice A0 l0.length c0, .slice A1 l1.length c1] w fun e w' => e = .returned (.bool r) ∧ Drawn0 w w' := by
 have HR0 := Aside0.mk hr0; have HC0 := Aside0.mk hc0; clear hr0 hc0; have HR1 := Aside0.mk hr1; have HC1 := Aside0.mk hc1; clear hr1 hc1; have H : (if (l0.length : Int) = (l1.length : Int) then (slices_Equal_int_int.l0 k l0 l1 (l0.length : Int) 0) else (some false)) = some r := h; clear h
 by_cases c3 : (l0.length : Int) = (l1.length : Int)
 ·rw [if_pos c3] at H
  have c3b0 : ((l0.length : Int) == (l1.length : Int)) = true := beq_iff_eq.mpr c3; have c3b1 : ((l0.length : Int) != (l1.length : Int)) = false := bne_eq_false_iff_eq.mpr c3
  have c3b2 : (l0.length == l1.length) = true := by first | simpa using c3 | (simp at c3 ⊢; omega)
  clear c3; have H' := Aside0.mk H; clear H
  go_enter Try.func36, Try.ntmps36
  go_wp2
  repeat (go_quiet (fail); try go_wp2)
  go_loopg [13] k (fun kq v13 w' => ∃ (x13_1 : Int), v13 = .int .i64 x13_1 ∧ Aside0 (slices_Equal_int_int.l0 kq l0 l1 (l0.length : Int) x13_1 = some r) ∧ Aside0 (kq ≤ k) ∧ Drawn0 w w')
  case atStart => exact ⟨(0), (by first | rfl | (simp; done) | (simp [*]; done)), H', ⟨Nat.le_refl _⟩, by repeat (first | exact Drawn0.refl _ | apply Drawn0.step)⟩
  case round =>
   clear H'; (try clear c1); (try clear p2); (try clear c3); (try clear c3b0); (try clear c3b1); (try clear c3b2); obtain ⟨x13_1, rfl, HA, HK1, ⟨m1, rfl⟩⟩ := hrel
   cases gk with
   | zero => exact absurd HA.out (by simp [slices_Equal_int_int.l0])
   | succ k1 =>
    have H := HA.out; clear HA; simp only [slices_Equal_int_int.l0] at H
    by_cases c4 : x13_1 < (l0.length : Int)
    ·rw [if_pos c4] at H
     have c4b0 : decide (x13_1 < (l0.length : Int)) = true := decide_eq_true c4; clear c4
     by_cases c5 : 0 ≤ x13_1
     ·rw [if_pos c5] at H
      have c5b0 : decide (0 ≤ x13_1) = true := decide_eq_true c5; clear c5
      by_cases c6 : x13_1 < (l0.length : Int)
      ·rw [if_pos c6] at H
       have c6b0 : decide (x13_1 < (l0.length : Int)) = true := decide_eq_true c6; clear c6
       by_cases c7 : x13_1 < (l1.length : Int)
       ·rw [if_pos c7] at H
        have c7b0 : decide (x13_1 < (l1.length : Int)) = true := decide_eq_true c7; clear c7
        by_cases c8 : (rd l0 x13_1) = (rd l1 x13_1)
        ·rw [if_pos c8] at H
         have c8b0 : ((rd l0 x13_1) == (rd l1 x13_1)) = true := beq_iff_eq.mpr c8; have c8b1 : ((rd l0 x13_1) != (rd l1 x13_1)) = false := bne_eq_false_iff_eq.mpr c8; clear c8; have H' := Aside0.mk H; clear H; have p101 : 0 ≤ (x13_1 : Int) := of_decide_eq_true (by first | (with_reducible assumption) | assumption); have q101 : x13_1 < (l0.length : Int) := of_decide_eq_true (by first | (with_reducible assumption) | assumption); obtain ⟨ad101, e101, hx101_0⟩ := Kd.at_int HR0.out x13_1 p101 q101; cases e101; replace p101 := eq_true p101; replace q101 := eq_true q101; have p102 : 0 ≤ (x13_1 : Int) := of_decide_eq_true (by first | (with_reducible assumption) | assumption); have q102 : x13_1 < (l1.length : Int) := of_decide_eq_true (by first | (with_reducible assumption) | assumption); obtain ⟨ad102, e102, hx102_0⟩ := Kd.at_int HR1.out x13_1 p102 q102; cases e102; replace p102 := eq_true p102; replace q102 := eq_true q102
         go_wp2
         repeat (go_quiet (fail); try go_wp2)
         go_roundg k1
         case measure => have := HK1.out; omega
         case rel => exact ⟨(wrap64 (x13_1 + 1)), (by first | rfl | (simp; done) | (simp [*]; done)), H', ⟨by have := HK1.out; omega⟩, by repeat (first | exact Drawn0.refl _ | apply Drawn0.step)⟩
        ·rw [if_neg c8] at H
         have c8b0 : ((rd l0 x13_1) == (rd l1 x13_1)) = false := beq_eq_false_iff_ne.mpr c8; have c8b1 : ((rd l0 x13_1) != (rd l1 x13_1)) = true := bne_iff_ne.mpr c8; obtain rfl := Option.some.inj H; have p101 : 0 ≤ (x13_1 : Int) := of_decide_eq_true (by first | (with_reducible assumption) | assumption); have q101 : x13_1 < (l0.length : Int) := of_decide_eq_true (by first | (with_reducible assumption) | assumption); obtain ⟨ad101, e101, hx101_0⟩ := Kd.at_int HR0.out x13_1 p101 q101; cases e101; replace p101 := eq_true p101; replace q101 := eq_true q101; have p102 : 0 ≤ (x13_1 : Int) := of_decide_eq_true (by first | (with_reducible assumption) | assumption); have q102 : x13_1 < (l1.length : Int) := of_decide_eq_true (by first | (with_reducible assumption) | assumption); obtain ⟨ad102, e102, hx102_0⟩ := Kd.at_int HR1.out x13_1 p102 q102; cases e102; replace p102 := eq_true p102; replace q102 := eq_true q102
         go_wp2
         repeat (go_quiet (fail); try go_wp2)
         go_ret
         exact ⟨by first | rfl | (simp; done) | (simp [*]; done), by repeat (first | exact Drawn0.refl _ | apply Drawn0.step)⟩
       ·rw [if_neg c7] at H
        exact absurd H (by simp)
      ·rw [if_neg c6] at H
       exact absurd H (by simp)
     ·rw [if_neg c5] at H
      exact absurd H (by simp)
    ·rw [if_neg c4] at H
     have c4b0 : decide (x13_1 < (l0.length : Int)) = false := decide_eq_false c4; clear c4; obtain rfl := Option.some.inj H
     go_wp2
     repeat (go_quiet (fail); try go_wp2)
     go_ret
     exact ⟨by first | rfl | (simp; done) | (simp [*]; done), by repeat (first | exact Drawn0.refl _ | apply Drawn0.step)⟩
 ·rw [if_neg c3] at H
  have c3b0 : ((l0.length : Int) == (l1.length : Int)) = false := beq_eq_false_iff_ne.mpr c3; have c3b1 : ((l0.length : Int) != (l1.length : Int)) = true := bne_iff_ne.mpr c3
  have c3b2 : (l0.length == l1.length) = false := by first | simpa using c3 | (simp at c3 ⊢; omega)
  obtain rfl := Option.some.inj H
  go_enter Try.func36, Try.ntmps36
  go_wp2
  repeat (go_quiet (fail); try go_wp2)
  go_ret
  exact ⟨by first | rfl | (simp; done) | (simp [*]; done), by repeat (first | exact Drawn0.refl _ | apply Drawn0.step)⟩
end Go.Proofs.Ytonipihlpbaknaa.Print
namespace Go.Proofs.Ytonipihlpbaknaa.Print
set_option linter.unusedVariables false
set_option linter.unusedSimpArgs false
open Go.RowKit Go.Proofs.YtonipihlpbaknaaW.PrintWords Go.Proofs.YtonipihlpbaknaaW.PrintLast Go.Proofs.YtonipihlpbaknaaW.PrintMore
def lnN : List Int := [0, 0, 0]
def lnE : List S78 := [⟨0, 0, 1⟩, ⟨0, 1, 2⟩]
theorem sortI_asc (l : List Int) (h : l.Pairwise (· ≤ ·)) : sortI l = l := List.mergeSort_of_pairwise (h.imp (by simp))
theorem subs_ln (n : Nat) (L : List (List Int)) (h1 : L.Pairwise (fun x y => leOf lenC x y = true)) (h2 : L.Perm (genL n)) : subsetsL n = L := by
  unfold subsetsL
  refine List.Perm.eq_of_pairwise (le := fun x y => leOf lenC x y = true) ?_ ?_ h1 ((List.mergeSort_perm _ _).trans h2.symm)
  · intro a b _ _ p q
    simp only [leOf, Bool.not_eq_true'] at p q; exact lenC_tot.tot a b q p
  · refine List.pairwise_mergeSort ?_ ?_ _
    · intro a b c p q
      simp only [leOf, Bool.not_eq_true'] at p q ⊢; exact lenC_tot.swo.ntrans c b a q p
    · intro a b
      simp only [leOf, Bool.or_eq_true, Bool.not_eq_true']
      by_cases h : ltOf lenC b a = true
      · right
        exact lenC_tot.swo.asymmA h
      · left
        simpa using h
theorem subs2 : subsetsL 2 = [[], [0], [1], [0, 1]] := subs_ln 2 _ (by decide +kernel) (by decide +kernel)
theorem subs3 : subsetsL 3 = [[], [0], [1], [2], [0, 1], [0, 2], [1, 2], [0, 1, 2]] := subs_ln 3 _ (by decide +kernel) (by decide +kernel)
theorem parts_ln : (partsL lnN lnE).length = 13 := by
  unfold partsL; rw [show lnN.length = 3 from rfl, show lnE.length = 2 from rfl, subs3, subs2]
  decide +kernel
theorem valid_ln : validB lnN lnE = 0 := by decide +kernel
theorem close_ln : subgraph_Close.f lnN lnE [] [0] = some ([0, 1], [0], 0) := by
  unfold subgraph_Close.f; rw [if_pos (by decide), if_pos valid_ln, if_neg (by decide), if_neg (by decide), show ([] : List Int) ++ endsOf lnE [0] = [0, 1] from rfl, sortI_asc _ (by decide), sortI_asc _ (by decide)]
  decide +kernel
theorem bdry_ln : subgraph_Boundary.f 1000 lnN lnE [0, 1] [0] = some ([1], 0) := by
  rw [bdry_ok lnN lnE [0, 1] [0] (by decide) (by decide) 1000 (by decide), if_pos (by decide +kernel)]; unfold bdryL; rw [show outUpto lnE [0] lnE.length = [1, 2] by decide +kernel, sortI_asc _ (by decide)]
  decide +kernel
theorem all_ln : subgraph_All.f lnN lnE = some (partsL lnN lnE, 0) := by
  unfold subgraph_All.f; rw [if_pos valid_ln, if_neg (by decide)]
theorem same_ln : scarfjointref07_Same.f 10 [0, 1] [0] [0, 1] [0] = some true := by decide +kernel
theorem equal_ln : slices_Equal_int_int.f 10 [1] [1] = some true := by decide +kernel
theorem line_ln : scarfjointlaw07_line.f = some (lnN, lnE) := rfl
set_option maxHeartbeats 2000000 in
set_option maxRecDepth 100000 in
theorem scarfjointlaw07_awake.calls0 (w : World) : Calls Try.prog 11 #[] w fun e w' => e = .returned (.bool true) ∧ Below w.heap.size w w' := by
 have L0 := Lib.hid (fun W => scarfjointlaw07_line.calls lnN lnE W line_ln); have eN : lnN.length = 3 := rfl
 go_enter Try.func11, Try.ntmps11
 go_wp2_with fail
 refine (L0.out _).mono ?_
 rintro e w1 ⟨v1, v2, rfl, ho1, ho2, hb⟩; obtain ⟨A1, c1, rfl, m1, r1⟩ := Kd.R_reads ho1; obtain ⟨A2, c2, rfl, m2, r2⟩ := Kd.R_reads ho2; have R1 := Lib.hid r1; have R2 := Lib.hid r2; have M1 := Lib.hid m1; have M2 := Lib.hid m2; have B1 := Lib.hid hb; clear ho1 ho2 r1 r2 hb eN m1 m2
 go_wp2_with (first
  | ((with_reducible refine gate_dst (N := 9) rfl ?_); refine Kd.R_lit (Kd.int .i64) _ 3 ?hg (N := 9) ?hd (xs := [0]) (inner := [.int .i64 0]) (ok := fun _ => True) (okp := fun _ => True) ?hr ?hp (fun _ hk => hk) trivial (Below.refl _ _) (Nat.le_refl _) (by simp) ?_; (case hd => rfl); (case hg => rfl); (case hr => first | (go_simp; done) | (go_simp; rfl)); (case hp => exact (Reps.one (show Kd.M (Kd.int .i64) _ _ _ 0 [.int .i64 0] from rfl) (Reps.none _ _))); intro v3 w2 ho hb hg_ hne; obtain ⟨A3, c3, rfl, m3, r3⟩ := Kd.R_reads ho; have R3 := Lib.hid r3; have M3 := Lib.hid m3; have R12 := Lib.hid (Kd.C_below R1.out hb); have R22 := Lib.hid (Kd.C_below R2.out hb); have B2 := Lib.hid (below_then B1.out B1.out.size hb); clear ho hb hg_ hne r3 m3 R1 R2 B1)
  | (go_at_call 13; refine (subgraph_Close.calls A1 c1 lnN A2 c2 lnE none 0 [] A3 c3 [0] [0, 1] [0] 0 _ R12.out M1.out R22.out M2.out (Kd.C_nil _ _) (Nat.le_refl _) R3.out M3.out close_ln).mono ?_; rintro e w3 ⟨v4, v5, rfl, ho4, ho5, hb⟩; obtain ⟨A4, c4, rfl, m4, r4⟩ := Kd.R_reads ho4; obtain ⟨A5, c5, rfl, m5, r5⟩ := Kd.R_reads ho5; have R4 := Lib.hid r4; have R5 := Lib.hid r5; have M4 := Lib.hid m4; have M5 := Lib.hid m5; have B3 := Lib.hid (below_then B2.out B2.out.size hb); clear ho4 ho5 r4 r5 m4 m5 hb R12 R22 R3 B2))
 have BK := Lib.hid (blk_new w3 (.cells #[.slice A4 2 c4, .slice A5 1 c5] 27)); have R42 := Lib.hid (Kd.C_alloc R4.out (.cells #[.slice A4 2 c4, .slice A5 1 c5] 27)); have R52 := Lib.hid (Kd.C_alloc R5.out (.cells #[.slice A4 2 c4, .slice A5 1 c5] 27)); have B4 := Lib.hid (below_alloc (o := .cells #[.slice A4 2 c4, .slice A5 1 c5] 27) B3.out); clear R4 R5 B3; generalize w3.heap.size = g at BK ⊢; generalize w3.alloc (.cells #[.slice A4 2 c4, .slice A5 1 c5] 27) = w4 at BK R42 R52 B4 ⊢
 refine start_ (n := 8) (S := fun w' => w'.cell? ⟨g, 0, none⟩ = some (.slice A4 2 c4) ∧ w'.cell? ⟨g, 1, none⟩ = some (.slice A5 1 c5)) (ds := []) #[false, false, false, false, false, false, false, false] (by kernel_rfl) rfl rfl ⟨(blk_cell BK.out 0).trans rfl, (blk_cell BK.out 1).trans rfl⟩ (fun hHeld => ?_)
 refine take_ (i := 1) (N := some 15) (v := ?_) (a' := ?_) #[false, true, false, false, false, false, false, false] rfl rfl (by kernel_rfl) (fun _ _ _ h => h) (Or.inl ⟨by rfl, ?_⟩) hHeld ?_ ?_
 rotate_left
 ·rintro w' ⟨s0, s1⟩
  go_simp
  with_reducible rfl
 rotate_left
 ·simp only [Act.put, sI_, s0_, sS_, i64_w, i32_w]
  rfl
 refine one_ (i := 0) (N := some 14) #[true, true, false, false, false, false, false, false] rfl rfl (by kernel_rfl) (by decide) (fun K hK => ?_)
 refine goes_ Try.func49 (by kernel_rfl) rfl #[] (by rfl) rfl rfl (by (try simp only [List.map_toArray, List.map_cons, List.map_nil]); first | done | rfl) ?_
 refine (scarfjointlaw07_line.calls lnN lnE _ line_ln).mono ?_
 rintro e w5 ⟨v6, v7, rfl, ho6, ho7, hb⟩
 refine ⟨_, rfl, ?_⟩
 obtain ⟨A6, c6, rfl, m6, r6⟩ := Kd.R_reads ho6; obtain ⟨A7, c7, rfl, m7, r7⟩ := Kd.R_reads ho7; have R6 := Lib.hid r6; have R7 := Lib.hid r7; have M6 := Lib.hid m6; have M7 := Lib.hid m7; have R43 := Lib.hid (Kd.C_below (Kd.C_drew R42.out) hb); have R53 := Lib.hid (Kd.C_below (Kd.C_drew R52.out) hb); have BK2 := Lib.hid (blk_below (blk_drew BK.out) hb); have B5 := Lib.hid (below_then (below_drew1 B4.out) (below_drew1 B4.out).size hb); clear ho6 ho7 r6 r7 m6 m7 hb R42 R52 BK B4
 refine hK.out _ _ ⟨(blk_cell BK2.out 0).trans rfl, (blk_cell BK2.out 1).trans rfl⟩ (fun hHeld => ?_)
 clear hK K
 refine norm_ (a' := ?_) ?_ ?_
 rotate_left
 ·show Act.put _ (some 14) _ = _
  simp only [Act.put, sI_, s0_, sS_, i64_w, i32_w]
  rfl
 refine one_ (i := 2) (N := some 16) #[true, true, true, false, false, false, false, false] rfl rfl (by kernel_rfl) (by decide) (fun K hK => ?_)
 refine goes_ Try.func21 (by kernel_rfl) rfl #[.agg #[.slice A6 lnN.length c6, .slice A7 lnE.length c7], .agg #[.slice A4 2 c4, .slice A5 1 c5]] (by rfl) rfl rfl (by (try simp only [List.map_toArray, List.map_cons, List.map_nil]); first | done | rfl) ?_
 refine (subgraph_Boundary.calls 1000 A6 c6 lnN A7 c7 lnE A4 c4 [0, 1] A5 c5 [0] [1] 0 _ R6.out M6.out R7.out M7.out R43.out M4.out R53.out M5.out bdry_ln).mono ?_
 rintro e w6 ⟨v8, rfl, ho8, hb⟩
 refine ⟨_, rfl, ?_⟩
 obtain ⟨A8, c8, rfl, m8, r8⟩ := Kd.R_reads ho8; have R8 := Lib.hid r8; have M8 := Lib.hid m8; have R44 := Lib.hid (Kd.C_below R43.out hb); have R54 := Lib.hid (Kd.C_below R53.out hb); have BK3 := Lib.hid (blk_below BK2.out hb); have B6 := Lib.hid (below_then B5.out B5.out.size hb); clear ho8 r8 m8 hb R43 R53 R6 R7 M6 M7 BK2 B5
 refine hK.out _ _ ⟨(blk_cell BK3.out 0).trans rfl, (blk_cell BK3.out 1).trans rfl⟩ (fun hHeld => ?_)
 clear hK K
 refine norm_ (a' := ?_) ?_ ?_
 rotate_left
 ·show Act.put _ (some 16) _ = _
  simp only [Act.put, sI_, s0_, sS_, i64_w, i32_w]
  rfl
 refine pure_ (i := 3) (N := some 13) (v := ?_) (a' := ?_) #[true, true, true, true, false, false, false, false] rfl rfl (by kernel_rfl) (fun _ _ _ h => h) (Or.inl ⟨by rfl, ?_⟩) ?_ ?_
 rotate_left
 ·intro w'
  go_simp
  with_reducible rfl
 rotate_left
 ·simp only [Act.put, sI_, s0_, sS_, i64_w, i32_w]
  rfl
 refine pure_ (i := 4) (N := some 17) (v := ?_) (a' := ?_) #[true, true, true, true, true, false, false, false] rfl rfl (by kernel_rfl) (fun _ _ _ h => h) (Or.inl ⟨by rfl, ?_⟩) ?_ ?_
 rotate_left
 ·intro w'
  go_simp
  with_reducible rfl
 rotate_left
 ·simp only [Act.put, sI_, s0_, sS_, i64_w, i32_w]
  rfl
 refine pure_ (i := 5) (N := some 18) (v := ?_) (a' := ?_) #[true, true, true, true, true, true, false, false] rfl rfl (by kernel_rfl) (fun _ _ _ h => h) (Or.inl ⟨by rfl, ?_⟩) ?_ ?_
 rotate_left
 ·intro w'
  go_simp
  with_reducible rfl
 rotate_left
 ·simp only [Act.put, sI_, s0_, sS_, i64_w, i32_w]
  rfl
 refine pure_ (i := 6) (N := some 3) (v := ?_) (a' := ?_) #[true, true, true, true, true, true, true, false] rfl rfl (by kernel_rfl) (fun _ _ _ h => h) (Or.inl ⟨by rfl, ?_⟩) ?_ ?_
 rotate_left
 ·intro w'
  go_simp
  with_reducible rfl
 rotate_left
 ·simp only [Act.put, sI_, s0_, sS_, i64_w, i32_w]
  rfl
 refine pure_ (i := 7) (N := some 4) (v := ?_) (a' := ?_) #[true, true, true, true, true, true, true, true] rfl rfl (by kernel_rfl) (fun _ _ _ h => h) (Or.inl ⟨by rfl, ?_⟩) ?_ ?_
 rotate_left
 ·intro w'
  go_simp
  with_reducible rfl
 rotate_left
 ·simp only [Act.put, sI_, s0_, sS_, i64_w, i32_w]
  rfl
 refine done_ (by kernel_rfl) ?_
 go_wp2_with fail
 refine (L0.out _).mono ?_
 rintro e w7 ⟨v9, v10, rfl, ho9, ho10, hb⟩; obtain ⟨A9, c9, rfl, m9, r9⟩ := Kd.R_reads ho9; obtain ⟨A10, c10, rfl, m10, r10⟩ := Kd.R_reads ho10; have R9 := Lib.hid r9; have R10 := Lib.hid r10; have M9 := Lib.hid m9; have M10 := Lib.hid m10; have R82 := Lib.hid (Kd.C_below R8.out hb); have R45 := Lib.hid (Kd.C_below R44.out hb); have R55 := Lib.hid (Kd.C_below R54.out hb); have BK4 := Lib.hid (blk_below BK3.out hb); have B7 := Lib.hid (below_then B6.out B6.out.size hb); clear ho9 ho10 r9 r10 m9 m10 hb R8 R44 R54 BK3 B6
 go_wp2_with (first
  | (go_at_call 24; refine (subgraph_All.callsR A9 c9 lnN A10 c10 lnE (partsL lnN lnE) 0 _ R9.out M9.out R10.out M10.out all_ln).mono ?_; rintro e w8 ⟨v11, rfl, ho11, hb⟩; obtain ⟨A11, c11, rfl⟩ := Kd.R_slice ho11; rw [parts_ln]; have R83 := Lib.hid (Kd.C_below R82.out hb); have R46 := Lib.hid (Kd.C_below R45.out hb); have R56 := Lib.hid (Kd.C_below R55.out hb); have BK5 := Lib.hid (blk_below BK4.out hb); have B8 := Lib.hid (below_then B7.out B7.out.size hb); have C0 : w8.cell? ⟨g, 0, none⟩ = some (.slice A4 2 c4) := (blk_cell BK5.out 0).trans rfl; have C1 : w8.cell? ⟨g, 1, none⟩ = some (.slice A5 1 c5) := (blk_cell BK5.out 1).trans rfl; clear ho11 hb R82 R45 R55 BK4 B7)
  | ((with_reducible refine gate_dst (N := 36) rfl ?_); (try (refine gate_guard (by rfl) ?_; dsimp only)); refine Kd.R_lit (Kd.int .i64) _ 3 ?hg (N := 36) ?hd (xs := [0, 1]) (inner := [.int .i64 0, .int .i64 1]) (ok := fun _ => True) (okp := fun _ => True) ?hr ?hp (fun _ hk => hk) trivial (Below.refl _ _) (Nat.le_refl _) (by simp) ?_; (case hd => rfl); (case hg => rfl); (case hr => first | (go_simp; done) | (go_simp; rfl)); (case hp => exact (Reps.one (show Kd.M (Kd.int .i64) _ _ _ 0 [.int .i64 0] from rfl) (Reps.one (show Kd.M (Kd.int .i64) _ _ _ 1 [.int .i64 1] from rfl) (Reps.none _ _)))); intro v12 w9 ho hb hg_ hne; obtain ⟨A12, c12, rfl, m12, r12⟩ := Kd.R_reads ho; have R12 := Lib.hid r12; have M12 := Lib.hid m12; have R84 := Lib.hid (Kd.C_below R83.out hb); have R47 := Lib.hid (Kd.C_below R46.out hb); have R57 := Lib.hid (Kd.C_below R56.out hb); have B9 := Lib.hid (below_then B8.out B8.out.size hb); clear ho hb hg_ hne r12 m12 C0 C1 R83 R46 R56 B8)
  | ((with_reducible refine gate_dst (N := 37) rfl ?_); (try (refine gate_guard (by rfl) ?_; dsimp only)); refine Kd.R_lit (Kd.int .i64) _ 3 ?hg (N := 37) ?hd (xs := [0]) (inner := [.int .i64 0]) (ok := fun _ => True) (okp := fun _ => True) ?hr ?hp (fun _ hk => hk) trivial (Below.refl _ _) (Nat.le_refl _) (by simp) ?_; (case hd => rfl); (case hg => rfl); (case hr => first | (go_simp; done) | (go_simp; rfl)); (case hp => exact (Reps.one (show Kd.M (Kd.int .i64) _ _ _ 0 [.int .i64 0] from rfl) (Reps.none _ _))); intro v13 w10 ho hb hg_ hne; obtain ⟨A13, c13, rfl, m13, r13⟩ := Kd.R_reads ho; have R13 := Lib.hid r13; have M13 := Lib.hid m13; have R85 := Lib.hid (Kd.C_below R84.out hb); have R48 := Lib.hid (Kd.C_below R47.out hb); have R58 := Lib.hid (Kd.C_below R57.out hb); have R122 := Lib.hid (Kd.C_below R12.out hb); have B10 := Lib.hid (below_then B9.out B9.out.size hb); clear ho hb hg_ hne r13 m13 R84 R47 R57 B9 R12)
  | (go_at_call 17; refine (scarfjointref07_Same.calls 10 A4 c4 [0, 1] A5 c5 [0] A12 c12 [0, 1] A13 c13 [0] true _ R48.out M4.out R58.out M5.out R122.out M12.out R13.out M13.out same_ln).mono ?_; rintro e w11 ⟨rfl, hb⟩; have R86 := Lib.hid (Kd.C_below R85.out hb); have B11 := Lib.hid (below_then B10.out B10.out.size hb); clear hb R85 R48 R58 R122 R13 B10)
  | ((with_reducible refine gate_dst (N := 43) rfl ?_); (try (refine gate_guard (by rfl) ?_; dsimp only)); refine Kd.R_lit (Kd.int .i64) _ 3 ?hg (N := 43) ?hd (xs := [1]) (inner := [.int .i64 1]) (ok := fun _ => True) (okp := fun _ => True) ?hr ?hp (fun _ hk => hk) trivial (Below.refl _ _) (Nat.le_refl _) (by simp) ?_; (case hd => rfl); (case hg => rfl); (case hr => first | (go_simp; done) | (go_simp; rfl)); (case hp => exact (Reps.one (show Kd.M (Kd.int .i64) _ _ _ 1 [.int .i64 1] from rfl) (Reps.none _ _))); intro v14 w12 ho hb hg_ hne; obtain ⟨A14, c14, rfl, m14, r14⟩ := Kd.R_reads ho; have R14 := Lib.hid r14; have M14 := Lib.hid m14; have R87 := Lib.hid (Kd.C_below R86.out hb); have B12 := Lib.hid (below_then B11.out B11.out.size hb); clear ho hb hg_ hne r14 m14 R86 B11)
  | (go_at_call 36; refine (slices_Equal_int_int.calls 10 A8 c8 [1] A14 c14 [1] true _ R87.out M8.out R14.out M14.out equal_ln).mono ?_; rintro e w13 ⟨rfl, hb⟩; have B13 := Lib.hid (below_then B12.out B12.out.size hb.below); clear hb R87 R14 B12))
 exact bodyPost_ret (v := .bool true) (by simp [results, Try.f11, go_sem]) rfl ⟨rfl, B13.out⟩
end Go.Proofs.Ytonipihlpbaknaa.Print
namespace Go.Proofs.Ytonipihlpbaknaa.Print
open Go.RowKit Go.Proofs.YtonipihlpbaknaaW.PrintWords Go.Proofs.YtonipihlpbaknaaW.PrintLast Go.Proofs.YtonipihlpbaknaaW.PrintMore
/-- A row told without its place of birth. -/
theorem toR {α : Type} {d : Kd α} {e b : Nat} {w : World} {ok : Nat → Prop} {v : Value} {l : List α} (h : Kd.R d e w b ok v l) : Kd.R d e w 0 (fun _ => True) v l := Kd.R_mono (Kd.R_lower h (Nat.zero_le _)) (fun _ _ => trivial)
theorem int_ne27 : ∀ q : Nat, q ∈ 3 :: (Kd.int .i64).E → q ≠ 27 := by decide
theorem k78_ne27 : ∀ q : Nat, q ∈ 78 :: k78.E → q ≠ 27 := by decide
theorem cell2 {w : World} {x t : Nat} {a b : Value} (h : w.heap[x]? = some (.cells #[a, b] t (0, 0))) : w.cell? ⟨x, 0, none⟩ = some a ∧ w.cell? ⟨x, 1, none⟩ = some b := ⟨(blk_cell h 0).trans rfl, (blk_cell h 1).trans rfl⟩
end Go.Proofs.Ytonipihlpbaknaa.Print
namespace Go.Proofs.Ytonipihlpbaknaa.Print
open Go.RowKit Go.Proofs.YtonipihlpbaknaaW.PrintWords Go.Proofs.YtonipihlpbaknaaW.PrintLast Go.Proofs.YtonipihlpbaknaaW.PrintMore
attribute [local go_sem] max2_int min2_int max_two min_two max_three min_three max_four min_four   -- for this text's walks alone
set_option linter.unusedVariables false
set_option linter.unusedSimpArgs false
def scarfjointref07_Few.f (l0_0 : List Int) (l0_1 : List Int) (a1 : Int) : Option (Bool) := some (decide ((wrap64 ((l0_0.length : Int) + (l0_1.length : Int))) ≤ a1))
set_option maxHeartbeats 8000000 in
set_option maxRecDepth 100000 in
theorem scarfjointref07_Few.calls (A0_0 : Option Addr) (c0_0 : Nat) (l0_0 : List Int) (A0_1 : Option Addr) (c0_1 : Nat) (l0_1 : List Int) (a1 : Int) (r : Bool) (w : World) (hr0_0 : Kd.C (Kd.int .i64) w A0_0 l0_0.length l0_0) (hc0_0 : l0_0.length ≤ c0_0) (hr0_1 : Kd.C (Kd.int .i64) w A0_1 l0_1.length l0_1) (hc0_1 : l0_1.length ≤ c0_1) (h : scarfjointref07_Few.f l0_0 l0_1 a1 = some r) :
  Calls Try.prog 43 #[.agg #[.slice A0_0 l0_0.length c0_0, .slice A0_1 l0_1.length c0_1], .int .i64 a1] w fun e w' => e = .returned (.bool r) ∧ Below w.heap.size w w' := by
 have hu27 := Try.underlying27; have HR0_0 := Aside0.mk hr0_0; have HC0_0 := Aside0.mk hc0_0; clear hr0_0 hc0_0; have HR0_1 := Aside0.mk hr0_1; have HC0_1 := Aside0.mk hc0_1; clear hr0_1 hc0_1; have HB := Aside0.mk (Below.refl w.heap.size w); have H : (some (decide ((wrap64 ((l0_0.length : Int) + (l0_1.length : Int))) ≤ a1))) = some r := h; clear h; obtain rfl := Option.some.inj H
 go_enter Try.func43, Try.ntmps43
 go_wp2_with (first | ((with_reducible refine gate_dst (N := 2) rfl ?_); refine box_event ?hg (N := 2) ?hd (cs := #[.slice A0_0 l0_0.length c0_0, .slice A0_1 l0_1.length c0_1]) (t := 27) ?hr ?_; (case hd => rfl); (case hg => rfl); (case hr => first | (go_simp; done) | (go_simp; rfl)); intro gb101 hg w3 hbox hb; have n0_ := Aside0.mk (below_step (by repeat (first | (with_reducible first | exact HB.out | apply lA_ | apply lN_ | apply lD_) | exact HB.out)) hb); have n1_ := Aside0.mk (hbox); have n2_ := Aside0.mk ((by rw [hg]; exact (below_size (by repeat (first | (with_reducible first | exact HB.out | apply lA_ | apply lN_ | apply lD_) | exact HB.out))) : w.heap.size ≤ gb101)); have n3_ := Aside0.mk ((by rw [hg]; exact (below_size (by repeat (first | (with_reducible first | exact HB.out | apply lA_ | apply lN_ | apply lD_) | exact HB.out))) : w.heap.size ≤ gb101)); clear HB; have HB := n0_; have BK101 := n1_; have GW101 := n2_; have GE101 := n3_; clear n0_ n1_ n2_ n3_; clear hb hbox hg; have hcz4_0 : w3.cell? ⟨gb101, 0, none⟩ = some (.slice A0_0 l0_0.length c0_0) := (blk_cell BK101.out 0).trans rfl; have hcz4_1 : w3.cell? ⟨gb101, 1, none⟩ = some (.slice A0_1 l0_1.length c0_1) := (blk_cell BK101.out 1).trans rfl; have hfz4_0 := blk_frozen BK101.out 0; have hfz4_1 := blk_frozen BK101.out 1))
 go_ret
 exact ⟨by first | rfl | (simp [errW_none, errW_some] <;> rfl) | (simp [*, errW_none, errW_some] <;> rfl), by repeat (first | (with_reducible first | exact HB.out | apply lA_ | apply lN_ | apply lD_ | refine below_set ?_ GE101.out) | exact HB.out)⟩
end Go.Proofs.Ytonipihlpbaknaa.Print
namespace Go.Proofs.Ytonipihlpbaknaa.Print
open Go.RowKit Go.Proofs.YtonipihlpbaknaaW.PrintWords Go.Proofs.YtonipihlpbaknaaW.PrintLast Go.Proofs.YtonipihlpbaknaaW.PrintMore
attribute [local go_sem] max2_int min2_int max_two min_two max_three min_three max_four min_four   -- for this text's walks alone
set_option linter.unusedVariables false
set_option linter.unusedSimpArgs false
def scarfjointref05_Few.f (l0_0 : List Int) (l0_1 : List (S78)) : Option (Bool) := if (l0_0.length : Int) ≤ 45 then (some (decide ((l0_1.length : Int) ≤ 90))) else (some false)
set_option maxHeartbeats 8000000 in
set_option maxRecDepth 100000 in
theorem scarfjointref05_Few.calls (A0_0 : Option Addr) (c0_0 : Nat) (l0_0 : List Int) (A0_1 : Option Addr) (c0_1 : Nat) (l0_1 : List (S78)) (r : Bool) (w : World) (hr0_0 : Kd.C (Kd.int .i64) w A0_0 l0_0.length l0_0) (hc0_0 : l0_0.length ≤ c0_0) (hr0_1 : Kd.C k78 w A0_1 l0_1.length l0_1) (hc0_1 : l0_1.length ≤ c0_1) (h : scarfjointref05_Few.f l0_0 l0_1 = some r) :
  Calls Try.prog 50 #[.agg #[.slice A0_0 l0_0.length c0_0, .slice A0_1 l0_1.length c0_1]] w fun e w' => e = .returned (.bool r) ∧ Below w.heap.size w w' := by
 have hu25 := Try.underlying25; have HR0_0 := Aside0.mk hr0_0; have HC0_0 := Aside0.mk hc0_0; clear hr0_0 hc0_0; have HR0_1 := Aside0.mk hr0_1; have HC0_1 := Aside0.mk hc0_1; clear hr0_1 hc0_1; have HB := Aside0.mk (Below.refl w.heap.size w); have H : (if (l0_0.length : Int) ≤ 45 then (some (decide ((l0_1.length : Int) ≤ 90))) else (some false)) = some r := h; clear h
 by_cases c2 : (l0_0.length : Int) ≤ 45
 ·rw [if_pos c2] at H
  have c2b0 : decide ((l0_0.length : Int) ≤ 45) = true := decide_eq_true c2; have c2b1 : decide (l0_0.length ≤ 45) = true := decide_eq_true (by omega); clear c2; obtain rfl := Option.some.inj H
  go_enter Try.func50, Try.ntmps50
  go_wp2_with (first | ((with_reducible refine gate_dst (N := 1) rfl ?_); (try (refine gate_guard (by rfl) ?_; dsimp only)); refine box_event ?hg (N := 1) ?hd (cs := #[.slice A0_0 l0_0.length c0_0, .slice A0_1 l0_1.length c0_1]) (t := 25) ?hr ?_; (case hd => rfl); (case hg => rfl); (case hr => first | (go_simp; done) | (go_simp; rfl)); intro gb101 hg w3 hbox hb; have n0_ := Aside0.mk (below_step (by repeat (first | (with_reducible first | exact HB.out | apply lA_ | apply lN_ | apply lD_) | exact HB.out)) hb); have n1_ := Aside0.mk (hbox); have n2_ := Aside0.mk ((by rw [hg]; exact (below_size (by repeat (first | (with_reducible first | exact HB.out | apply lA_ | apply lN_ | apply lD_) | exact HB.out))) : w.heap.size ≤ gb101)); have n3_ := Aside0.mk ((by rw [hg]; exact (below_size (by repeat (first | (with_reducible first | exact HB.out | apply lA_ | apply lN_ | apply lD_) | exact HB.out))) : w.heap.size ≤ gb101)); clear HB; have HB := n0_; have BK101 := n1_; have GW101 := n2_; have GE101 := n3_; clear n0_ n1_ n2_ n3_; clear hb hbox hg; have hcz4_0 : w3.cell? ⟨gb101, 0, none⟩ = some (.slice A0_0 l0_0.length c0_0) := (blk_cell BK101.out 0).trans rfl; have hcz4_1 : w3.cell? ⟨gb101, 1, none⟩ = some (.slice A0_1 l0_1.length c0_1) := (blk_cell BK101.out 1).trans rfl; have hfz4_0 := blk_frozen BK101.out 0; have hfz4_1 := blk_frozen BK101.out 1))
  go_ret
  exact ⟨by first | rfl | (simp [errW_none, errW_some] <;> rfl) | (simp [*, errW_none, errW_some] <;> rfl), by repeat (first | (with_reducible first | exact HB.out | apply lA_ | apply lN_ | apply lD_ | refine below_set ?_ GE101.out) | exact HB.out)⟩
 ·rw [if_neg c2] at H
  have c2b0 : decide ((l0_0.length : Int) ≤ 45) = false := decide_eq_false c2; have c2b1 : decide (l0_0.length ≤ 45) = false := decide_eq_false (by omega); clear c2; obtain rfl := Option.some.inj H
  go_enter Try.func50, Try.ntmps50
  go_wp2_with (first | ((with_reducible refine gate_dst (N := 1) rfl ?_); (try (refine gate_guard (by rfl) ?_; dsimp only)); refine box_event ?hg (N := 1) ?hd (cs := #[.slice A0_0 l0_0.length c0_0, .slice A0_1 l0_1.length c0_1]) (t := 25) ?hr ?_; (case hd => rfl); (case hg => rfl); (case hr => first | (go_simp; done) | (go_simp; rfl)); intro gb101 hg w5 hbox hb; have n0_ := Aside0.mk (below_step (by repeat (first | (with_reducible first | exact HB.out | apply lA_ | apply lN_ | apply lD_) | exact HB.out)) hb); have n1_ := Aside0.mk (hbox); have n2_ := Aside0.mk ((by rw [hg]; exact (below_size (by repeat (first | (with_reducible first | exact HB.out | apply lA_ | apply lN_ | apply lD_) | exact HB.out))) : w.heap.size ≤ gb101)); have n3_ := Aside0.mk ((by rw [hg]; exact (below_size (by repeat (first | (with_reducible first | exact HB.out | apply lA_ | apply lN_ | apply lD_) | exact HB.out))) : w.heap.size ≤ gb101)); clear HB; have HB := n0_; have BK101 := n1_; have GW101 := n2_; have GE101 := n3_; clear n0_ n1_ n2_ n3_; clear hb hbox hg; have hcz6_0 : w5.cell? ⟨gb101, 0, none⟩ = some (.slice A0_0 l0_0.length c0_0) := (blk_cell BK101.out 0).trans rfl; have hcz6_1 : w5.cell? ⟨gb101, 1, none⟩ = some (.slice A0_1 l0_1.length c0_1) := (blk_cell BK101.out 1).trans rfl; have hfz6_0 := blk_frozen BK101.out 0; have hfz6_1 := blk_frozen BK101.out 1))
  go_ret
  exact ⟨by first | rfl | (simp [errW_none, errW_some] <;> rfl) | (simp [*, errW_none, errW_some] <;> rfl), by repeat (first | (with_reducible first | exact HB.out | apply lA_ | apply lN_ | apply lD_ | refine below_set ?_ GE101.out) | exact HB.out)⟩
end Go.Proofs.Ytonipihlpbaknaa.Print
namespace Go.Proofs.Ytonipihlpbaknaa.Print
set_option linter.unusedVariables false
open Go.RowKit Go.Proofs.YtonipihlpbaknaaW.PrintWords Go.Proofs.YtonipihlpbaknaaW.PrintLast Go.Proofs.YtonipihlpbaknaaW.PrintMore
def fewB (x : S27) : Bool := decide (wrap64 ((x.f0.length : Int) + (x.f1.length : Int)) ≤ 150)
def smallG (l0 : List Int) (l1 : List S78) : Bool := decide ((l0.length : Int) ≤ 45) && decide ((l1.length : Int) ≤ 90)
def scarfjointlaw07_small.f (l0_0 : List Int) (l0_1 : List S78) (l1 : List S27) : Option Bool := some (smallG l0_0 l0_1 && !(l1.any fun x => !fewB x))
theorem small1 (x : S27) (A0 : Option Addr) (c0 : Nat) (A1 : Option Addr) (c1 : Nat) (W : World) (h0 : Kd.C (Kd.int .i64) W A0 x.f0.length x.f0) (hc0 : x.f0.length ≤ c0) (h1 : Kd.C (Kd.int .i64) W A1 x.f1.length x.f1) (hc1 : x.f1.length ≤ c1) :
    Calls Try.prog 52 #[.agg #[.slice A0 x.f0.length c0, .slice A1 x.f1.length c1]] W fun e w' => e = .returned (.bool (!fewB x)) ∧ Below W.heap.size W w' := by
  have H := fun (W' : World) (hb : Below W.heap.size W W') => scarfjointref07_Few.calls A0 c0 x.f0 A1 c1 x.f1 150 (fewB x) W' (Kd.C_below h0 hb) hc0 (Kd.C_below h1 hb) hc1 rfl
  have H1 := Lib.hid H; clear H h0 h1 hc0 hc1; generalize fewB x = b at H1 ⊢
  go_enter Try.func52, Try.ntmps52
  go_wp2_with fail
  refine (H1.out _ (by exact below_alloc (Below.refl _ _) _)).mono ?_
  rintro e w' ⟨rfl, hb⟩; have X := Lib.hid (below_then (below_alloc (Below.refl W.heap.size W) (.cells #[.slice A0 x.f0.length c0, .slice A1 x.f1.length c1] 27)) (by simp) hb); clear hb H1
  go_wp2_with fail
  go_ret
  exact ⟨rfl, X.out⟩
set_option maxHeartbeats 1000000 in
theorem idx_parts (A : Option Addr) (c : Nat) (l : List S27) (w0 w : World) (hb : Below w0.heap.size w0 w) (hr : Kd.C k27 w0 A l.length l) :
  Calls Try.prog 85 #[.slice A l.length c, .func (.func 52) #[] #[]] w fun e w' => (∃ n : Int, e = .returned (.int .i64 n) ∧ decide (0 ≤ n) = l.any fun x => !fewB x) ∧ Below w0.heap.size w0 w' := by
 have eg : ∀ args w, (callFunc 52 args).run Try.prog w = .ok (.enter 52 args) w := enters_of Try.func52 (by kernel_rfl) rfl
 have hmx := Kd.C_max hr; have HR := Lib.hid hr; have HB := Lib.hid hb; clear hr hb
 go_enter Try.func85, Try.ntmps85
 go_wp2
 go_loopg [5, 8] l.length (fun gg _ s8 wr => ∃ k : Nat, k ≤ l.length ∧ l.length - k ≤ gg ∧ s8 = .int .i64 k ∧ Aside0 (Below w0.heap.size w0 wr) ∧ Aside0 ((l.take k).any (fun x => !fewB x) = false))
 case atStart => exact ⟨0, Nat.zero_le _, by omega, rfl, ⟨HB.out⟩, ⟨by simp⟩⟩
 case round =>
  obtain ⟨k, hk, hg, rfl, BW, A1⟩ := hrel
  by_cases hlt : k < l.length
  ·obtain ⟨ad, B0, d0, B1, d1, rfl, h0, h1, m0, g0, m1, g1⟩ := at_T27 HR.out (k : Int) (by omega) (by omega)
   have h0' := (BW.out.cell (World.block_lt_of_cell? w0 _ h0)).trans h0; have h1' := (BW.out.cell (World.block_lt_of_cell? w0 _ h1)).trans h1; clear h0 h1; simp only [Int.toNat_natCast] at h0' h1'
   have hltz : (k : Int) < (l.length : Int) := by omega
   have hel : rd_T27 l k = l[k] := by simp [rd_T27, List.getD_eq_getElem?_getD, hlt]
   have hcall := (small1 (rd_T27 l k) B0 d0 B1 d1 wr (Kd.C_below g0 BW.out) m0 (Kd.C_below g1 BW.out) m1).mono (R' := fun e w' => e = .returned (.bool (!fewB (rd_T27 l k))) ∧ Below w0.heap.size w0 w') (by rintro e w' ⟨rfl, h⟩; exact ⟨rfl, below_then BW.out BW.out.size h⟩); clear m0 g0 m1 g1; generalize rd_T27 l k = y at hel hcall h0' h1'; have E1 := Lib.hid hel; clear hel
   cases hq : fewB y with
   | false =>
    rw [hq] at hcall; have E2 := Lib.hid hq; clear hq
    go_wp2_with (go_at_fn 52; refine hcall.mono ?_; rintro e w' ⟨rfl, hb'⟩)
    go_ret
    refine ⟨⟨k, rfl, ?_⟩, hb'⟩
    have : (l.any fun x => !fewB x) = true := List.any_eq_true.2 ⟨l[k], List.getElem_mem _, by rw [← E1.out, E2.out]; rfl⟩; rw [this]
    simp
   | true =>
    rw [hq] at hcall; have E2 := Lib.hid hq; clear hq
    go_wp2_with (go_at_fn 52; refine hcall.mono ?_; rintro e w' ⟨rfl, hb'⟩)
    go_roundg (l.length - (k + 1))
    case measure => omega
    case rel =>
     refine ⟨k + 1, by omega, by omega, by go_num, ⟨hb'⟩, ⟨?_⟩⟩
     rw [List.take_succ_eq_append_getElem hlt, List.any_append, A1.out, ← E1.out]
     simp [E2.out]
  ·have hltz : ¬ (k : Int) < (l.length : Int) := by omega
   go_wp2
   go_ret
   refine ⟨⟨-1, rfl, ?_⟩, BW.out⟩
   have := A1.out; rw [List.take_of_length_le (by omega)] at this; rw [this]
   rfl
theorem contains_parts (A : Option Addr) (c : Nat) (l : List S27) (w0 w : World) (hb : Below w0.heap.size w0 w) (hr : Kd.C k27 w0 A l.length l) :
    Calls Try.prog 51 #[.slice A l.length c, .func (.func 52) #[] #[]] w fun e w' => e = .returned (.bool (l.any fun x => !fewB x)) ∧ Below w0.heap.size w0 w' := by
  have H := idx_parts A c l w0 w hb hr; clear hb hr
  go_enter Try.func51, Try.ntmps51
  go_wp2_with (go_at_call 85; refine H.mono ?_; rintro e w' ⟨⟨n, rfl, hn⟩, hb'⟩)
  go_ret
  exact ⟨by first | rfl | simp_all, hb'⟩
set_option maxHeartbeats 1000000 in
theorem scarfjointlaw07_small.calls (A0_0 : Option Addr) (c0_0 : Nat) (l0_0 : List Int) (A0_1 : Option Addr) (c0_1 : Nat) (l0_1 : List (S78)) (A1 : Option Addr) (c1 : Nat) (l1 : List S27) (r : Bool) (w : World) (hr0_0 : Kd.C (Kd.int .i64) w A0_0 l0_0.length l0_0) (hc0_0 : l0_0.length ≤ c0_0) (hr0_1 : Kd.C k78 w A0_1 l0_1.length l0_1) (hc0_1 : l0_1.length ≤ c0_1) (hr1 : Kd.C k27 w A1 l1.length l1) (hc1 : l1.length ≤ c1) (h : scarfjointlaw07_small.f l0_0 l0_1 l1 = some r) :
    Calls Try.prog 12 #[.agg #[.slice A0_0 l0_0.length c0_0, .slice A0_1 l0_1.length c0_1], .slice A1 l1.length c1] w fun e w' => e = .returned (.bool r) ∧ Below w.heap.size w w' := by
  obtain rfl := Option.some.inj h
  have H0 := fun (W : World) (hb : Below w.heap.size w W) => scarfjointref05_Few.calls A0_0 c0_0 l0_0 A0_1 c0_1 l0_1 (smallG l0_0 l0_1) W (Kd.C_below hr0_0 hb) hc0_0 (Kd.C_below hr0_1 hb) hc0_1 (by
    unfold scarfjointref05_Few.f smallG
    by_cases e : (l0_0.length : Int) ≤ 45
    · rw [if_pos e, decide_eq_true e]
      simp
    · rw [if_neg e, decide_eq_false e]
      simp)
  have H1 := fun (W : World) (hb : Below w.heap.size w W) => contains_parts A1 c1 l1 w W hb hr1
  have D0 := Lib.hid H0; have D1 := Lib.hid H1; clear H0 H1 hr0_0 hr0_1 hr1 h; generalize smallG l0_0 l0_1 = b0 at D0 ⊢; generalize (l1.any fun x => !fewB x) = b1 at D1 ⊢
  cases b0 with
  | false =>
    go_enter Try.func12, Try.ntmps12
    go_wp2_with fail
    refine (D0.out _ (by exact below_alloc (Below.refl _ _) _)).mono ?_
    rintro e w1 ⟨rfl, hb⟩; have X := Lib.hid (below_then (below_alloc (Below.refl w.heap.size w) (.cells #[.slice A0_0 l0_0.length c0_0, .slice A0_1 l0_1.length c0_1] 25)) (by simp) hb); clear hb
    go_wp2_with fail
    go_ret
    exact ⟨rfl, X.out⟩
  | true =>
    go_enter Try.func12, Try.ntmps12
    go_wp2_with fail
    refine (D0.out _ (by exact below_alloc (Below.refl _ _) _)).mono ?_
    rintro e w1 ⟨rfl, hb⟩; have X := Lib.hid (below_then (below_alloc (Below.refl w.heap.size w) (.cells #[.slice A0_0 l0_0.length c0_0, .slice A0_1 l0_1.length c0_1] 25)) (by simp) hb); clear hb
    go_wp2_with fail
    refine (D1.out _ X.out).mono ?_
    rintro e w2 ⟨rfl, hb⟩; have Y := Lib.hid hb; clear hb
    go_wp2_with fail
    go_ret
    exact ⟨rfl, Y.out⟩
end Go.Proofs.Ytonipihlpbaknaa.Print
namespace Go.Proofs.Ytonipihlpbaknaa.Print
open Go.RowKit Go.Proofs.YtonipihlpbaknaaW.PrintWords Go.Proofs.YtonipihlpbaknaaW.PrintLast Go.Proofs.YtonipihlpbaknaaW.PrintMore
theorem smallG_len {l0 : List Int} {l1 : List S78} (h : smallG l0 l1 = true) : l0.length ≤ 45 ∧ l1.length ≤ 90 := by
  simp [smallG] at h
  omega
theorem clone_ok (l : List Int) (h : l.length ≤ 1000) : slices_Clone_int_int.f l = some l := by
  unfold slices_Clone_int_int.f; rw [if_pos (by omega)]
theorem small_nil (l0 : List Int) (l1 : List S78) : scarfjointlaw07_small.f l0 l1 [] = some (smallG l0 l1) := by simp [scarfjointlaw07_small.f]
end Go.Proofs.Ytonipihlpbaknaa.Print
namespace Go.Proofs.Ytonipihlpbaknaa.Print
open Go.RowKit Go.Proofs.YtonipihlpbaknaaW.PrintWords Go.Proofs.YtonipihlpbaknaaW.PrintLast Go.Proofs.YtonipihlpbaknaaW.PrintMore
def scarfjointlaw07_awake.f : Option Bool := some true
theorem scarfjointlaw07_awake.calls (r : Bool) (w : World) (h : scarfjointlaw07_awake.f = some r) : Calls Try.prog 11 #[] w fun e w' => e = .returned (.bool r) ∧ Below w.heap.size w w' := by
  obtain rfl : true = r := by simpa [scarfjointlaw07_awake.f] using h
  exact scarfjointlaw07_awake.calls0 w
end Go.Proofs.Ytonipihlpbaknaa.Print
namespace Go.Proofs.Ytonipihlpbaknaa.Print
set_option linter.unusedVariables false
set_option linter.unusedSimpArgs false
open Go.RowKit Go.Proofs.YtonipihlpbaknaaW.PrintWords Go.Proofs.YtonipihlpbaknaaW.PrintLast Go.Proofs.YtonipihlpbaknaaW.PrintMore
theorem ends_ok {l0 : List Int} {l1 : List S78} (h : validB l0 l1 = 0) : EndsOk l0.length l1 := by
  intro e he; obtain ⟨j, hj, rfl⟩ := List.getElem_of_mem he; exact fits_of h j hj
end Go.Proofs.Ytonipihlpbaknaa.Print
namespace Go.Proofs.Ytonipihlpbaknaa.Print
set_option linter.unusedVariables false
set_option linter.unusedSimpArgs false
open Go.RowKit Go.Proofs.YtonipihlpbaknaaW.PrintWords Go.Proofs.YtonipihlpbaknaaW.PrintLast Go.Proofs.YtonipihlpbaknaaW.PrintMore
theorem rdT_mem {l1 : List S78} {x : Int} (h0 : 0 ≤ x) (h1 : x < l1.length) : rd_T78 l1 x ∈ l1 := by
  have e := rdT_get l1 x.toNat (by omega); rw [Int.toNat_of_nonneg h0] at e; rw [e]; exact List.getElem_mem _
theorem partE_of {l0 : List Int} {l1 : List S78} {ns es : List Int} (a1 : ns.Pairwise (· < ·)) (a2 : es.Pairwise (· < ·)) (r1 : ∀ x ∈ ns, 0 ≤ x ∧ x < l0.length) (r2 : ∀ x ∈ es, 0 ≤ x ∧ x < l1.length)
    (h : ∀ x ∈ es, (rd_T78 l1 x).f1 ∈ ns ∧ (rd_T78 l1 x).f2 ∈ ns) : partE l0 l1 ns es = 0 := by
  unfold partE; rw [if_pos (listE_of r1 a1 (by simp)), if_pos (listE_of r2 a2 (by simp)), if_pos]; rw [List.all_eq_true]; intro x hx; simp only [endsIn, Bool.and_eq_true, decide_eq_true_eq]; exact h x hx
theorem made_part {l0 : List Int} {l1 : List S78} {bs es : List Bool} (hb : bs.length = l0.length) (he : es.length = l1.length)
    (h : ∀ j, (hj : j < l1.length) → es.getD j false = true → bs.getD l1[j].f1.toNat false = true ∧ bs.getD l1[j].f2.toNat false = true) (ho : EndsOk l0.length l1) : partE l0 l1 (markedL bs) (markedL es) = 0 := by
  refine partE_of (markedL_asc _) (markedL_asc _) (fun x hx => ?_) (fun x hx => ?_) (fun x hx => ?_)
  · have := mem_markedL.1 hx
    exact ⟨this.1, by omega⟩
  · have := mem_markedL.1 hx
    exact ⟨this.1, by omega⟩
  · obtain ⟨h0, h1, h2⟩ := mem_markedL.1 hx
    have e := rdT_get l1 x.toNat (by omega); rw [Int.toNat_of_nonneg h0] at e; have hm := rdT_mem (l1 := l1) h0 (by omega); obtain ⟨o1, o2, o3, o4⟩ := ho _ hm; obtain ⟨q1, q2⟩ := h x.toNat (by omega) h2; rw [← e] at q1 q2; exact ⟨mem_markedL.2 ⟨o1, by omega, q1⟩, mem_markedL.2 ⟨o3, by omega, q2⟩⟩
end Go.Proofs.Ytonipihlpbaknaa.Print

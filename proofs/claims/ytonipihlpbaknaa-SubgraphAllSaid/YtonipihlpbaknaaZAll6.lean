/- A part of the proof that the law returns true at every input; what the walked functions compute. -/
import Derived.Test.YtonipihlpbaknaaZAll0
import Derived.Test.YtonipihlpbaknaaZAll1
import Derived.Test.YtonipihlpbaknaaZAll2
import Derived.Test.YtonipihlpbaknaaZAll3
import Derived.Test.YtonipihlpbaknaaZAll4
import Derived.Test.YtonipihlpbaknaaZAll5
namespace Go.Proofs.Ytonipihlpbaknaa.Print
set_option linter.unusedVariables false
set_option linter.unusedSimpArgs false
open Go.RowKit Go.Proofs.YtonipihlpbaknaaW.PrintWords Go.Proofs.YtonipihlpbaknaaW.PrintLast Go.Proofs.YtonipihlpbaknaaW.PrintMore
def partsIn (l0 : List Int) (l1 : List S78) (ns : List Int) (ess : List (List Int)) : List S27 := (ess.filter fun es => partE l0 l1 ns es == 0).map fun es => ⟨ns, es⟩
def partsL (l0 : List Int) (l1 : List S78) : List S27 := (subsetsL l0.length).flatMap fun ns => partsIn l0 l1 ns (subsetsL l1.length)
def subgraph_All.f (l0_0 : List Int) (l0_1 : List S78) : Option (List S27 × Int) :=
  some (if validB l0_0 l0_1 = 0 then if 6 < l0_0.length + l0_1.length then ([], 3) else (partsL l0_0 l0_1, 0) else ([], validB l0_0 l0_1))
/-- An element of a row of rows of the call's own. -/
theorem R_elem {ok : Nat → Prop} {w : World} {base : Nat} {v : Value} {xs : List (List Int)} (h : Kd.R (Kd.slice 3 (Kd.int .i64)) 22 w base ok v xs) (j : Nat) (hj : j < xs.length) :
    ∃ b cap u, v = .slice (some ⟨b, 0, none⟩) xs.length cap ∧ w.cell? ⟨b, j, none⟩ = some u ∧ Kd.R (Kd.int .i64) 3 w base ok u xs[j] := by
  obtain ⟨b, cap, rfl, _, _, _⟩ := Kd.R_form h (by omega)
  obtain ⟨hok, inner, hown, hreps⟩ := h
  have hel := hreps.2 j xs[j] (List.getElem?_eq_getElem hj)
  have hl : inner.length = xs.length * 1 := hreps.1
  have hl' : j < inner.length := by omega
  have e : (inner.drop (j * 1)).take 1 = [inner[j]] := by
    rw [Nat.mul_one, List.drop_eq_getElem_cons hl']
    rfl
  rw [show (Kd.slice 3 (Kd.int .i64)).sz = 1 from rfl, e] at hel
  obtain ⟨u, eu, hr⟩ := hel
  cases eu
  refine ⟨b, cap, _, rfl, ?_, Kd.R_mono hr (fun k hk => hk.1)⟩
  have := hown.cells (g := b) rfl j inner[j] (by rw [List.getElem?_eq_getElem hl'])
  rwa [add_plain] at this
theorem R_apart2 {ok ok' : Nat → Prop} {w : World} {base : Nat} {u v : Value} {l : List Int} {xs : List S27} (h : Kd.R (Kd.int .i64) 3 w base ok u l) (ho : Kd.R k27 27 w base ok' v xs) : Kd.R (Kd.int .i64) 3 w base (fun k => True ∧ some k ≠ v.ownBlock) u l :=
  Kd.R_mono (Kd.R_bound h) (fun k hk => ⟨trivial, fun e => by
    obtain ⟨_, _, _, q, hq, cells, hc⟩ := hk
    obtain ⟨inner, hown⟩ := Kd.R_own ho
    obtain ⟨cells', hc'⟩ := own_typed hown k e.symm
    rw [hc] at hc'
    injection hc' with hc'
    injection hc' with _ hc'
    have : q = 3 := by simpa [Kd.int, Kd.scalar] using hq
    rw [this] at hc'
    exact absurd hc' (by decide)⟩)
theorem subsetsL_len (n : Nat) (l : List Int) (h : l ∈ subsetsL n) : l.length ≤ n := by
  unfold subsetsL at h
  rw [List.mem_mergeSort] at h
  obtain ⟨s, _, rfl⟩ := List.mem_map.1 h
  exact bitsL_len n s
theorem subsetsL_size (n : Nat) : (subsetsL n).length = 2 ^ n := by
  unfold subsetsL
  rw [List.length_mergeSort, genL_len]
theorem flatMap_le {α β : Type} (l : List α) (f : α → List β) (M : Nat) (h : ∀ x, (f x).length ≤ M) : (l.flatMap f).length ≤ l.length * M := by
  induction l with
  | nil => simp
  | cons x l ih =>
    have := h x
    simp only [List.flatMap_cons, List.length_append, List.length_cons, Nat.add_mul, Nat.one_mul]
    omega
theorem partsIn_le (l0 : List Int) (l1 : List S78) (ns : List Int) (ess : List (List Int)) : (partsIn l0 l1 ns ess).length ≤ ess.length := by
  unfold partsIn
  rw [List.length_map]
  exact List.length_filter_le _ _
theorem partsL_lim (l0 : List Int) (l1 : List S78) (ns : List Int) (k j : Nat) (hs : l0.length + l1.length ≤ 6) : (((((subsetsL l0.length).take k).flatMap fun ns => partsIn l0 l1 ns (subsetsL l1.length)) ++ partsIn l0 l1 ns ((subsetsL l1.length).take j)).length + 1) * 48 ≤ 140737488355328 := by
  have e1 : (subsetsL l0.length).length ≤ 64 := by rw [subsetsL_size]; exact Nat.le_trans (Nat.pow_le_pow_right (by omega) (show l0.length ≤ 6 by omega)) (by decide)
  have e2 : (subsetsL l1.length).length ≤ 64 := by rw [subsetsL_size]; exact Nat.le_trans (Nat.pow_le_pow_right (by omega) (show l1.length ≤ 6 by omega)) (by decide)
  have h1 := flatMap_le ((subsetsL l0.length).take k) (fun ns => partsIn l0 l1 ns (subsetsL l1.length)) 64 (fun x => Nat.le_trans (partsIn_le _ _ _ _) e2)
  have h2 := partsIn_le l0 l1 ns ((subsetsL l1.length).take j)
  rw [List.length_take] at h1 h2
  rw [List.length_append]
  omega
theorem partsIn_snoc (l0 : List Int) (l1 : List S78) (nss ess : List (List Int)) (k : Nat) (h : k < nss.length) : ((nss.take (k + 1)).flatMap fun ns => partsIn l0 l1 ns ess) = ((nss.take k).flatMap fun ns => partsIn l0 l1 ns ess) ++ partsIn l0 l1 nss[k] ess := by
  rw [List.take_succ_eq_append_getElem h, List.flatMap_append]
  simp
theorem partsIn_step (l0 : List Int) (l1 : List S78) (ns : List Int) (ess : List (List Int)) (j : Nat) (h : j < ess.length) : partsIn l0 l1 ns (ess.take (j + 1)) = partsIn l0 l1 ns (ess.take j) ++ (if partE l0 l1 ns ess[j] == 0 then [⟨ns, ess[j]⟩] else []) := by
  unfold partsIn
  rw [List.take_succ_eq_append_getElem h, List.filter_append, List.map_append]
  congr 1
  by_cases e : (partE l0 l1 ns ess[j] == 0) = true
  · simp only [List.filter_cons, e, if_true, List.filter_nil, List.map_cons, List.map_nil]
  · simp only [List.filter_cons, e, List.filter_nil, List.map_nil]
    rfl
set_option maxHeartbeats 4000000 in
set_option maxRecDepth 100000 in
theorem All_c (A0 : Option Addr) (c0 : Nat) (l0 : List Int) (A1 : Option Addr) (c1 : Nat) (l1 : List S78) (w : World) (hr0 : Kd.C (Kd.int .i64) w A0 l0.length l0) (hc0 : l0.length ≤ c0) (hr1 : Kd.C k78 w A1 l1.length l1) (hc1 : l1.length ≤ c1) (hv : validB l0 l1 = 0) (hs : l0.length + l1.length ≤ 6) :
    Calls Try.prog 24 #[.agg #[.slice A0 l0.length c0, .slice A1 l1.length c1]] w fun e w' => ∃ v0_ : Value, e = .returned (.tuple #[v0_, .int .i64 0]) ∧ Kd.R k27 27 w' w.heap.size (fun _ => True) v0_ (partsL l0 l1) ∧ Below w.heap.size w w' := by
  have H0 := fun (W : World) (hb : Below w.heap.size w W) => graph_Valid.calls0 A0 c0 l0 A1 c1 l1 W (Kd.C_below hr0 hb) (Kd.C_below hr1 hb)
  rw [hv] at H0
  have D0 := Lib.hid H0
  have D1 := Lib.hid (fun (W : World) => subsets_gen l0.length (by omega) W)
  have D2 := Lib.hid (fun (W : World) => subsets_gen l1.length (by omega) W)
  have D3 := Lib.hid (fun (W : World) (hb : Below w.heap.size w W) (B0 : Option Addr) (d0 : Nat) (ns : List Int) (B1 : Option Addr) (d1 : Nat) (es : List Int) (h0 : Kd.C (Kd.int .i64) W B0 ns.length ns) (m0 : ns.length ≤ d0) (h1 : Kd.C (Kd.int .i64) W B1 es.length es) (m1 : es.length ≤ d1) (hn : ns.length < 100) (he : es.length < 100) =>
    subgraph_part.calls 1000 A0 c0 l0 A1 c1 l1 B0 d0 ns B1 d1 es _ W (Kd.C_below hr0 hb) hc0 (Kd.C_below hr1 hb) hc1 h0 m0 h1 m1 (part_ok l0 l1 ns es (by omega) (by omega) 1000 (by omega)))
  clear H0 hr0 hr1 hv
  have hL0 : (subsetsL l0.length).length ≤ 64 := by rw [subsetsL_size]; exact Nat.le_trans (Nat.pow_le_pow_right (by omega) (show l0.length ≤ 6 by omega)) (by decide)
  have hL1 : (subsetsL l1.length).length ≤ 64 := by rw [subsetsL_size]; exact Nat.le_trans (Nat.pow_le_pow_right (by omega) (show l1.length ≤ 6 by omega)) (by decide)
  have gs : decide ((l0.length : Int) + l1.length > 6) = false := by simp; omega
  go_enter Try.func24, Try.ntmps24
  go_wp2_with fail
  refine (D0.out _ (by exact below_alloc (Below.refl _ _) _)).mono ?_
  rintro en w1 ⟨rfl, hb⟩
  have HB := Lib.hid (below_then (below_alloc (Below.refl w.heap.size w) (.cells #[.slice A0 l0.length c0, .slice A1 l1.length c1] 25)) (by simp) hb)
  have HG := Lib.hid (blk_below (blk_new w (.cells #[.slice A0 l0.length c0, .slice A1 l1.length c1] 25)) hb)
  clear hb D0
  have k0 := (blk_cell HG.out 0).trans rfl
  have k1 := (blk_cell HG.out 1).trans rfl
  go_wp2_with fail
  refine (D1.out _).mono ?_
  rintro en w2 ⟨v2, rfl, ho, hb⟩
  have HO2 := Lib.hid (Kd.R_lower ho HB.out.size)
  have HB2 := Lib.hid (below_then HB.out HB.out.size hb)
  have HG2 := Lib.hid (blk_below HG.out hb)
  obtain ⟨A2, c2, rfl⟩ := Kd.R_slice ho
  clear ho hb k0 k1 HB HG D1
  go_wp2_with fail
  go_loopg [5, 7, 29] (subsetsL l0.length).length (fun gg s5 _ s29 wr => ∃ k : Nat, k ≤ (subsetsL l0.length).length ∧ (subsetsL l0.length).length - k ≤ gg ∧ s29 = .int .i64 k ∧ Aside0 (Kd.R k27 27 wr w2.heap.size (fun _ => True) s5 (((subsetsL l0.length).take k).flatMap fun ns => partsIn l0 l1 ns (subsetsL l1.length))) ∧ Aside0 (Below w2.heap.size w2 wr))
  case atStart => exact ⟨0, Nat.zero_le _, by omega, rfl, ⟨by simpa using Kd.R_nil _ _ _ _ _⟩, ⟨Below.refl _ _⟩⟩
  case round =>
    obtain ⟨k, hk, hg, rfl, BO, BW⟩ := hrel
    by_cases hlt : k < (subsetsL l0.length).length
    · have hltz : (k : Int) < ((subsetsL l0.length).length : Int) := by omega
      obtain ⟨b2, cap2, u2, e2, q2', r2⟩ := R_elem HO2.out k hlt
      have q2 := (BW.out.cell (World.block_lt_of_cell? w2 _ q2')).trans q2'
      clear q2'
      injection e2 with e21 e22 e23
      subst e21 e23
      obtain ⟨B7, d7, rfl, m7, h7⟩ := Kd.R_reads r2
      have C7 := Lib.hid h7
      have N7 : Hid ((subsetsL l0.length)[k].length < 100) := by have := subsetsL_len l0.length _ (List.getElem_mem hlt); show _ < 100; omega
      have E7 := Lib.hid (partsIn_snoc l0 l1 (subsetsL l0.length) (subsetsL l1.length) k hlt)
      have M7 := Lib.hid m7
      obtain ⟨wo, rfl⟩ : ∃ wo : World, wo = wr := ⟨_, rfl⟩
      have HGo := Lib.hid (blk_below HG2.out BW.out)
      have HBo := Lib.hid (below_then HB2.out HB2.out.size BW.out)
      have g0 := (blk_cell HGo.out 0).trans rfl
      have g1 := (blk_cell HGo.out 1).trans rfl
      clear r2 h7 m7
      generalize (subsetsL l0.length)[k] = ns at C7 N7 E7 q2 M7
      go_wp2_with fail
      refine (D2.out _).mono ?_
      rintro en w3 ⟨v3, rfl, ho, hb⟩
      obtain ⟨A3, c3, rfl⟩ := Kd.R_slice ho
      have HO3 := Lib.hid (Kd.R_lower ho BW.out.size)
      have BO3 := Lib.hid (Kd.R_below BO.out hb)
      have BW3 := Lib.hid (below_then BW.out BW.out.size hb)
      clear ho hb BO BW HGo HBo q2 g0 g1
      go_wp2_with fail
      go_loopg [5, 9, 10, 38] (subsetsL l1.length).length (fun gg s5 _ _ s38 wr => ∃ j : Nat, j ≤ (subsetsL l1.length).length ∧ (subsetsL l1.length).length - j ≤ gg ∧ s38 = .int .i64 j ∧ Aside0 (Kd.R k27 27 wr w2.heap.size (fun _ => True) s5 ((((subsetsL l0.length).take k).flatMap fun ns => partsIn l0 l1 ns (subsetsL l1.length)) ++ partsIn l0 l1 ns ((subsetsL l1.length).take j))) ∧ Aside0 (Kd.R (Kd.slice 3 (Kd.int .i64)) 22 wr w2.heap.size (fun _ => True) (.slice A3 (subsetsL l1.length).length c3) (subsetsL l1.length)) ∧ Aside0 (Below w2.heap.size w2 wr))
      case atStart => exact ⟨0, Nat.zero_le _, by omega, rfl, ⟨by simpa [partsIn] using BO3.out⟩, ⟨HO3.out⟩, ⟨BW3.out⟩⟩
      case round =>
        clear BO3 HO3 BW3
        obtain ⟨j, hj, hgj, rfl, BO, RO, BW⟩ := hrel
        by_cases hltj : j < (subsetsL l1.length).length
        · have hltjz : (j : Int) < ((subsetsL l1.length).length : Int) := by omega
          obtain ⟨b3, cap3, u3, e3, q3, r3⟩ := R_elem RO.out j hltj
          injection e3 with e31 e32 e33
          subst e31 e33
          obtain ⟨B9, d9, rfl, m9, h9⟩ := Kd.R_reads r3
          have N9 : Hid ((subsetsL l1.length)[j].length < 100) := by have := subsetsL_len l1.length _ (List.getElem_mem hltj); show _ < 100; omega
          have E9 := Lib.hid (partsIn_step l0 l1 ns (subsetsL l1.length) j hltj)
          have M9 := Lib.hid m9
          have R9 := Lib.hid r3
          clear r3 h9 m9
          generalize (subsetsL l1.length)[j] = es at N9 E9 q3 M9 R9
          go_wp2_with fail
          refine (slices_Clone_int_int.calls B7 d7 ns ns _ (Kd.C_below C7.out BW.out) M7.out (if_pos (by have := N7.out; omega))).mono ?_
          rintro en w4 ⟨v4, rfl, ho, hb⟩
          obtain ⟨A4, c4, rfl⟩ := Kd.R_slice ho
          have R4 := Lib.hid (Kd.R_lower ho BW.out.size)
          have BO4 := Lib.hid (Kd.R_below BO.out hb)
          have RO4 := Lib.hid (Kd.R_below RO.out hb)
          have R94 := Lib.hid (Kd.R_below R9.out hb)
          have BW4 := Lib.hid (below_then BW.out BW.out.size hb)
          clear ho hb BO RO R9 BW q3
          have HG4 := Lib.hid (blk_below HG2.out BW4.out)
          have g0 := (blk_cell HG4.out 0).trans rfl
          have g1 := (blk_cell HG4.out 1).trans rfl
          have hlt4 : w.heap.size < w4.heap.size := blk_lt HG4.out
          go_wp2_with fail
          have PC := Lib.hid (D3.out (w4.alloc (.cells #[.slice A4 ns.length c4, .slice B9 es.length d9] 27)) (below_alloc (below_then HB2.out HB2.out.size BW4.out) _) A4 c4 ns B9 d9 es (Kd.C_alloc (Kd.R_reads' R4.out).2.2 _) (Kd.R_reads' R4.out).2.1 (Kd.C_alloc (Kd.R_reads' R94.out).2.2 _) (Kd.R_reads' R94.out).2.1 N7.out N9.out)
          refine PC.out.mono ?_
          rintro en w5 ⟨rfl, hb⟩
          have BO5 := Lib.hid (Kd.R_below (Kd.R_alloc BO4.out (.cells #[.slice A4 ns.length c4, .slice B9 es.length d9] 27)) hb)
          have RO5 := Lib.hid (Kd.R_below (Kd.R_alloc RO4.out (.cells #[.slice A4 ns.length c4, .slice B9 es.length d9] 27)) hb)
          have R45 := Lib.hid (Kd.R_below (Kd.R_alloc R4.out (.cells #[.slice A4 ns.length c4, .slice B9 es.length d9] 27)) hb)
          have R95 := Lib.hid (Kd.R_below (Kd.R_alloc R94.out (.cells #[.slice A4 ns.length c4, .slice B9 es.length d9] 27)) hb)
          have BW5 := Lib.hid (below_then (below_alloc BW4.out (.cells #[.slice A4 ns.length c4, .slice B9 es.length d9] 27)) (by have := BW4.out.size; simp; omega) hb)
          have HP5 := Lib.hid (blk_below (blk_new w4 (.cells #[.slice A4 ns.length c4, .slice B9 es.length d9] 27)) hb)
          clear hb BO4 RO4 R4 R94 BW4 HG4 g0 g1 PC
          have p0 := (blk_cell HP5.out 0).trans rfl
          have p1 := (blk_cell HP5.out 1).trans rfl
          generalize partE l0 l1 ns es = pe at E9 ⊢
          cases hpe : (pe == 0) with
          | true =>
            have S1 := Lib.hid (R_apart2 R45.out BO5.out)
            have S2 := Lib.hid (R_apart2 R95.out BO5.out)
            go_wp2_with ((with_reducible refine gate_builtin (b := .append) (xs := #[.tmp 50, .tmp 52]) rfl ?_); at_builtin; refine Kd.R_append k27 (w0 := w2) w2.heap.size rfl (.tmp 50) (.tmp 52) 42 27 (.agg #[.slice none 0 0, .slice none 0 0]) 48 rfl Try.underlying42 info27 rfl (by decide) (by omega) u5 ((((subsetsL l0.length).take k).flatMap fun ns => partsIn l0 l1 ns (subsetsL l1.length)) ++ partsIn l0 l1 ns ((subsetsL l1.length).take j)) (⟨ns, es⟩ : S27) [.slice A4 ns.length c4, .slice B9 es.length d9] (fun _ => True) (fun k => True ∧ some k ≠ (u5 : Value).ownBlock) rfl rfl ?aP ?aK ?aF ?aO ?aB ?aS ?aL ?_; (case aP => exact k27_mkM _ _ _ (⟨ns, es⟩ : S27) S1.out S2.out); (case aK => exact (fun _ hk => hk)); (case aB => exact BW5.out); (case aF => exact (fun _ _ => trivial)); (case aO => exact BO5.out); (case aS => exact BW5.out.size); (case aL => exact partsL_lim l0 l1 ns k j hs); intro v8 w8 ho hb1 hg1 hat; have HO8 := Lib.hid ho; have BW8 := Lib.hid hb1; have RO8 := Lib.hid (Kd.R_over RO5.out BO5.out (by decide) hg1); clear ho hb1 hg1 hat)
            go_roundg ((subsetsL l1.length).length - (j + 1))
            case measure => omega
            case rel => exact ⟨j + 1, by omega, by omega, by go_num, ⟨by rw [E9.out, if_pos hpe, ← List.append_assoc]; exact HO8.out⟩, ⟨RO8.out⟩, ⟨BW8.out⟩⟩
          | false =>
            go_wp2_with fail
            go_roundg ((subsetsL l1.length).length - (j + 1))
            case measure => omega
            case rel => exact ⟨j + 1, by omega, by omega, by go_num, ⟨by rw [E9.out, if_neg (by simp [hpe]), List.append_nil]; exact BO5.out⟩, ⟨RO5.out⟩, ⟨BW5.out⟩⟩
        · have hltjz : ¬ (j : Int) < ((subsetsL l1.length).length : Int) := by omega
          obtain rfl : j = (subsetsL l1.length).length := by omega
          have BO6 : Hid (Kd.R k27 27 wr w2.heap.size (fun _ => True) u5 (((subsetsL l0.length).take (k + 1)).flatMap fun ns => partsIn l0 l1 ns (subsetsL l1.length))) := by
            have := BO.out
            rw [List.take_length, ← E7.out] at this
            exact this
          have BW6 := Lib.hid BW.out
          clear BO RO BW hltj
          go_wp2_with fail
          go_roundg ((subsetsL l0.length).length - (k + 1))
          case measure => omega
          case rel => exact ⟨k + 1, by omega, by omega, by go_num, ⟨BO6.out⟩, ⟨BW6.out⟩⟩
    · have hltz : ¬ (k : Int) < ((subsetsL l0.length).length : Int) := by omega
      obtain rfl : k = (subsetsL l0.length).length := by omega
      have BO6 : Hid (Kd.R k27 27 wr w2.heap.size (fun _ => True) u5 (partsL l0 l1)) := by
        have := BO.out
        rw [List.take_length] at this
        exact this
      have BW6 := Lib.hid (below_then HB2.out HB2.out.size BW.out)
      clear BO BW hlt
      go_wp2_with fail
      go_ret2
      exact ⟨_, rfl, Kd.R_lower BO6.out HB2.out.size, BW6.out⟩
set_option maxHeartbeats 1000000 in
theorem All_a (A0 : Option Addr) (c0 : Nat) (l0 : List Int) (A1 : Option Addr) (c1 : Nat) (l1 : List S78) (w : World) (hr0 : Kd.C (Kd.int .i64) w A0 l0.length l0) (hr1 : Kd.C k78 w A1 l1.length l1) (e : Int) (he : validB l0 l1 = e) (hne : (e == 0) = false) :
    Calls Try.prog 24 #[.agg #[.slice A0 l0.length c0, .slice A1 l1.length c1]] w fun en w' => en = .returned (.tuple #[.slice none 0 0, .int .i64 e]) ∧ Below w.heap.size w w' := by
  have H0 := fun (W : World) (hb : Below w.heap.size w W) => graph_Valid.calls0 A0 c0 l0 A1 c1 l1 W (Kd.C_below hr0 hb) (Kd.C_below hr1 hb)
  rw [he] at H0
  have D0 := Lib.hid H0
  have hne2 : (e != 0) = true := by simpa [bne] using hne
  clear H0 hr0 hr1 he
  go_enter Try.func24, Try.ntmps24
  go_wp2_with fail
  refine (D0.out _ (by exact below_alloc (Below.refl _ _) _)).mono ?_
  rintro en w1 ⟨rfl, hb⟩
  have HB := Lib.hid (below_then (below_alloc (Below.refl w.heap.size w) (.cells #[.slice A0 l0.length c0, .slice A1 l1.length c1] 25)) (by simp) hb)
  clear hb D0
  go_wp2_with fail
  go_ret2
  exact ⟨rfl, HB.out⟩
set_option maxHeartbeats 1000000 in
theorem All_b (A0 : Option Addr) (c0 : Nat) (l0 : List Int) (A1 : Option Addr) (c1 : Nat) (l1 : List S78) (w : World) (hr0 : Kd.C (Kd.int .i64) w A0 l0.length l0) (hr1 : Kd.C k78 w A1 l1.length l1) (hv : validB l0 l1 = 0) (hs : 6 < l0.length + l1.length) (hm : l0.length + l1.length < 1000) :
    Calls Try.prog 24 #[.agg #[.slice A0 l0.length c0, .slice A1 l1.length c1]] w fun en w' => en = .returned (.tuple #[.slice none 0 0, .int .i64 3]) ∧ Below w.heap.size w w' := by
  have H0 := fun (W : World) (hb : Below w.heap.size w W) => graph_Valid.calls0 A0 c0 l0 A1 c1 l1 W (Kd.C_below hr0 hb) (Kd.C_below hr1 hb)
  rw [hv] at H0
  have D0 := Lib.hid H0
  have gs : decide ((6 : Int) < (l0.length : Int) + l1.length) = true := by simp; omega
  clear H0 hr0 hr1 hv
  go_enter Try.func24, Try.ntmps24
  go_wp2_with fail
  refine (D0.out _ (by exact below_alloc (Below.refl _ _) _)).mono ?_
  rintro en w1 ⟨rfl, hb⟩
  have HB := Lib.hid (below_then (below_alloc (Below.refl w.heap.size w) (.cells #[.slice A0 l0.length c0, .slice A1 l1.length c1] 25)) (by simp) hb)
  have HG := Lib.hid (blk_below (blk_new w (.cells #[.slice A0 l0.length c0, .slice A1 l1.length c1] 25)) hb)
  clear hb D0
  have k0 := (blk_cell HG.out 0).trans rfl
  have k1 := (blk_cell HG.out 1).trans rfl
  go_wp2_with fail
  go_ret2
  exact ⟨rfl, HB.out⟩
theorem validB_size (l0 : List Int) (l1 : List S78) (h : validB l0 l1 = 0) : l0.length ≤ 40 ∧ l1.length ≤ 80 := by
  unfold validB at h
  split at h
  · omega
  · split at h
    · omega
    · omega
theorem subgraph_All.callsR (A0_0 : Option Addr) (c0_0 : Nat) (l0_0 : List Int) (A0_1 : Option Addr) (c0_1 : Nat) (l0_1 : List (S78)) (r1 : List S27) (r2 : Int) (w : World) (hr0_0 : Kd.C (Kd.int .i64) w A0_0 l0_0.length l0_0) (hc0_0 : l0_0.length ≤ c0_0) (hr0_1 : Kd.C k78 w A0_1 l0_1.length l0_1) (hc0_1 : l0_1.length ≤ c0_1) (h : subgraph_All.f l0_0 l0_1 = some (r1, r2)) :
    Calls Try.prog 24 #[.agg #[.slice A0_0 l0_0.length c0_0, .slice A0_1 l0_1.length c0_1]] w fun e w' => ∃ v0_ : Value, e = .returned (.tuple #[v0_, .int .i64 r2]) ∧ Kd.R k27 27 w' w.heap.size (fun _ => True) v0_ r1 ∧ Below w.heap.size w w' := by
  unfold subgraph_All.f at h
  by_cases hv : validB l0_0 l0_1 = 0
  · rw [if_pos hv] at h
    have hz := validB_size l0_0 l0_1 hv
    by_cases hs : 6 < l0_0.length + l0_1.length
    · rw [if_pos hs] at h
      simp only [Option.some.injEq, Prod.mk.injEq] at h
      obtain ⟨rfl, rfl⟩ := h
      exact (All_b A0_0 c0_0 l0_0 A0_1 c0_1 l0_1 w hr0_0 hr0_1 hv hs (by omega)).mono fun e w' ⟨he, hb⟩ => ⟨_, he, Kd.R_nil _ _ _ _ _, hb⟩
    · rw [if_neg hs] at h
      simp only [Option.some.injEq, Prod.mk.injEq] at h
      obtain ⟨rfl, rfl⟩ := h
      exact All_c A0_0 c0_0 l0_0 A0_1 c0_1 l0_1 w hr0_0 hc0_0 hr0_1 hc0_1 hv (by omega)
  · rw [if_neg hv] at h
    simp only [Option.some.injEq, Prod.mk.injEq] at h
    obtain ⟨rfl, rfl⟩ := h
    exact (All_a A0_0 c0_0 l0_0 A0_1 c0_1 l0_1 w hr0_0 hr0_1 _ rfl (beq_eq_false_iff_ne.2 hv)).mono fun e w' ⟨he, hb⟩ => ⟨_, he, Kd.R_nil _ _ _ _ _, hb⟩
theorem subgraph_All.calls (A0_0 : Option Addr) (c0_0 : Nat) (l0_0 : List Int) (A0_1 : Option Addr) (c0_1 : Nat) (l0_1 : List (S78)) (r1 : List S27) (r2 : Int) (w : World) (hr0_0 : Kd.C (Kd.int .i64) w A0_0 l0_0.length l0_0) (hc0_0 : l0_0.length ≤ c0_0) (hr0_1 : Kd.C k78 w A0_1 l0_1.length l0_1) (hc0_1 : l0_1.length ≤ c0_1) (h : subgraph_All.f l0_0 l0_1 = some (r1, r2)) :
    Calls Try.prog 24 #[.agg #[.slice A0_0 l0_0.length c0_0, .slice A0_1 l0_1.length c0_1]] w fun e w' => ∃ v0_ : Value, e = .returned (.tuple #[v0_, .int .i64 r2]) ∧ Kd.N k27 27 w' w.heap.size (fun k_ => (w.heap.size ≤ k_)) v0_ r1 ∧ Below w.heap.size w w' := by
  refine (subgraph_All.callsR A0_0 c0_0 l0_0 A0_1 c0_1 l0_1 r1 r2 w hr0_0 hc0_0 hr0_1 hc0_1 h).mono ?_
  rintro e w' ⟨v, rfl, ho, hb⟩
  exact ⟨v, rfl, Kd.R_N (Kd.R_mono (Kd.R_bound ho) (fun _ hk => hk.2.1)), hb⟩
end Go.Proofs.Ytonipihlpbaknaa.Print
namespace Go.Proofs.Ytonipihlpbaknaa.Print
open Go.RowKit Go.Proofs.YtonipihlpbaknaaW.PrintWords Go.Proofs.YtonipihlpbaknaaW.PrintLast Go.Proofs.YtonipihlpbaknaaW.PrintMore
attribute [local go_sem] max2_int min2_int max_two min_two max_three min_three max_four min_four   -- for this text's walks alone
set_option linter.unusedVariables false
set_option linter.unusedSimpArgs false
def scarfjointref07_compare.l0 : Nat → List Int → List Int → Int → Option (Int)
  | 0, _, _, _ => none
  | k + 1, x0, x1, x5 => if x5 < (x0.length : Int) then (if 0 ≤ x5 then (if x5 < (x1.length : Int) then (if (rd x0 x5) = (rd x1 x5) then (scarfjointref07_compare.l0 k x0 x1 (wrap64 (x5 + 1))) else (some (wrap64 ((rd x0 x5) - (rd x1 x5))))) else (none)) else (none)) else (some 0)
def scarfjointref07_compare.f (k : Nat) (l0 : List Int) (l1 : List Int) : Option (Int) := if (l0.length : Int) = (l1.length : Int) then (scarfjointref07_compare.l0 k l0 l1 0) else (some (wrap64 ((l0.length : Int) - (l1.length : Int))))
set_option maxHeartbeats 8000000 in
set_option maxRecDepth 100000 in
theorem scarfjointref07_compare.calls (k : Nat) (A0 : Option Addr) (c0 : Nat) (l0 : List Int) (A1 : Option Addr) (c1 : Nat) (l1 : List Int) (r : Int) (w : World) (hr0 : Kd.C (Kd.int .i64) w A0 l0.length l0) (hc0 : l0.length ≤ c0) (hr1 : Kd.C (Kd.int .i64) w A1 l1.length l1) (hc1 : l1.length ≤ c1) (h : scarfjointref07_compare.f k l0 l1 = some r) :
    Calls Try.prog 71 #[.slice A0 l0.length c0, .slice A1 l1.length c1] w fun e w' => e = .returned (.int .i64 r) ∧ Drawn0 w w' := by
  have HR0 := Aside0.mk hr0
  have HC0 := Aside0.mk hc0
  clear hr0 hc0
  have HR1 := Aside0.mk hr1
  have HC1 := Aside0.mk hc1
  clear hr1 hc1
  have H : (if (l0.length : Int) = (l1.length : Int) then (scarfjointref07_compare.l0 k l0 l1 0) else (some (wrap64 ((l0.length : Int) - (l1.length : Int))))) = some r := h
  clear h
  by_cases c3 : (l0.length : Int) = (l1.length : Int)
  · rw [if_pos c3] at H
    have c3b0 : ((l0.length : Int) == (l1.length : Int)) = true := beq_iff_eq.mpr c3
    have c3b1 : ((l0.length : Int) != (l1.length : Int)) = false := bne_eq_false_iff_eq.mpr c3
    have c3b2 : (l0.length == l1.length) = true := by first | simpa using c3 | (simp at c3 ⊢; omega)
    clear c3
    have H' := Aside0.mk H
    clear H
    go_enter Try.func71, Try.ntmps71
    go_wp2
    repeat (go_quiet (fail); try go_wp2)
    go_loopg [5] k (fun kq v5 w' => ∃ (x5_1 : Int), v5 = .int .i64 x5_1 ∧ Aside0 (scarfjointref07_compare.l0 kq l0 l1 x5_1 = some r) ∧ Aside0 (kq ≤ k) ∧ Drawn0 w w')
    case atStart => exact ⟨(0), (by first | rfl | (simp; done) | (simp [*]; done)), H', ⟨Nat.le_refl _⟩, by repeat (first | exact Drawn0.refl _ | apply Drawn0.step)⟩
    case round =>
      clear H'
      try clear c1
      try clear p2
      try clear c3
      try clear c3b0
      try clear c3b1
      try clear c3b2
      obtain ⟨x5_1, rfl, HA, HK1, ⟨m1, rfl⟩⟩ := hrel
      cases gk with
      | zero => exact absurd HA.out (by simp [scarfjointref07_compare.l0])
      | succ k1 =>
        have H := HA.out
        clear HA
        simp only [scarfjointref07_compare.l0] at H
        by_cases c4 : x5_1 < (l0.length : Int)
        · rw [if_pos c4] at H
          have c4b0 : decide (x5_1 < (l0.length : Int)) = true := decide_eq_true c4
          clear c4
          by_cases c5 : 0 ≤ x5_1
          · rw [if_pos c5] at H
            have c5b0 : decide (0 ≤ x5_1) = true := decide_eq_true c5
            clear c5
            by_cases c6 : x5_1 < (l1.length : Int)
            · rw [if_pos c6] at H
              have c6b0 : decide (x5_1 < (l1.length : Int)) = true := decide_eq_true c6
              clear c6
              by_cases c7 : (rd l0 x5_1) = (rd l1 x5_1)
              · rw [if_pos c7] at H
                have c7b0 : ((rd l0 x5_1) == (rd l1 x5_1)) = true := beq_iff_eq.mpr c7
                have c7b1 : ((rd l0 x5_1) != (rd l1 x5_1)) = false := bne_eq_false_iff_eq.mpr c7
                clear c7
                have H' := Aside0.mk H
                clear H
                have p101 : 0 ≤ (x5_1 : Int) := of_decide_eq_true (by first | (with_reducible assumption) | assumption)
                have q101 : x5_1 < (l0.length : Int) := of_decide_eq_true (by first | (with_reducible assumption) | assumption)
                obtain ⟨ad101, e101, hx101_0⟩ := Kd.at_int HR0.out x5_1 p101 q101
                cases e101
                replace p101 := eq_true p101
                replace q101 := eq_true q101
                have p102 : 0 ≤ (x5_1 : Int) := of_decide_eq_true (by first | (with_reducible assumption) | assumption)
                have q102 : x5_1 < (l1.length : Int) := of_decide_eq_true (by first | (with_reducible assumption) | assumption)
                obtain ⟨ad102, e102, hx102_0⟩ := Kd.at_int HR1.out x5_1 p102 q102
                cases e102
                replace p102 := eq_true p102
                replace q102 := eq_true q102
                go_wp2
                repeat (go_quiet (fail); try go_wp2)
                go_roundg k1
                case measure => have := HK1.out; omega
                case rel => exact ⟨(wrap64 (x5_1 + 1)), (by first | rfl | (simp; done) | (simp [*]; done)), H', ⟨by have := HK1.out; omega⟩, by repeat (first | exact Drawn0.refl _ | apply Drawn0.step)⟩
              · rw [if_neg c7] at H
                have c7b0 : ((rd l0 x5_1) == (rd l1 x5_1)) = false := beq_eq_false_iff_ne.mpr c7
                have c7b1 : ((rd l0 x5_1) != (rd l1 x5_1)) = true := bne_iff_ne.mpr c7
                obtain rfl := Option.some.inj H
                have p101 : 0 ≤ (x5_1 : Int) := of_decide_eq_true (by first | (with_reducible assumption) | assumption)
                have q101 : x5_1 < (l0.length : Int) := of_decide_eq_true (by first | (with_reducible assumption) | assumption)
                obtain ⟨ad101, e101, hx101_0⟩ := Kd.at_int HR0.out x5_1 p101 q101
                cases e101
                replace p101 := eq_true p101
                replace q101 := eq_true q101
                have p102 : 0 ≤ (x5_1 : Int) := of_decide_eq_true (by first | (with_reducible assumption) | assumption)
                have q102 : x5_1 < (l1.length : Int) := of_decide_eq_true (by first | (with_reducible assumption) | assumption)
                obtain ⟨ad102, e102, hx102_0⟩ := Kd.at_int HR1.out x5_1 p102 q102
                cases e102
                replace p102 := eq_true p102
                replace q102 := eq_true q102
                have p103 : 0 ≤ (x5_1 : Int) := of_decide_eq_true (by first | (with_reducible assumption) | assumption)
                have q103 : x5_1 < (l0.length : Int) := of_decide_eq_true (by first | (with_reducible assumption) | assumption)
                obtain ⟨ad103, e103, hx103_0⟩ := Kd.at_int HR0.out x5_1 p103 q103
                obtain rfl : ad101 = ad103 := (by injection e103)
                replace p103 := eq_true p103
                replace q103 := eq_true q103
                have p104 : 0 ≤ (x5_1 : Int) := of_decide_eq_true (by first | (with_reducible assumption) | assumption)
                have q104 : x5_1 < (l1.length : Int) := of_decide_eq_true (by first | (with_reducible assumption) | assumption)
                obtain ⟨ad104, e104, hx104_0⟩ := Kd.at_int HR1.out x5_1 p104 q104
                obtain rfl : ad102 = ad104 := (by injection e104)
                replace p104 := eq_true p104
                replace q104 := eq_true q104
                go_wp2
                repeat (go_quiet (fail); try go_wp2)
                go_ret
                exact ⟨by first | rfl | (simp; done) | (simp [*]; done), by repeat (first | exact Drawn0.refl _ | apply Drawn0.step)⟩
            · rw [if_neg c6] at H
              exact absurd H (by simp)
          · rw [if_neg c5] at H
            exact absurd H (by simp)
        · rw [if_neg c4] at H
          have c4b0 : decide (x5_1 < (l0.length : Int)) = false := decide_eq_false c4
          clear c4
          obtain rfl := Option.some.inj H
          go_wp2
          repeat (go_quiet (fail); try go_wp2)
          go_ret
          exact ⟨by first | rfl | (simp; done) | (simp [*]; done), by repeat (first | exact Drawn0.refl _ | apply Drawn0.step)⟩
  · rw [if_neg c3] at H
    have c3b0 : ((l0.length : Int) == (l1.length : Int)) = false := beq_eq_false_iff_ne.mpr c3
    have c3b1 : ((l0.length : Int) != (l1.length : Int)) = true := bne_iff_ne.mpr c3
    have c3b2 : (l0.length == l1.length) = false := by first | simpa using c3 | (simp at c3 ⊢; omega)
    obtain rfl := Option.some.inj H
    go_enter Try.func71, Try.ntmps71
    go_wp2
    repeat (go_quiet (fail); try go_wp2)
    go_ret
    exact ⟨by first | rfl | (simp; done) | (simp [*]; done), by repeat (first | exact Drawn0.refl _ | apply Drawn0.step)⟩
end Go.Proofs.Ytonipihlpbaknaa.Print
namespace Go.Proofs.Ytonipihlpbaknaa.Print
open Go.RowKit Go.Proofs.YtonipihlpbaknaaW.PrintWords Go.Proofs.YtonipihlpbaknaaW.PrintLast Go.Proofs.YtonipihlpbaknaaW.PrintMore
attribute [local go_sem] max2_int min2_int max_two min_two max_three min_three max_four min_four   -- for this text's walks alone
set_option linter.unusedVariables false
set_option linter.unusedSimpArgs false
def scarfjointref07_Compare.f (k : Nat) (l0_0 : List Int) (l0_1 : List Int) (l1_0 : List Int) (l1_1 : List Int) : Option (Int) := (scarfjointref07_compare.f k l0_0 l1_0).bind fun t103 => (if t103 = 0 then ((scarfjointref07_compare.f k l0_1 l1_1).bind fun t104 => (some t104)) else (some t103))
set_option maxHeartbeats 8000000 in
set_option maxRecDepth 100000 in
theorem scarfjointref07_Compare.calls (k : Nat) (A0_0 : Option Addr) (c0_0 : Nat) (l0_0 : List Int) (A0_1 : Option Addr) (c0_1 : Nat) (l0_1 : List Int) (A1_0 : Option Addr) (c1_0 : Nat) (l1_0 : List Int) (A1_1 : Option Addr) (c1_1 : Nat) (l1_1 : List Int) (r : Int) (w : World) (hr0_0 : Kd.C (Kd.int .i64) w A0_0 l0_0.length l0_0) (hc0_0 : l0_0.length ≤ c0_0) (hr0_1 : Kd.C (Kd.int .i64) w A0_1 l0_1.length l0_1) (hc0_1 : l0_1.length ≤ c0_1) (hr1_0 : Kd.C (Kd.int .i64) w A1_0 l1_0.length l1_0) (hc1_0 : l1_0.length ≤ c1_0) (hr1_1 : Kd.C (Kd.int .i64) w A1_1 l1_1.length l1_1) (hc1_1 : l1_1.length ≤ c1_1) (h : scarfjointref07_Compare.f k l0_0 l0_1 l1_0 l1_1 = some r) :
    Calls Try.prog 28 #[.agg #[.slice A0_0 l0_0.length c0_0, .slice A0_1 l0_1.length c0_1], .agg #[.slice A1_0 l1_0.length c1_0, .slice A1_1 l1_1.length c1_1]] w fun e w' => e = .returned (.int .i64 r) ∧ Below w.heap.size w w' := by
  have hu27 := Try.underlying27
  have HR0_0 := Aside0.mk hr0_0
  have HC0_0 := Aside0.mk hc0_0
  clear hr0_0 hc0_0
  have HR0_1 := Aside0.mk hr0_1
  have HC0_1 := Aside0.mk hc0_1
  clear hr0_1 hc0_1
  have HR1_0 := Aside0.mk hr1_0
  have HC1_0 := Aside0.mk hc1_0
  clear hr1_0 hc1_0
  have HR1_1 := Aside0.mk hr1_1
  have HC1_1 := Aside0.mk hc1_1
  clear hr1_1 hc1_1
  have HB := Aside0.mk (Below.refl w.heap.size w)
  have H : ((scarfjointref07_compare.f k l0_0 l1_0).bind fun t103 => (if t103 = 0 then ((scarfjointref07_compare.f k l0_1 l1_1).bind fun t104 => (some t104)) else (some t103))) = some r := h
  clear h
  replace H := Option.bind_eq_some_iff.mp H
  obtain ⟨t103, A30, H⟩ := H
  replace H : (if t103 = 0 then ((scarfjointref07_compare.f k l0_1 l1_1).bind fun t104 => (some t104)) else (some t103)) = some r := H
  have A3 := Aside0.mk A30
  clear A30
  by_cases c4 : t103 = 0
  · rw [if_pos c4] at H
    have c4b0 : (t103 == 0) = true := beq_iff_eq.mpr c4
    have c4b1 : (t103 != 0) = false := bne_eq_false_iff_eq.mpr c4
    clear c4
    replace H := Option.bind_eq_some_iff.mp H
    obtain ⟨t104, A50, H⟩ := H
    replace H : (some t104) = some r := H
    have A5 := Aside0.mk A50
    clear A50
    obtain rfl := Option.some.inj H
    go_enter Try.func28, Try.ntmps28
    go_wp2_with (first | ((with_reducible refine gate_dst (N := 2) rfl ?_); refine box_event ?hg (N := 2) ?hd (cs := #[.slice A0_0 l0_0.length c0_0, .slice A0_1 l0_1.length c0_1]) (t := 27) ?hr ?_; (case hd => rfl); (case hg => rfl); (case hr => first | (go_simp; done) | (go_simp; rfl)); intro gb101 hg w6 hbox hb; have n0_ := Aside0.mk (below_step (by repeat (first | (with_reducible first | exact HB.out | apply below_alloc | apply pw_below_drewN | apply below_drew1) | exact HB.out)) hb); have n1_ := Aside0.mk (hbox); have n2_ := Aside0.mk ((by rw [hg]; exact (below_size (by repeat (first | (with_reducible first | exact HB.out | apply below_alloc | apply pw_below_drewN | apply below_drew1) | exact HB.out))) : w.heap.size ≤ gb101)); have n3_ := Aside0.mk ((by rw [hg]; exact (below_size (by repeat (first | (with_reducible first | exact HB.out | apply below_alloc | apply pw_below_drewN | apply below_drew1) | exact HB.out))) : w.heap.size ≤ gb101)); clear HB; have HB := n0_; have BK101 := n1_; have GW101 := n2_; have GE101 := n3_; clear n0_ n1_ n2_ n3_; clear hb hbox hg) | ((with_reducible refine gate_dst (N := 3) rfl ?_); refine box_event ?hg (N := 3) ?hd (cs := #[.slice A1_0 l1_0.length c1_0, .slice A1_1 l1_1.length c1_1]) (t := 27) ?hr ?_; (case hd => rfl); (case hg => rfl); (case hr => first | (go_simp; done) | (go_simp; rfl)); intro gb102 hg w7 hbox hb; have n0_ := Aside0.mk (blk_below (g := gb101) (o := .cells #[.slice A0_0 l0_0.length c0_0, .slice A0_1 l0_1.length c0_1] 27 (0, 0)) (by (with_reducible repeat (first | refine blk_drewN ?_ _ | refine blk_drew ?_ | refine blk_alloc ?_ _)); exact BK101.out) hb); have n1_ := Aside0.mk (below_step (by repeat (first | (with_reducible first | exact HB.out | apply below_alloc | apply pw_below_drewN | apply below_drew1 | refine below_set ?_ GE101.out) | exact HB.out)) hb); have n2_ := Aside0.mk (hbox); have n3_ := Aside0.mk ((by rw [hg]; exact (below_size (by repeat (first | (with_reducible first | exact HB.out | apply below_alloc | apply pw_below_drewN | apply below_drew1 | refine below_set ?_ GE101.out) | exact HB.out))) : w.heap.size ≤ gb102)); have n4_ := Aside0.mk ((by rw [hg]; exact (below_size (by repeat (first | (with_reducible first | exact HB.out | apply below_alloc | apply pw_below_drewN | apply below_drew1 | refine below_set ?_ GE101.out) | exact HB.out))) : w.heap.size ≤ gb102)); have n5_ := Aside0.mk ((by rw [hg]; exact Nat.ne_of_lt (blk_lt (g := gb101) (o := .cells #[.slice A0_0 l0_0.length c0_0, .slice A0_1 l0_1.length c0_1] 27 (0, 0)) (by (with_reducible repeat (first | refine blk_drewN ?_ _ | refine blk_drew ?_ | refine blk_alloc ?_ _)); exact BK101.out)) : gb101 ≠ gb102)); have n6_ := Aside0.mk ((by rw [hg]; exact Nat.ne_of_gt (blk_lt (g := gb101) (o := .cells #[.slice A0_0 l0_0.length c0_0, .slice A0_1 l0_1.length c0_1] 27 (0, 0)) (by (with_reducible repeat (first | refine blk_drewN ?_ _ | refine blk_drew ?_ | refine blk_alloc ?_ _)); exact BK101.out)) : gb102 ≠ gb101)); clear BK101; clear HB; have BK101 := n0_; have HB := n1_; have BK102 := n2_; have GW102 := n3_; have GE102 := n4_; have NB101_102 := n5_; have NB102_101 := n6_; clear n0_ n1_ n2_ n3_ n4_ n5_ n6_; clear hb hbox hg; have hnb8 := NB101_102.out; have hnc8 := NB102_101.out; have hcz9_0 : w7.cell? ⟨gb101, 0, none⟩ = some (.slice A0_0 l0_0.length c0_0) := (blk_cell BK101.out 0).trans rfl; have hcz9_1 : w7.cell? ⟨gb101, 1, none⟩ = some (.slice A0_1 l0_1.length c0_1) := (blk_cell BK101.out 1).trans rfl; have hfz9_0 := blk_frozen BK101.out 0; have hfz9_1 := blk_frozen BK101.out 1; have hcz10_0 : w7.cell? ⟨gb102, 0, none⟩ = some (.slice A1_0 l1_0.length c1_0) := (blk_cell BK102.out 0).trans rfl; have hcz10_1 : w7.cell? ⟨gb102, 1, none⟩ = some (.slice A1_1 l1_1.length c1_1) := (blk_cell BK102.out 1).trans rfl; have hfz10_0 := blk_frozen BK102.out 0; have hfz10_1 := blk_frozen BK102.out 1) | ((with_reducible refine gate_callee (f := 71) rfl ?_); refine goesL_ (some 10) rfl rfl Try.func71 (by kernel_rfl) rfl #[.slice A0_0 l0_0.length c0_0, .slice A1_0 l1_0.length c1_0] rfl (by (try simp only [List.map_toArray, List.map_cons, List.map_nil]); first | done | rfl | (simp only [List.length_drop, List.length_take]; rfl)) ?_; (with_reducible refine (scarfjointref07_compare.calls k _ _ l0_0 _ _ l1_0 t103 _ ?side1 ?side2 ?side3 ?side4 A3.out).mono ?_); (case side1 => repeat (first | exact (Kd.C_below HR0_0.out HB.out) | (with_reducible refine Kd.C_alloc ?_ _) | (with_reducible refine Kd.C_drewN ?_ _) | (with_reducible refine Kd.C_drew ?_))); (case side2 => exact HC0_0.out); (case side3 => repeat (first | exact (Kd.C_below HR1_0.out HB.out) | (with_reducible refine Kd.C_alloc ?_ _) | (with_reducible refine Kd.C_drewN ?_ _) | (with_reducible refine Kd.C_drew ?_))); (case side4 => exact HC1_0.out); rintro e w' ⟨rfl, ⟨nd, rfl⟩⟩; refine ⟨_, rfl, ?_⟩) | ((with_reducible refine gate_callee (f := 71) rfl ?_); refine goesL_ (some 18) rfl rfl Try.func71 (by kernel_rfl) rfl #[.slice A0_1 l0_1.length c0_1, .slice A1_1 l1_1.length c1_1] rfl (by (try simp only [List.map_toArray, List.map_cons, List.map_nil]); first | done | rfl | (simp only [List.length_drop, List.length_take]; rfl)) ?_; (with_reducible refine (scarfjointref07_compare.calls k _ _ l0_1 _ _ l1_1 t104 _ ?side1 ?side2 ?side3 ?side4 A5.out).mono ?_); (case side1 => repeat (first | exact (Kd.C_below HR0_1.out (by repeat (first | (with_reducible first | exact HB.out | apply below_alloc | apply pw_below_drewN | apply below_drew1 | refine below_set ?_ GE101.out | refine below_set ?_ GE102.out) | exact HB.out))) | (with_reducible refine Kd.C_alloc ?_ _) | (with_reducible refine Kd.C_drewN ?_ _) | (with_reducible refine Kd.C_drew ?_))); (case side2 => exact HC0_1.out); (case side3 => repeat (first | exact (Kd.C_below HR1_1.out (by repeat (first | (with_reducible first | exact HB.out | apply below_alloc | apply pw_below_drewN | apply below_drew1 | refine below_set ?_ GE101.out | refine below_set ?_ GE102.out) | exact HB.out))) | (with_reducible refine Kd.C_alloc ?_ _) | (with_reducible refine Kd.C_drewN ?_ _) | (with_reducible refine Kd.C_drew ?_))); (case side4 => exact HC1_1.out); rintro e w' ⟨rfl, ⟨nd, rfl⟩⟩; refine ⟨_, rfl, ?_⟩))
    go_ret
    exact ⟨by first | rfl | (simp [errW_none, errW_some] <;> rfl) | (simp [*, errW_none, errW_some] <;> rfl), by repeat (first | (with_reducible first | exact HB.out | apply below_alloc | apply pw_below_drewN | apply below_drew1 | refine below_set ?_ GE101.out | refine below_set ?_ GE102.out) | exact HB.out)⟩
  · rw [if_neg c4] at H
    have c4b0 : (t103 == 0) = false := beq_eq_false_iff_ne.mpr c4
    have c4b1 : (t103 != 0) = true := bne_iff_ne.mpr c4
    obtain rfl := Option.some.inj H
    go_enter Try.func28, Try.ntmps28
    go_wp2_with (first | ((with_reducible refine gate_dst (N := 2) rfl ?_); refine box_event ?hg (N := 2) ?hd (cs := #[.slice A0_0 l0_0.length c0_0, .slice A0_1 l0_1.length c0_1]) (t := 27) ?hr ?_; (case hd => rfl); (case hg => rfl); (case hr => first | (go_simp; done) | (go_simp; rfl)); intro gb101 hg w11 hbox hb; have n0_ := Aside0.mk (below_step (by repeat (first | (with_reducible first | exact HB.out | apply below_alloc | apply pw_below_drewN | apply below_drew1) | exact HB.out)) hb); have n1_ := Aside0.mk (hbox); have n2_ := Aside0.mk ((by rw [hg]; exact (below_size (by repeat (first | (with_reducible first | exact HB.out | apply below_alloc | apply pw_below_drewN | apply below_drew1) | exact HB.out))) : w.heap.size ≤ gb101)); have n3_ := Aside0.mk ((by rw [hg]; exact (below_size (by repeat (first | (with_reducible first | exact HB.out | apply below_alloc | apply pw_below_drewN | apply below_drew1) | exact HB.out))) : w.heap.size ≤ gb101)); clear HB; have HB := n0_; have BK101 := n1_; have GW101 := n2_; have GE101 := n3_; clear n0_ n1_ n2_ n3_; clear hb hbox hg) | ((with_reducible refine gate_dst (N := 3) rfl ?_); refine box_event ?hg (N := 3) ?hd (cs := #[.slice A1_0 l1_0.length c1_0, .slice A1_1 l1_1.length c1_1]) (t := 27) ?hr ?_; (case hd => rfl); (case hg => rfl); (case hr => first | (go_simp; done) | (go_simp; rfl)); intro gb102 hg w12 hbox hb; have n0_ := Aside0.mk (blk_below (g := gb101) (o := .cells #[.slice A0_0 l0_0.length c0_0, .slice A0_1 l0_1.length c0_1] 27 (0, 0)) (by (with_reducible repeat (first | refine blk_drewN ?_ _ | refine blk_drew ?_ | refine blk_alloc ?_ _)); exact BK101.out) hb); have n1_ := Aside0.mk (below_step (by repeat (first | (with_reducible first | exact HB.out | apply below_alloc | apply pw_below_drewN | apply below_drew1 | refine below_set ?_ GE101.out) | exact HB.out)) hb); have n2_ := Aside0.mk (hbox); have n3_ := Aside0.mk ((by rw [hg]; exact (below_size (by repeat (first | (with_reducible first | exact HB.out | apply below_alloc | apply pw_below_drewN | apply below_drew1 | refine below_set ?_ GE101.out) | exact HB.out))) : w.heap.size ≤ gb102)); have n4_ := Aside0.mk ((by rw [hg]; exact (below_size (by repeat (first | (with_reducible first | exact HB.out | apply below_alloc | apply pw_below_drewN | apply below_drew1 | refine below_set ?_ GE101.out) | exact HB.out))) : w.heap.size ≤ gb102)); have n5_ := Aside0.mk ((by rw [hg]; exact Nat.ne_of_lt (blk_lt (g := gb101) (o := .cells #[.slice A0_0 l0_0.length c0_0, .slice A0_1 l0_1.length c0_1] 27 (0, 0)) (by (with_reducible repeat (first | refine blk_drewN ?_ _ | refine blk_drew ?_ | refine blk_alloc ?_ _)); exact BK101.out)) : gb101 ≠ gb102)); have n6_ := Aside0.mk ((by rw [hg]; exact Nat.ne_of_gt (blk_lt (g := gb101) (o := .cells #[.slice A0_0 l0_0.length c0_0, .slice A0_1 l0_1.length c0_1] 27 (0, 0)) (by (with_reducible repeat (first | refine blk_drewN ?_ _ | refine blk_drew ?_ | refine blk_alloc ?_ _)); exact BK101.out)) : gb102 ≠ gb101)); clear BK101; clear HB; have BK101 := n0_; have HB := n1_; have BK102 := n2_; have GW102 := n3_; have GE102 := n4_; have NB101_102 := n5_; have NB102_101 := n6_; clear n0_ n1_ n2_ n3_ n4_ n5_ n6_; clear hb hbox hg; have hnb13 := NB101_102.out; have hnc13 := NB102_101.out; have hcz14_0 : w12.cell? ⟨gb101, 0, none⟩ = some (.slice A0_0 l0_0.length c0_0) := (blk_cell BK101.out 0).trans rfl; have hcz14_1 : w12.cell? ⟨gb101, 1, none⟩ = some (.slice A0_1 l0_1.length c0_1) := (blk_cell BK101.out 1).trans rfl; have hfz14_0 := blk_frozen BK101.out 0; have hfz14_1 := blk_frozen BK101.out 1; have hcz15_0 : w12.cell? ⟨gb102, 0, none⟩ = some (.slice A1_0 l1_0.length c1_0) := (blk_cell BK102.out 0).trans rfl; have hcz15_1 : w12.cell? ⟨gb102, 1, none⟩ = some (.slice A1_1 l1_1.length c1_1) := (blk_cell BK102.out 1).trans rfl; have hfz15_0 := blk_frozen BK102.out 0; have hfz15_1 := blk_frozen BK102.out 1) | ((with_reducible refine gate_callee (f := 71) rfl ?_); refine goesL_ (some 10) rfl rfl Try.func71 (by kernel_rfl) rfl #[.slice A0_0 l0_0.length c0_0, .slice A1_0 l1_0.length c1_0] rfl (by (try simp only [List.map_toArray, List.map_cons, List.map_nil]); first | done | rfl | (simp only [List.length_drop, List.length_take]; rfl)) ?_; (with_reducible refine (scarfjointref07_compare.calls k _ _ l0_0 _ _ l1_0 t103 _ ?side1 ?side2 ?side3 ?side4 A3.out).mono ?_); (case side1 => repeat (first | exact (Kd.C_below HR0_0.out HB.out) | (with_reducible refine Kd.C_alloc ?_ _) | (with_reducible refine Kd.C_drewN ?_ _) | (with_reducible refine Kd.C_drew ?_))); (case side2 => exact HC0_0.out); (case side3 => repeat (first | exact (Kd.C_below HR1_0.out HB.out) | (with_reducible refine Kd.C_alloc ?_ _) | (with_reducible refine Kd.C_drewN ?_ _) | (with_reducible refine Kd.C_drew ?_))); (case side4 => exact HC1_0.out); rintro e w' ⟨rfl, ⟨nd, rfl⟩⟩; refine ⟨_, rfl, ?_⟩))
    go_ret
    exact ⟨by first | rfl | (simp [errW_none, errW_some] <;> rfl) | (simp [*, errW_none, errW_some] <;> rfl), by repeat (first | (with_reducible first | exact HB.out | apply below_alloc | apply pw_below_drewN | apply below_drew1 | refine below_set ?_ GE101.out | refine below_set ?_ GE102.out) | exact HB.out)⟩
end Go.Proofs.Ytonipihlpbaknaa.Print
namespace Go.Proofs.Ytonipihlpbaknaa.Print
open Go.RowKit Go.Proofs.YtonipihlpbaknaaW.PrintWords Go.Proofs.YtonipihlpbaknaaW.PrintLast Go.Proofs.YtonipihlpbaknaaW.PrintMore
attribute [local go_sem] max2_int min2_int max_two min_two max_three min_three max_four min_four   -- for this text's walks alone
set_option linter.unusedVariables false
set_option linter.unusedSimpArgs false
def scarfjointref07_bits.l0 : Nat → Int → Int → List Int → Int → Option (List Int)
  | 0, _, _, _, _ => none
  | k + 1, x0, x1, x5, x6 => if x6 < x0 then (if 0 ≤ x6 then (if (Go.bits .and .i64 (shr .i64 x1 x6) 1) = 1 then (if x5.length < 17592186044416 then (scarfjointref07_bits.l0 k x0 x1 (x5 ++ [x6]) (wrap64 (x6 + 1))) else (none)) else (scarfjointref07_bits.l0 k x0 x1 x5 (wrap64 (x6 + 1)))) else (none)) else (some x5)
def scarfjointref07_bits.f (k : Nat) (a0 : Int) (a1 : Int) : Option (List Int) := scarfjointref07_bits.l0 k a0 a1 ([] : List Int) 0
set_option maxHeartbeats 8000000 in
set_option maxRecDepth 100000 in
theorem scarfjointref07_bits.calls (k : Nat) (a0 : Int) (a1 : Int) (r : List Int) (w : World) (h : scarfjointref07_bits.f k a0 a1 = some r) :
    Calls Try.prog 69 #[.int .i64 a0, .int .i64 a1] w fun e w' => ∃ v0_ : Value, e = .returned (v0_) ∧ Kd.R (Kd.int .i64) 3 w' w.heap.size (fun _ => True) v0_ r ∧ Below w.heap.size w w' := by
  have HB := Aside0.mk (Below.refl w.heap.size w)
  have H : (scarfjointref07_bits.l0 k a0 a1 ([] : List Int) 0) = some r := h
  clear h
  have H' := Aside0.mk H
  clear H
  go_enter Try.func69, Try.ntmps69
  go_wp2
  go_loopg [5, 6] k (fun kq v5 v6 w' => ∃ (x5_1 : List Int) (x6_1 : Int), v6 = .int .i64 x6_1 ∧ Aside0 (scarfjointref07_bits.l0 kq a0 a1 x5_1 x6_1 = some r) ∧ Aside0 (kq ≤ k) ∧ Aside0 (Kd.R (Kd.int .i64) 3 w' w.heap.size (fun _ => True) v5 x5_1) ∧ Aside0 (Below w.heap.size w w'))
  case atStart => exact ⟨(([] : List Int)), (0), (by first | rfl | (simp; done) | (simp [*]; done)), H', ⟨Nat.le_refl _⟩, ⟨by first | exact Kd.R_nil _ _ _ _ _ | exact Kd.N_nil _ _ _ _ _ | exact Kd.V_nil _ _ _ _ _ | exact Kd.Q_nil _ _ _ _ _ | exact Kd.S_nil _ _ _ _ _⟩, ⟨by repeat (first | (with_reducible first | exact HB.out | apply below_alloc | apply pw_below_drewN | apply below_drew1) | exact HB.out)⟩⟩
  case round =>
    clear H'
    try clear p2
    obtain ⟨x5_1, x6_1, rfl, HA, HK1, HO_5, HB⟩ := hrel
    cases gk with
    | zero => exact absurd HA.out (by simp [scarfjointref07_bits.l0])
    | succ k1 =>
      have H := HA.out
      clear HA
      simp only [scarfjointref07_bits.l0] at H
      by_cases c3 : x6_1 < a0
      · rw [if_pos c3] at H
        have c3b0 : decide (x6_1 < a0) = true := decide_eq_true c3
        clear c3
        by_cases c4 : 0 ≤ x6_1
        · rw [if_pos c4] at H
          have c4b0 := eq_true c4
          have c4b1 : decide (0 ≤ x6_1) = true := decide_eq_true c4
          clear c4
          obtain ⟨ji5, hji5⟩ : ∃ j_ : Int, (shr .i64 a1 x6_1) = j_ := ⟨_, rfl⟩
          replace H : (if (Go.bits .and .i64 (ji5) 1) = 1 then (if x5_1.length < 17592186044416 then (scarfjointref07_bits.l0 k1 a0 a1 (x5_1 ++ [x6_1]) (wrap64 (x6_1 + 1))) else (none)) else (scarfjointref07_bits.l0 k1 a0 a1 x5_1 (wrap64 (x6_1 + 1)))) = some r := by first | (rw [hji5] at H; exact H) | (simp only [hji5] at H ⊢; exact H)
          have hji5_ : (a1 / 2 ^ min x6_1.toNat 64) = ji5 := hji5
          have hji5z : x6_1 ≤ 64 → (a1 / 2 ^ x6_1.toNat) = ji5 := shr_small hji5
          by_cases c6 : (Go.bits .and .i64 (ji5) 1) = 1
          · rw [if_pos c6] at H
            have c6b0 : ((Go.bits .and .i64 (ji5) 1) == 1) = true := beq_iff_eq.mpr c6
            have c6b1 : ((Go.bits .and .i64 (ji5) 1) != 1) = false := bne_eq_false_iff_eq.mpr c6
            clear c6
            by_cases c7 : x5_1.length < 17592186044416
            · rw [if_pos c7] at H
              have LMc7 := Aside0.mk c7
              clear c7
              obtain ⟨y101, hy101⟩ : ∃ y_ : List Int, y_ = (x5_1 ++ [x6_1]) := ⟨_, rfl⟩
              replace H : (scarfjointref07_bits.l0 k1 a0 a1 y101 (wrap64 (x6_1 + 1))) = some r := by first | (rw [hy101]; with_reducible exact H) | (have H2_ := (Option.bind_some _ _).symm.trans H; rw [hy101]; with_reducible exact H2_) | (have H2_ := (Option.bind_some _ _).symm.trans H; with_reducible exact H2_) | with_reducible exact H | (rw [hy101]; exact H) | exact H
              have Ny101 := Aside0.mk hy101
              clear hy101
              have H' := Aside0.mk H
              clear H
              go_wp2_with (first | ((with_reducible refine gate_builtin (b := .append) (xs := #[.tmp 17, .tmp 19]) rfl ?_); at_builtin; refine Kd.R_append (Kd.int .i64) (w0 := w) w.heap.size rfl (.tmp 17) (.tmp 19) 22 3 (.int .i64 0) 8 rfl Try.underlying22 info3 rfl (by decide) (by omega) u5 x5_1 x6_1 [.int .i64 x6_1] (fun _ => True) (fun _ => False) rfl rfl ?aP (fun _ hk => hk.elim) ?aF ?aO ?aB ?aS ?aL ?_; (case aP => exact rfl); (case aB => exact (by repeat (first | (with_reducible first | exact HB.out | apply below_alloc | apply pw_below_drewN | apply below_drew1) | exact HB.out))); (case aF => exact (fun _ _ => trivial)); (case aO => exact (by (with_reducible repeat (first | apply Kd.R_alloc | apply Kd.R_drewN | apply Kd.R_drew)); exact HO_5.out)); (case aS => exact (below_size (by repeat (first | (with_reducible first | exact HB.out | apply below_alloc | apply pw_below_drewN | apply below_drew1) | exact HB.out)))); (case aL => have := LMc7.out; omega); intro v102 w8 ho hb hg hat; rw [← Ny101.out] at ho; have n0_ := Aside0.mk (hb); have n1_ := Aside0.mk (ho); clear HB; clear HO_5; have HB := n0_; have HO103 := n1_; clear n0_ n1_; clear ho hb hg hat))
              go_roundg k1
              case measure => have := HK1.out; omega
              case rel => exact ⟨(y101), (wrap64 (x6_1 + 1)), (by first | rfl | (simp; done) | (simp [*]; done)), H', ⟨by have := HK1.out; omega⟩, ⟨by (with_reducible repeat (first | apply Kd.R_alloc | apply Kd.R_drewN | apply Kd.R_drew)); exact HO103.out⟩, ⟨by repeat (first | (with_reducible first | exact HB.out | apply below_alloc | apply pw_below_drewN | apply below_drew1) | exact HB.out)⟩⟩
            · rw [if_neg c7] at H
              exact absurd H (by simp)
          · rw [if_neg c6] at H
            have c6b0 : ((Go.bits .and .i64 (ji5) 1) == 1) = false := beq_eq_false_iff_ne.mpr c6
            have c6b1 : ((Go.bits .and .i64 (ji5) 1) != 1) = true := bne_iff_ne.mpr c6
            have H' := Aside0.mk H
            clear H
            go_wp2
            go_roundg k1
            case measure => have := HK1.out; omega
            case rel => exact ⟨(x5_1), (wrap64 (x6_1 + 1)), (by first | rfl | (simp; done) | (simp [*]; done)), H', ⟨by have := HK1.out; omega⟩, ⟨by (with_reducible repeat (first | apply Kd.R_alloc | apply Kd.R_drewN | apply Kd.R_drew)); exact HO_5.out⟩, ⟨by repeat (first | (with_reducible first | exact HB.out | apply below_alloc | apply pw_below_drewN | apply below_drew1) | exact HB.out)⟩⟩
        · rw [if_neg c4] at H
          exact absurd H (by simp)
      · rw [if_neg c3] at H
        have c3b0 : decide (x6_1 < a0) = false := decide_eq_false c3
        clear c3
        obtain rfl := Option.some.inj H
        go_wp2
        go_ret
        exact ⟨_, by first | rfl | (simp [errW_none, errW_some] <;> rfl) | (simp [*, errW_none, errW_some] <;> rfl), by (with_reducible repeat (first | apply Kd.R_alloc | apply Kd.R_drewN | apply Kd.R_drew)); exact HO_5.out, by repeat (first | (with_reducible first | exact HB.out | apply below_alloc | apply pw_below_drewN | apply below_drew1) | exact HB.out)⟩
end Go.Proofs.Ytonipihlpbaknaa.Print

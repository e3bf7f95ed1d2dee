/- A part of the proof that the law returns true at every input; what the walked functions compute. -/
import Derived.Test.YtonipihlpbaknaaZAd0
import Derived.Test.YtonipihlpbaknaaZAd1
import Derived.Test.YtonipihlpbaknaaZAd2
import Derived.Test.YtonipihlpbaknaaZAd3
import Derived.Test.YtonipihlpbaknaaZAd4
import Derived.Test.YtonipihlpbaknaaZAd5
import Derived.Test.YtonipihlpbaknaaZAd6
import Derived.Test.YtonipihlpbaknaaZAd7
import Derived.Test.YtonipihlpbaknaaZAd8
namespace Go.Proofs.Ytonipihlpbaknaa.Print
set_option linter.unusedVariables false
set_option linter.unusedSimpArgs false
open Go.RowKit Go.Proofs.YtonipihlpbaknaaW.PrintWords Go.Proofs.YtonipihlpbaknaaW.PrintLast Go.Proofs.YtonipihlpbaknaaW.PrintMore
theorem ref05_Valid.calls0 (A0 : Option Addr) (c0 : Nat) (l0 : List Int) (A1 : Option Addr) (c1 : Nat) (l1 : List S78) (w : World) (r0 : Kd.C (Kd.int .i64) w A0 l0.length l0) (m0 : l0.length ≤ c0) (r1 : Kd.C k78 w A1 l1.length l1) (m1 : l1.length ≤ c1) :
    Calls Try.prog 20 #[.agg #[.slice A0 l0.length c0, .slice A1 l1.length c1]] w fun e w' => e = .returned (.int .i64 (validB l0 l1)) ∧ Below w.heap.size w w' := by
  refine scarfjointref05_Valid.calls (l0.length + l1.length + 3) A0 c0 l0 A1 c1 l1 _ w r0 m0 r1 m1 ?_
  by_cases h0 : 40 < l0.length
  · rw [show validB l0 l1 = 3 from if_pos h0]
    unfold scarfjointref05_Valid.f; rw [if_pos (by omega)]
    simp [scarfjointref05_Valid.j0]
  · by_cases h1 : 80 < l1.length
    · rw [validB, if_neg h0, if_pos h1]
      unfold scarfjointref05_Valid.f; rw [if_neg (by omega), decide_eq_true (by omega)]
      simp [scarfjointref05_Valid.j0]
    · exact rvalid_ok l0 l1 _ (by omega) (by omega) (by omega)
set_option maxHeartbeats 4000000 in
set_option maxRecDepth 100000 in
theorem scarfjointref06_Valid.ok (A0 : Option Addr) (c0 : Nat) (l0 : List Int) (A1 : Option Addr) (c1 : Nat) (l1 : List S78) (A2 : Option Addr) (c2 : Nat) (l2 : List Int) (A3 : Option Addr) (c3 : Nat) (l3 : List S78) (A4 : Option Addr) (c4 : Nat) (l4 : List Int) (A5 : Option Addr) (c5 : Nat) (l5 : List Int) (w : World)
  (r0 : Kd.C (Kd.int .i64) w A0 l0.length l0) (m0 : l0.length ≤ c0) (r1 : Kd.C (k78) w A1 l1.length l1) (m1 : l1.length ≤ c1) (r2 : Kd.C (Kd.int .i64) w A2 l2.length l2) (m2 : l2.length ≤ c2) (r3 : Kd.C (k78) w A3 l3.length l3) (m3 : l3.length ≤ c3) (r4 : Kd.C (Kd.int .i64) w A4 l4.length l4) (m4 : l4.length ≤ c4) (r5 : Kd.C (Kd.int .i64) w A5 l5.length l5) (m5 : l5.length ≤ c5)
  (v0 : validB l0 l1 = 0) (v2 : validB l2 l3 = 0) (e4 : l4.length = l0.length) (e5 : l5.length = l1.length) (res : Int) (hres : (if nodesE l0 l2 0 l4 = 0 then edgesE l1 l3 l4 0 l5 else nodesE l0 l2 0 l4) = res) :
  Calls Try.prog 47 #[.agg #[.slice A0 l0.length c0, .slice A1 l1.length c1], .agg #[.slice A2 l2.length c2, .slice A3 l3.length c3], .agg #[.slice A4 l4.length c4, .slice A5 l5.length c5]] w fun e w' => e = .returned (.int .i64 res) ∧ Below w.heap.size w w' := by
 have hu25 := Try.underlying25; have hu51 := Try.underlying51; have hm4 := Kd.C_max r4; have hm5 := Kd.C_max r5; have R0 := Lib.hid r0; have R1 := Lib.hid r1; have R2 := Lib.hid r2; have R3 := Lib.hid r3; have R4 := Lib.hid r4; have R5 := Lib.hid r5; have M0 := Lib.hid m0; have M1 := Lib.hid m1; have M2 := Lib.hid m2; have M3 := Lib.hid m3; clear r0 r1 r2 r3 r4 r5 m0 m1 m2 m3 m4 m5; have V0 := Lib.hid v0; have HS := Lib.hid hres; clear hres; have E4 := Lib.hid e4; have E5 := Lib.hid e5
 have d4 : ((l4.length : Int) != (l0.length : Int)) = false := by simp [e4]
 have d5 : ((l5.length : Int) != (l1.length : Int)) = false := by simp [e5]
 have d6 : decide ((l4.length : Int) = (l0.length : Int)) = true := decide_eq_true (by omega); have d7 : decide ((l5.length : Int) = (l1.length : Int)) = true := decide_eq_true (by omega); clear e4 e5
 go_enter Try.func47, Try.ntmps47
 go_upto_region 1 with (first
  | ((with_reducible refine gate_dst (N := 3) rfl ?_); (try (refine gate_guard (by rfl) ?_; dsimp only)); refine box_event ?hg (N := 3) ?hd (cs := #[.slice A0 l0.length c0, .slice A1 l1.length c1]) (t := 25) ?hr ?_; (case hd => rfl); (case hg => rfl); (case hr => first | (go_simp; done) | (go_simp; rfl)); intro g hg w_ hbox hb; have HG : w.heap.size ≤ g := (hg ▸ Nat.le_refl _); have BG := Lib.hid hbox; have BL := Lib.hid hb; clear hg hbox hb)
  | ((with_reducible refine gate_dst (N := 4) rfl ?_); (try (refine gate_guard (by rfl) ?_; dsimp only)); refine box_event ?hg (N := 4) ?hd (cs := #[.slice A2 l2.length c2, .slice A3 l3.length c3]) (t := 25) ?hr ?_; (case hd => rfl); (case hg => rfl); (case hr => first | (go_simp; done) | (go_simp; rfl)); intro h hg w_ hbox hb; have HH : g < h := (hg ▸ blk_lt BG.out); replace BG := Lib.hid (blk_below BG.out hb); replace BL := Lib.hid (below_then BL.out BL.out.size hb); have BH := Lib.hid hbox; clear hg hbox hb)
  | ((with_reducible refine gate_dst (N := 5) rfl ?_); (try (refine gate_guard (by rfl) ?_; dsimp only)); refine box_event ?hg (N := 5) ?hd (cs := #[.slice A4 l4.length c4, .slice A5 l5.length c5]) (t := 51) ?hr ?_; (case hd => rfl); (case hg => rfl); (case hr => first | (go_simp; done) | (go_simp; rfl)); intro m hg w_ hbox hb; have HM : h < m := (hg ▸ blk_lt BH.out); replace BG := Lib.hid (blk_below BG.out hb); replace BL := Lib.hid (below_then BL.out BL.out.size hb); replace BH := Lib.hid (blk_below BH.out hb); have BM := Lib.hid hbox; clear hg hbox hb))
 obtain ⟨zBG_0, zBG_1⟩ := cell2 BG.out; obtain ⟨zBH_0, zBH_1⟩ := cell2 BH.out; obtain ⟨zBM_0, zBM_1⟩ := cell2 BM.out
 go_upto_region 4 with (first
  | (go_at_call 20; refine (ref05_Valid.calls0 A0 c0 l0 A1 c1 l1 _ (Kd.C_below R0.out BL.out) M0.out (Kd.C_below R1.out BL.out) M1.out).mono ?_; rintro e w_ ⟨he_, hb⟩; rw [v0] at he_; subst he_; clear zBG_0 zBG_1 zBH_0 zBH_1 zBM_0 zBM_1; replace BG := Lib.hid (blk_below BG.out hb); replace BL := Lib.hid (below_then BL.out BL.out.size hb); replace BH := Lib.hid (blk_below BH.out hb); replace BM := Lib.hid (blk_below BM.out hb); clear hb; obtain ⟨zBG_0, zBG_1⟩ := cell2 BG.out; obtain ⟨zBH_0, zBH_1⟩ := cell2 BH.out; obtain ⟨zBM_0, zBM_1⟩ := cell2 BM.out))
 go_upto_region 7 with (first
  | (go_at_call 20; refine (ref05_Valid.calls0 A2 c2 l2 A3 c3 l3 _ (Kd.C_below R2.out BL.out) M2.out (Kd.C_below R3.out BL.out) M3.out).mono ?_; rintro e w_ ⟨he_, hb⟩; rw [v2] at he_; subst he_; clear zBG_0 zBG_1 zBH_0 zBH_1 zBM_0 zBM_1; replace BG := Lib.hid (blk_below BG.out hb); replace BL := Lib.hid (below_then BL.out BL.out.size hb); replace BH := Lib.hid (blk_below BH.out hb); replace BM := Lib.hid (blk_below BM.out hb); clear hb; obtain ⟨zBG_0, zBG_1⟩ := cell2 BG.out; obtain ⟨zBH_0, zBH_1⟩ := cell2 BH.out; obtain ⟨zBM_0, zBM_1⟩ := cell2 BM.out))
 have HL := Lib.hid (BL.out)
 go_wp2
 go_loopg [9] l4.length (fun gg v9 wr => ∃ i : Nat, i ≤ l4.length ∧ l4.length - i ≤ gg ∧ v9 = .int .i64 (i : Nat) ∧ Aside0 (nodesE l0 l2 i (l4.drop i) = nodesE l0 l2 0 l4) ∧ Aside0 (Bk wr g 25 (.slice A0 l0.length c0) (.slice A1 l1.length c1)) ∧ Aside0 (Bk wr h 25 (.slice A2 l2.length c2) (.slice A3 l3.length c3)) ∧ Aside0 (Bk wr m 51 (.slice A4 l4.length c4) (.slice A5 l5.length c5)) ∧ Aside0 (Below w.heap.size w wr))
 case atStart => exact ⟨0, Nat.zero_le _, by omega, rfl, ⟨rfl⟩, ⟨BG.out⟩, ⟨BH.out⟩, ⟨BM.out⟩, ⟨BL.out⟩⟩
 case round =>
  clear zBG_0 zBG_1 zBH_0 zBH_1 zBM_0 zBM_1 BG BH BM BL HL; obtain ⟨i, hi, hg, rfl, EN, BG, BH, BM, BL⟩ := hrel; obtain ⟨zG0, zG1⟩ := cell2 BG.out; obtain ⟨zH0, zH1⟩ := cell2 BH.out; obtain ⟨zM0, zM1⟩ := cell2 BM.out
  by_cases hlt : i < l4.length
  ·obtain ⟨ad4, rfl, x4⟩ := Kd.at_int R4.out (i : Int) (by omega) (by omega)
   replace x4 := (BL.out.cell (World.block_lt_of_cell? w _ x4)).trans x4; simp only [Int.toNat_natCast] at x4
   have hlz : (i : Int) < (l4.length : Int) := by omega
   have hl0 : (i : Int) < (l0.length : Int) := by have := E4.out; omega
   have E1 : l4.drop i = rd l4 (i : Int) :: l4.drop (i + 1) := by rw [List.drop_eq_getElem_cons hlt, rd_get l4 i hlt]
   have E2 := EN.out; rw [E1, nodesE] at E2; generalize rd l4 (i : Int) = k at x4 E2; have E3 := Lib.hid E2; clear E1 E2 EN
   by_cases h0 : k < 0
   ·have E6 : nodesE l0 l2 0 l4 = 6 := by rw [← E3.out, if_pos (.inl h0)]
    have E7 := Lib.hid E6; clear E3 E6
    go_wp2
    repeat (go_quiet (fail); try go_wp2)
    exact bodyPost_ret (v := .int .i64 6) (by simp [results, Try.f47, go_sem]) rfl ⟨by rw [← HS.out, E7.out, if_neg (by decide)], by first | exact BL.out | exact pw_below_drewN BL.out _ | exact pw_below_drewN (pw_below_drewN BL.out _) _⟩
   ·by_cases h1 : (l2.length : Int) ≤ k
    ·have E6 : nodesE l0 l2 0 l4 = 6 := by rw [← E3.out, if_pos (.inr h1)]
     have E7 := Lib.hid E6; clear E3 E6
     go_wp2
     repeat (go_quiet (fail); try go_wp2)
     exact bodyPost_ret (v := .int .i64 6) (by simp [results, Try.f47, go_sem]) rfl ⟨by rw [← HS.out, E7.out, if_neg (by decide)], by first | exact BL.out | exact pw_below_drewN BL.out _ | exact pw_below_drewN (pw_below_drewN BL.out _) _⟩
    ·obtain ⟨ad2, rfl, x2⟩ := Kd.at_int R2.out k (by omega) (by omega)
     replace x2 := (BL.out.cell (World.block_lt_of_cell? w _ x2)).trans x2; obtain ⟨ad0, rfl, x0⟩ := Kd.at_int R0.out (i : Int) (by omega) (by have := E4.out; omega); replace x0 := (BL.out.cell (World.block_lt_of_cell? w _ x0)).trans x0; simp only [Int.toNat_natCast] at x0
     have h1' : k < (l2.length : Int) := by omega
     have h0' : 0 ≤ k := by omega
     by_cases hq : rd l2 k = rd l0 (i : Int)
     ·have E6 : nodesE l0 l2 (i + 1) (l4.drop (i + 1)) = nodesE l0 l2 0 l4 := by rw [← E3.out, if_neg (by omega), if_pos hq]
      clear E3; have E7 := Lib.hid E6; clear E6
      have q1 : (rd l2 k != rd l0 (i : Int)) = false := by simp [hq]
      have q2 : decide (rd l2 k = rd l0 (i : Int)) = true := decide_eq_true hq
      go_wp2
      repeat (go_quiet (fail); try go_wp2)
      go_roundg (l4.length - (i + 1))
      case measure => omega
      case rel => exact ⟨i + 1, by omega, by omega, by go_num, ⟨E7.out⟩, ⟨by first | exact BG.out | exact blk_drewN BG.out _ | exact blk_drewN (blk_drewN BG.out _) _⟩, ⟨by first | exact BH.out | exact blk_drewN BH.out _ | exact blk_drewN (blk_drewN BH.out _) _⟩, ⟨by first | exact BM.out | exact blk_drewN BM.out _ | exact blk_drewN (blk_drewN BM.out _) _⟩, ⟨by first | exact BL.out | exact pw_below_drewN BL.out _ | exact pw_below_drewN (pw_below_drewN BL.out _) _⟩⟩
     ·have E6 : nodesE l0 l2 0 l4 = 13 := by rw [← E3.out, if_neg (by omega), if_neg hq]
      have E7 := Lib.hid E6; clear E3 E6
      have q1 : (rd l2 k != rd l0 (i : Int)) = true := by simp [hq]
      have q2 : decide (rd l2 k = rd l0 (i : Int)) = false := decide_eq_false hq
      go_wp2
      repeat (go_quiet (fail); try go_wp2)
      exact bodyPost_ret (v := .int .i64 13) (by simp [results, Try.f47, go_sem]) rfl ⟨by rw [← HS.out, E7.out, if_neg (by decide)], by first | exact BL.out | exact pw_below_drewN BL.out _ | exact pw_below_drewN (pw_below_drewN BL.out _) _⟩
  ·have hlz : ¬ (i : Int) < (l4.length : Int) := by omega
   have hl0 : ¬ (i : Int) < (l0.length : Int) := by have := E4.out; omega
   have E6 : nodesE l0 l2 0 l4 = 0 := by
    have := EN.out; rw [List.drop_of_length_le (by omega), nodesE] at this; exact this.symm
   have E7 := Lib.hid E6; clear EN E6
   go_wp2
   go_loopg [10] l5.length (fun gg v10 wr => ∃ i : Nat, i ≤ l5.length ∧ l5.length - i ≤ gg ∧ v10 = .int .i64 (i : Nat) ∧ Aside0 (edgesE l1 l3 l4 i (l5.drop i) = edgesE l1 l3 l4 0 l5) ∧ Aside0 (Bk wr g 25 (.slice A0 l0.length c0) (.slice A1 l1.length c1)) ∧ Aside0 (Bk wr h 25 (.slice A2 l2.length c2) (.slice A3 l3.length c3)) ∧ Aside0 (Bk wr m 51 (.slice A4 l4.length c4) (.slice A5 l5.length c5)) ∧ Aside0 (Below w.heap.size w wr))
   case atStart => exact ⟨0, Nat.zero_le _, by omega, rfl, ⟨rfl⟩, ⟨BG.out⟩, ⟨BH.out⟩, ⟨BM.out⟩, ⟨BL.out⟩⟩
   case round =>
    clear zG0 zG1 zH0 zH1 zM0 zM1 BG BH BM BL hlz hi hg; obtain ⟨i, hi, hg, rfl, EN, BG, BH, BM, BL⟩ := hrel; obtain ⟨zG0, zG1⟩ := cell2 BG.out; obtain ⟨zH0, zH1⟩ := cell2 BH.out; obtain ⟨zM0, zM1⟩ := cell2 BM.out
    by_cases hlt : i < l5.length
    ·obtain ⟨ad5, rfl, x5⟩ := Kd.at_int R5.out (i : Int) (by omega) (by omega)
     simp only [Int.toNat_natCast] at x5; have PX := Lib.hid x5; replace x5 := (BL.out.cell (World.block_lt_of_cell? w _ x5)).trans x5
     have hlz : (i : Int) < (l5.length : Int) := by omega
     have hl1 : (i : Int) < (l1.length : Int) := by have := E5.out; omega
     have E1 : l5.drop i = rd l5 (i : Int) :: l5.drop (i + 1) := by rw [List.drop_eq_getElem_cons hlt, rd_get l5 i hlt]
     have E2 := EN.out; rw [E1, edgesE] at E2; generalize rd l5 (i : Int) = k at x5 PX E2; have E3 := Lib.hid E2; clear E1 E2 EN
     by_cases h0 : k < 0
     ·have E6 : edgesE l1 l3 l4 0 l5 = 6 := by rw [← E3.out, if_pos (.inl h0)]
      have E8 := Lib.hid E6; clear E3 E6
      go_wp2
      repeat (go_quiet (fail); try go_wp2)
      exact bodyPost_ret (v := .int .i64 6) (by simp [results, Try.f47, go_sem]) rfl ⟨by rw [← HS.out, if_pos E7.out, E8.out], by first | exact BL.out | exact pw_below_drewN BL.out _ | exact pw_below_drewN (pw_below_drewN BL.out _) _⟩
     ·by_cases h1 : (l3.length : Int) ≤ k
      ·have E6 : edgesE l1 l3 l4 0 l5 = 6 := by rw [← E3.out, if_pos (.inr h1)]
       have E8 := Lib.hid E6; clear E3 E6
       go_wp2
       repeat (go_quiet (fail); try go_wp2)
       exact bodyPost_ret (v := .int .i64 6) (by simp [results, Try.f47, go_sem]) rfl ⟨by rw [← HS.out, if_pos E7.out, E8.out], by first | exact BL.out | exact pw_below_drewN BL.out _ | exact pw_below_drewN (pw_below_drewN BL.out _) _⟩
      ·have h1' : k < (l3.length : Int) := by omega
       have h0' : 0 ≤ k := by omega
       obtain ⟨ad1, rfl, a0_, a1_, a2_⟩ := at_T78 R1.out (i : Int) (by omega) (by have := E5.out; omega); obtain ⟨ad3, rfl, b0_, b1_, b2_⟩ := at_T78 R3.out k (by omega) (by omega); simp only [Int.toNat_natCast] at a0_ a1_ a2_; have PA0 := Lib.hid a0_; have PA1 := Lib.hid a1_; have PA2 := Lib.hid a2_; have PB0 := Lib.hid b0_; have PB1 := Lib.hid b1_; have PB2 := Lib.hid b2_; clear a0_ a1_ a2_ b0_ b1_ b2_
       go_upto_region 19 with fail
       go_quiet (fail)
       replace BG := Lib.hid (blk_drewN BG.out nq); replace BH := Lib.hid (blk_drewN BH.out nq); replace BM := Lib.hid (blk_drewN BM.out nq); replace BL := Lib.hid (pw_below_drewN BL.out nq)
       go_upto_region 21 with fail
       clear zG0 zG1 zH0 zH1 zM0 zM1; replace BG := Lib.hid (blk_drew BG.out); replace BH := Lib.hid (blk_drew BH.out); replace BM := Lib.hid (blk_drew BM.out); replace BL := Lib.hid (below_drew1 BL.out)
       refine start_ (n := 18) (S := fun w' => w'.cell? ⟨g, 1, none⟩ = some (.slice (some ad1) l1.length c1) ∧ w'.cell? ⟨h, 1, none⟩ = some (.slice (some ad3) l3.length c3) ∧ w'.cell? ⟨m, 1, none⟩ = some (.slice (some ad5) l5.length c5) ∧ w'.cell? (ad5.add i) = some (.int .i64 k) ∧ w'.cell? (ad1.add (i * 3)) = some (.int .i64 (rd_T78 l1 (i : Int)).f0) ∧ w'.cell? (⟨(ad1.add (i * 3)).block, (ad1.add (i * 3)).off + 1, none⟩) = some (.int .i64 (rd_T78 l1 (i : Int)).f1) ∧ w'.cell? (⟨(ad1.add (i * 3)).block, (ad1.add (i * 3)).off + 2, none⟩) = some (.int .i64 (rd_T78 l1 (i : Int)).f2) ∧ w'.cell? (ad3.add (k.toNat * 3)) = some (.int .i64 (rd_T78 l3 k).f0) ∧ w'.cell? (⟨(ad3.add (k.toNat * 3)).block, (ad3.add (k.toNat * 3)).off + 1, none⟩) = some (.int .i64 (rd_T78 l3 k).f1) ∧ w'.cell? (⟨(ad3.add (k.toNat * 3)).block, (ad3.add (k.toNat * 3)).off + 2, none⟩) = some (.int .i64 (rd_T78 l3 k).f2)) (ds := []) #[false, false, false, false, false, false, false, false, false, false, false, false, false, false, false, false, false, false] (by kernel_rfl) rfl rfl ⟨(cell2 BG.out).2, (cell2 BH.out).2, (cell2 BM.out).2, (BL.out.cell (World.block_lt_of_cell? w _ PX.out)).trans PX.out, (BL.out.cell (World.block_lt_of_cell? w _ PA0.out)).trans PA0.out, (BL.out.cell (World.block_lt_of_cell? w _ PA1.out)).trans PA1.out, (BL.out.cell (World.block_lt_of_cell? w _ PA2.out)).trans PA2.out, (BL.out.cell (World.block_lt_of_cell? w _ PB0.out)).trans PB0.out, (BL.out.cell (World.block_lt_of_cell? w _ PB1.out)).trans PB1.out, (BL.out.cell (World.block_lt_of_cell? w _ PB2.out)).trans PB2.out⟩ (fun hHeld => ?_)
       refine pure_ (i := 0) (N := some 102) (v := ?_) (a' := ?_) #[true, false, false, false, false, false, false, false, false, false, false, false, false, false, false, false, false, false] rfl rfl (by kernel_rfl) (fun _ _ _ h => h) (Or.inl ⟨by rfl, ?_⟩) ?_ ?_
       rotate_left
       ·intro w'
        go_simp
        with_reducible rfl
       rotate_left
       ·simp only [Act.put, sI_, s0_, sS_, i64_w, i32_w]
        rfl
       refine take_ (i := 1) (N := some 103) (v := ?_) (a' := ?_) #[true, true, false, false, false, false, false, false, false, false, false, false, false, false, false, false, false, false] rfl rfl (by kernel_rfl) (fun _ _ _ h => h) (Or.inl ⟨by rfl, ?_⟩) hHeld ?_ ?_
       rotate_left
       ·rintro w' ⟨s0, s1, s2, s3, s4, s5, s6, s7, s8, s9⟩
        go_simp
        with_reducible rfl
       rotate_left
       ·simp only [Act.put, sI_, s0_, sS_, i64_w, i32_w]
        rfl
       refine pure_ (i := 2) (N := some 104) (v := ?_) (a' := ?_) #[true, true, true, false, false, false, false, false, false, false, false, false, false, false, false, false, false, false] rfl rfl (by kernel_rfl) (fun _ _ _ h => h) (Or.inl ⟨by rfl, ?_⟩) ?_ ?_
       rotate_left
       ·intro w'
        go_simp
        with_reducible rfl
       rotate_left
       ·simp only [Act.put, sI_, s0_, sS_, i64_w, i32_w]
        rfl
       refine pure_ (i := 3) (N := some 105) (v := ?_) (a' := ?_) #[true, true, true, true, false, false, false, false, false, false, false, false, false, false, false, false, false, false] rfl rfl (by kernel_rfl) (fun _ _ _ h => h) (Or.inl ⟨by rfl, ?_⟩) ?_ ?_
       rotate_left
       ·intro w'
        go_simp
        with_reducible rfl
       rotate_left
       ·simp only [Act.put, sI_, s0_, sS_, i64_w, i32_w]
        rfl
       refine take_ (i := 4) (N := some 106) (v := ?_) (a' := ?_) #[true, true, true, true, true, false, false, false, false, false, false, false, false, false, false, false, false, false] rfl rfl (by kernel_rfl) (fun _ _ _ h => h) (Or.inl ⟨by rfl, ?_⟩) hHeld ?_ ?_
       rotate_left
       ·rintro w' ⟨s0, s1, s2, s3, s4, s5, s6, s7, s8, s9⟩
        go_simp
        with_reducible rfl
       rotate_left
       ·simp only [Act.put, sI_, s0_, sS_, i64_w, i32_w]
        rfl
       refine pure_ (i := 5) (N := some 107) (v := ?_) (a' := ?_) #[true, true, true, true, true, true, false, false, false, false, false, false, false, false, false, false, false, false] rfl rfl (by kernel_rfl) (fun _ _ _ h => h) (Or.inl ⟨by rfl, ?_⟩) ?_ ?_
       rotate_left
       ·intro w'
        go_simp
        with_reducible rfl
       rotate_left
       ·simp only [Act.put, sI_, s0_, sS_, i64_w, i32_w]
        rfl
       refine take_ (i := 6) (N := some 108) (v := ?_) (a' := ?_) #[true, true, true, true, true, true, true, false, false, false, false, false, false, false, false, false, false, false] rfl rfl (by kernel_rfl) (fun _ _ _ h => h) (Or.inl ⟨by rfl, ?_⟩) hHeld ?_ ?_
       rotate_left
       ·rintro w' ⟨s0, s1, s2, s3, s4, s5, s6, s7, s8, s9⟩
        go_simp
        with_reducible rfl
       rotate_left
       ·simp only [Act.put, sI_, s0_, sS_, i64_w, i32_w]
        rfl
       refine pure_ (i := 7) (N := some 109) (v := ?_) (a' := ?_) #[true, true, true, true, true, true, true, true, false, false, false, false, false, false, false, false, false, false] rfl rfl (by kernel_rfl) (fun _ _ _ h => h) (Or.inl ⟨by rfl, ?_⟩) ?_ ?_
       rotate_left
       ·intro w'
        go_simp
        with_reducible rfl
       rotate_left
       ·simp only [Act.put, sI_, s0_, sS_, i64_w, i32_w]
        rfl
       refine take_ (i := 8) (N := some 110) (v := ?_) (a' := ?_) #[true, true, true, true, true, true, true, true, true, false, false, false, false, false, false, false, false, false] rfl rfl (by kernel_rfl) (fun _ _ _ h => h) (Or.inl ⟨by rfl, ?_⟩) hHeld ?_ ?_
       rotate_left
       ·rintro w' ⟨s0, s1, s2, s3, s4, s5, s6, s7, s8, s9⟩
        go_simp
        with_reducible rfl
       rotate_left
       ·simp only [Act.put, sI_, s0_, sS_, i64_w, i32_w]
        rfl
       refine pure_ (i := 9) (N := some 111) (v := ?_) (a' := ?_) #[true, true, true, true, true, true, true, true, true, true, false, false, false, false, false, false, false, false] rfl rfl (by kernel_rfl) (fun _ _ _ h => h) (Or.inl ⟨by rfl, ?_⟩) ?_ ?_
       rotate_left
       ·intro w'
        go_simp
        with_reducible rfl
       rotate_left
       ·simp only [Act.put, sI_, s0_, sS_, i64_w, i32_w]
        rfl
       refine pure_ (i := 10) (N := some 112) (v := ?_) (a' := ?_) #[true, true, true, true, true, true, true, true, true, true, true, false, false, false, false, false, false, false] rfl rfl (by kernel_rfl) (fun _ _ _ h => h) (Or.inl ⟨by rfl, ?_⟩) ?_ ?_
       rotate_left
       ·intro w'
        go_simp
        with_reducible rfl
       rotate_left
       ·simp only [Act.put, sI_, s0_, sS_, i64_w, i32_w]
        rfl
       refine take_ (i := 11) (N := some 113) (v := ?_) (a' := ?_) #[true, true, true, true, true, true, true, true, true, true, true, true, false, false, false, false, false, false] rfl rfl (by kernel_rfl) (fun _ _ _ h => h) (Or.inl ⟨by rfl, ?_⟩) hHeld ?_ ?_
       rotate_left
       ·rintro w' ⟨s0, s1, s2, s3, s4, s5, s6, s7, s8, s9⟩
        go_simp
        with_reducible rfl
       rotate_left
       ·simp only [Act.put, sI_, s0_, sS_, i64_w, i32_w]
        rfl
       refine pure_ (i := 12) (N := some 114) (v := ?_) (a' := ?_) #[true, true, true, true, true, true, true, true, true, true, true, true, true, false, false, false, false, false] rfl rfl (by kernel_rfl) (fun _ _ _ h => h) (Or.inl ⟨by rfl, ?_⟩) ?_ ?_
       rotate_left
       ·intro w'
        go_simp
        with_reducible rfl
       rotate_left
       ·simp only [Act.put, sI_, s0_, sS_, i64_w, i32_w]
        rfl
       refine take_ (i := 13) (N := some 115) (v := ?_) (a' := ?_) #[true, true, true, true, true, true, true, true, true, true, true, true, true, true, false, false, false, false] rfl rfl (by kernel_rfl) (fun _ _ _ h => h) (Or.inl ⟨by rfl, ?_⟩) hHeld ?_ ?_
       rotate_left
       ·rintro w' ⟨s0, s1, s2, s3, s4, s5, s6, s7, s8, s9⟩
        go_simp
        with_reducible rfl
       rotate_left
       ·simp only [Act.put, sI_, s0_, sS_, i64_w, i32_w]
        rfl
       refine join_ (σ := Nat × Nat) 2 #[true, true, true, true, true, true, true, true, true, true, true, true, true, true, true, true, false, false] (fun s_ => [(11, .pointer (some ⟨s_.1, 0, none⟩)), (12, .pointer (some ⟨s_.2, 0, none⟩))]) (fun s_ w' => (w'.cell? ⟨g, 1, none⟩ = some (.slice (some ad1) l1.length c1) ∧ w'.cell? ⟨h, 1, none⟩ = some (.slice (some ad3) l3.length c3) ∧ w'.cell? ⟨m, 1, none⟩ = some (.slice (some ad5) l5.length c5) ∧ w'.cell? (ad5.add i) = some (.int .i64 k) ∧ w'.cell? (ad1.add (i * 3)) = some (.int .i64 (rd_T78 l1 (i : Int)).f0) ∧ w'.cell? (⟨(ad1.add (i * 3)).block, (ad1.add (i * 3)).off + 1, none⟩) = some (.int .i64 (rd_T78 l1 (i : Int)).f1) ∧ w'.cell? (⟨(ad1.add (i * 3)).block, (ad1.add (i * 3)).off + 2, none⟩) = some (.int .i64 (rd_T78 l1 (i : Int)).f2) ∧ w'.cell? (ad3.add (k.toNat * 3)) = some (.int .i64 (rd_T78 l3 k).f0) ∧ w'.cell? (⟨(ad3.add (k.toNat * 3)).block, (ad3.add (k.toNat * 3)).off + 1, none⟩) = some (.int .i64 (rd_T78 l3 k).f1) ∧ w'.cell? (⟨(ad3.add (k.toNat * 3)).block, (ad3.add (k.toNat * 3)).off + 2, none⟩) = some (.int .i64 (rd_T78 l3 k).f2)) ∧ (m < s_.1) ∧ (m < s_.2) ∧ (s_.1 ≠ s_.2) ∧ (w'.heap[g]? = some (.cells #[.slice A0 l0.length c0, .slice (some ad1) l1.length c1] 25 (0, 0))) ∧ (w'.heap[h]? = some (.cells #[.slice A2 l2.length c2, .slice (some ad3) l3.length c3] 25 (0, 0))) ∧ (w'.heap[m]? = some (.cells #[.slice A4 l4.length c4, .slice (some ad5) l5.length c5] 51 (0, 0))) ∧ (Below w.heap.size w w') ∧ (w'.heap[s_.1]? = some (.cells #[.int .i64 0, .int .i64 0, .int .i64 0] 78 (0, 0))) ∧ (w'.heap[s_.2]? = some (.cells #[.int .i64 0, .int .i64 0, .int .i64 0] 78 (0, 0)))) ?_ ?_
       rotate_left
       ·intro J0_3
        refine join_ (σ := Nat) 3 #[true, true, true, true, true, true, true, true, true, true, true, true, true, true, false, true, false, false] (fun s_ => [(12, .pointer (some ⟨s_, 0, none⟩))]) (fun s_ w' => (w'.cell? ⟨g, 1, none⟩ = some (.slice (some ad1) l1.length c1) ∧ w'.cell? ⟨h, 1, none⟩ = some (.slice (some ad3) l3.length c3) ∧ w'.cell? ⟨m, 1, none⟩ = some (.slice (some ad5) l5.length c5) ∧ w'.cell? (ad5.add i) = some (.int .i64 k) ∧ w'.cell? (ad1.add (i * 3)) = some (.int .i64 (rd_T78 l1 (i : Int)).f0) ∧ w'.cell? (⟨(ad1.add (i * 3)).block, (ad1.add (i * 3)).off + 1, none⟩) = some (.int .i64 (rd_T78 l1 (i : Int)).f1) ∧ w'.cell? (⟨(ad1.add (i * 3)).block, (ad1.add (i * 3)).off + 2, none⟩) = some (.int .i64 (rd_T78 l1 (i : Int)).f2) ∧ w'.cell? (ad3.add (k.toNat * 3)) = some (.int .i64 (rd_T78 l3 k).f0) ∧ w'.cell? (⟨(ad3.add (k.toNat * 3)).block, (ad3.add (k.toNat * 3)).off + 1, none⟩) = some (.int .i64 (rd_T78 l3 k).f1) ∧ w'.cell? (⟨(ad3.add (k.toNat * 3)).block, (ad3.add (k.toNat * 3)).off + 2, none⟩) = some (.int .i64 (rd_T78 l3 k).f2)) ∧ (m < s_) ∧ (w'.heap[g]? = some (.cells #[.slice A0 l0.length c0, .slice (some ad1) l1.length c1] 25 (0, 0))) ∧ (w'.heap[h]? = some (.cells #[.slice A2 l2.length c2, .slice (some ad3) l3.length c3] 25 (0, 0))) ∧ (w'.heap[m]? = some (.cells #[.slice A4 l4.length c4, .slice (some ad5) l5.length c5] 51 (0, 0))) ∧ (Below w.heap.size w w') ∧ (w'.heap[s_]? = some (.cells #[.int .i64 0, .int .i64 0, .int .i64 0] 78 (0, 0)))) ?_ ?_
        rotate_left
        ·intro J0_2
         refine join_ (σ := Nat) 3 #[true, true, true, true, true, true, true, true, true, true, true, true, true, true, true, false, false, false] (fun s_ => [(11, .pointer (some ⟨s_, 0, none⟩))]) (fun s_ w' => (w'.cell? ⟨g, 1, none⟩ = some (.slice (some ad1) l1.length c1) ∧ w'.cell? ⟨h, 1, none⟩ = some (.slice (some ad3) l3.length c3) ∧ w'.cell? ⟨m, 1, none⟩ = some (.slice (some ad5) l5.length c5) ∧ w'.cell? (ad5.add i) = some (.int .i64 k) ∧ w'.cell? (ad1.add (i * 3)) = some (.int .i64 (rd_T78 l1 (i : Int)).f0) ∧ w'.cell? (⟨(ad1.add (i * 3)).block, (ad1.add (i * 3)).off + 1, none⟩) = some (.int .i64 (rd_T78 l1 (i : Int)).f1) ∧ w'.cell? (⟨(ad1.add (i * 3)).block, (ad1.add (i * 3)).off + 2, none⟩) = some (.int .i64 (rd_T78 l1 (i : Int)).f2) ∧ w'.cell? (ad3.add (k.toNat * 3)) = some (.int .i64 (rd_T78 l3 k).f0) ∧ w'.cell? (⟨(ad3.add (k.toNat * 3)).block, (ad3.add (k.toNat * 3)).off + 1, none⟩) = some (.int .i64 (rd_T78 l3 k).f1) ∧ w'.cell? (⟨(ad3.add (k.toNat * 3)).block, (ad3.add (k.toNat * 3)).off + 2, none⟩) = some (.int .i64 (rd_T78 l3 k).f2)) ∧ (m < s_) ∧ (w'.heap[g]? = some (.cells #[.slice A0 l0.length c0, .slice (some ad1) l1.length c1] 25 (0, 0))) ∧ (w'.heap[h]? = some (.cells #[.slice A2 l2.length c2, .slice (some ad3) l3.length c3] 25 (0, 0))) ∧ (w'.heap[m]? = some (.cells #[.slice A4 l4.length c4, .slice (some ad5) l5.length c5] 51 (0, 0))) ∧ (Below w.heap.size w w') ∧ (w'.heap[s_]? = some (.cells #[.int .i64 0, .int .i64 0, .int .i64 0] 78 (0, 0)))) ?_ ?_
         rotate_left
         ·intro J0_1
          refine two_ (i := 14) (j := 15) (Ni := some 11) (Nj := some 12) #[true, true, true, true, true, true, true, true, true, true, true, true, true, true, true, false, false, false] #[true, true, true, true, true, true, true, true, true, true, true, true, true, true, false, true, false, false] rfl rfl rfl rfl (by kernel_rfl) (by decide) (by decide) (fun K hK => ?_) (fun K hK => ?_)
          ·skip
           refine box_step ?hg (N := 11) ?hd (cs := #[.int .i64 0, .int .i64 0, .int .i64 0]) (t := 78) ?hr ?_; (case hd => rfl); (case hg => rfl); (case hr => first | (go_simp; done) | (go_simp; rfl))
           intro x hg w_ hbox hb
           have Hx : m < x := by rw [hg]; exact blk_lt BM.out
           replace BG := Lib.hid (blk_below BG.out hb); replace BH := Lib.hid (blk_below BH.out hb); replace BM := Lib.hid (blk_below BM.out hb); replace BL := Lib.hid (below_then BL.out BL.out.size hb); have BX := Lib.hid hbox; clear hg hbox hb
           refine hK.out _ _ ⟨(cell2 BG.out).2, (cell2 BH.out).2, (cell2 BM.out).2, (BL.out.cell (World.block_lt_of_cell? w _ PX.out)).trans PX.out, (BL.out.cell (World.block_lt_of_cell? w _ PA0.out)).trans PA0.out, (BL.out.cell (World.block_lt_of_cell? w _ PA1.out)).trans PA1.out, (BL.out.cell (World.block_lt_of_cell? w _ PA2.out)).trans PA2.out, (BL.out.cell (World.block_lt_of_cell? w _ PB0.out)).trans PB0.out, (BL.out.cell (World.block_lt_of_cell? w _ PB1.out)).trans PB1.out, (BL.out.cell (World.block_lt_of_cell? w _ PB2.out)).trans PB2.out⟩ (fun hHeld => ?_)
           clear hK K
           refine norm_ (a' := ?_) ?_ ?_
           rotate_left
           ·show Act.put _ (some 11) _ = _
            simp only [Act.put, sI_, s0_, sS_, i64_w, i32_w]
            rfl
           exact norm_ (by first | (simp only [putAll, Act.put, sI_, s0_, sS_]; done) | (simp only [putAll, Act.put, sI_, s0_, sS_]; rfl)) (J0_1 x _ ⟨hHeld, Hx, BG.out, BH.out, BM.out, BL.out, BX.out⟩)
          ·skip
           refine box_step ?hg (N := 12) ?hd (cs := #[.int .i64 0, .int .i64 0, .int .i64 0]) (t := 78) ?hr ?_; (case hd => rfl); (case hg => rfl); (case hr => first | (go_simp; done) | (go_simp; rfl))
           intro y hg w_ hbox hb
           have Hy : m < y := by rw [hg]; exact blk_lt BM.out
           replace BG := Lib.hid (blk_below BG.out hb); replace BH := Lib.hid (blk_below BH.out hb); replace BM := Lib.hid (blk_below BM.out hb); replace BL := Lib.hid (below_then BL.out BL.out.size hb); have BY := Lib.hid hbox; clear hg hbox hb
           refine hK.out _ _ ⟨(cell2 BG.out).2, (cell2 BH.out).2, (cell2 BM.out).2, (BL.out.cell (World.block_lt_of_cell? w _ PX.out)).trans PX.out, (BL.out.cell (World.block_lt_of_cell? w _ PA0.out)).trans PA0.out, (BL.out.cell (World.block_lt_of_cell? w _ PA1.out)).trans PA1.out, (BL.out.cell (World.block_lt_of_cell? w _ PA2.out)).trans PA2.out, (BL.out.cell (World.block_lt_of_cell? w _ PB0.out)).trans PB0.out, (BL.out.cell (World.block_lt_of_cell? w _ PB1.out)).trans PB1.out, (BL.out.cell (World.block_lt_of_cell? w _ PB2.out)).trans PB2.out⟩ (fun hHeld => ?_)
           clear hK K
           refine norm_ (a' := ?_) ?_ ?_
           rotate_left
           ·show Act.put _ (some 12) _ = _
            simp only [Act.put, sI_, s0_, sS_, i64_w, i32_w]
            rfl
           exact norm_ (by first | (simp only [putAll, Act.put, sI_, s0_, sS_]; done) | (simp only [putAll, Act.put, sI_, s0_, sS_]; rfl)) (J0_2 y _ ⟨hHeld, Hy, BG.out, BH.out, BM.out, BL.out, BY.out⟩)
         rintro x w_ ⟨hHeld, Hx, qBG, qBH, qBM, qBL, qBX⟩; replace Hx : m < x := Hx
         replace BG : Hid (w_.heap[g]? = some (.cells #[.slice A0 l0.length c0, .slice (some ad1) l1.length c1] 25 (0, 0))) := Lib.hid qBG; clear qBG
         replace BH : Hid (w_.heap[h]? = some (.cells #[.slice A2 l2.length c2, .slice (some ad3) l3.length c3] 25 (0, 0))) := Lib.hid qBH; clear qBH
         replace BM : Hid (w_.heap[m]? = some (.cells #[.slice A4 l4.length c4, .slice (some ad5) l5.length c5] 51 (0, 0))) := Lib.hid qBM; clear qBM
         replace BL : Hid (Below w.heap.size w w_) := Lib.hid qBL; clear qBL
         have BX : Hid (w_.heap[x]? = some (.cells #[.int .i64 0, .int .i64 0, .int .i64 0] 78 (0, 0))) := Lib.hid qBX; clear qBX
         refine norm_ (a' := ?_) ?_ ?_
         rotate_left
         ·simp only [putAll, Act.put, sI_, s0_, sS_]
          rfl
         refine one_ (i := 15) (N := some 12) #[true, true, true, true, true, true, true, true, true, true, true, true, true, true, true, true, false, false] rfl rfl (by kernel_rfl) (by decide) (fun K hK => ?_)
         refine box_step ?hg (N := 12) ?hd (cs := #[.int .i64 0, .int .i64 0, .int .i64 0]) (t := 78) ?hr ?_; (case hd => rfl); (case hg => rfl); (case hr => first | (go_simp; done) | (go_simp; rfl))
         intro y hg w_ hbox hb
         have Hy : m < y := by rw [hg]; exact blk_lt BM.out
         have Hxy : x ≠ y := by have q_ := blk_lt BX.out; rw [← hg] at q_; omega
         replace BG := Lib.hid (blk_below BG.out hb); replace BH := Lib.hid (blk_below BH.out hb); replace BM := Lib.hid (blk_below BM.out hb); replace BL := Lib.hid (below_then BL.out BL.out.size hb); replace BX := Lib.hid (blk_below BX.out hb); have BY := Lib.hid hbox; clear hg hbox hb
         refine hK.out _ _ ⟨(cell2 BG.out).2, (cell2 BH.out).2, (cell2 BM.out).2, (BL.out.cell (World.block_lt_of_cell? w _ PX.out)).trans PX.out, (BL.out.cell (World.block_lt_of_cell? w _ PA0.out)).trans PA0.out, (BL.out.cell (World.block_lt_of_cell? w _ PA1.out)).trans PA1.out, (BL.out.cell (World.block_lt_of_cell? w _ PA2.out)).trans PA2.out, (BL.out.cell (World.block_lt_of_cell? w _ PB0.out)).trans PB0.out, (BL.out.cell (World.block_lt_of_cell? w _ PB1.out)).trans PB1.out, (BL.out.cell (World.block_lt_of_cell? w _ PB2.out)).trans PB2.out⟩ (fun hHeld => ?_)
         clear hK K
         refine norm_ (a' := ?_) ?_ ?_
         rotate_left
         ·show Act.put _ (some 12) _ = _
          simp only [Act.put, sI_, s0_, sS_, i64_w, i32_w]
          rfl
         exact norm_ (by first | (simp only [putAll, Act.put, sI_, s0_, sS_]; done) | (simp only [putAll, Act.put, sI_, s0_, sS_]; rfl)) (J0_3 (x, y) _ ⟨hHeld, Hx, Hy, Hxy, BG.out, BH.out, BM.out, BL.out, BX.out, BY.out⟩)
        rintro y w_ ⟨hHeld, Hy, qBG, qBH, qBM, qBL, qBY⟩; replace Hy : m < y := Hy
        replace BG : Hid (w_.heap[g]? = some (.cells #[.slice A0 l0.length c0, .slice (some ad1) l1.length c1] 25 (0, 0))) := Lib.hid qBG; clear qBG
        replace BH : Hid (w_.heap[h]? = some (.cells #[.slice A2 l2.length c2, .slice (some ad3) l3.length c3] 25 (0, 0))) := Lib.hid qBH; clear qBH
        replace BM : Hid (w_.heap[m]? = some (.cells #[.slice A4 l4.length c4, .slice (some ad5) l5.length c5] 51 (0, 0))) := Lib.hid qBM; clear qBM
        replace BL : Hid (Below w.heap.size w w_) := Lib.hid qBL; clear qBL
        have BY : Hid (w_.heap[y]? = some (.cells #[.int .i64 0, .int .i64 0, .int .i64 0] 78 (0, 0))) := Lib.hid qBY; clear qBY
        refine norm_ (a' := ?_) ?_ ?_
        rotate_left
        ·simp only [putAll, Act.put, sI_, s0_, sS_]
         rfl
        refine one_ (i := 14) (N := some 11) #[true, true, true, true, true, true, true, true, true, true, true, true, true, true, true, true, false, false] rfl rfl (by kernel_rfl) (by decide) (fun K hK => ?_)
        refine box_step ?hg (N := 11) ?hd (cs := #[.int .i64 0, .int .i64 0, .int .i64 0]) (t := 78) ?hr ?_; (case hd => rfl); (case hg => rfl); (case hr => first | (go_simp; done) | (go_simp; rfl))
        intro x hg w_ hbox hb
        have Hx : m < x := by rw [hg]; exact blk_lt BM.out
        have Hxy : x ≠ y := by have q_ := blk_lt BY.out; rw [← hg] at q_; omega
        replace BG := Lib.hid (blk_below BG.out hb); replace BH := Lib.hid (blk_below BH.out hb); replace BM := Lib.hid (blk_below BM.out hb); replace BL := Lib.hid (below_then BL.out BL.out.size hb); replace BY := Lib.hid (blk_below BY.out hb); have BX := Lib.hid hbox; clear hg hbox hb
        refine hK.out _ _ ⟨(cell2 BG.out).2, (cell2 BH.out).2, (cell2 BM.out).2, (BL.out.cell (World.block_lt_of_cell? w _ PX.out)).trans PX.out, (BL.out.cell (World.block_lt_of_cell? w _ PA0.out)).trans PA0.out, (BL.out.cell (World.block_lt_of_cell? w _ PA1.out)).trans PA1.out, (BL.out.cell (World.block_lt_of_cell? w _ PA2.out)).trans PA2.out, (BL.out.cell (World.block_lt_of_cell? w _ PB0.out)).trans PB0.out, (BL.out.cell (World.block_lt_of_cell? w _ PB1.out)).trans PB1.out, (BL.out.cell (World.block_lt_of_cell? w _ PB2.out)).trans PB2.out⟩ (fun hHeld => ?_)
        clear hK K
        refine norm_ (a' := ?_) ?_ ?_
        rotate_left
        ·show Act.put _ (some 11) _ = _
         simp only [Act.put, sI_, s0_, sS_, i64_w, i32_w]
         rfl
        exact norm_ (by first | (simp only [putAll, Act.put, sI_, s0_, sS_]; done) | (simp only [putAll, Act.put, sI_, s0_, sS_]; rfl)) (J0_3 (x, y) _ ⟨hHeld, Hx, Hy, Hxy, BG.out, BH.out, BM.out, BL.out, BX.out, BY.out⟩)
       rintro ⟨x, y⟩ w_ ⟨hHeld, Hx, Hy, Hxy, qBG, qBH, qBM, qBL, qBX, qBY⟩; replace Hx : m < x := Hx; replace Hy : m < y := Hy; replace Hxy : x ≠ y := Hxy
       replace BG : Hid (w_.heap[g]? = some (.cells #[.slice A0 l0.length c0, .slice (some ad1) l1.length c1] 25 (0, 0))) := Lib.hid qBG; clear qBG
       replace BH : Hid (w_.heap[h]? = some (.cells #[.slice A2 l2.length c2, .slice (some ad3) l3.length c3] 25 (0, 0))) := Lib.hid qBH; clear qBH
       replace BM : Hid (w_.heap[m]? = some (.cells #[.slice A4 l4.length c4, .slice (some ad5) l5.length c5] 51 (0, 0))) := Lib.hid qBM; clear qBM
       replace BL : Hid (Below w.heap.size w w_) := Lib.hid qBL; clear qBL
       have BX : Hid (w_.heap[x]? = some (.cells #[.int .i64 0, .int .i64 0, .int .i64 0] 78 (0, 0))) := Lib.hid qBX; clear qBX
       have BY : Hid (w_.heap[y]? = some (.cells #[.int .i64 0, .int .i64 0, .int .i64 0] 78 (0, 0))) := Lib.hid qBY; clear qBY
       refine norm_ (a' := ?_) ?_ ?_
       rotate_left
       ·simp only [putAll, Act.put, sI_, s0_, sS_]
        rfl
       refine one_ (i := 16) (N := none) #[true, true, true, true, true, true, true, true, true, true, true, true, true, true, true, true, true, false] rfl rfl (by kernel_rfl) (by decide) (fun K hK => ?_)
       have y0_ := (blk_cell BX.out 0).trans rfl; have y1_ := (blk_cell BX.out 1).trans rfl; have y2_ := (blk_cell BX.out 2).trans rfl; have f0_ := blk_frozen BX.out 0; have f1_ := blk_frozen BX.out 1; have f2_ := blk_frozen BX.out 2
       refine skip_ (w1 := ?_) (by rfl) rfl ?_ ?_
       rotate_left
       ·go_simp
        rfl
       clear y0_ f0_ y1_ f1_ y2_ f2_; replace BG := Lib.hid (blk_far BG.out (p := ⟨x, 0, none⟩) (by show g ≠ x; omega) (.int .i64 (rd_T78 l1 (i : Int)).f0)); replace BH := Lib.hid (blk_far BH.out (p := ⟨x, 0, none⟩) (by show h ≠ x; omega) (.int .i64 (rd_T78 l1 (i : Int)).f0)); replace BM := Lib.hid (blk_far BM.out (p := ⟨x, 0, none⟩) (by show m ≠ x; omega) (.int .i64 (rd_T78 l1 (i : Int)).f0)); replace BL := Lib.hid (below_set (g := x) (j := 0) (v := .int .i64 (rd_T78 l1 (i : Int)).f0) BL.out (by omega)); replace BY := Lib.hid (blk_far BY.out (p := ⟨x, 0, none⟩) (by show y ≠ x; omega) (.int .i64 (rd_T78 l1 (i : Int)).f0)); replace BX := Lib.hid (blk_put (cs' := #[.int .i64 (rd_T78 l1 (i : Int)).f0, .int .i64 0, .int .i64 0]) BX.out 0 (.int .i64 (rd_T78 l1 (i : Int)).f0) rfl); replace BG := Lib.hid (blk_far BG.out (p := ⟨x, 1, none⟩) (by show g ≠ x; omega) (.int .i64 (rd_T78 l1 (i : Int)).f1)); replace BH := Lib.hid (blk_far BH.out (p := ⟨x, 1, none⟩) (by show h ≠ x; omega) (.int .i64 (rd_T78 l1 (i : Int)).f1)); replace BM := Lib.hid (blk_far BM.out (p := ⟨x, 1, none⟩) (by show m ≠ x; omega) (.int .i64 (rd_T78 l1 (i : Int)).f1)); replace BL := Lib.hid (below_set (g := x) (j := 1) (v := .int .i64 (rd_T78 l1 (i : Int)).f1) BL.out (by omega)); replace BY := Lib.hid (blk_far BY.out (p := ⟨x, 1, none⟩) (by show y ≠ x; omega) (.int .i64 (rd_T78 l1 (i : Int)).f1)); replace BX := Lib.hid (blk_put (cs' := #[.int .i64 (rd_T78 l1 (i : Int)).f0, .int .i64 (rd_T78 l1 (i : Int)).f1, .int .i64 0]) BX.out 1 (.int .i64 (rd_T78 l1 (i : Int)).f1) rfl); replace BG := Lib.hid (blk_far BG.out (p := ⟨x, 2, none⟩) (by show g ≠ x; omega) (.int .i64 (rd_T78 l1 (i : Int)).f2)); replace BH := Lib.hid (blk_far BH.out (p := ⟨x, 2, none⟩) (by show h ≠ x; omega) (.int .i64 (rd_T78 l1 (i : Int)).f2)); replace BM := Lib.hid (blk_far BM.out (p := ⟨x, 2, none⟩) (by show m ≠ x; omega) (.int .i64 (rd_T78 l1 (i : Int)).f2)); replace BL := Lib.hid (below_set (g := x) (j := 2) (v := .int .i64 (rd_T78 l1 (i : Int)).f2) BL.out (by omega)); replace BY := Lib.hid (blk_far BY.out (p := ⟨x, 2, none⟩) (by show y ≠ x; omega) (.int .i64 (rd_T78 l1 (i : Int)).f2)); replace BX := Lib.hid (blk_put (cs' := #[.int .i64 (rd_T78 l1 (i : Int)).f0, .int .i64 (rd_T78 l1 (i : Int)).f1, .int .i64 (rd_T78 l1 (i : Int)).f2]) BX.out 2 (.int .i64 (rd_T78 l1 (i : Int)).f2) rfl); generalize hq_ : World.setCell _ _ _ = w5_; replace BG := Lib.hid (at_blk hq_ BG.out); replace BH := Lib.hid (at_blk hq_ BH.out); replace BM := Lib.hid (at_blk hq_ BM.out); replace BL := Lib.hid (at_bel hq_ BL.out); replace BX := Lib.hid (at_blk hq_ BX.out); replace BY := Lib.hid (at_blk hq_ BY.out); clear hq_
       refine hK.out _ _ ⟨(cell2 BG.out).2, (cell2 BH.out).2, (cell2 BM.out).2, (BL.out.cell (World.block_lt_of_cell? w _ PX.out)).trans PX.out, (BL.out.cell (World.block_lt_of_cell? w _ PA0.out)).trans PA0.out, (BL.out.cell (World.block_lt_of_cell? w _ PA1.out)).trans PA1.out, (BL.out.cell (World.block_lt_of_cell? w _ PA2.out)).trans PA2.out, (BL.out.cell (World.block_lt_of_cell? w _ PB0.out)).trans PB0.out, (BL.out.cell (World.block_lt_of_cell? w _ PB1.out)).trans PB1.out, (BL.out.cell (World.block_lt_of_cell? w _ PB2.out)).trans PB2.out⟩ (fun hHeld => ?_)
       clear hK K
       refine one_ (i := 17) (N := none) #[true, true, true, true, true, true, true, true, true, true, true, true, true, true, true, true, true, true] rfl rfl (by kernel_rfl) (by decide) (fun K hK => ?_)
       have y0_ := (blk_cell BY.out 0).trans rfl; have y1_ := (blk_cell BY.out 1).trans rfl; have y2_ := (blk_cell BY.out 2).trans rfl; have f0_ := blk_frozen BY.out 0; have f1_ := blk_frozen BY.out 1; have f2_ := blk_frozen BY.out 2
       refine skip_ (w1 := ?_) (by rfl) rfl ?_ ?_
       rotate_left
       ·go_simp
        rfl
       clear y0_ f0_ y1_ f1_ y2_ f2_; replace BG := Lib.hid (blk_far BG.out (p := ⟨y, 0, none⟩) (by show g ≠ y; omega) (.int .i64 (rd_T78 l3 k).f0)); replace BH := Lib.hid (blk_far BH.out (p := ⟨y, 0, none⟩) (by show h ≠ y; omega) (.int .i64 (rd_T78 l3 k).f0)); replace BM := Lib.hid (blk_far BM.out (p := ⟨y, 0, none⟩) (by show m ≠ y; omega) (.int .i64 (rd_T78 l3 k).f0)); replace BL := Lib.hid (below_set (g := y) (j := 0) (v := .int .i64 (rd_T78 l3 k).f0) BL.out (by omega)); replace BX := Lib.hid (blk_far BX.out (p := ⟨y, 0, none⟩) (by show x ≠ y; omega) (.int .i64 (rd_T78 l3 k).f0)); replace BY := Lib.hid (blk_put (cs' := #[.int .i64 (rd_T78 l3 k).f0, .int .i64 0, .int .i64 0]) BY.out 0 (.int .i64 (rd_T78 l3 k).f0) rfl); replace BG := Lib.hid (blk_far BG.out (p := ⟨y, 1, none⟩) (by show g ≠ y; omega) (.int .i64 (rd_T78 l3 k).f1)); replace BH := Lib.hid (blk_far BH.out (p := ⟨y, 1, none⟩) (by show h ≠ y; omega) (.int .i64 (rd_T78 l3 k).f1)); replace BM := Lib.hid (blk_far BM.out (p := ⟨y, 1, none⟩) (by show m ≠ y; omega) (.int .i64 (rd_T78 l3 k).f1)); replace BL := Lib.hid (below_set (g := y) (j := 1) (v := .int .i64 (rd_T78 l3 k).f1) BL.out (by omega)); replace BX := Lib.hid (blk_far BX.out (p := ⟨y, 1, none⟩) (by show x ≠ y; omega) (.int .i64 (rd_T78 l3 k).f1)); replace BY := Lib.hid (blk_put (cs' := #[.int .i64 (rd_T78 l3 k).f0, .int .i64 (rd_T78 l3 k).f1, .int .i64 0]) BY.out 1 (.int .i64 (rd_T78 l3 k).f1) rfl); replace BG := Lib.hid (blk_far BG.out (p := ⟨y, 2, none⟩) (by show g ≠ y; omega) (.int .i64 (rd_T78 l3 k).f2)); replace BH := Lib.hid (blk_far BH.out (p := ⟨y, 2, none⟩) (by show h ≠ y; omega) (.int .i64 (rd_T78 l3 k).f2)); replace BM := Lib.hid (blk_far BM.out (p := ⟨y, 2, none⟩) (by show m ≠ y; omega) (.int .i64 (rd_T78 l3 k).f2)); replace BL := Lib.hid (below_set (g := y) (j := 2) (v := .int .i64 (rd_T78 l3 k).f2) BL.out (by omega)); replace BX := Lib.hid (blk_far BX.out (p := ⟨y, 2, none⟩) (by show x ≠ y; omega) (.int .i64 (rd_T78 l3 k).f2)); replace BY := Lib.hid (blk_put (cs' := #[.int .i64 (rd_T78 l3 k).f0, .int .i64 (rd_T78 l3 k).f1, .int .i64 (rd_T78 l3 k).f2]) BY.out 2 (.int .i64 (rd_T78 l3 k).f2) rfl); generalize hq_ : World.setCell _ _ _ = w5_; replace BG := Lib.hid (at_blk hq_ BG.out); replace BH := Lib.hid (at_blk hq_ BH.out); replace BM := Lib.hid (at_blk hq_ BM.out); replace BL := Lib.hid (at_bel hq_ BL.out); replace BX := Lib.hid (at_blk hq_ BX.out); replace BY := Lib.hid (at_blk hq_ BY.out); clear hq_
       refine hK.out _ _ ⟨(cell2 BG.out).2, (cell2 BH.out).2, (cell2 BM.out).2, (BL.out.cell (World.block_lt_of_cell? w _ PX.out)).trans PX.out, (BL.out.cell (World.block_lt_of_cell? w _ PA0.out)).trans PA0.out, (BL.out.cell (World.block_lt_of_cell? w _ PA1.out)).trans PA1.out, (BL.out.cell (World.block_lt_of_cell? w _ PA2.out)).trans PA2.out, (BL.out.cell (World.block_lt_of_cell? w _ PB0.out)).trans PB0.out, (BL.out.cell (World.block_lt_of_cell? w _ PB1.out)).trans PB1.out, (BL.out.cell (World.block_lt_of_cell? w _ PB2.out)).trans PB2.out⟩ (fun hHeld => ?_)
       clear hK K
       refine done_ (by kernel_rfl) ?_
       have x0_ := (blk_cell BX.out 0).trans rfl; have x1_ := (blk_cell BX.out 1).trans rfl; have x2_ := (blk_cell BX.out 2).trans rfl; have y0_ := (blk_cell BY.out 0).trans rfl; have y1_ := (blk_cell BY.out 1).trans rfl; have y2_ := (blk_cell BY.out 2).trans rfl; obtain ⟨zM0, zM1⟩ := cell2 BM.out; obtain ⟨t1, t2, t3, t4⟩ := fits_of V0.out i (by have := E5.out; omega); rw [← rdT_get l1 i (by have := E5.out; omega)] at t1 t2 t3 t4; generalize rd_T78 l1 (i : Int) = X at t1 t2 t3 t4 x0_ x1_ x2_ E3; generalize rd_T78 l3 k = Y at y0_ y1_ y2_ E3
       have t2' : X.f1 < (l4.length : Int) := by have := E4.out; omega
       have t4' : X.f2 < (l4.length : Int) := by have := E4.out; omega
       obtain ⟨ad4, rfl, n1⟩ := Kd.at_int R4.out X.f1 t1 t2'; obtain ⟨_, he_, n2⟩ := Kd.at_int R4.out X.f2 t3 t4'; cases he_; replace n1 := (BL.out.cell (World.block_lt_of_cell? w _ n1)).trans n1; replace n2 := (BL.out.cell (World.block_lt_of_cell? w _ n2)).trans n2
       by_cases ht : X.f0 = Y.f0
       ·have s1 : (X.f0 != Y.f0) = false := by simp [ht]
        have s2 : decide (X.f0 = Y.f0) = true := decide_eq_true ht
        by_cases hq1 : rd l4 X.f1 = Y.f1
        ·have u1 : (rd l4 X.f1 != Y.f1) = false := by simp [hq1]
         have u2 : decide (rd l4 X.f1 = Y.f1) = true := decide_eq_true hq1
         by_cases hq2 : rd l4 X.f2 = Y.f2
         ·have E6 : edgesE l1 l3 l4 (i + 1) (l5.drop (i + 1)) = edgesE l1 l3 l4 0 l5 := by rw [← E3.out, if_neg (by omega), if_pos ht, if_pos ⟨hq1, hq2⟩]
          have u3 : (rd l4 X.f2 != Y.f2) = false := by simp [hq2]
          have u4 : decide (rd l4 X.f2 = Y.f2) = true := decide_eq_true hq2; have E8 := Lib.hid E6; clear E3 E6
          go_wp2
          repeat (go_quiet (fail); try go_wp2)
          go_roundg (l5.length - (i + 1))
          case measure => omega
          case rel => exact ⟨i + 1, by omega, by omega, by go_num, ⟨E8.out⟩, ⟨by first | exact BG.out | exact blk_drewN BG.out _ | exact blk_drewN (blk_drewN BG.out _) _⟩, ⟨by first | exact BH.out | exact blk_drewN BH.out _ | exact blk_drewN (blk_drewN BH.out _) _⟩, ⟨by first | exact BM.out | exact blk_drewN BM.out _ | exact blk_drewN (blk_drewN BM.out _) _⟩, ⟨by first | exact BL.out | exact pw_below_drewN BL.out _ | exact pw_below_drewN (pw_below_drewN BL.out _) _⟩⟩
         ·have E6 : edgesE l1 l3 l4 0 l5 = 11 := by rw [← E3.out, if_neg (by omega), if_pos ht, if_neg (fun q => hq2 q.2)]
          have u3 : (rd l4 X.f2 != Y.f2) = true := by simp [hq2]
          have u4 : decide (rd l4 X.f2 = Y.f2) = false := decide_eq_false hq2; have E8 := Lib.hid E6; clear E3 E6
          go_wp2
          repeat (go_quiet (fail); try go_wp2)
          exact bodyPost_ret (v := .int .i64 11) (by simp [results, Try.f47, go_sem]) rfl ⟨by rw [← HS.out, if_pos E7.out, E8.out], by first | exact BL.out | exact pw_below_drewN BL.out _ | exact pw_below_drewN (pw_below_drewN BL.out _) _⟩
        ·have E6 : edgesE l1 l3 l4 0 l5 = 11 := by rw [← E3.out, if_neg (by omega), if_pos ht, if_neg (fun q => hq1 q.1)]
         have u1 : (rd l4 X.f1 != Y.f1) = true := by simp [hq1]
         have u2 : decide (rd l4 X.f1 = Y.f1) = false := decide_eq_false hq1; have E8 := Lib.hid E6; clear E3 E6
         go_wp2
         repeat (go_quiet (fail); try go_wp2)
         exact bodyPost_ret (v := .int .i64 11) (by simp [results, Try.f47, go_sem]) rfl ⟨by rw [← HS.out, if_pos E7.out, E8.out], by first | exact BL.out | exact pw_below_drewN BL.out _ | exact pw_below_drewN (pw_below_drewN BL.out _) _⟩
       ·have E6 : edgesE l1 l3 l4 0 l5 = 13 := by rw [← E3.out, if_neg (by omega), if_neg ht]
        have s1 : (X.f0 != Y.f0) = true := by simp [ht]
        have s2 : decide (X.f0 = Y.f0) = false := decide_eq_false ht; have E8 := Lib.hid E6; clear E3 E6
        go_wp2
        exact bodyPost_ret (v := .int .i64 13) (by simp [results, Try.f47, go_sem]) rfl ⟨by rw [← HS.out, if_pos E7.out, E8.out], by first | exact BL.out | exact pw_below_drewN BL.out _ | exact pw_below_drewN (pw_below_drewN BL.out _) _⟩
    ·have hlz : ¬ (i : Int) < (l5.length : Int) := by omega
     have hl1 : ¬ (i : Int) < (l1.length : Int) := by have := E5.out; omega
     have E6 : edgesE l1 l3 l4 0 l5 = 0 := by
      have := EN.out; rw [List.drop_of_length_le (by omega), edgesE] at this; exact this.symm
     have E8 := Lib.hid E6; clear EN E6
     go_wp2
     exact bodyPost_ret (v := .int .i64 0) (by simp [results, Try.f47, go_sem]) rfl ⟨by rw [← HS.out, if_pos E7.out, E8.out], by first | exact BL.out | exact pw_below_drewN BL.out _ | exact pw_below_drewN (pw_below_drewN BL.out _) _⟩
set_option maxHeartbeats 4000000 in
set_option maxRecDepth 100000 in
theorem scarfjointref06_Valid.err (A0 : Option Addr) (c0 : Nat) (l0 : List Int) (A1 : Option Addr) (c1 : Nat) (l1 : List S78) (A2 : Option Addr) (c2 : Nat) (l2 : List Int) (A3 : Option Addr) (c3 : Nat) (l3 : List S78) (A4 : Option Addr) (c4 : Nat) (l4 : List Int) (A5 : Option Addr) (c5 : Nat) (l5 : List Int) (w : World)
  (r0 : Kd.C (Kd.int .i64) w A0 l0.length l0) (m0 : l0.length ≤ c0) (r1 : Kd.C (k78) w A1 l1.length l1) (m1 : l1.length ≤ c1) (r2 : Kd.C (Kd.int .i64) w A2 l2.length l2) (m2 : l2.length ≤ c2) (r3 : Kd.C (k78) w A3 l3.length l3) (m3 : l3.length ≤ c3) (r4 : Kd.C (Kd.int .i64) w A4 l4.length l4) (m4 : l4.length ≤ c4) (r5 : Kd.C (Kd.int .i64) w A5 l5.length l5) (m5 : l5.length ≤ c5)
  (res : Int) (hbad : (validB l0 l1 = res ∧ res ≠ 0) ∨ (validB l0 l1 = 0 ∧ validB l2 l3 = res ∧ res ≠ 0) ∨ (validB l0 l1 = 0 ∧ validB l2 l3 = 0 ∧ (l4.length ≠ l0.length ∨ l5.length ≠ l1.length) ∧ res = 20)) :
  Calls Try.prog 47 #[.agg #[.slice A0 l0.length c0, .slice A1 l1.length c1], .agg #[.slice A2 l2.length c2, .slice A3 l3.length c3], .agg #[.slice A4 l4.length c4, .slice A5 l5.length c5]] w fun e w' => e = .returned (.int .i64 res) ∧ Below w.heap.size w w' := by
 have hu25 := Try.underlying25; have hu51 := Try.underlying51; have hm4 := Kd.C_max r4; have hm5 := Kd.C_max r5; have R0 := Lib.hid r0; have R1 := Lib.hid r1; have R2 := Lib.hid r2; have R3 := Lib.hid r3; have R4 := Lib.hid r4; have R5 := Lib.hid r5; have M0 := Lib.hid m0; have M1 := Lib.hid m1; have M2 := Lib.hid m2; have M3 := Lib.hid m3; clear r0 r1 r2 r3 r4 r5 m0 m1 m2 m3 m4 m5
 go_enter Try.func47, Try.ntmps47
 go_upto_region 1 with (first
  | ((with_reducible refine gate_dst (N := 3) rfl ?_); (try (refine gate_guard (by rfl) ?_; dsimp only)); refine box_event ?hg (N := 3) ?hd (cs := #[.slice A0 l0.length c0, .slice A1 l1.length c1]) (t := 25) ?hr ?_; (case hd => rfl); (case hg => rfl); (case hr => first | (go_simp; done) | (go_simp; rfl)); intro g hg w_ hbox hb; have HG : w.heap.size ≤ g := (hg ▸ Nat.le_refl _); have BG := Lib.hid hbox; have BL := Lib.hid hb; clear hg hbox hb)
  | ((with_reducible refine gate_dst (N := 4) rfl ?_); (try (refine gate_guard (by rfl) ?_; dsimp only)); refine box_event ?hg (N := 4) ?hd (cs := #[.slice A2 l2.length c2, .slice A3 l3.length c3]) (t := 25) ?hr ?_; (case hd => rfl); (case hg => rfl); (case hr => first | (go_simp; done) | (go_simp; rfl)); intro h hg w_ hbox hb; have HH : g < h := (hg ▸ blk_lt BG.out); replace BG := Lib.hid (blk_below BG.out hb); replace BL := Lib.hid (below_then BL.out BL.out.size hb); have BH := Lib.hid hbox; clear hg hbox hb)
  | ((with_reducible refine gate_dst (N := 5) rfl ?_); (try (refine gate_guard (by rfl) ?_; dsimp only)); refine box_event ?hg (N := 5) ?hd (cs := #[.slice A4 l4.length c4, .slice A5 l5.length c5]) (t := 51) ?hr ?_; (case hd => rfl); (case hg => rfl); (case hr => first | (go_simp; done) | (go_simp; rfl)); intro m hg w_ hbox hb; have HM : h < m := (hg ▸ blk_lt BH.out); replace BG := Lib.hid (blk_below BG.out hb); replace BL := Lib.hid (below_then BL.out BL.out.size hb); replace BH := Lib.hid (blk_below BH.out hb); have BM := Lib.hid hbox; clear hg hbox hb))
 obtain ⟨zBG_0, zBG_1⟩ := cell2 BG.out; obtain ⟨zBH_0, zBH_1⟩ := cell2 BH.out; obtain ⟨zBM_0, zBM_1⟩ := cell2 BM.out
 rcases hbad with ⟨he, hne⟩ | ⟨v0, he, hne⟩ | ⟨v0, v2, hne, rfl⟩
 ·have e1 : (res != 0) = true := by simpa using hne
  have e2 : decide (res = 0) = false := decide_eq_false hne
  go_wp2_with (first
   | (go_at_call 20; refine (ref05_Valid.calls0 A0 c0 l0 A1 c1 l1 _ (Kd.C_below R0.out BL.out) M0.out (Kd.C_below R1.out BL.out) M1.out).mono ?_; rintro e w_ ⟨he_, hb⟩; rw [he] at he_; subst he_; clear zBG_0 zBG_1 zBH_0 zBH_1 zBM_0 zBM_1; replace BG := Lib.hid (blk_below BG.out hb); replace BL := Lib.hid (below_then BL.out BL.out.size hb); replace BH := Lib.hid (blk_below BH.out hb); replace BM := Lib.hid (blk_below BM.out hb); clear hb; obtain ⟨zBG_0, zBG_1⟩ := cell2 BG.out; obtain ⟨zBH_0, zBH_1⟩ := cell2 BH.out; obtain ⟨zBM_0, zBM_1⟩ := cell2 BM.out))
  repeat (go_quiet (fail); try go_wp2)
  exact bodyPost_ret (v := .int .i64 res) (by simp [results, Try.f47, go_sem]) rfl ⟨rfl, by first | exact BL.out | exact pw_below_drewN BL.out _ | exact pw_below_drewN (pw_below_drewN BL.out _) _⟩
 ·have e1 : (res != 0) = true := by simpa using hne
  have e2 : decide (res = 0) = false := decide_eq_false hne
  go_upto_region 4 with (first
   | (go_at_call 20; refine (ref05_Valid.calls0 A0 c0 l0 A1 c1 l1 _ (Kd.C_below R0.out BL.out) M0.out (Kd.C_below R1.out BL.out) M1.out).mono ?_; rintro e w_ ⟨he_, hb⟩; rw [v0] at he_; subst he_; clear zBG_0 zBG_1 zBH_0 zBH_1 zBM_0 zBM_1; replace BG := Lib.hid (blk_below BG.out hb); replace BL := Lib.hid (below_then BL.out BL.out.size hb); replace BH := Lib.hid (blk_below BH.out hb); replace BM := Lib.hid (blk_below BM.out hb); clear hb; obtain ⟨zBG_0, zBG_1⟩ := cell2 BG.out; obtain ⟨zBH_0, zBH_1⟩ := cell2 BH.out; obtain ⟨zBM_0, zBM_1⟩ := cell2 BM.out))
  go_wp2_with (first
   | (go_at_call 20; refine (ref05_Valid.calls0 A2 c2 l2 A3 c3 l3 _ (Kd.C_below R2.out BL.out) M2.out (Kd.C_below R3.out BL.out) M3.out).mono ?_; rintro e w_ ⟨he_, hb⟩; rw [he] at he_; subst he_; clear zBG_0 zBG_1 zBH_0 zBH_1 zBM_0 zBM_1; replace BG := Lib.hid (blk_below BG.out hb); replace BL := Lib.hid (below_then BL.out BL.out.size hb); replace BH := Lib.hid (blk_below BH.out hb); replace BM := Lib.hid (blk_below BM.out hb); clear hb; obtain ⟨zBG_0, zBG_1⟩ := cell2 BG.out; obtain ⟨zBH_0, zBH_1⟩ := cell2 BH.out; obtain ⟨zBM_0, zBM_1⟩ := cell2 BM.out))
  repeat (go_quiet (fail); try go_wp2)
  exact bodyPost_ret (v := .int .i64 res) (by simp [results, Try.f47, go_sem]) rfl ⟨rfl, by first | exact BL.out | exact pw_below_drewN BL.out _ | exact pw_below_drewN (pw_below_drewN BL.out _) _⟩
 ·skip
  go_upto_region 4 with (first
   | (go_at_call 20; refine (ref05_Valid.calls0 A0 c0 l0 A1 c1 l1 _ (Kd.C_below R0.out BL.out) M0.out (Kd.C_below R1.out BL.out) M1.out).mono ?_; rintro e w_ ⟨he_, hb⟩; rw [v0] at he_; subst he_; clear zBG_0 zBG_1 zBH_0 zBH_1 zBM_0 zBM_1; replace BG := Lib.hid (blk_below BG.out hb); replace BL := Lib.hid (below_then BL.out BL.out.size hb); replace BH := Lib.hid (blk_below BH.out hb); replace BM := Lib.hid (blk_below BM.out hb); clear hb; obtain ⟨zBG_0, zBG_1⟩ := cell2 BG.out; obtain ⟨zBH_0, zBH_1⟩ := cell2 BH.out; obtain ⟨zBM_0, zBM_1⟩ := cell2 BM.out))
  go_upto_region 7 with (first
   | (go_at_call 20; refine (ref05_Valid.calls0 A2 c2 l2 A3 c3 l3 _ (Kd.C_below R2.out BL.out) M2.out (Kd.C_below R3.out BL.out) M3.out).mono ?_; rintro e w_ ⟨he_, hb⟩; rw [v2] at he_; subst he_; clear zBG_0 zBG_1 zBH_0 zBH_1 zBM_0 zBM_1; replace BG := Lib.hid (blk_below BG.out hb); replace BL := Lib.hid (below_then BL.out BL.out.size hb); replace BH := Lib.hid (blk_below BH.out hb); replace BM := Lib.hid (blk_below BM.out hb); clear hb; obtain ⟨zBG_0, zBG_1⟩ := cell2 BG.out; obtain ⟨zBH_0, zBH_1⟩ := cell2 BH.out; obtain ⟨zBM_0, zBM_1⟩ := cell2 BM.out))
  by_cases e4 : l4.length = l0.length
  ·have e5 : l5.length ≠ l1.length := hne.resolve_left (fun q => q e4)
   have d4 : ((l4.length : Int) != (l0.length : Int)) = false := by simp [e4]
   have d6 : decide ((l4.length : Int) = (l0.length : Int)) = true := decide_eq_true (by omega)
   have d5 : ((l5.length : Int) != (l1.length : Int)) = true := by simp; omega
   have d7 : decide ((l5.length : Int) = (l1.length : Int)) = false := decide_eq_false (by omega)
   go_wp2
   repeat (go_quiet (fail); try go_wp2)
   exact bodyPost_ret (v := .int .i64 20) (by simp [results, Try.f47, go_sem]) rfl ⟨rfl, by first | exact BL.out | exact pw_below_drewN BL.out _ | exact pw_below_drewN (pw_below_drewN BL.out _) _⟩
  ·have d4 : ((l4.length : Int) != (l0.length : Int)) = true := by simp; omega
   have d6 : decide ((l4.length : Int) = (l0.length : Int)) = false := decide_eq_false (by omega)
   go_wp2
   repeat (go_quiet (fail); try go_wp2)
   exact bodyPost_ret (v := .int .i64 20) (by simp [results, Try.f47, go_sem]) rfl ⟨rfl, by first | exact BL.out | exact pw_below_drewN BL.out _ | exact pw_below_drewN (pw_below_drewN BL.out _) _⟩
def scarfjointref06_Valid.f (l0_0 : List Int) (l0_1 : List S78) (l1_0 : List Int) (l1_1 : List S78) (l2_0 l2_1 : List Int) : Option Int := some (morphE l0_0 l0_1 l1_0 l1_1 l2_0 l2_1)
theorem scarfjointref06_Valid.calls (A0_0 : Option Addr) (c0_0 : Nat) (l0_0 : List Int) (A0_1 : Option Addr) (c0_1 : Nat) (l0_1 : List (S78)) (A1_0 : Option Addr) (c1_0 : Nat) (l1_0 : List Int) (A1_1 : Option Addr) (c1_1 : Nat) (l1_1 : List (S78)) (A2_0 : Option Addr) (c2_0 : Nat) (l2_0 : List Int) (A2_1 : Option Addr) (c2_1 : Nat) (l2_1 : List Int) (r : Int) (w : World) (hr0_0 : Kd.C (Kd.int .i64) w A0_0 l0_0.length l0_0) (hc0_0 : l0_0.length ≤ c0_0) (hr0_1 : Kd.C (k78) w A0_1 l0_1.length l0_1) (hc0_1 : l0_1.length ≤ c0_1) (hr1_0 : Kd.C (Kd.int .i64) w A1_0 l1_0.length l1_0) (hc1_0 : l1_0.length ≤ c1_0) (hr1_1 : Kd.C (k78) w A1_1 l1_1.length l1_1) (hc1_1 : l1_1.length ≤ c1_1) (hr2_0 : Kd.C (Kd.int .i64) w A2_0 l2_0.length l2_0) (hc2_0 : l2_0.length ≤ c2_0) (hr2_1 : Kd.C (Kd.int .i64) w A2_1 l2_1.length l2_1) (hc2_1 : l2_1.length ≤ c2_1) (h : scarfjointref06_Valid.f l0_0 l0_1 l1_0 l1_1 l2_0 l2_1 = some r) :
  Calls Try.prog 47 #[.agg #[.slice A0_0 l0_0.length c0_0, .slice A0_1 l0_1.length c0_1], .agg #[.slice A1_0 l1_0.length c1_0, .slice A1_1 l1_1.length c1_1], .agg #[.slice A2_0 l2_0.length c2_0, .slice A2_1 l2_1.length c2_1]] w fun e w' => e = .returned (.int .i64 r) ∧ Below w.heap.size w w' := by
 have h := Option.some.inj h; unfold morphE at h
 by_cases v0 : validB l0_0 l0_1 = 0
 ·rw [if_neg (fun q => q v0)] at h
  by_cases v2 : validB l1_0 l1_1 = 0
  ·rw [if_neg (fun q => q v2)] at h
   by_cases e : l2_0.length = l0_0.length ∧ l2_1.length = l0_1.length
   ·rw [if_pos e] at h
    exact scarfjointref06_Valid.ok A0_0 c0_0 l0_0 A0_1 c0_1 l0_1 A1_0 c1_0 l1_0 A1_1 c1_1 l1_1 A2_0 c2_0 l2_0 A2_1 c2_1 l2_1 w hr0_0 hc0_0 hr0_1 hc0_1 hr1_0 hc1_0 hr1_1 hc1_1 hr2_0 hc2_0 hr2_1 hc2_1 v0 v2 e.1 e.2 r h
   ·rw [if_neg e] at h
    exact scarfjointref06_Valid.err A0_0 c0_0 l0_0 A0_1 c0_1 l0_1 A1_0 c1_0 l1_0 A1_1 c1_1 l1_1 A2_0 c2_0 l2_0 A2_1 c2_1 l2_1 w hr0_0 hc0_0 hr0_1 hc0_1 hr1_0 hc1_0 hr1_1 hc1_1 hr2_0 hc2_0 hr2_1 hc2_1 r (.inr (.inr ⟨v0, v2, by omega, h.symm⟩))
  ·rw [if_pos v2] at h
   exact scarfjointref06_Valid.err A0_0 c0_0 l0_0 A0_1 c0_1 l0_1 A1_0 c1_0 l1_0 A1_1 c1_1 l1_1 A2_0 c2_0 l2_0 A2_1 c2_1 l2_1 w hr0_0 hc0_0 hr0_1 hc0_1 hr1_0 hc1_0 hr1_1 hc1_1 hr2_0 hc2_0 hr2_1 hc2_1 r (.inr (.inl ⟨v0, h, h ▸ v2⟩))
 ·rw [if_pos v0] at h
  exact scarfjointref06_Valid.err A0_0 c0_0 l0_0 A0_1 c0_1 l0_1 A1_0 c1_0 l1_0 A1_1 c1_1 l1_1 A2_0 c2_0 l2_0 A2_1 c2_1 l2_1 w hr0_0 hc0_0 hr0_1 hc0_1 hr1_0 hc1_0 hr1_1 hc1_1 hr2_0 hc2_0 hr2_1 hc2_1 r (.inl ⟨h, h ▸ v0⟩)
end Go.Proofs.Ytonipihlpbaknaa.Print
namespace Go.Proofs.Ytonipihlpbaknaa.Print
set_option linter.unusedVariables false
set_option linter.unusedSimpArgs false
open Go.RowKit Go.Proofs.YtonipihlpbaknaaW.PrintWords Go.Proofs.YtonipihlpbaknaaW.PrintLast Go.Proofs.YtonipihlpbaknaaW.PrintMore
theorem clone_is (l : List Int) (h : l.length < 17592186044416) : slices_Clone_int_int.f l = some l := if_pos h
theorem sorted_is (l : List Int) (h : l.length < 17592186044416) : subgraph_sorted.f l = some (Lib.compact (sortI l)) := if_pos h
theorem img_ok (l0 : List Int) (l1 : List S78) (l2 : List Int) (l3 : List S78) (l4 l5 : List Int) (h4 : l4.length ≤ 1000) (h5 : l5.length ≤ 1000) :
    subgraph_Image.f l0 l1 l2 l3 l4 l5 = some (if morphE l0 l1 l2 l3 l4 l5 = 0 then (Lib.compact (sortI l4), Lib.compact (sortI l5), 0) else ([], [], morphE l0 l1 l2 l3 l4 l5)) := by
  unfold subgraph_Image.f; rw [morphism_Valid.f, Option.bind_some]
  by_cases h : morphE l0 l1 l2 l3 l4 l5 = 0
  · rw [if_pos h, if_pos h, clone_is _ (by omega), Option.bind_some, sorted_is _ (by omega), Option.bind_some, clone_is _ (by omega), Option.bind_some, sorted_is _ (by omega), Option.bind_some]
  · rw [if_neg h, if_neg h]
theorem morph_facts {l0 : List Int} {l1 : List S78} {l2 : List Int} {l3 : List S78} {l4 l5 : List Int} (h : morphE l0 l1 l2 l3 l4 l5 = 0) : validB l0 l1 = 0 ∧ validB l2 l3 = 0 ∧ l4.length = l0.length ∧ l5.length = l1.length ∧
    (∀ j, (h : j < l4.length) → 0 ≤ l4[j] ∧ l4[j] < l2.length ∧ rd l2 l4[j] = rd l0 (j : Int)) ∧
    (∀ j, (h : j < l5.length) → 0 ≤ l5[j] ∧ l5[j] < l3.length ∧ (rd_T78 l1 (j : Int)).f0 = (rd_T78 l3 l5[j]).f0 ∧ rd l4 (rd_T78 l1 (j : Int)).f1 = (rd_T78 l3 l5[j]).f1 ∧ rd l4 (rd_T78 l1 (j : Int)).f2 = (rd_T78 l3 l5[j]).f2) := by
  unfold morphE at h
  by_cases v0 : validB l0 l1 = 0
  · by_cases v1 : validB l2 l3 = 0
    · rw [if_neg (by simp [v0]), if_neg (by simp [v1])] at h
      by_cases e : l4.length = l0.length ∧ l5.length = l1.length
      · rw [if_pos e] at h
        by_cases hn : nodesE l0 l2 0 l4 = 0
        · rw [if_pos hn] at h
          refine ⟨v0, v1, e.1, e.2, fun j hj => ?_, fun j hj => ?_⟩
          · have := (nodesE_iff l0 l2 l4 0).1 hn j hj
            rwa [Nat.zero_add] at this
          · have := (edgesE_iff l1 l3 l4 l5 0).1 h j hj
            rwa [Nat.zero_add] at this
        · rw [if_neg hn] at h
          exact absurd h hn
      · rw [if_neg e] at h
        omega
    · rw [if_neg (by simp [v0]), if_pos v1] at h
      exact absurd h v1
  · rw [if_pos v0] at h
    exact absurd h v0
/-- The places of the numbers that are in a list. -/
def posL (l : List Int) : Nat → List Int → List Int
  | _, [] => []
  | i, x :: r => if x ∈ l then (i : Int) :: posL l (i + 1) r else posL l (i + 1) r
theorem posL_len (l : List Int) : ∀ (x : List Int) (i : Nat), (posL l i x).length ≤ x.length := by
  intro x
  induction x with
  | nil => intro i; simp [posL]
  | cons a r ih =>
    intro i; have := ih (i + 1); rw [posL]
    split
    · simp only [List.length_cons]; omega
    · simp only [List.length_cons]; omega
theorem mem_posL {l : List Int} : ∀ {x : List Int} {i : Nat} {y : Int}, y ∈ posL l i x ↔ ∃ j, ∃ h : j < x.length, y = ((i + j : Nat) : Int) ∧ x[j] ∈ l := by
  intro x
  induction x with
  | nil => intro i y; simp [posL]
  | cons a r ih =>
    intro i y; rw [posL]
    constructor
    · intro h
      by_cases ha : a ∈ l
      · rw [if_pos ha, List.mem_cons] at h
        rcases h with rfl | h
        · exact ⟨0, by simp, by simp, by simpa using ha⟩
        · obtain ⟨j, hj, e, hm⟩ := ih.1 h
          exact ⟨j + 1, by simpa using hj, by rw [e]; congr 1; omega, by simpa using hm⟩
      · rw [if_neg ha] at h
        obtain ⟨j, hj, e, hm⟩ := ih.1 h; exact ⟨j + 1, by simpa using hj, by rw [e]; congr 1; omega, by simpa using hm⟩
    · rintro ⟨j, hj, rfl, hm⟩
      cases j with
      | zero =>
        rw [if_pos (by simpa using hm)]
        simp
      | succ j =>
        have q : ((i + (j + 1) : Nat) : Int) ∈ posL l (i + 1) r := ih.2 ⟨j, by simpa using hj, by congr 1; omega, by simpa using hm⟩
        by_cases ha : a ∈ l
        · rw [if_pos ha]
          exact List.mem_cons_of_mem _ q
        · rw [if_neg ha]
          exact q
theorem back_pos (x0 x1 : List Int) (hl : x1.Pairwise (· < ·)) (hn : x0.length < 17592186044416) (hn1 : x1.length < 1000000) : ∀ (d k i : Nat) (x5 : List Int), i + d = x0.length → d + x1.length + 1 < k → x5.length ≤ i →
    subgraph_back.l0 k x1 x5 x0 x0.length i = some (x5 ++ posL x1 i (x0.drop i)) := by
  intro d
  induction d with
  | zero =>
    intro k i x5 hi hk hx
    obtain ⟨k, rfl⟩ : ∃ m, k = m + 1 := ⟨k - 1, by omega⟩
    rw [subgraph_back.l0, if_neg (by omega), List.drop_of_length_le (by omega), posL, List.append_nil]
  | succ d ih =>
    intro k i x5 hi hk hx
    obtain ⟨k, rfl⟩ : ∃ m, k = m + 1 := ⟨k - 1, by omega⟩
    have hlt : i < x0.length := by omega
    rw [subgraph_back.l0, if_pos (by omega), if_pos (by omega), if_pos (by omega), rd_get x0 i hlt, List.drop_eq_getElem_cons hlt, has_ok x1 _ hl (by omega) k (by omega), Option.bind_some, posL]
    by_cases h : x0[i] ∈ x1
    · rw [if_pos (by simp [h]), if_pos (by omega), succ_ok i (by omega), ih k (i + 1) (x5 ++ [(i : Int)]) (by omega) (by omega) (by simp; omega), if_pos h, List.append_assoc]
      rfl
    · rw [if_neg (by simp [h]), succ_ok i (by omega), ih k (i + 1) x5 (by omega) (by omega) (by omega), if_neg h]
theorem back_posL (x0 x1 : List Int) (hl : x1.Pairwise (· < ·)) (hn : x0.length < 17592186044416) (hn1 : x1.length < 1000000) (k : Nat) (hk : x0.length + x1.length + 1 < k) : subgraph_back.f k x0 x1 = some (posL x1 0 x0) := by
  have := back_pos x0 x1 hl hn hn1 x0.length k 0 [] (by omega) (by omega) (by simp)
  simpa [subgraph_back.f] using this
/-- What both preimages are. -/
def preR (l0 : List Int) (l1 : List S78) (l2 : List Int) (l3 : List S78) (l4 l5 l6 l7 : List Int) : List Int × List Int × Int :=
  if morphE l0 l1 l2 l3 l4 l5 = 0 then (if partE l2 l3 l6 l7 = 0 then (posL l6 0 l4, posL l7 0 l5, 0) else ([], [], partE l2 l3 l6 l7)) else ([], [], morphE l0 l1 l2 l3 l4 l5)
theorem pre_ok (l0 : List Int) (l1 : List S78) (l2 : List Int) (l3 : List S78) (l4 l5 l6 l7 : List Int) (h6 : l6.length ≤ 1000) (h7 : l7.length ≤ 1000) (k : Nat) (hk : 20000 < k) :
    subgraph_Preimage.f k l0 l1 l2 l3 l4 l5 l6 l7 = some (preR l0 l1 l2 l3 l4 l5 l6 l7) := by
  unfold subgraph_Preimage.f preR; rw [morphism_Valid.f, Option.bind_some]
  by_cases h : morphE l0 l1 l2 l3 l4 l5 = 0
  · obtain ⟨v0, v1, s0, s1, hn, he⟩ := morph_facts h
    obtain ⟨z0, z1, _, _⟩ := validB_facts v0; rw [if_pos h, if_pos h, part_ok _ _ _ _ (by omega) (by omega) k (by omega), Option.bind_some]
    by_cases hp : partE l2 l3 l6 l7 = 0
    · obtain ⟨f1, f2, f3, f4, f5⟩ := partE_facts l2 l3 l6 l7 hp
      rw [if_pos hp, if_pos hp, back_posL _ _ f2 (by omega) (by omega) k (by omega), Option.bind_some, back_posL _ _ f4 (by omega) (by omega) k (by omega), Option.bind_some]
    · rw [if_neg hp, if_neg hp]
  · rw [if_neg h, if_neg h]
end Go.Proofs.Ytonipihlpbaknaa.Print
namespace Go.Proofs.Ytonipihlpbaknaa.Print
open Go.RowKit Go.Proofs.YtonipihlpbaknaaW.PrintWords Go.Proofs.YtonipihlpbaknaaW.PrintLast Go.Proofs.YtonipihlpbaknaaW.PrintMore
attribute [local go_sem] max2_int min2_int max_two min_two max_three min_three max_four min_four   -- for this text's walks alone
set_option linter.unusedVariables false
set_option linter.unusedSimpArgs false
def scarfjointref06_Few.f (l0_0 : List Int) (l0_1 : List Int) (a1 : Int) : Option (Bool) := some (decide ((wrap64 ((l0_0.length : Int) + (l0_1.length : Int))) ≤ a1))
set_option maxHeartbeats 8000000 in
set_option maxRecDepth 100000 in
theorem scarfjointref06_Few.calls (A0_0 : Option Addr) (c0_0 : Nat) (l0_0 : List Int) (A0_1 : Option Addr) (c0_1 : Nat) (l0_1 : List Int) (a1 : Int) (r : Bool) (w : World) (hr0_0 : Kd.C (Kd.int .i64) w A0_0 l0_0.length l0_0) (hc0_0 : l0_0.length ≤ c0_0) (hr0_1 : Kd.C (Kd.int .i64) w A0_1 l0_1.length l0_1) (hc0_1 : l0_1.length ≤ c0_1) (h : scarfjointref06_Few.f l0_0 l0_1 a1 = some r) :
  Calls Try.prog 82 #[.agg #[.slice A0_0 l0_0.length c0_0, .slice A0_1 l0_1.length c0_1], .int .i64 a1] w fun e w' => e = .returned (.bool r) ∧ Below w.heap.size w w' := by
 have hu51 := Try.underlying51; have HR0_0 := Aside0.mk hr0_0; have HC0_0 := Aside0.mk hc0_0; clear hr0_0 hc0_0; have HR0_1 := Aside0.mk hr0_1; have HC0_1 := Aside0.mk hc0_1; clear hr0_1 hc0_1; have HB := Aside0.mk (Below.refl w.heap.size w); have H : (some (decide ((wrap64 ((l0_0.length : Int) + (l0_1.length : Int))) ≤ a1))) = some r := h; clear h; obtain rfl := Option.some.inj H
 go_enter Try.func82, Try.ntmps82
 go_wp2_with (first | ((with_reducible refine gate_dst (N := 2) rfl ?_); refine box_event ?hg (N := 2) ?hd (cs := #[.slice A0_0 l0_0.length c0_0, .slice A0_1 l0_1.length c0_1]) (t := 51) ?hr ?_; (case hd => rfl); (case hg => rfl); (case hr => first | (go_simp; done) | (go_simp; rfl)); intro gb101 hg w3 hbox hb; have n0_ := Aside0.mk (below_step (by repeat (first | (with_reducible first | exact HB.out | apply lA_ | apply lN_ | apply lD_) | exact HB.out)) hb); have n1_ := Aside0.mk (hbox); have n2_ := Aside0.mk ((by rw [hg]; exact (below_size (by repeat (first | (with_reducible first | exact HB.out | apply lA_ | apply lN_ | apply lD_) | exact HB.out))) : w.heap.size ≤ gb101)); have n3_ := Aside0.mk ((by rw [hg]; exact (below_size (by repeat (first | (with_reducible first | exact HB.out | apply lA_ | apply lN_ | apply lD_) | exact HB.out))) : w.heap.size ≤ gb101)); clear HB; have HB := n0_; have BK101 := n1_; have GW101 := n2_; have GE101 := n3_; clear n0_ n1_ n2_ n3_; clear hb hbox hg; have hcz4_0 : w3.cell? ⟨gb101, 0, none⟩ = some (.slice A0_0 l0_0.length c0_0) := (blk_cell BK101.out 0).trans rfl; have hcz4_1 : w3.cell? ⟨gb101, 1, none⟩ = some (.slice A0_1 l0_1.length c0_1) := (blk_cell BK101.out 1).trans rfl; have hfz4_0 := blk_frozen BK101.out 0; have hfz4_1 := blk_frozen BK101.out 1))
 go_ret
 exact ⟨by first | rfl | (simp [errW_none, errW_some] <;> rfl) | (simp [*, errW_none, errW_some] <;> rfl), by repeat (first | (with_reducible first | exact HB.out | apply lA_ | apply lN_ | apply lD_ | refine below_set ?_ GE101.out) | exact HB.out)⟩
end Go.Proofs.Ytonipihlpbaknaa.Print
namespace Go.Proofs.Ytonipihlpbaknaa.Print
open Go.RowKit Go.Proofs.YtonipihlpbaknaaW.PrintWords Go.Proofs.YtonipihlpbaknaaW.PrintLast Go.Proofs.YtonipihlpbaknaaW.PrintMore
attribute [local go_sem] max2_int min2_int max_two min_two max_three min_three max_four min_four   -- for this text's walks alone
set_option linter.unusedVariables false
set_option linter.unusedSimpArgs false
def scarfjointlaw07_Arrow_small.f (l0_0 : List Int) (l0_1 : List (S78)) (l0_2 : List Int) (l0_3 : List (S78)) (l0_4 : List Int) (l0_5 : List Int) : Option (Bool) := (scarfjointref05_Few.f l0_0 l0_1).bind fun t102 => (if t102 = true then ((scarfjointref05_Few.f l0_2 l0_3).bind fun t103 => (if t103 = true then ((scarfjointref06_Few.f l0_4 l0_5 150).bind fun t104 => (some t104)) else (some false))) else (some false))
set_option maxHeartbeats 8000000 in
set_option maxRecDepth 100000 in
theorem scarfjointlaw07_Arrow_small.calls (A0_0 : Option Addr) (c0_0 : Nat) (l0_0 : List Int) (A0_1 : Option Addr) (c0_1 : Nat) (l0_1 : List (S78)) (A0_2 : Option Addr) (c0_2 : Nat) (l0_2 : List Int) (A0_3 : Option Addr) (c0_3 : Nat) (l0_3 : List (S78)) (A0_4 : Option Addr) (c0_4 : Nat) (l0_4 : List Int) (A0_5 : Option Addr) (c0_5 : Nat) (l0_5 : List Int) (r : Bool) (w : World) (hr0_0 : Kd.C (Kd.int .i64) w A0_0 l0_0.length l0_0) (hc0_0 : l0_0.length ≤ c0_0) (hr0_1 : Kd.C k78 w A0_1 l0_1.length l0_1) (hc0_1 : l0_1.length ≤ c0_1) (hr0_2 : Kd.C (Kd.int .i64) w A0_2 l0_2.length l0_2) (hc0_2 : l0_2.length ≤ c0_2) (hr0_3 : Kd.C k78 w A0_3 l0_3.length l0_3) (hc0_3 : l0_3.length ≤ c0_3) (hr0_4 : Kd.C (Kd.int .i64) w A0_4 l0_4.length l0_4) (hc0_4 : l0_4.length ≤ c0_4) (hr0_5 : Kd.C (Kd.int .i64) w A0_5 l0_5.length l0_5) (hc0_5 : l0_5.length ≤ c0_5) (h : scarfjointlaw07_Arrow_small.f l0_0 l0_1 l0_2 l0_3 l0_4 l0_5 = some r) :
  Calls Try.prog 42 #[.agg #[.slice A0_0 l0_0.length c0_0, .slice A0_1 l0_1.length c0_1, .slice A0_2 l0_2.length c0_2, .slice A0_3 l0_3.length c0_3, .slice A0_4 l0_4.length c0_4, .slice A0_5 l0_5.length c0_5]] w fun e w' => e = .returned (.bool r) ∧ Below w.heap.size w w' := by
 have hu63 := Try.underlying63; have hu25 := Try.underlying25; have hu51 := Try.underlying51; have HR0_0 := Aside0.mk hr0_0; have HC0_0 := Aside0.mk hc0_0; clear hr0_0 hc0_0; have HR0_1 := Aside0.mk hr0_1; have HC0_1 := Aside0.mk hc0_1; clear hr0_1 hc0_1; have HR0_2 := Aside0.mk hr0_2; have HC0_2 := Aside0.mk hc0_2; clear hr0_2 hc0_2; have HR0_3 := Aside0.mk hr0_3; have HC0_3 := Aside0.mk hc0_3; clear hr0_3 hc0_3; have HR0_4 := Aside0.mk hr0_4; have HC0_4 := Aside0.mk hc0_4; clear hr0_4 hc0_4; have HR0_5 := Aside0.mk hr0_5; have HC0_5 := Aside0.mk hc0_5; clear hr0_5 hc0_5; have HB := Aside0.mk (Below.refl w.heap.size w); have H : ((scarfjointref05_Few.f l0_0 l0_1).bind fun t102 => (if t102 = true then ((scarfjointref05_Few.f l0_2 l0_3).bind fun t103 => (if t103 = true then ((scarfjointref06_Few.f l0_4 l0_5 150).bind fun t104 => (some t104)) else (some false))) else (some false))) = some r := h; clear h; replace H := Option.bind_eq_some_iff.mp H; obtain ⟨t102, A20, H⟩ := H; replace H : (if t102 = true then ((scarfjointref05_Few.f l0_2 l0_3).bind fun t103 => (if t103 = true then ((scarfjointref06_Few.f l0_4 l0_5 150).bind fun t104 => (some t104)) else (some false))) else (some false)) = some r := H; have A2 := Aside0.mk A20; clear A20
 by_cases c3 : t102 = true
 ·subst c3
  have H1 : ((scarfjointref05_Few.f l0_2 l0_3).bind fun t103 => (if t103 = true then ((scarfjointref06_Few.f l0_4 l0_5 150).bind fun t104 => (some t104)) else (some false))) = some r := by rw [if_pos rfl] at H; exact H
  clear H; have H := H1; clear H1; replace H := Option.bind_eq_some_iff.mp H; obtain ⟨t103, A40, H⟩ := H; replace H : (if t103 = true then ((scarfjointref06_Few.f l0_4 l0_5 150).bind fun t104 => (some t104)) else (some false)) = some r := H; have A4 := Aside0.mk A40; clear A40
  by_cases c5 : t103 = true
  ·subst c5
   have H1 : ((scarfjointref06_Few.f l0_4 l0_5 150).bind fun t104 => (some t104)) = some r := by rw [if_pos rfl] at H; exact H
   clear H; have H := H1; clear H1; replace H := Option.bind_eq_some_iff.mp H; obtain ⟨t104, A60, H⟩ := H; replace H : (some t104) = some r := H; have A6 := Aside0.mk A60; clear A60; obtain rfl := Option.some.inj H
   go_enter Try.func42, Try.ntmps42
   go_wp2_with (first | ((with_reducible refine gate_dst (N := 1) rfl ?_); refine box_event ?hg (N := 1) ?hd (cs := #[.slice A0_0 l0_0.length c0_0, .slice A0_1 l0_1.length c0_1, .slice A0_2 l0_2.length c0_2, .slice A0_3 l0_3.length c0_3, .slice A0_4 l0_4.length c0_4, .slice A0_5 l0_5.length c0_5]) (t := 63) ?hr ?_; (case hd => rfl); (case hg => rfl); (case hr => first | (go_simp; done) | (go_simp; rfl)); intro gb101 hg w7 hbox hb; have n0_ := Aside0.mk (below_step (by repeat (first | (with_reducible first | exact HB.out | apply lA_ | apply lN_ | apply lD_) | exact HB.out)) hb); have n1_ := Aside0.mk (hbox); have n2_ := Aside0.mk ((by rw [hg]; exact (below_size (by repeat (first | (with_reducible first | exact HB.out | apply lA_ | apply lN_ | apply lD_) | exact HB.out))) : w.heap.size ≤ gb101)); have n3_ := Aside0.mk ((by rw [hg]; exact (below_size (by repeat (first | (with_reducible first | exact HB.out | apply lA_ | apply lN_ | apply lD_) | exact HB.out))) : w.heap.size ≤ gb101)); clear HB; have HB := n0_; have BK101 := n1_; have GW101 := n2_; have GE101 := n3_; clear n0_ n1_ n2_ n3_; clear hb hbox hg; have hcz8_0 : w7.cell? ⟨gb101, 0, none⟩ = some (.slice A0_0 l0_0.length c0_0) := (blk_cell BK101.out 0).trans rfl; have hcz8_1 : w7.cell? ⟨gb101, 1, none⟩ = some (.slice A0_1 l0_1.length c0_1) := (blk_cell BK101.out 1).trans rfl; have hcz8_2 : w7.cell? ⟨gb101, 2, none⟩ = some (.slice A0_2 l0_2.length c0_2) := (blk_cell BK101.out 2).trans rfl; have hcz8_3 : w7.cell? ⟨gb101, 3, none⟩ = some (.slice A0_3 l0_3.length c0_3) := (blk_cell BK101.out 3).trans rfl; have hcz8_4 : w7.cell? ⟨gb101, 4, none⟩ = some (.slice A0_4 l0_4.length c0_4) := (blk_cell BK101.out 4).trans rfl; have hcz8_5 : w7.cell? ⟨gb101, 5, none⟩ = some (.slice A0_5 l0_5.length c0_5) := (blk_cell BK101.out 5).trans rfl; have hfz8_0 := blk_frozen BK101.out 0; have hfz8_1 := blk_frozen BK101.out 1; have hfz8_2 := blk_frozen BK101.out 2; have hfz8_3 := blk_frozen BK101.out 3; have hfz8_4 := blk_frozen BK101.out 4; have hfz8_5 := blk_frozen BK101.out 5) | ((with_reducible refine gate_callee (f := 50) rfl ?_); refine goesL_ (some 5) rfl rfl Try.func50 (by kernel_rfl) rfl #[.agg #[.slice A0_0 l0_0.length c0_0, .slice A0_1 l0_1.length c0_1]] rfl (by (try simp only [List.map_toArray, List.map_cons, List.map_nil]); first | done | rfl | (simp only [List.length_drop, List.length_take]; rfl)) ?_; (with_reducible refine (scarfjointref05_Few.calls _ _ l0_0 _ _ l0_1 true _ ?side1 ?side2 ?side3 ?side4 A2.out).mono ?_); (case side1 => repeat (first | exact (Kd.C_below HR0_0.out HB.out) | (with_reducible refine Kd.C_alloc ?_ _) | (with_reducible refine Kd.C_drewN ?_ _) | (with_reducible refine Kd.C_drew ?_))); (case side2 => exact HC0_0.out); (case side3 => repeat (first | exact (Kd.C_below HR0_1.out HB.out) | (with_reducible refine Kd.C_alloc ?_ _) | (with_reducible refine Kd.C_drewN ?_ _) | (with_reducible refine Kd.C_drew ?_))); (case side4 => exact HC0_1.out); rintro e w9 ⟨rfl, hb⟩; refine ⟨_, rfl, ?_⟩; have n0_ := Aside0.mk (blk_below (g := gb101) (o := .cells #[.slice A0_0 l0_0.length c0_0, .slice A0_1 l0_1.length c0_1, .slice A0_2 l0_2.length c0_2, .slice A0_3 l0_3.length c0_3, .slice A0_4 l0_4.length c0_4, .slice A0_5 l0_5.length c0_5] 63 (0, 0)) (by (with_reducible repeat first | refine bN_ ?_ _ | refine bD_ ?_ | refine bA_ ?_ _); exact BK101.out) hb); have n1_ := Aside0.mk (below_step (by repeat (first | (with_reducible first | exact HB.out | apply lA_ | apply lN_ | apply lD_ | refine below_set ?_ GE101.out) | exact HB.out)) hb); clear BK101; clear HB; have BK101 := n0_; have HB := n1_; clear n0_ n1_; (try clear hb); (try clear hb2); (try clear hk); (try clear hi); have hcz10_0 : w9.cell? ⟨gb101, 0, none⟩ = some (.slice A0_0 l0_0.length c0_0) := (blk_cell BK101.out 0).trans rfl; have hcz10_1 : w9.cell? ⟨gb101, 1, none⟩ = some (.slice A0_1 l0_1.length c0_1) := (blk_cell BK101.out 1).trans rfl; have hcz10_2 : w9.cell? ⟨gb101, 2, none⟩ = some (.slice A0_2 l0_2.length c0_2) := (blk_cell BK101.out 2).trans rfl; have hcz10_3 : w9.cell? ⟨gb101, 3, none⟩ = some (.slice A0_3 l0_3.length c0_3) := (blk_cell BK101.out 3).trans rfl; have hcz10_4 : w9.cell? ⟨gb101, 4, none⟩ = some (.slice A0_4 l0_4.length c0_4) := (blk_cell BK101.out 4).trans rfl; have hcz10_5 : w9.cell? ⟨gb101, 5, none⟩ = some (.slice A0_5 l0_5.length c0_5) := (blk_cell BK101.out 5).trans rfl; have hfz10_0 := blk_frozen BK101.out 0; have hfz10_1 := blk_frozen BK101.out 1; have hfz10_2 := blk_frozen BK101.out 2; have hfz10_3 := blk_frozen BK101.out 3; have hfz10_4 := blk_frozen BK101.out 4; have hfz10_5 := blk_frozen BK101.out 5) | (go_at_call 50; (with_reducible refine (scarfjointref05_Few.calls _ _ l0_2 _ _ l0_3 true _ ?side1 ?side2 ?side3 ?side4 A4.out).mono ?_); (case side1 => repeat (first | exact (Kd.C_below HR0_2.out HB.out) | (with_reducible refine Kd.C_alloc ?_ _) | (with_reducible refine Kd.C_drewN ?_ _) | (with_reducible refine Kd.C_drew ?_))); (case side2 => exact HC0_2.out); (case side3 => repeat (first | exact (Kd.C_below HR0_3.out HB.out) | (with_reducible refine Kd.C_alloc ?_ _) | (with_reducible refine Kd.C_drewN ?_ _) | (with_reducible refine Kd.C_drew ?_))); (case side4 => exact HC0_3.out); rintro e w11 ⟨rfl, hb⟩; have n0_ := Aside0.mk (blk_below (g := gb101) (o := .cells #[.slice A0_0 l0_0.length c0_0, .slice A0_1 l0_1.length c0_1, .slice A0_2 l0_2.length c0_2, .slice A0_3 l0_3.length c0_3, .slice A0_4 l0_4.length c0_4, .slice A0_5 l0_5.length c0_5] 63 (0, 0)) (by (with_reducible repeat first | refine bN_ ?_ _ | refine bD_ ?_ | refine bA_ ?_ _); exact BK101.out) hb); have n1_ := Aside0.mk (below_step (by repeat (first | (with_reducible first | exact HB.out | apply lA_ | apply lN_ | apply lD_ | refine below_set ?_ GE101.out) | exact HB.out)) hb); clear BK101; clear HB; have BK101 := n0_; have HB := n1_; clear n0_ n1_; (try clear hb); (try clear hb2); (try clear hk); (try clear hi); have hcz12_0 : w11.cell? ⟨gb101, 0, none⟩ = some (.slice A0_0 l0_0.length c0_0) := (blk_cell BK101.out 0).trans rfl; have hcz12_1 : w11.cell? ⟨gb101, 1, none⟩ = some (.slice A0_1 l0_1.length c0_1) := (blk_cell BK101.out 1).trans rfl; have hcz12_2 : w11.cell? ⟨gb101, 2, none⟩ = some (.slice A0_2 l0_2.length c0_2) := (blk_cell BK101.out 2).trans rfl; have hcz12_3 : w11.cell? ⟨gb101, 3, none⟩ = some (.slice A0_3 l0_3.length c0_3) := (blk_cell BK101.out 3).trans rfl; have hcz12_4 : w11.cell? ⟨gb101, 4, none⟩ = some (.slice A0_4 l0_4.length c0_4) := (blk_cell BK101.out 4).trans rfl; have hcz12_5 : w11.cell? ⟨gb101, 5, none⟩ = some (.slice A0_5 l0_5.length c0_5) := (blk_cell BK101.out 5).trans rfl; have hfz12_0 := blk_frozen BK101.out 0; have hfz12_1 := blk_frozen BK101.out 1; have hfz12_2 := blk_frozen BK101.out 2; have hfz12_3 := blk_frozen BK101.out 3; have hfz12_4 := blk_frozen BK101.out 4; have hfz12_5 := blk_frozen BK101.out 5) | (go_at_call 82; (with_reducible refine (scarfjointref06_Few.calls _ _ l0_4 _ _ l0_5 150 t104 _ ?side1 ?side2 ?side3 ?side4 A6.out).mono ?_); (case side1 => repeat (first | exact (Kd.C_below HR0_4.out HB.out) | (with_reducible refine Kd.C_alloc ?_ _) | (with_reducible refine Kd.C_drewN ?_ _) | (with_reducible refine Kd.C_drew ?_))); (case side2 => exact HC0_4.out); (case side3 => repeat (first | exact (Kd.C_below HR0_5.out HB.out) | (with_reducible refine Kd.C_alloc ?_ _) | (with_reducible refine Kd.C_drewN ?_ _) | (with_reducible refine Kd.C_drew ?_))); (case side4 => exact HC0_5.out); rintro e w13 ⟨rfl, hb⟩; have n0_ := Aside0.mk (blk_below (g := gb101) (o := .cells #[.slice A0_0 l0_0.length c0_0, .slice A0_1 l0_1.length c0_1, .slice A0_2 l0_2.length c0_2, .slice A0_3 l0_3.length c0_3, .slice A0_4 l0_4.length c0_4, .slice A0_5 l0_5.length c0_5] 63 (0, 0)) (by (with_reducible repeat first | refine bN_ ?_ _ | refine bD_ ?_ | refine bA_ ?_ _); exact BK101.out) hb); have n1_ := Aside0.mk (below_step (by repeat (first | (with_reducible first | exact HB.out | apply lA_ | apply lN_ | apply lD_ | refine below_set ?_ GE101.out) | exact HB.out)) hb); clear BK101; clear HB; have BK101 := n0_; have HB := n1_; clear n0_ n1_; (try clear hb); (try clear hb2); (try clear hk); (try clear hi)))
   go_ret
   exact ⟨by first | rfl | (simp [errW_none, errW_some] <;> rfl) | (simp [*, errW_none, errW_some] <;> rfl), by repeat (first | (with_reducible first | exact HB.out | apply lA_ | apply lN_ | apply lD_ | refine below_set ?_ GE101.out) | exact HB.out)⟩
  ·replace c5 := Bool.eq_false_iff.mpr c5
   subst c5
   have H1 : (some false) = some r := by rw [if_neg (show ¬ (false = true) by decide)] at H; exact H
   clear H; have H := H1; clear H1; obtain rfl := Option.some.inj H
   go_enter Try.func42, Try.ntmps42
   go_wp2_with (first | ((with_reducible refine gate_dst (N := 1) rfl ?_); refine box_event ?hg (N := 1) ?hd (cs := #[.slice A0_0 l0_0.length c0_0, .slice A0_1 l0_1.length c0_1, .slice A0_2 l0_2.length c0_2, .slice A0_3 l0_3.length c0_3, .slice A0_4 l0_4.length c0_4, .slice A0_5 l0_5.length c0_5]) (t := 63) ?hr ?_; (case hd => rfl); (case hg => rfl); (case hr => first | (go_simp; done) | (go_simp; rfl)); intro gb101 hg w14 hbox hb; have n0_ := Aside0.mk (below_step (by repeat (first | (with_reducible first | exact HB.out | apply lA_ | apply lN_ | apply lD_) | exact HB.out)) hb); have n1_ := Aside0.mk (hbox); have n2_ := Aside0.mk ((by rw [hg]; exact (below_size (by repeat (first | (with_reducible first | exact HB.out | apply lA_ | apply lN_ | apply lD_) | exact HB.out))) : w.heap.size ≤ gb101)); have n3_ := Aside0.mk ((by rw [hg]; exact (below_size (by repeat (first | (with_reducible first | exact HB.out | apply lA_ | apply lN_ | apply lD_) | exact HB.out))) : w.heap.size ≤ gb101)); clear HB; have HB := n0_; have BK101 := n1_; have GW101 := n2_; have GE101 := n3_; clear n0_ n1_ n2_ n3_; clear hb hbox hg; have hcz15_0 : w14.cell? ⟨gb101, 0, none⟩ = some (.slice A0_0 l0_0.length c0_0) := (blk_cell BK101.out 0).trans rfl; have hcz15_1 : w14.cell? ⟨gb101, 1, none⟩ = some (.slice A0_1 l0_1.length c0_1) := (blk_cell BK101.out 1).trans rfl; have hcz15_2 : w14.cell? ⟨gb101, 2, none⟩ = some (.slice A0_2 l0_2.length c0_2) := (blk_cell BK101.out 2).trans rfl; have hcz15_3 : w14.cell? ⟨gb101, 3, none⟩ = some (.slice A0_3 l0_3.length c0_3) := (blk_cell BK101.out 3).trans rfl; have hcz15_4 : w14.cell? ⟨gb101, 4, none⟩ = some (.slice A0_4 l0_4.length c0_4) := (blk_cell BK101.out 4).trans rfl; have hcz15_5 : w14.cell? ⟨gb101, 5, none⟩ = some (.slice A0_5 l0_5.length c0_5) := (blk_cell BK101.out 5).trans rfl; have hfz15_0 := blk_frozen BK101.out 0; have hfz15_1 := blk_frozen BK101.out 1; have hfz15_2 := blk_frozen BK101.out 2; have hfz15_3 := blk_frozen BK101.out 3; have hfz15_4 := blk_frozen BK101.out 4; have hfz15_5 := blk_frozen BK101.out 5) | ((with_reducible refine gate_callee (f := 50) rfl ?_); refine goesL_ (some 5) rfl rfl Try.func50 (by kernel_rfl) rfl #[.agg #[.slice A0_0 l0_0.length c0_0, .slice A0_1 l0_1.length c0_1]] rfl (by (try simp only [List.map_toArray, List.map_cons, List.map_nil]); first | done | rfl | (simp only [List.length_drop, List.length_take]; rfl)) ?_; (with_reducible refine (scarfjointref05_Few.calls _ _ l0_0 _ _ l0_1 true _ ?side1 ?side2 ?side3 ?side4 A2.out).mono ?_); (case side1 => repeat (first | exact (Kd.C_below HR0_0.out HB.out) | (with_reducible refine Kd.C_alloc ?_ _) | (with_reducible refine Kd.C_drewN ?_ _) | (with_reducible refine Kd.C_drew ?_))); (case side2 => exact HC0_0.out); (case side3 => repeat (first | exact (Kd.C_below HR0_1.out HB.out) | (with_reducible refine Kd.C_alloc ?_ _) | (with_reducible refine Kd.C_drewN ?_ _) | (with_reducible refine Kd.C_drew ?_))); (case side4 => exact HC0_1.out); rintro e w16 ⟨rfl, hb⟩; refine ⟨_, rfl, ?_⟩; have n0_ := Aside0.mk (blk_below (g := gb101) (o := .cells #[.slice A0_0 l0_0.length c0_0, .slice A0_1 l0_1.length c0_1, .slice A0_2 l0_2.length c0_2, .slice A0_3 l0_3.length c0_3, .slice A0_4 l0_4.length c0_4, .slice A0_5 l0_5.length c0_5] 63 (0, 0)) (by (with_reducible repeat first | refine bN_ ?_ _ | refine bD_ ?_ | refine bA_ ?_ _); exact BK101.out) hb); have n1_ := Aside0.mk (below_step (by repeat (first | (with_reducible first | exact HB.out | apply lA_ | apply lN_ | apply lD_ | refine below_set ?_ GE101.out) | exact HB.out)) hb); clear BK101; clear HB; have BK101 := n0_; have HB := n1_; clear n0_ n1_; (try clear hb); (try clear hb2); (try clear hk); (try clear hi); have hcz17_0 : w16.cell? ⟨gb101, 0, none⟩ = some (.slice A0_0 l0_0.length c0_0) := (blk_cell BK101.out 0).trans rfl; have hcz17_1 : w16.cell? ⟨gb101, 1, none⟩ = some (.slice A0_1 l0_1.length c0_1) := (blk_cell BK101.out 1).trans rfl; have hcz17_2 : w16.cell? ⟨gb101, 2, none⟩ = some (.slice A0_2 l0_2.length c0_2) := (blk_cell BK101.out 2).trans rfl; have hcz17_3 : w16.cell? ⟨gb101, 3, none⟩ = some (.slice A0_3 l0_3.length c0_3) := (blk_cell BK101.out 3).trans rfl; have hcz17_4 : w16.cell? ⟨gb101, 4, none⟩ = some (.slice A0_4 l0_4.length c0_4) := (blk_cell BK101.out 4).trans rfl; have hcz17_5 : w16.cell? ⟨gb101, 5, none⟩ = some (.slice A0_5 l0_5.length c0_5) := (blk_cell BK101.out 5).trans rfl; have hfz17_0 := blk_frozen BK101.out 0; have hfz17_1 := blk_frozen BK101.out 1; have hfz17_2 := blk_frozen BK101.out 2; have hfz17_3 := blk_frozen BK101.out 3; have hfz17_4 := blk_frozen BK101.out 4; have hfz17_5 := blk_frozen BK101.out 5) | (go_at_call 50; (with_reducible refine (scarfjointref05_Few.calls _ _ l0_2 _ _ l0_3 false _ ?side1 ?side2 ?side3 ?side4 A4.out).mono ?_); (case side1 => repeat (first | exact (Kd.C_below HR0_2.out HB.out) | (with_reducible refine Kd.C_alloc ?_ _) | (with_reducible refine Kd.C_drewN ?_ _) | (with_reducible refine Kd.C_drew ?_))); (case side2 => exact HC0_2.out); (case side3 => repeat (first | exact (Kd.C_below HR0_3.out HB.out) | (with_reducible refine Kd.C_alloc ?_ _) | (with_reducible refine Kd.C_drewN ?_ _) | (with_reducible refine Kd.C_drew ?_))); (case side4 => exact HC0_3.out); rintro e w18 ⟨rfl, hb⟩; have n0_ := Aside0.mk (blk_below (g := gb101) (o := .cells #[.slice A0_0 l0_0.length c0_0, .slice A0_1 l0_1.length c0_1, .slice A0_2 l0_2.length c0_2, .slice A0_3 l0_3.length c0_3, .slice A0_4 l0_4.length c0_4, .slice A0_5 l0_5.length c0_5] 63 (0, 0)) (by (with_reducible repeat first | refine bN_ ?_ _ | refine bD_ ?_ | refine bA_ ?_ _); exact BK101.out) hb); have n1_ := Aside0.mk (below_step (by repeat (first | (with_reducible first | exact HB.out | apply lA_ | apply lN_ | apply lD_ | refine below_set ?_ GE101.out) | exact HB.out)) hb); clear BK101; clear HB; have BK101 := n0_; have HB := n1_; clear n0_ n1_; (try clear hb); (try clear hb2); (try clear hk); (try clear hi)))
   go_ret
   exact ⟨by first | rfl | (simp [errW_none, errW_some] <;> rfl) | (simp [*, errW_none, errW_some] <;> rfl), by repeat (first | (with_reducible first | exact HB.out | apply lA_ | apply lN_ | apply lD_ | refine below_set ?_ GE101.out) | exact HB.out)⟩
 ·replace c3 := Bool.eq_false_iff.mpr c3
  subst c3
  have H1 : (some false) = some r := by rw [if_neg (show ¬ (false = true) by decide)] at H; exact H
  clear H; have H := H1; clear H1; obtain rfl := Option.some.inj H
  go_enter Try.func42, Try.ntmps42
  go_wp2_with (first | ((with_reducible refine gate_dst (N := 1) rfl ?_); refine box_event ?hg (N := 1) ?hd (cs := #[.slice A0_0 l0_0.length c0_0, .slice A0_1 l0_1.length c0_1, .slice A0_2 l0_2.length c0_2, .slice A0_3 l0_3.length c0_3, .slice A0_4 l0_4.length c0_4, .slice A0_5 l0_5.length c0_5]) (t := 63) ?hr ?_; (case hd => rfl); (case hg => rfl); (case hr => first | (go_simp; done) | (go_simp; rfl)); intro gb101 hg w19 hbox hb; have n0_ := Aside0.mk (below_step (by repeat (first | (with_reducible first | exact HB.out | apply lA_ | apply lN_ | apply lD_) | exact HB.out)) hb); have n1_ := Aside0.mk (hbox); have n2_ := Aside0.mk ((by rw [hg]; exact (below_size (by repeat (first | (with_reducible first | exact HB.out | apply lA_ | apply lN_ | apply lD_) | exact HB.out))) : w.heap.size ≤ gb101)); have n3_ := Aside0.mk ((by rw [hg]; exact (below_size (by repeat (first | (with_reducible first | exact HB.out | apply lA_ | apply lN_ | apply lD_) | exact HB.out))) : w.heap.size ≤ gb101)); clear HB; have HB := n0_; have BK101 := n1_; have GW101 := n2_; have GE101 := n3_; clear n0_ n1_ n2_ n3_; clear hb hbox hg; have hcz20_0 : w19.cell? ⟨gb101, 0, none⟩ = some (.slice A0_0 l0_0.length c0_0) := (blk_cell BK101.out 0).trans rfl; have hcz20_1 : w19.cell? ⟨gb101, 1, none⟩ = some (.slice A0_1 l0_1.length c0_1) := (blk_cell BK101.out 1).trans rfl; have hcz20_2 : w19.cell? ⟨gb101, 2, none⟩ = some (.slice A0_2 l0_2.length c0_2) := (blk_cell BK101.out 2).trans rfl; have hcz20_3 : w19.cell? ⟨gb101, 3, none⟩ = some (.slice A0_3 l0_3.length c0_3) := (blk_cell BK101.out 3).trans rfl; have hcz20_4 : w19.cell? ⟨gb101, 4, none⟩ = some (.slice A0_4 l0_4.length c0_4) := (blk_cell BK101.out 4).trans rfl; have hcz20_5 : w19.cell? ⟨gb101, 5, none⟩ = some (.slice A0_5 l0_5.length c0_5) := (blk_cell BK101.out 5).trans rfl; have hfz20_0 := blk_frozen BK101.out 0; have hfz20_1 := blk_frozen BK101.out 1; have hfz20_2 := blk_frozen BK101.out 2; have hfz20_3 := blk_frozen BK101.out 3; have hfz20_4 := blk_frozen BK101.out 4; have hfz20_5 := blk_frozen BK101.out 5) | ((with_reducible refine gate_callee (f := 50) rfl ?_); refine goesL_ (some 5) rfl rfl Try.func50 (by kernel_rfl) rfl #[.agg #[.slice A0_0 l0_0.length c0_0, .slice A0_1 l0_1.length c0_1]] rfl (by (try simp only [List.map_toArray, List.map_cons, List.map_nil]); first | done | rfl | (simp only [List.length_drop, List.length_take]; rfl)) ?_; (with_reducible refine (scarfjointref05_Few.calls _ _ l0_0 _ _ l0_1 false _ ?side1 ?side2 ?side3 ?side4 A2.out).mono ?_); (case side1 => repeat (first | exact (Kd.C_below HR0_0.out HB.out) | (with_reducible refine Kd.C_alloc ?_ _) | (with_reducible refine Kd.C_drewN ?_ _) | (with_reducible refine Kd.C_drew ?_))); (case side2 => exact HC0_0.out); (case side3 => repeat (first | exact (Kd.C_below HR0_1.out HB.out) | (with_reducible refine Kd.C_alloc ?_ _) | (with_reducible refine Kd.C_drewN ?_ _) | (with_reducible refine Kd.C_drew ?_))); (case side4 => exact HC0_1.out); rintro e w21 ⟨rfl, hb⟩; refine ⟨_, rfl, ?_⟩; have n0_ := Aside0.mk (blk_below (g := gb101) (o := .cells #[.slice A0_0 l0_0.length c0_0, .slice A0_1 l0_1.length c0_1, .slice A0_2 l0_2.length c0_2, .slice A0_3 l0_3.length c0_3, .slice A0_4 l0_4.length c0_4, .slice A0_5 l0_5.length c0_5] 63 (0, 0)) (by (with_reducible repeat first | refine bN_ ?_ _ | refine bD_ ?_ | refine bA_ ?_ _); exact BK101.out) hb); have n1_ := Aside0.mk (below_step (by repeat (first | (with_reducible first | exact HB.out | apply lA_ | apply lN_ | apply lD_ | refine below_set ?_ GE101.out) | exact HB.out)) hb); clear BK101; clear HB; have BK101 := n0_; have HB := n1_; clear n0_ n1_; (try clear hb); (try clear hb2); (try clear hk); (try clear hi)))
  go_ret
  exact ⟨by first | rfl | (simp [errW_none, errW_some] <;> rfl) | (simp [*, errW_none, errW_some] <;> rfl), by repeat (first | (with_reducible first | exact HB.out | apply lA_ | apply lN_ | apply lD_ | refine below_set ?_ GE101.out) | exact HB.out)⟩
end Go.Proofs.Ytonipihlpbaknaa.Print
namespace Go.Proofs.Ytonipihlpbaknaa.Print
open Go.RowKit Go.Proofs.YtonipihlpbaknaaW.PrintWords Go.Proofs.YtonipihlpbaknaaW.PrintLast Go.Proofs.YtonipihlpbaknaaW.PrintMore
attribute [local go_sem] max2_int min2_int max_two min_two max_three min_three max_four min_four   -- for this text's walks alone
set_option linter.unusedVariables false
set_option linter.unusedSimpArgs false
def scarfjointref06_Through.l0 : Nat → List Int → List Int → List Int → Int → Option (List Int)
  | 0, _, _, _, _ => none
  | k + 1, x0, x1, x5, x6 => if x6 < (x0.length : Int) then (if 0 ≤ x6 then (if 0 ≤ (rd x0 x6) then (if (rd x0 x6) < (x1.length : Int) then (if x5.length < 17592186044416 then (scarfjointref06_Through.l0 k x0 x1 (x5 ++ [rd x1 (rd x0 x6)]) (wrap64 (x6 + 1))) else (none)) else (none)) else (none)) else (none)) else (some x5)
def scarfjointref06_Through.f (k : Nat) (l0 : List Int) (l1 : List Int) : Option (List Int) := scarfjointref06_Through.l0 k l0 l1 ([] : List Int) 0
set_option maxHeartbeats 8000000 in
set_option maxRecDepth 100000 in
theorem scarfjointref06_Through.calls (k : Nat) (A0 : Option Addr) (c0 : Nat) (l0 : List Int) (A1 : Option Addr) (c1 : Nat) (l1 : List Int) (r : List Int) (w : World) (hr0 : Kd.C (Kd.int .i64) w A0 l0.length l0) (hc0 : l0.length ≤ c0) (hr1 : Kd.C (Kd.int .i64) w A1 l1.length l1) (hc1 : l1.length ≤ c1) (h : scarfjointref06_Through.f k l0 l1 = some r) :
  Calls Try.prog 107 #[.slice A0 l0.length c0, .slice A1 l1.length c1] w fun e w' => ∃ v0_ : Value, e = .returned (v0_) ∧ Kd.R (Kd.int .i64) 3 w' w.heap.size (fun _ => True) v0_ r ∧ Below w.heap.size w w' := by
 have HR0 := Aside0.mk hr0; have HC0 := Aside0.mk hc0; clear hr0 hc0; have HR1 := Aside0.mk hr1; have HC1 := Aside0.mk hc1; clear hr1 hc1; have HB := Aside0.mk (Below.refl w.heap.size w); have H : (scarfjointref06_Through.l0 k l0 l1 ([] : List Int) 0) = some r := h; clear h; have H' := Aside0.mk H; clear H
 go_enter Try.func107, Try.ntmps107
 go_wp2
 go_loopg [5, 6] k (fun kq v5 v6 w' => ∃ (x5_1 : List Int) (x6_1 : Int), v6 = .int .i64 x6_1 ∧ Aside0 (scarfjointref06_Through.l0 kq l0 l1 x5_1 x6_1 = some r) ∧ Aside0 (kq ≤ k) ∧ Aside0 (Kd.R (Kd.int .i64) 3 w' w.heap.size (fun _ => True) v5 x5_1) ∧ Aside0 (Below w.heap.size w w'))
 case atStart => exact ⟨(([] : List Int)), (0), (by first | rfl | (simp; done) | (simp [*]; done)), H', ⟨Nat.le_refl _⟩, ⟨by first | exact Kd.R_nil _ _ _ _ _ | exact Kd.N_nil _ _ _ _ _ | exact Kd.V_nil _ _ _ _ _ | exact Kd.Q_nil _ _ _ _ _ | exact Kd.S_nil _ _ _ _ _⟩, ⟨by repeat (first | (with_reducible first | exact HB.out | apply lA_ | apply lN_ | apply lD_) | exact HB.out)⟩⟩
 case round =>
  clear H'; (try clear c1); (try clear p2); obtain ⟨x5_1, x6_1, rfl, HA, HK1, HO_5, HB⟩ := hrel
  cases gk with
  | zero => exact absurd HA.out (by simp [scarfjointref06_Through.l0])
  | succ k1 =>
   have H := HA.out; clear HA; simp only [scarfjointref06_Through.l0] at H
   by_cases c3 : x6_1 < (l0.length : Int)
   ·rw [if_pos c3] at H
    have c3b0 : decide (x6_1 < (l0.length : Int)) = true := decide_eq_true c3; clear c3
    by_cases c4 : 0 ≤ x6_1
    ·rw [if_pos c4] at H
     have c4b0 : decide (0 ≤ x6_1) = true := decide_eq_true c4; clear c4
     by_cases c5 : 0 ≤ (rd l0 x6_1)
     ·rw [if_pos c5] at H
      have c5b0 : decide (0 ≤ (rd l0 x6_1)) = true := decide_eq_true c5; clear c5
      by_cases c6 : (rd l0 x6_1) < (l1.length : Int)
      ·rw [if_pos c6] at H
       have c6b0 : decide ((rd l0 x6_1) < (l1.length : Int)) = true := decide_eq_true c6; clear c6
       by_cases c7 : x5_1.length < 17592186044416
       ·rw [if_pos c7] at H
        have LMc7 := Aside0.mk c7; clear c7
        obtain ⟨y103, hy103⟩ : ∃ y_ : List Int, y_ = (x5_1 ++ [rd l1 (rd l0 x6_1)]) := ⟨_, rfl⟩
        replace H : (scarfjointref06_Through.l0 k1 l0 l1 y103 (wrap64 (x6_1 + 1))) = some r := by first | (rw [hy103]; with_reducible exact H) | (have H2_ := (Option.bind_some _ _).symm.trans H; rw [hy103]; with_reducible exact H2_) | (have H2_ := (Option.bind_some _ _).symm.trans H; with_reducible exact H2_) | with_reducible exact H | (rw [hy103]; exact H) | exact H
        have Ny103 := Aside0.mk hy103; clear hy103; have H' := Aside0.mk H; clear H; have p101 : 0 ≤ (x6_1 : Int) := of_decide_eq_true (by first | (with_reducible assumption) | assumption); have q101 : x6_1 < (l0.length : Int) := of_decide_eq_true (by first | (with_reducible assumption) | assumption); obtain ⟨ad101, e101, hx101_0⟩ := Kd.at_int HR0.out x6_1 p101 q101; cases e101; replace hx101_0 := (HB.out.cell (World.block_lt_of_cell? w _ hx101_0)).trans hx101_0; replace p101 := eq_true p101; replace q101 := eq_true q101; have p102 : 0 ≤ ((rd l0 x6_1) : Int) := of_decide_eq_true (by first | (with_reducible assumption) | assumption); have q102 : (rd l0 x6_1) < (l1.length : Int) := of_decide_eq_true (by first | (with_reducible assumption) | assumption); obtain ⟨ad102, e102, hx102_0⟩ := Kd.at_int HR1.out (rd l0 x6_1) p102 q102; cases e102; replace hx102_0 := (HB.out.cell (World.block_lt_of_cell? w _ hx102_0)).trans hx102_0; replace p102 := eq_true p102; replace q102 := eq_true q102
        go_wp2_with (first | ((with_reducible refine gate_builtin (b := .append) (xs := #[.tmp 13, .tmp 21]) rfl ?_); at_builtin; refine Kd.R_append (Kd.int .i64) (w0 := w) w.heap.size rfl (.tmp 13) (.tmp 21) 22 3 (.int .i64 0) 8 rfl Try.underlying22 info3 rfl (by decide) (by omega) u5 x5_1 (rd l1 (rd l0 x6_1)) [.int .i64 (rd l1 (rd l0 x6_1))] (fun _ => True) (fun _ => False) rfl rfl ?aP (fun _ hk => hk.elim) ?aF ?aO ?aB ?aS ?aL ?_; (case aP => exact rfl); (case aB => exact (by repeat (first | (with_reducible first | exact HB.out | apply lA_ | apply lN_ | apply lD_) | exact HB.out))); (case aF => exact (fun _ _ => trivial)); (case aO => exact (by (with_reducible repeat (first | apply rA_ | apply rN_ | apply rD_)); exact HO_5.out)); (case aS => exact (below_size (by repeat (first | (with_reducible first | exact HB.out | apply lA_ | apply lN_ | apply lD_) | exact HB.out)))); (case aL => have := LMc7.out; omega); intro v104 w8 ho hb hg hat; rw [← Ny103.out] at ho; have n0_ := Aside0.mk (hb); have n1_ := Aside0.mk (ho); clear HB; clear HO_5; have HB := n0_; have HO105 := n1_; clear n0_ n1_; clear ho hb hg hat))
        go_roundg k1
        case measure => have := HK1.out; omega
        case rel => exact ⟨(y103), (wrap64 (x6_1 + 1)), (by first | rfl | (simp; done) | (simp [*]; done)), H', ⟨by have := HK1.out; omega⟩, ⟨by (with_reducible repeat (first | apply rA_ | apply rN_ | apply rD_)); exact HO105.out⟩, ⟨by repeat (first | (with_reducible first | exact HB.out | apply lA_ | apply lN_ | apply lD_) | exact HB.out)⟩⟩
       ·rw [if_neg c7] at H
        exact absurd H (by simp)
      ·rw [if_neg c6] at H
       exact absurd H (by simp)
     ·rw [if_neg c5] at H
      exact absurd H (by simp)
    ·rw [if_neg c4] at H
     exact absurd H (by simp)
   ·rw [if_neg c3] at H
    have c3b0 : decide (x6_1 < (l0.length : Int)) = false := decide_eq_false c3; clear c3; obtain rfl := Option.some.inj H
    go_wp2
    go_ret
    exact ⟨_, by first | rfl | (simp [errW_none, errW_some] <;> rfl) | (simp [*, errW_none, errW_some] <;> rfl), by (with_reducible repeat (first | apply rA_ | apply rN_ | apply rD_)); exact HO_5.out, by repeat (first | (with_reducible first | exact HB.out | apply lA_ | apply lN_ | apply lD_) | exact HB.out)⟩
end Go.Proofs.Ytonipihlpbaknaa.Print
namespace Go.Proofs.Ytonipihlpbaknaa.Print
open Go.RowKit Go.Proofs.YtonipihlpbaknaaW.PrintWords Go.Proofs.YtonipihlpbaknaaW.PrintLast Go.Proofs.YtonipihlpbaknaaW.PrintMore
attribute [local go_sem] max2_int min2_int max_two min_two max_three min_three max_four min_four   -- for this text's walks alone
set_option linter.unusedVariables false
set_option linter.unusedSimpArgs false
def scarfjointref06_Then.f (k : Nat) (l0_0 : List Int) (l0_1 : List Int) (l1_0 : List Int) (l1_1 : List Int) : Option (List Int × List Int) := (scarfjointref06_Through.f k l0_0 l1_0).bind fun t104 => ((scarfjointref06_Through.f k l0_1 l1_1).bind fun t107 => (some (t104, t107)))
def scarfjointref06_Then.T1 : Bool × List (List Nat × List Nat) := (true, [([], []), ([0], [0]), ([], []), ([2], [2]), ([1, 3], [1, 3]), ([], []), ([5], [5]), ([], []), ([7], [7]), ([6, 8, 4], [6, 8]), ([4, 9], [4, 9]), ([10, 9, 0, 1, 2, 3, 4, 5, 6, 7, 8, 9, 10], [10])])
def scarfjointref06_Then.B1 : List Nat := [0, 1, 0, 4, 15, 0, 32, 0, 128, 511, 1023, 2047]
theorem scarfjointref06_Then.tab1 : rtab .any (opsOf Try.f84 1) = scarfjointref06_Then.T1 := by kernel_rfl
theorem scarfjointref06_Then.bits1 : waitsOk scarfjointref06_Then.T1.2 scarfjointref06_Then.B1 = true := by kernel_rfl
set_option maxHeartbeats 8000000 in
set_option maxRecDepth 100000 in
theorem scarfjointref06_Then.calls (k : Nat) (A0_0 : Option Addr) (c0_0 : Nat) (l0_0 : List Int) (A0_1 : Option Addr) (c0_1 : Nat) (l0_1 : List Int) (A1_0 : Option Addr) (c1_0 : Nat) (l1_0 : List Int) (A1_1 : Option Addr) (c1_1 : Nat) (l1_1 : List Int) (r1 : List Int) (r2 : List Int) (w : World) (hr0_0 : Kd.C (Kd.int .i64) w A0_0 l0_0.length l0_0) (hc0_0 : l0_0.length ≤ c0_0) (hr0_1 : Kd.C (Kd.int .i64) w A0_1 l0_1.length l0_1) (hc0_1 : l0_1.length ≤ c0_1) (hr1_0 : Kd.C (Kd.int .i64) w A1_0 l1_0.length l1_0) (hc1_0 : l1_0.length ≤ c1_0) (hr1_1 : Kd.C (Kd.int .i64) w A1_1 l1_1.length l1_1) (hc1_1 : l1_1.length ≤ c1_1) (h : scarfjointref06_Then.f k l0_0 l0_1 l1_0 l1_1 = some (r1, r2)) :
  Calls Try.prog 84 #[.agg #[.slice A0_0 l0_0.length c0_0, .slice A0_1 l0_1.length c0_1], .agg #[.slice A1_0 l1_0.length c1_0, .slice A1_1 l1_1.length c1_1]] w fun e w' => ∃ v0_ v1_ : Value, e = .returned (.agg #[v0_, v1_]) ∧ Kd.R (Kd.int .i64) 3 w' w.heap.size (fun k_ => some k_ ≠ (v1_ : Value).ownBlock) v0_ r1 ∧ Kd.R (Kd.int .i64) 3 w' w.heap.size (fun k_ => some k_ ≠ (v0_ : Value).ownBlock) v1_ r2 ∧ Below w.heap.size w w' := by
 have hu51 := Try.underlying51; have HR0_0 := Aside0.mk hr0_0; have HC0_0 := Aside0.mk hc0_0; clear hr0_0 hc0_0; have HR0_1 := Aside0.mk hr0_1; have HC0_1 := Aside0.mk hc0_1; clear hr0_1 hc0_1; have HR1_0 := Aside0.mk hr1_0; have HC1_0 := Aside0.mk hc1_0; clear hr1_0 hc1_0; have HR1_1 := Aside0.mk hr1_1; have HC1_1 := Aside0.mk hc1_1; clear hr1_1 hc1_1; have HB := Aside0.mk (Below.refl w.heap.size w); have H : ((scarfjointref06_Through.f k l0_0 l1_0).bind fun t104 => ((scarfjointref06_Through.f k l0_1 l1_1).bind fun t107 => (some (t104, t107)))) = some (r1, r2) := h; clear h; replace H := Option.bind_eq_some_iff.mp H; obtain ⟨t104, A30, H⟩ := H; replace H : ((scarfjointref06_Through.f k l0_1 l1_1).bind fun t107 => (some (t104, t107))) = some (r1, r2) := H; have A3 := Aside0.mk A30; clear A30; replace H := Option.bind_eq_some_iff.mp H; obtain ⟨t107, A40, H⟩ := H; replace H : (some (t104, t107)) = some (r1, r2) := H; have A4 := Aside0.mk A40; clear A40; simp only [Option.some.injEq, Prod.mk.injEq] at H; obtain ⟨rfl, rfl⟩ := H
 go_enter Try.func84, Try.ntmps84
 try go_wp2_with (first | ((with_reducible refine gate_dst (N := 2) rfl ?_); refine box_event ?hg (N := 2) ?hd (cs := #[.slice A0_0 l0_0.length c0_0, .slice A0_1 l0_1.length c0_1]) (t := 51) ?hr ?_; (case hd => rfl); (case hg => rfl); (case hr => first | (go_simp; done) | (go_simp; rfl)); intro gb101 hg w5 hbox hb; have n0_ := Aside0.mk (below_step (by repeat (first | (with_reducible first | exact HB.out | apply lA_ | apply lN_ | apply lD_) | exact HB.out)) hb); have n1_ := Aside0.mk (hbox); have n2_ := Aside0.mk ((by rw [hg]; exact (below_size (by repeat (first | (with_reducible first | exact HB.out | apply lA_ | apply lN_ | apply lD_) | exact HB.out))) : w.heap.size ≤ gb101)); have n3_ := Aside0.mk ((by rw [hg]; exact (below_size (by repeat (first | (with_reducible first | exact HB.out | apply lA_ | apply lN_ | apply lD_) | exact HB.out))) : w.heap.size ≤ gb101)); clear HB; have HB := n0_; have BK101 := n1_; have GW101 := n2_; have GE101 := n3_; clear n0_ n1_ n2_ n3_; clear hb hbox hg) | ((with_reducible refine gate_dst (N := 3) rfl ?_); refine box_event ?hg (N := 3) ?hd (cs := #[.slice A1_0 l1_0.length c1_0, .slice A1_1 l1_1.length c1_1]) (t := 51) ?hr ?_; (case hd => rfl); (case hg => rfl); (case hr => first | (go_simp; done) | (go_simp; rfl)); intro gb102 hg w6 hbox hb; have n0_ := Aside0.mk (blk_below (g := gb101) (o := .cells #[.slice A0_0 l0_0.length c0_0, .slice A0_1 l0_1.length c0_1] 51 (0, 0)) (by (with_reducible repeat first | refine bN_ ?_ _ | refine bD_ ?_ | refine bA_ ?_ _); exact BK101.out) hb); have n1_ := Aside0.mk (below_step (by repeat (first | (with_reducible first | exact HB.out | apply lA_ | apply lN_ | apply lD_ | refine below_set ?_ GE101.out) | exact HB.out)) hb); have n2_ := Aside0.mk (hbox); have n3_ := Aside0.mk ((by rw [hg]; exact (below_size (by repeat (first | (with_reducible first | exact HB.out | apply lA_ | apply lN_ | apply lD_ | refine below_set ?_ GE101.out) | exact HB.out))) : w.heap.size ≤ gb102)); have n4_ := Aside0.mk ((by rw [hg]; exact (below_size (by repeat (first | (with_reducible first | exact HB.out | apply lA_ | apply lN_ | apply lD_ | refine below_set ?_ GE101.out) | exact HB.out))) : w.heap.size ≤ gb102)); have n5_ := Aside0.mk ((by rw [hg]; exact Nat.ne_of_lt (blk_lt (g := gb101) (o := .cells #[.slice A0_0 l0_0.length c0_0, .slice A0_1 l0_1.length c0_1] 51 (0, 0)) (by (with_reducible repeat first | refine bN_ ?_ _ | refine bD_ ?_ | refine bA_ ?_ _); exact BK101.out)) : gb101 ≠ gb102)); have n6_ := Aside0.mk ((by rw [hg]; exact Nat.ne_of_gt (blk_lt (g := gb101) (o := .cells #[.slice A0_0 l0_0.length c0_0, .slice A0_1 l0_1.length c0_1] 51 (0, 0)) (by (with_reducible repeat first | refine bN_ ?_ _ | refine bD_ ?_ | refine bA_ ?_ _); exact BK101.out)) : gb102 ≠ gb101)); clear BK101; clear HB; have BK101 := n0_; have HB := n1_; have BK102 := n2_; have GW102 := n3_; have GE102 := n4_; have NB101_102 := n5_; have NB102_101 := n6_; clear n0_ n1_ n2_ n3_ n4_ n5_ n6_; clear hb hbox hg) | ((with_reducible refine gate_dst (N := 4) rfl ?_); refine box_event ?hg (N := 4) ?hd (cs := #[.slice none 0 0, .slice none 0 0]) (t := 51) ?hr ?_; (case hd => rfl); (case hg => rfl); (case hr => first | (go_simp; done) | (go_simp; rfl)); intro gb103 hg w7 hbox hb; have n0_ := Aside0.mk (blk_below (g := gb101) (o := .cells #[.slice A0_0 l0_0.length c0_0, .slice A0_1 l0_1.length c0_1] 51 (0, 0)) (by (with_reducible repeat first | refine bN_ ?_ _ | refine bD_ ?_ | refine bA_ ?_ _); exact BK101.out) hb); have n1_ := Aside0.mk (blk_below (g := gb102) (o := .cells #[.slice A1_0 l1_0.length c1_0, .slice A1_1 l1_1.length c1_1] 51 (0, 0)) (by (with_reducible repeat first | refine bN_ ?_ _ | refine bD_ ?_ | refine bA_ ?_ _); exact BK102.out) hb); have n2_ := Aside0.mk (below_step (by repeat (first | (with_reducible first | exact HB.out | apply lA_ | apply lN_ | apply lD_ | refine below_set ?_ GE101.out | refine below_set ?_ GE102.out) | exact HB.out)) hb); have n3_ := Aside0.mk (hbox); have n4_ := Aside0.mk ((by rw [hg]; exact (below_size (by repeat (first | (with_reducible first | exact HB.out | apply lA_ | apply lN_ | apply lD_ | refine below_set ?_ GE101.out | refine below_set ?_ GE102.out) | exact HB.out))) : w.heap.size ≤ gb103)); have n5_ := Aside0.mk ((by rw [hg]; exact (below_size (by repeat (first | (with_reducible first | exact HB.out | apply lA_ | apply lN_ | apply lD_ | refine below_set ?_ GE101.out | refine below_set ?_ GE102.out) | exact HB.out))) : w.heap.size ≤ gb103)); have n6_ := Aside0.mk ((by rw [hg]; exact Nat.ne_of_lt (blk_lt (g := gb101) (o := .cells #[.slice A0_0 l0_0.length c0_0, .slice A0_1 l0_1.length c0_1] 51 (0, 0)) (by (with_reducible repeat first | refine bN_ ?_ _ | refine bD_ ?_ | refine bA_ ?_ _); exact BK101.out)) : gb101 ≠ gb103)); have n7_ := Aside0.mk ((by rw [hg]; exact Nat.ne_of_gt (blk_lt (g := gb101) (o := .cells #[.slice A0_0 l0_0.length c0_0, .slice A0_1 l0_1.length c0_1] 51 (0, 0)) (by (with_reducible repeat first | refine bN_ ?_ _ | refine bD_ ?_ | refine bA_ ?_ _); exact BK101.out)) : gb103 ≠ gb101)); have n8_ := Aside0.mk ((by rw [hg]; exact Nat.ne_of_lt (blk_lt (g := gb102) (o := .cells #[.slice A1_0 l1_0.length c1_0, .slice A1_1 l1_1.length c1_1] 51 (0, 0)) (by (with_reducible repeat first | refine bN_ ?_ _ | refine bD_ ?_ | refine bA_ ?_ _); exact BK102.out)) : gb102 ≠ gb103)); have n9_ := Aside0.mk ((by rw [hg]; exact Nat.ne_of_gt (blk_lt (g := gb102) (o := .cells #[.slice A1_0 l1_0.length c1_0, .slice A1_1 l1_1.length c1_1] 51 (0, 0)) (by (with_reducible repeat first | refine bN_ ?_ _ | refine bD_ ?_ | refine bA_ ?_ _); exact BK102.out)) : gb103 ≠ gb102)); clear BK101; clear BK102; clear HB; have BK101 := n0_; have BK102 := n1_; have HB := n2_; have BK103 := n3_; have GW103 := n4_; have GE103 := n5_; have NB101_103 := n6_; have NB103_101 := n7_; have NB102_103 := n8_; have NB103_102 := n9_; clear n0_ n1_ n2_ n3_ n4_ n5_ n6_ n7_ n8_ n9_; clear hb hbox hg))
 have n0_ := Aside0.mk (blk_drew BK101.out); have n1_ := Aside0.mk (blk_drew BK102.out); have n2_ := Aside0.mk (blk_drew BK103.out); have n3_ := Aside0.mk (below_drew1 HB.out); clear BK101; clear BK102; clear BK103; clear HB; have BK101 := n0_; have BK102 := n1_; have BK103 := n2_; have HB := n3_; clear n0_ n1_ n2_ n3_
 refine start_ (n := 12) (S := fun w' => w'.cell? ⟨gb101, 0, none⟩ = some (.slice A0_0 l0_0.length c0_0) ∧ w'.cell? ⟨gb101, 1, none⟩ = some (.slice A0_1 l0_1.length c0_1) ∧ w'.cell? ⟨gb102, 0, none⟩ = some (.slice A1_0 l1_0.length c1_0) ∧ w'.cell? ⟨gb102, 1, none⟩ = some (.slice A1_1 l1_1.length c1_1)) (ds := []) #[false, false, false, false, false, false, false, false, false, false, false, false] (by kernel_rfl) rfl rfl ⟨(blk_cell BK101.out 0).trans rfl, (blk_cell BK101.out 1).trans rfl, (blk_cell BK102.out 0).trans rfl, (blk_cell BK102.out 1).trans rfl⟩ (fun hHeld => ?_); refine with_tabW scarfjointref06_Then.tab1 scarfjointref06_Then.bits1 (fun HT_ HW_ => ?_)
 generalize w7.drew = w8 at BK101 BK102 BK103 HB hHeld ⊢
 refine pure_ (i := 0) (N := some 5) (v := ?_) (a' := ?_) #[true, false, false, false, false, false, false, false, false, false, false, false] rfl rfl (any_of HT_.out (by kernel_rfl)) (fun _ _ _ h => h) (Or.inl ⟨by rfl, ?_⟩) ?_ ?_
 rotate_left
 ·intro w'
  go_simp
  with_reducible rfl
 rotate_left
 ·simp only [Act.put, sI_, s0_, sS_, i64_w, i32_w]
  rfl
 refine pure_ (i := 2) (N := some 7) (v := ?_) (a' := ?_) #[true, false, true, false, false, false, false, false, false, false, false, false] rfl rfl (any_of HT_.out (by kernel_rfl)) (fun _ _ _ h => h) (Or.inl ⟨by rfl, ?_⟩) ?_ ?_
 rotate_left
 ·intro w'
  go_simp
  with_reducible rfl
 rotate_left
 ·simp only [Act.put, sI_, s0_, sS_, i64_w, i32_w]
  rfl
 refine pure_ (i := 5) (N := some 10) (v := ?_) (a' := ?_) #[true, false, true, false, false, true, false, false, false, false, false, false] rfl rfl (any_of HT_.out (by kernel_rfl)) (fun _ _ _ h => h) (Or.inl ⟨by rfl, ?_⟩) ?_ ?_
 rotate_left
 ·intro w'
  go_simp
  with_reducible rfl
 rotate_left
 ·simp only [Act.put, sI_, s0_, sS_, i64_w, i32_w]
  rfl
 refine pure_ (i := 7) (N := some 12) (v := ?_) (a' := ?_) #[true, false, true, false, false, true, false, true, false, false, false, false] rfl rfl (any_of HT_.out (by kernel_rfl)) (fun _ _ _ h => h) (Or.inl ⟨by rfl, ?_⟩) ?_ ?_
 rotate_left
 ·intro w'
  go_simp
  with_reducible rfl
 rotate_left
 ·simp only [Act.put, sI_, s0_, sS_, i64_w, i32_w]
  rfl
 refine take_ (i := 1) (N := some 6) (v := ?_) (a' := ?_) #[true, true, true, false, false, true, false, true, false, false, false, false] rfl rfl (take_ofW HT_.out HW_.out (by kernel_rfl)) (fun _ _ _ h => h) (Or.inl ⟨by rfl, ?_⟩) hHeld ?_ ?_
 rotate_left
 ·rintro w' ⟨s0, s1, s2, s3⟩
  go_simp
  with_reducible rfl
 rotate_left
 ·simp only [Act.put, sI_, s0_, sS_, i64_w, i32_w]
  rfl
 refine take_ (i := 3) (N := some 8) (v := ?_) (a' := ?_) #[true, true, true, true, false, true, false, true, false, false, false, false] rfl rfl (take_ofW HT_.out HW_.out (by kernel_rfl)) (fun _ _ _ h => h) (Or.inl ⟨by rfl, ?_⟩) hHeld ?_ ?_
 rotate_left
 ·rintro w' ⟨s0, s1, s2, s3⟩
  go_simp
  with_reducible rfl
 rotate_left
 ·simp only [Act.put, sI_, s0_, sS_, i64_w, i32_w]
  rfl
 refine take_ (i := 6) (N := some 11) (v := ?_) (a' := ?_) #[true, true, true, true, false, true, true, true, false, false, false, false] rfl rfl (take_ofW HT_.out HW_.out (by kernel_rfl)) (fun _ _ _ h => h) (Or.inl ⟨by rfl, ?_⟩) hHeld ?_ ?_
 rotate_left
 ·rintro w' ⟨s0, s1, s2, s3⟩
  go_simp
  with_reducible rfl
 rotate_left
 ·simp only [Act.put, sI_, s0_, sS_, i64_w, i32_w]
  rfl
 refine take_ (i := 8) (N := some 13) (v := ?_) (a' := ?_) #[true, true, true, true, false, true, true, true, true, false, false, false] rfl rfl (take_ofW HT_.out HW_.out (by kernel_rfl)) (fun _ _ _ h => h) (Or.inl ⟨by rfl, ?_⟩) hHeld ?_ ?_
 rotate_left
 ·rintro w' ⟨s0, s1, s2, s3⟩
  go_simp
  with_reducible rfl
 rotate_left
 ·simp only [Act.put, sI_, s0_, sS_, i64_w, i32_w]
  rfl
 refine one_ (i := 4) (N := some 9) #[true, true, true, true, true, true, true, true, true, false, false, false] rfl rfl (one_of HT_.out (by kernel_rfl)) (by decide) (fun K hK => ?_)
 refine goes_ Try.func107 (by kernel_rfl) rfl #[.slice A0_0 l0_0.length c0_0, .slice A1_0 l1_0.length c1_0] (by rfl) rfl rfl (by (try simp only [List.map_toArray, List.map_cons, List.map_nil]); first | done | rfl | (simp only [List.length_drop, List.length_take]; rfl)) ?_
 with_reducible refine (scarfjointref06_Through.calls k _ _ l0_0 _ _ l1_0 t104 _ ?side1 ?side2 ?side3 ?side4 A3.out).mono ?_
 (case side1 => repeat (first | exact (Kd.C_below HR0_0.out HB.out) | (with_reducible refine Kd.C_alloc ?_ _) | (with_reducible refine Kd.C_drewN ?_ _) | (with_reducible refine Kd.C_drew ?_)))
 (case side2 => exact HC0_0.out)
 (case side3 => repeat (first | exact (Kd.C_below HR1_0.out HB.out) | (with_reducible refine Kd.C_alloc ?_ _) | (with_reducible refine Kd.C_drewN ?_ _) | (with_reducible refine Kd.C_drew ?_)))
 (case side4 => exact HC1_0.out)
 rintro e w9 ⟨v105, rfl, ho0, hb⟩
 refine ⟨_, rfl, ?_⟩
 have n0_ := Aside0.mk (Kd.R_lower ho0 (below_size (by repeat (first | (with_reducible first | exact HB.out | apply lA_ | apply lN_ | apply lD_ | refine below_set ?_ GE101.out | refine below_set ?_ GE102.out | refine below_set ?_ GE103.out) | exact HB.out)))); have n1_ := Aside0.mk (blk_below (g := gb101) (o := .cells #[.slice A0_0 l0_0.length c0_0, .slice A0_1 l0_1.length c0_1] 51 (0, 0)) (by (with_reducible repeat first | refine bN_ ?_ _ | refine bD_ ?_ | refine bA_ ?_ _); exact BK101.out) hb); have n2_ := Aside0.mk (blk_below (g := gb102) (o := .cells #[.slice A1_0 l1_0.length c1_0, .slice A1_1 l1_1.length c1_1] 51 (0, 0)) (by (with_reducible repeat first | refine bN_ ?_ _ | refine bD_ ?_ | refine bA_ ?_ _); exact BK102.out) hb); have n3_ := Aside0.mk (blk_below (g := gb103) (o := .cells #[.slice none 0 0, .slice none 0 0] 51 (0, 0)) (by (with_reducible repeat first | refine bN_ ?_ _ | refine bD_ ?_ | refine bA_ ?_ _); exact BK103.out) hb); have n4_ := Aside0.mk (below_step (by repeat (first | (with_reducible first | exact HB.out | apply lA_ | apply lN_ | apply lD_ | refine below_set ?_ GE101.out | refine below_set ?_ GE102.out | refine below_set ?_ GE103.out) | exact HB.out)) hb); clear BK101; clear BK102; clear BK103; clear HB; have HO106 := n0_; have BK101 := n1_; have BK102 := n2_; have BK103 := n3_; have HB := n4_; clear n0_ n1_ n2_ n3_ n4_
 (try clear hb)
 (try clear hb2)
 (try clear hk)
 (try clear hi)
 (try clear ho0)
 refine hK.out _ _ ⟨(blk_cell BK101.out 0).trans rfl, (blk_cell BK101.out 1).trans rfl, (blk_cell BK102.out 0).trans rfl, (blk_cell BK102.out 1).trans rfl⟩ (fun hHeld => ?_)
 clear hK K
 refine norm_ (a' := ?_) ?_ ?_
 rotate_left
 ·show Act.put _ (some 9) _ = _
  simp only [Act.put, sI_, s0_, sS_, i64_w, i32_w]
  rfl
 refine one_ (i := 9) (N := some 14) #[true, true, true, true, true, true, true, true, true, true, false, false] rfl rfl (one_of HT_.out (by kernel_rfl)) (by decide) (fun K hK => ?_)
 refine goes_ Try.func107 (by kernel_rfl) rfl #[.slice A0_1 l0_1.length c0_1, .slice A1_1 l1_1.length c1_1] (by rfl) rfl rfl (by (try simp only [List.map_toArray, List.map_cons, List.map_nil]); first | done | rfl | (simp only [List.length_drop, List.length_take]; rfl)) ?_
 with_reducible refine (scarfjointref06_Through.calls k _ _ l0_1 _ _ l1_1 t107 _ ?side1 ?side2 ?side3 ?side4 A4.out).mono ?_
 (case side1 => repeat (first | exact (Kd.C_below HR0_1.out HB.out) | (with_reducible refine Kd.C_alloc ?_ _) | (with_reducible refine Kd.C_drewN ?_ _) | (with_reducible refine Kd.C_drew ?_)))
 (case side2 => exact HC0_1.out)
 (case side3 => repeat (first | exact (Kd.C_below HR1_1.out HB.out) | (with_reducible refine Kd.C_alloc ?_ _) | (with_reducible refine Kd.C_drewN ?_ _) | (with_reducible refine Kd.C_drew ?_)))
 (case side4 => exact HC1_1.out)
 rintro e w10 ⟨v108, rfl, ho0, hb⟩
 refine ⟨_, rfl, ?_⟩
 have n0_ := Aside0.mk (Kd.R_elder' (by (with_reducible repeat (first | apply rA_ | apply rN_ | apply rD_)); exact HO106.out) (Kd.R_base ho0) hb); have n1_ := Aside0.mk (Kd.R_lower (Kd.R_new' ho0 (Kd.R_lt (by (with_reducible repeat (first | apply rA_ | apply rN_ | apply rD_)); exact HO106.out))) (below_size (by repeat (first | (with_reducible first | exact HB.out | apply lA_ | apply lN_ | apply lD_ | refine below_set ?_ GE101.out | refine below_set ?_ GE102.out | refine below_set ?_ GE103.out) | exact HB.out)))); have n2_ := Aside0.mk (blk_below (g := gb101) (o := .cells #[.slice A0_0 l0_0.length c0_0, .slice A0_1 l0_1.length c0_1] 51 (0, 0)) (by (with_reducible repeat first | refine bN_ ?_ _ | refine bD_ ?_ | refine bA_ ?_ _); exact BK101.out) hb); have n3_ := Aside0.mk (blk_below (g := gb102) (o := .cells #[.slice A1_0 l1_0.length c1_0, .slice A1_1 l1_1.length c1_1] 51 (0, 0)) (by (with_reducible repeat first | refine bN_ ?_ _ | refine bD_ ?_ | refine bA_ ?_ _); exact BK102.out) hb); have n4_ := Aside0.mk (blk_below (g := gb103) (o := .cells #[.slice none 0 0, .slice none 0 0] 51 (0, 0)) (by (with_reducible repeat first | refine bN_ ?_ _ | refine bD_ ?_ | refine bA_ ?_ _); exact BK103.out) hb); have n5_ := Aside0.mk (below_step (by repeat (first | (with_reducible first | exact HB.out | apply lA_ | apply lN_ | apply lD_ | refine below_set ?_ GE101.out | refine below_set ?_ GE102.out | refine below_set ?_ GE103.out) | exact HB.out)) hb); clear HO106; clear BK101; clear BK102; clear BK103; clear HB; have HO106 := n0_; have HO109 := n1_; have BK101 := n2_; have BK102 := n3_; have BK103 := n4_; have HB := n5_; clear n0_ n1_ n2_ n3_ n4_ n5_
 (try clear hb)
 (try clear hb2)
 (try clear hk)
 (try clear hi)
 (try clear ho0)
 obtain ⟨Ao11, co11, eo11⟩ := Kd.R_slice HO109.out
 (first | subst eo11 | (injection eo11 with f1_ f2_ f3_; have f4_ := f1_.symm; have f5_ := f3_.symm; clear f1_ f2_ f3_; subst f4_; subst f5_))
 obtain ⟨Ao12, co12, eo12⟩ := Kd.R_slice HO106.out
 (first | subst eo12 | (injection eo12 with f1_ f2_ f3_; have f4_ := f1_.symm; have f5_ := f3_.symm; clear f1_ f2_ f3_; subst f4_; subst f5_))
 refine hK.out _ _ ⟨(blk_cell BK101.out 0).trans rfl, (blk_cell BK101.out 1).trans rfl, (blk_cell BK102.out 0).trans rfl, (blk_cell BK102.out 1).trans rfl⟩ (fun hHeld => ?_)
 clear hK K
 refine norm_ (a' := ?_) ?_ ?_
 rotate_left
 ·show Act.put _ (some 14) _ = _
  simp only [Act.put, sI_, s0_, sS_, i64_w, i32_w]
  rfl
 refine pure_ (i := 10) (N := some 15) (v := ?_) (a' := ?_) #[true, true, true, true, true, true, true, true, true, true, true, false] rfl rfl (any_of HT_.out (by kernel_rfl)) (fun _ _ _ h => h) (Or.inl ⟨by rfl, ?_⟩) ?_ ?_
 rotate_left
 ·intro w'
  go_simp
  with_reducible rfl
 rotate_left
 ·simp only [Act.put, sI_, s0_, sS_, i64_w, i32_w]
  rfl
 refine one_ (i := 11) (N := none) #[true, true, true, true, true, true, true, true, true, true, true, true] rfl rfl (one_of HT_.out (by kernel_rfl)) (by decide) (fun K hK => ?_)
 have hs13 : w10.cell? ⟨gb103, 0, none⟩ = some (.slice none 0 0) := (blk_cell BK103.out 0).trans rfl
 have hfs13 := blk_frozen BK103.out 0; have hns13_0 := NB101_103.out; have hns13_1 := NB102_103.out; have hms13_0 := NB103_101.out; have hms13_1 := NB103_102.out
 have hs14 : w10.cell? ⟨gb103, 1, none⟩ = some (.slice none 0 0) := (blk_cell BK103.out 1).trans rfl
 have hfs14 := blk_frozen BK103.out 1; have hns14_0 := NB101_103.out; have hns14_1 := NB102_103.out; have hms14_0 := NB103_101.out; have hms14_1 := NB103_102.out
 refine skip_ (w1 := ?_) (by rfl) rfl ?_ ?_
 rotate_left
 ·go_simp
  rfl
 refine hK.out _ _ ⟨((cell_far (p := ⟨gb103, _, none⟩) NB101_103.out _).trans (((cell_far (p := ⟨gb103, _, none⟩) NB101_103.out _).trans (hHeld.1)))), ((cell_far (p := ⟨gb103, _, none⟩) NB101_103.out _).trans (((cell_far (p := ⟨gb103, _, none⟩) NB101_103.out _).trans (hHeld.2.1)))), ((cell_far (p := ⟨gb103, _, none⟩) NB102_103.out _).trans (((cell_far (p := ⟨gb103, _, none⟩) NB102_103.out _).trans (hHeld.2.2.1)))), ((cell_far (p := ⟨gb103, _, none⟩) NB102_103.out _).trans (((cell_far (p := ⟨gb103, _, none⟩) NB102_103.out _).trans (hHeld.2.2.2))))⟩ (fun hHeld => ?_)
 clear hK K
 refine done_ (done_of HT_.out (by kernel_rfl)) ?_
 try go_wp2
 refine bodyPost_ret (results_cell_row rfl _ _ gb103 51 #[.slice Ao12 t104.length co12, .slice Ao11 t107.length co11] (0, 0) _ rfl (by (with_reducible repeat first | refine bN_ ?_ _ | refine bD_ ?_ | refine bA_ ?_ _); refine blk_put (cs := #[.slice Ao12 t104.length co12, .slice none 0 0]) ?_ 1 _ rfl; (with_reducible repeat first | refine bN_ ?_ _ | refine bD_ ?_ | refine bA_ ?_ _); refine blk_put (cs := #[.slice none 0 0, .slice none 0 0]) ?_ 0 _ rfl; (with_reducible repeat first | refine bN_ ?_ _ | refine bD_ ?_ | refine bA_ ?_ _); exact BK103.out) Try.underlying51 rfl (by kernel_rfl)) rfl ?_
 exact ⟨_, _, by first | rfl | (simp [errW_none, errW_some] <;> rfl) | (simp [*, errW_none, errW_some] <;> rfl), by (with_reducible repeat (first | apply rA_ | apply rN_ | apply rD_)); exact Kd.R_mono (Kd.R_far (p := ⟨gb103, 1, none⟩) (Kd.R_far (p := ⟨gb103, 0, none⟩) (Kd.R_types HO106.out BK103.out (by decide)) (fun _ hk => hk.2) (.slice Ao12 t104.length co12)) (fun _ hk => hk.2) (.slice Ao11 t107.length co11)) (fun _ hk => hk.1.2), by (with_reducible repeat (first | apply rA_ | apply rN_ | apply rD_)); exact Kd.R_mono (Kd.R_far (p := ⟨gb103, 1, none⟩) (Kd.R_far (p := ⟨gb103, 0, none⟩) (Kd.R_types HO109.out BK103.out (by decide)) (fun _ hk => hk.2) (.slice Ao12 t104.length co12)) (fun _ hk => hk.2) (.slice Ao11 t107.length co11)) (fun _ hk => hk.1.2), by repeat (first | (with_reducible first | exact HB.out | apply lA_ | apply lN_ | apply lD_ | refine below_set ?_ GE101.out | refine below_set ?_ GE102.out | refine below_set ?_ GE103.out) | exact HB.out)⟩
end Go.Proofs.Ytonipihlpbaknaa.Print
namespace Go.Proofs.Ytonipihlpbaknaa.Print
set_option linter.unusedVariables false
set_option linter.unusedSimpArgs false
open Go.RowKit Go.Proofs.YtonipihlpbaknaaW.PrintWords Go.Proofs.YtonipihlpbaknaaW.PrintLast Go.Proofs.YtonipihlpbaknaaW.PrintMore
set_option maxHeartbeats 4000000 in
set_option maxRecDepth 100000 in
theorem compose_ok (k : Nat) (A0 : Option Addr) (c0 : Nat) (l0 : List Int) (A1 : Option Addr) (c1 : Nat) (l1 : List S78) (A2 : Option Addr) (c2 : Nat) (l2 : List Int) (A3 : Option Addr) (c3 : Nat) (l3 : List S78) (A4 : Option Addr) (c4 : Nat) (l4 : List Int) (A5 : Option Addr) (c5 : Nat) (l5 : List S78) (A6 : Option Addr) (c6 : Nat) (l6 : List Int) (A7 : Option Addr) (c7 : Nat) (l7 : List Int) (A8 : Option Addr) (c8 : Nat) (l8 : List Int) (A9 : Option Addr) (c9 : Nat) (l9 : List Int) (t0 t1 : List Int) (w : World)
  (r0 : Kd.C (Kd.int .i64) w A0 l0.length l0) (m0 : l0.length ≤ c0) (r1 : Kd.C (k78) w A1 l1.length l1) (m1 : l1.length ≤ c1) (r2 : Kd.C (Kd.int .i64) w A2 l2.length l2) (m2 : l2.length ≤ c2) (r3 : Kd.C (k78) w A3 l3.length l3) (m3 : l3.length ≤ c3) (r4 : Kd.C (Kd.int .i64) w A4 l4.length l4) (m4 : l4.length ≤ c4) (r5 : Kd.C (k78) w A5 l5.length l5) (m5 : l5.length ≤ c5) (r6 : Kd.C (Kd.int .i64) w A6 l6.length l6) (m6 : l6.length ≤ c6) (r7 : Kd.C (Kd.int .i64) w A7 l7.length l7) (m7 : l7.length ≤ c7) (r8 : Kd.C (Kd.int .i64) w A8 l8.length l8) (m8 : l8.length ≤ c8) (r9 : Kd.C (Kd.int .i64) w A9 l9.length l9) (m9 : l9.length ≤ c9)
  (h1 : scarfjointref06_Valid.f l0 l1 l2 l3 l6 l7 = some 0) (h2 : scarfjointref06_Valid.f l2 l3 l4 l5 l8 l9 = some 0) (h3 : scarfjointref06_Then.f k l6 l7 l8 l9 = some (t0, t1)) :
  Calls Try.prog 48 #[.agg #[.slice A0 l0.length c0, .slice A1 l1.length c1], .agg #[.slice A2 l2.length c2, .slice A3 l3.length c3], .agg #[.slice A4 l4.length c4, .slice A5 l5.length c5], .agg #[.slice A6 l6.length c6, .slice A7 l7.length c7], .agg #[.slice A8 l8.length c8, .slice A9 l9.length c9]] w fun e w' => ∃ v0_ v1_ : Value, e = .returned (.tuple #[.agg #[v0_, v1_], .int .i64 0]) ∧ Kd.R (Kd.int .i64) 3 w' 0 (fun _ => True) v0_ t0 ∧ Kd.R (Kd.int .i64) 3 w' 0 (fun _ => True) v1_ t1 ∧ Below w.heap.size w w' := by
 have hu25 := Try.underlying25; have hu51 := Try.underlying51; have R0 := Lib.hid r0; have M0 := Lib.hid m0; have R1 := Lib.hid r1; have M1 := Lib.hid m1; have R2 := Lib.hid r2; have M2 := Lib.hid m2; have R3 := Lib.hid r3; have M3 := Lib.hid m3; have R4 := Lib.hid r4; have M4 := Lib.hid m4; have R5 := Lib.hid r5; have M5 := Lib.hid m5; have R6 := Lib.hid r6; have M6 := Lib.hid m6; have R7 := Lib.hid r7; have M7 := Lib.hid m7; have R8 := Lib.hid r8; have M8 := Lib.hid m8; have R9 := Lib.hid r9; have M9 := Lib.hid m9; clear r0 m0 r1 m1 r2 m2 r3 m3 r4 m4 r5 m5 r6 m6 r7 m7 r8 m8 r9 m9
 go_enter Try.func48, Try.ntmps48
 go_upto_region 1 with (first
  | ((with_reducible refine gate_dst (N := 5) rfl ?_); (try (refine gate_guard (by rfl) ?_; dsimp only)); refine box_event ?hg (N := 5) ?hd (cs := #[.slice A0 l0.length c0, .slice A1 l1.length c1]) (t := 25) ?hr ?_; (case hd => rfl); (case hg => rfl); (case hr => first | (go_simp; done) | (go_simp; rfl)); intro a hg w_ hbox hb; have Ha : w.heap.size ≤ a := (hg ▸ Nat.le_refl _); have BA := Lib.hid hbox; have BL := Lib.hid hb; clear hg hbox hb)
  | ((with_reducible refine gate_dst (N := 6) rfl ?_); (try (refine gate_guard (by rfl) ?_; dsimp only)); refine box_event ?hg (N := 6) ?hd (cs := #[.slice A2 l2.length c2, .slice A3 l3.length c3]) (t := 25) ?hr ?_; (case hd => rfl); (case hg => rfl); (case hr => first | (go_simp; done) | (go_simp; rfl)); intro b hg w_ hbox hb; have Hb : a < b := (hg ▸ blk_lt BA.out); replace BL := Lib.hid (below_then BL.out BL.out.size hb); replace BA := Lib.hid (blk_below BA.out hb); have BB := Lib.hid hbox; clear hg hbox hb)
  | ((with_reducible refine gate_dst (N := 7) rfl ?_); (try (refine gate_guard (by rfl) ?_; dsimp only)); refine box_event ?hg (N := 7) ?hd (cs := #[.slice A4 l4.length c4, .slice A5 l5.length c5]) (t := 25) ?hr ?_; (case hd => rfl); (case hg => rfl); (case hr => first | (go_simp; done) | (go_simp; rfl)); intro c hg w_ hbox hb; have Hc : b < c := (hg ▸ blk_lt BB.out); replace BL := Lib.hid (below_then BL.out BL.out.size hb); replace BA := Lib.hid (blk_below BA.out hb); replace BB := Lib.hid (blk_below BB.out hb); have BC := Lib.hid hbox; clear hg hbox hb)
  | ((with_reducible refine gate_dst (N := 8) rfl ?_); (try (refine gate_guard (by rfl) ?_; dsimp only)); refine box_event ?hg (N := 8) ?hd (cs := #[.slice A6 l6.length c6, .slice A7 l7.length c7]) (t := 51) ?hr ?_; (case hd => rfl); (case hg => rfl); (case hr => first | (go_simp; done) | (go_simp; rfl)); intro m hg w_ hbox hb; have Hm : c < m := (hg ▸ blk_lt BC.out); replace BL := Lib.hid (below_then BL.out BL.out.size hb); replace BA := Lib.hid (blk_below BA.out hb); replace BB := Lib.hid (blk_below BB.out hb); replace BC := Lib.hid (blk_below BC.out hb); have BM := Lib.hid hbox; clear hg hbox hb)
  | ((with_reducible refine gate_dst (N := 9) rfl ?_); (try (refine gate_guard (by rfl) ?_; dsimp only)); refine box_event ?hg (N := 9) ?hd (cs := #[.slice A8 l8.length c8, .slice A9 l9.length c9]) (t := 51) ?hr ?_; (case hd => rfl); (case hg => rfl); (case hr => first | (go_simp; done) | (go_simp; rfl)); intro n hg w_ hbox hb; have Hn : m < n := (hg ▸ blk_lt BM.out); replace BL := Lib.hid (below_then BL.out BL.out.size hb); replace BA := Lib.hid (blk_below BA.out hb); replace BB := Lib.hid (blk_below BB.out hb); replace BC := Lib.hid (blk_below BC.out hb); replace BM := Lib.hid (blk_below BM.out hb); have BN := Lib.hid hbox; clear hg hbox hb)
  | ((with_reducible refine gate_dst (N := 10) rfl ?_); (try (refine gate_guard (by rfl) ?_; dsimp only)); refine box_event ?hg (N := 10) ?hd (cs := #[.slice none 0 0, .slice none 0 0]) (t := 51) ?hr ?_; (case hd => rfl); (case hg => rfl); (case hr => first | (go_simp; done) | (go_simp; rfl)); intro o hg w_ hbox hb; have Ho : n < o := (hg ▸ blk_lt BN.out); replace BL := Lib.hid (below_then BL.out BL.out.size hb); replace BA := Lib.hid (blk_below BA.out hb); replace BB := Lib.hid (blk_below BB.out hb); replace BC := Lib.hid (blk_below BC.out hb); replace BM := Lib.hid (blk_below BM.out hb); replace BN := Lib.hid (blk_below BN.out hb); have BO := Lib.hid hbox; clear hg hbox hb))
 obtain ⟨zBA_0, zBA_1⟩ := cell2 BA.out; obtain ⟨zBB_0, zBB_1⟩ := cell2 BB.out; obtain ⟨zBM_0, zBM_1⟩ := cell2 BM.out
 go_upto_region 4 with (first
  | (go_at_call 47; with_reducible refine (scarfjointref06_Valid.calls A0 c0 l0 A1 c1 l1 A2 c2 l2 A3 c3 l3 A6 c6 l6 A7 c7 l7 0 _ (Kd.C_below R0.out BL.out) M0.out (Kd.C_below R1.out BL.out) M1.out (Kd.C_below R2.out BL.out) M2.out (Kd.C_below R3.out BL.out) M3.out (Kd.C_below R6.out BL.out) M6.out (Kd.C_below R7.out BL.out) M7.out h1).mono ?_; rintro e w_ ⟨rfl, hb⟩; clear zBA_0 zBA_1 zBB_0 zBB_1 zBM_0 zBM_1; replace BL := Lib.hid (below_then BL.out BL.out.size hb); replace BA := Lib.hid (blk_below BA.out hb); replace BB := Lib.hid (blk_below BB.out hb); replace BC := Lib.hid (blk_below BC.out hb); replace BM := Lib.hid (blk_below BM.out hb); replace BN := Lib.hid (blk_below BN.out hb); replace BO := Lib.hid (blk_below BO.out hb); clear hb; obtain ⟨zBA_0, zBA_1⟩ := cell2 BA.out; obtain ⟨zBB_0, zBB_1⟩ := cell2 BB.out; obtain ⟨zBM_0, zBM_1⟩ := cell2 BM.out))
 clear zBA_0 zBA_1 zBB_0 zBB_1 zBM_0 zBM_1; obtain ⟨zBB_0, zBB_1⟩ := cell2 BB.out; obtain ⟨zBC_0, zBC_1⟩ := cell2 BC.out; obtain ⟨zBN_0, zBN_1⟩ := cell2 BN.out
 go_upto_region 7 with (first
  | (go_at_call 47; with_reducible refine (scarfjointref06_Valid.calls A2 c2 l2 A3 c3 l3 A4 c4 l4 A5 c5 l5 A8 c8 l8 A9 c9 l9 0 _ (Kd.C_below R2.out BL.out) M2.out (Kd.C_below R3.out BL.out) M3.out (Kd.C_below R4.out BL.out) M4.out (Kd.C_below R5.out BL.out) M5.out (Kd.C_below R8.out BL.out) M8.out (Kd.C_below R9.out BL.out) M9.out h2).mono ?_; rintro e w_ ⟨rfl, hb⟩; clear zBB_0 zBB_1 zBC_0 zBC_1 zBN_0 zBN_1; replace BL := Lib.hid (below_then BL.out BL.out.size hb); replace BA := Lib.hid (blk_below BA.out hb); replace BB := Lib.hid (blk_below BB.out hb); replace BC := Lib.hid (blk_below BC.out hb); replace BM := Lib.hid (blk_below BM.out hb); replace BN := Lib.hid (blk_below BN.out hb); replace BO := Lib.hid (blk_below BO.out hb); clear hb; obtain ⟨zBB_0, zBB_1⟩ := cell2 BB.out; obtain ⟨zBC_0, zBC_1⟩ := cell2 BC.out; obtain ⟨zBN_0, zBN_1⟩ := cell2 BN.out))
 clear zBB_0 zBB_1 zBC_0 zBC_1 zBN_0 zBN_1; obtain ⟨zBM_0, zBM_1⟩ := cell2 BM.out; obtain ⟨zBN_0, zBN_1⟩ := cell2 BN.out
 go_wp2_with (first
  | (go_at_call 84; with_reducible refine (scarfjointref06_Then.calls k A6 c6 l6 A7 c7 l7 A8 c8 l8 A9 c9 l9 t0 t1 _ (Kd.C_below R6.out BL.out) M6.out (Kd.C_below R7.out BL.out) M7.out (Kd.C_below R8.out BL.out) M8.out (Kd.C_below R9.out BL.out) M9.out h3).mono ?_; rintro e w_ ⟨v0, v1, rfl, ho0, ho1, hb⟩; clear zBM_0 zBM_1 zBN_0 zBN_1; obtain ⟨A10, c10, rfl⟩ := Kd.R_slice ho0; obtain ⟨A11, c11, rfl⟩ := Kd.R_slice ho1; replace BL := Lib.hid (below_then BL.out BL.out.size hb); replace BA := Lib.hid (blk_below BA.out hb); replace BB := Lib.hid (blk_below BB.out hb); replace BC := Lib.hid (blk_below BC.out hb); replace BM := Lib.hid (blk_below BM.out hb); replace BN := Lib.hid (blk_below BN.out hb); replace BO := Lib.hid (blk_below BO.out hb); have R10 := Lib.hid (toR (ho0)); have R11 := Lib.hid (toR (ho1)); clear ho0 ho1 hb; obtain ⟨y0_, y1_⟩ := cell2 BO.out; have f0_ := blk_frozen BO.out 0; have f1_ := blk_frozen BO.out 1; obtain ⟨zBM_0, zBM_1⟩ := cell2 BM.out; obtain ⟨zBN_0, zBN_1⟩ := cell2 BN.out))
 clear zBM_0 zBM_1 zBN_0 zBN_1; clear y0_ y1_ f0_ f1_; replace BL := Lib.hid (below_set (g := o) (j := 0) (v := .slice A10 t0.length c10) BL.out (by omega)); replace BA := Lib.hid (blk_far BA.out (p := ⟨o, 0, none⟩) (by show a ≠ o; omega) (.slice A10 t0.length c10)); replace BB := Lib.hid (blk_far BB.out (p := ⟨o, 0, none⟩) (by show b ≠ o; omega) (.slice A10 t0.length c10)); replace BC := Lib.hid (blk_far BC.out (p := ⟨o, 0, none⟩) (by show c ≠ o; omega) (.slice A10 t0.length c10)); replace BM := Lib.hid (blk_far BM.out (p := ⟨o, 0, none⟩) (by show m ≠ o; omega) (.slice A10 t0.length c10)); replace BN := Lib.hid (blk_far BN.out (p := ⟨o, 0, none⟩) (by show n ≠ o; omega) (.slice A10 t0.length c10)); replace R10 := Lib.hid (Kd.R_set R10.out BO.out int_ne51 0 (.slice A10 t0.length c10)); replace R11 := Lib.hid (Kd.R_set R11.out BO.out int_ne51 0 (.slice A10 t0.length c10)); replace BO := Lib.hid (blk_put (cs' := #[.slice A10 t0.length c10, .slice none 0 0]) BO.out 0 (.slice A10 t0.length c10) rfl); replace BL := Lib.hid (below_set (g := o) (j := 1) (v := .slice A11 t1.length c11) BL.out (by omega)); replace BA := Lib.hid (blk_far BA.out (p := ⟨o, 1, none⟩) (by show a ≠ o; omega) (.slice A11 t1.length c11)); replace BB := Lib.hid (blk_far BB.out (p := ⟨o, 1, none⟩) (by show b ≠ o; omega) (.slice A11 t1.length c11)); replace BC := Lib.hid (blk_far BC.out (p := ⟨o, 1, none⟩) (by show c ≠ o; omega) (.slice A11 t1.length c11)); replace BM := Lib.hid (blk_far BM.out (p := ⟨o, 1, none⟩) (by show m ≠ o; omega) (.slice A11 t1.length c11)); replace BN := Lib.hid (blk_far BN.out (p := ⟨o, 1, none⟩) (by show n ≠ o; omega) (.slice A11 t1.length c11)); replace R10 := Lib.hid (Kd.R_set R10.out BO.out int_ne51 1 (.slice A11 t1.length c11)); replace R11 := Lib.hid (Kd.R_set R11.out BO.out int_ne51 1 (.slice A11 t1.length c11)); replace BO := Lib.hid (blk_put (cs' := #[.slice A10 t0.length c10, .slice A11 t1.length c11]) BO.out 1 (.slice A11 t1.length c11) rfl); generalize hq_ : World.setCell _ _ _ = w5_; replace BL := Lib.hid (at_bel hq_ BL.out); replace BA := Lib.hid (at_blk hq_ BA.out); replace BB := Lib.hid (at_blk hq_ BB.out); replace BC := Lib.hid (at_blk hq_ BC.out); replace BM := Lib.hid (at_blk hq_ BM.out); replace BN := Lib.hid (at_blk hq_ BN.out); replace BO := Lib.hid (at_blk hq_ BO.out); replace R10 := Lib.hid (at_R hq_ R10.out); replace R11 := Lib.hid (at_R hq_ R11.out); clear hq_; exact bodyPost_ret (results_ct rfl _ _ o 51 #[.slice A10 t0.length c10, .slice A11 t1.length c11] (0, 0) _ rfl BO.out Try.underlying51 rfl (by kernel_rfl)) rfl ⟨_, _, rfl, R10.out, R11.out, BL.out⟩
end Go.Proofs.Ytonipihlpbaknaa.Print

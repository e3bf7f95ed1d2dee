/- A part of the proof that the law returns true at every input; what the walked functions compute. -/
import Derived.Test.YtonipihlpbaknaaZIm0
import Derived.Test.YtonipihlpbaknaaZIm1
import Derived.Test.YtonipihlpbaknaaZIm2
import Derived.Test.YtonipihlpbaknaaZIm3
import Derived.Test.YtonipihlpbaknaaZIm4
import Derived.Test.YtonipihlpbaknaaZIm5
import Derived.Test.YtonipihlpbaknaaZIm6
import Derived.Test.YtonipihlpbaknaaZIm7
namespace Go.Proofs.Ytonipihlpbaknaa.Print
set_option linter.unusedVariables false
set_option linter.unusedSimpArgs false
open Go.RowKit Go.Proofs.YtonipihlpbaknaaW.PrintWords Go.Proofs.YtonipihlpbaknaaW.PrintLast Go.Proofs.YtonipihlpbaknaaW.PrintMore
theorem ref05_Valid.calls0 (A0 : Option Addr) (c0 : Nat) (l0 : List Int) (A1 : Option Addr) (c1 : Nat) (l1 : List S78) (w : World) (r0 : Kd.C (Kd.int .i64) w A0 l0.length l0) (m0 : l0.length ≤ c0) (r1 : Kd.C k78 w A1 l1.length l1) (m1 : l1.length ≤ c1) :
    Calls Try.prog 20 #[.agg #[.slice A0 l0.length c0, .slice A1 l1.length c1]] w fun e w' => e = .returned (.int .i64 (validB l0 l1)) ∧ Below w.heap.size w w' := by
  refine scarfjointref05_Valid.calls (l0.length + l1.length + 3) A0 c0 l0 A1 c1 l1 _ w r0 m0 r1 m1 ?_
  by_cases h0 : 40 < l0.length
  · rw [show validB l0 l1 = 3 from if_pos h0]
    unfold scarfjointref05_Valid.f; rw [if_pos (by omega)]
    simp [scarfjointref05_Valid.j0]
  · by_cases h1 : 80 < l1.length
    · rw [validB, if_neg h0, if_pos h1]
      unfold scarfjointref05_Valid.f; rw [if_neg (by omega), decide_eq_true (by omega)]
      simp [scarfjointref05_Valid.j0]
    · exact rvalid_ok l0 l1 _ (by omega) (by omega) (by omega)
set_option maxHeartbeats 4000000 in
set_option maxRecDepth 100000 in
theorem scarfjointref06_Valid.ok (A0 : Option Addr) (c0 : Nat) (l0 : List Int) (A1 : Option Addr) (c1 : Nat) (l1 : List S78) (A2 : Option Addr) (c2 : Nat) (l2 : List Int) (A3 : Option Addr) (c3 : Nat) (l3 : List S78) (A4 : Option Addr) (c4 : Nat) (l4 : List Int) (A5 : Option Addr) (c5 : Nat) (l5 : List Int) (w : World)
  (r0 : Kd.C (Kd.int .i64) w A0 l0.length l0) (m0 : l0.length ≤ c0) (r1 : Kd.C (k78) w A1 l1.length l1) (m1 : l1.length ≤ c1) (r2 : Kd.C (Kd.int .i64) w A2 l2.length l2) (m2 : l2.length ≤ c2) (r3 : Kd.C (k78) w A3 l3.length l3) (m3 : l3.length ≤ c3) (r4 : Kd.C (Kd.int .i64) w A4 l4.length l4) (m4 : l4.length ≤ c4) (r5 : Kd.C (Kd.int .i64) w A5 l5.length l5) (m5 : l5.length ≤ c5)
  (v0 : validB l0 l1 = 0) (v2 : validB l2 l3 = 0) (e4 : l4.length = l0.length) (e5 : l5.length = l1.length) (res : Int) (hres : (if nodesE l0 l2 0 l4 = 0 then edgesE l1 l3 l4 0 l5 else nodesE l0 l2 0 l4) = res) :
  Calls Try.prog 47 #[.agg #[.slice A0 l0.length c0, .slice A1 l1.length c1], .agg #[.slice A2 l2.length c2, .slice A3 l3.length c3], .agg #[.slice A4 l4.length c4, .slice A5 l5.length c5]] w fun e w' => e = .returned (.int .i64 res) ∧ Below w.heap.size w w' := by
 have hu25 := Try.underlying25; have hu51 := Try.underlying51; have hm4 := Kd.C_max r4; have hm5 := Kd.C_max r5; have R0 := Lib.hid r0; have R1 := Lib.hid r1; have R2 := Lib.hid r2; have R3 := Lib.hid r3; have R4 := Lib.hid r4; have R5 := Lib.hid r5; have M0 := Lib.hid m0; have M1 := Lib.hid m1; have M2 := Lib.hid m2; have M3 := Lib.hid m3; clear r0 r1 r2 r3 r4 r5 m0 m1 m2 m3 m4 m5; have V0 := Lib.hid v0; have HS := Lib.hid hres; clear hres; have E4 := Lib.hid e4; have E5 := Lib.hid e5
 have d4 : ((l4.length : Int) != (l0.length : Int)) = false := by simp [e4]
 have d5 : ((l5.length : Int) != (l1.length : Int)) = false := by simp [e5]
 have d6 : decide ((l4.length : Int) = (l0.length : Int)) = true := decide_eq_true (by omega); have d7 : decide ((l5.length : Int) = (l1.length : Int)) = true := decide_eq_true (by omega); clear e4 e5
 go_enter Try.func47, Try.ntmps47
 go_upto_region 1 with (first
  | ((with_reducible refine gate_dst (N := 3) rfl ?_); (try (refine gate_guard (by rfl) ?_; dsimp only)); refine box_event ?hg (N := 3) ?hd (cs := #[.slice A0 l0.length c0, .slice A1 l1.length c1]) (t := 25) ?hr ?_; (case hd => rfl); (case hg => rfl); (case hr => first | (go_simp; done) | (go_simp; rfl)); intro g hg w_ hbox hb; have HG : w.heap.size ≤ g := (hg ▸ Nat.le_refl _); have BG := Lib.hid hbox; have BL := Lib.hid hb; clear hg hbox hb)
  | ((with_reducible refine gate_dst (N := 4) rfl ?_); (try (refine gate_guard (by rfl) ?_; dsimp only)); refine box_event ?hg (N := 4) ?hd (cs := #[.slice A2 l2.length c2, .slice A3 l3.length c3]) (t := 25) ?hr ?_; (case hd => rfl); (case hg => rfl); (case hr => first | (go_simp; done) | (go_simp; rfl)); intro h hg w_ hbox hb; have HH : g < h := (hg ▸ blk_lt BG.out); replace BG := Lib.hid (blk_below BG.out hb); replace BL := Lib.hid (below_then BL.out BL.out.size hb); have BH := Lib.hid hbox; clear hg hbox hb)
  | ((with_reducible refine gate_dst (N := 5) rfl ?_); (try (refine gate_guard (by rfl) ?_; dsimp only)); refine box_event ?hg (N := 5) ?hd (cs := #[.slice A4 l4.length c4, .slice A5 l5.length c5]) (t := 51) ?hr ?_; (case hd => rfl); (case hg => rfl); (case hr => first | (go_simp; done) | (go_simp; rfl)); intro m hg w_ hbox hb; have HM : h < m := (hg ▸ blk_lt BH.out); replace BG := Lib.hid (blk_below BG.out hb); replace BL := Lib.hid (below_then BL.out BL.out.size hb); replace BH := Lib.hid (blk_below BH.out hb); have BM := Lib.hid hbox; clear hg hbox hb))
 obtain ⟨zBG_0, zBG_1⟩ := cell2 BG.out; obtain ⟨zBH_0, zBH_1⟩ := cell2 BH.out; obtain ⟨zBM_0, zBM_1⟩ := cell2 BM.out
 go_upto_region 4 with (first
  | (go_at_call 20; refine (ref05_Valid.calls0 A0 c0 l0 A1 c1 l1 _ (Kd.C_below R0.out BL.out) M0.out (Kd.C_below R1.out BL.out) M1.out).mono ?_; rintro e w_ ⟨he_, hb⟩; rw [v0] at he_; subst he_; clear zBG_0 zBG_1 zBH_0 zBH_1 zBM_0 zBM_1; replace BG := Lib.hid (blk_below BG.out hb); replace BL := Lib.hid (below_then BL.out BL.out.size hb); replace BH := Lib.hid (blk_below BH.out hb); replace BM := Lib.hid (blk_below BM.out hb); clear hb; obtain ⟨zBG_0, zBG_1⟩ := cell2 BG.out; obtain ⟨zBH_0, zBH_1⟩ := cell2 BH.out; obtain ⟨zBM_0, zBM_1⟩ := cell2 BM.out))
 go_upto_region 7 with (first
  | (go_at_call 20; refine (ref05_Valid.calls0 A2 c2 l2 A3 c3 l3 _ (Kd.C_below R2.out BL.out) M2.out (Kd.C_below R3.out BL.out) M3.out).mono ?_; rintro e w_ ⟨he_, hb⟩; rw [v2] at he_; subst he_; clear zBG_0 zBG_1 zBH_0 zBH_1 zBM_0 zBM_1; replace BG := Lib.hid (blk_below BG.out hb); replace BL := Lib.hid (below_then BL.out BL.out.size hb); replace BH := Lib.hid (blk_below BH.out hb); replace BM := Lib.hid (blk_below BM.out hb); clear hb; obtain ⟨zBG_0, zBG_1⟩ := cell2 BG.out; obtain ⟨zBH_0, zBH_1⟩ := cell2 BH.out; obtain ⟨zBM_0, zBM_1⟩ := cell2 BM.out))
 have HL := Lib.hid (BL.out)
 go_wp2
 go_loopg [9] l4.length (fun gg v9 wr => ∃ i : Nat, i ≤ l4.length ∧ l4.length - i ≤ gg ∧ v9 = .int .i64 (i : Nat) ∧ Aside0 (nodesE l0 l2 i (l4.drop i) = nodesE l0 l2 0 l4) ∧ Aside0 (Bk wr g 25 (.slice A0 l0.length c0) (.slice A1 l1.length c1)) ∧ Aside0 (Bk wr h 25 (.slice A2 l2.length c2) (.slice A3 l3.length c3)) ∧ Aside0 (Bk wr m 51 (.slice A4 l4.length c4) (.slice A5 l5.length c5)) ∧ Aside0 (Below w.heap.size w wr))
 case atStart => exact ⟨0, Nat.zero_le _, by omega, rfl, ⟨rfl⟩, ⟨BG.out⟩, ⟨BH.out⟩, ⟨BM.out⟩, ⟨BL.out⟩⟩
 case round =>
  clear zBG_0 zBG_1 zBH_0 zBH_1 zBM_0 zBM_1 BG BH BM BL HL; obtain ⟨i, hi, hg, rfl, EN, BG, BH, BM, BL⟩ := hrel; obtain ⟨zG0, zG1⟩ := cell2 BG.out; obtain ⟨zH0, zH1⟩ := cell2 BH.out; obtain ⟨zM0, zM1⟩ := cell2 BM.out
  by_cases hlt : i < l4.length
  ·obtain ⟨ad4, rfl, x4⟩ := Kd.at_int R4.out (i : Int) (by omega) (by omega)
   replace x4 := (BL.out.cell (World.block_lt_of_cell? w _ x4)).trans x4; simp only [Int.toNat_natCast] at x4
   have hlz : (i : Int) < (l4.length : Int) := by omega
   have hl0 : (i : Int) < (l0.length : Int) := by have := E4.out; omega
   have E1 : l4.drop i = rd l4 (i : Int) :: l4.drop (i + 1) := by rw [List.drop_eq_getElem_cons hlt, rd_get l4 i hlt]
   have E2 := EN.out; rw [E1, nodesE] at E2; generalize rd l4 (i : Int) = k at x4 E2; have E3 := Lib.hid E2; clear E1 E2 EN
   by_cases h0 : k < 0
   ·have E6 : nodesE l0 l2 0 l4 = 6 := by rw [← E3.out, if_pos (.inl h0)]
    have E7 := Lib.hid E6; clear E3 E6
    go_wp2
    repeat (go_quiet (fail); try go_wp2)
    exact bodyPost_ret (v := .int .i64 6) (by simp [results, Try.f47, go_sem]) rfl ⟨by rw [← HS.out, E7.out, if_neg (by decide)], by first | exact BL.out | exact pw_below_drewN BL.out _ | exact pw_below_drewN (pw_below_drewN BL.out _) _⟩
   ·by_cases h1 : (l2.length : Int) ≤ k
    ·have E6 : nodesE l0 l2 0 l4 = 6 := by rw [← E3.out, if_pos (.inr h1)]
     have E7 := Lib.hid E6; clear E3 E6
     go_wp2
     repeat (go_quiet (fail); try go_wp2)
     exact bodyPost_ret (v := .int .i64 6) (by simp [results, Try.f47, go_sem]) rfl ⟨by rw [← HS.out, E7.out, if_neg (by decide)], by first | exact BL.out | exact pw_below_drewN BL.out _ | exact pw_below_drewN (pw_below_drewN BL.out _) _⟩
    ·obtain ⟨ad2, rfl, x2⟩ := Kd.at_int R2.out k (by omega) (by omega)
     replace x2 := (BL.out.cell (World.block_lt_of_cell? w _ x2)).trans x2; obtain ⟨ad0, rfl, x0⟩ := Kd.at_int R0.out (i : Int) (by omega) (by have := E4.out; omega); replace x0 := (BL.out.cell (World.block_lt_of_cell? w _ x0)).trans x0; simp only [Int.toNat_natCast] at x0
     have h1' : k < (l2.length : Int) := by omega
     have h0' : 0 ≤ k := by omega
     by_cases hq : rd l2 k = rd l0 (i : Int)
     ·have E6 : nodesE l0 l2 (i + 1) (l4.drop (i + 1)) = nodesE l0 l2 0 l4 := by rw [← E3.out, if_neg (by omega), if_pos hq]
      clear E3; have E7 := Lib.hid E6; clear E6
      have q1 : (rd l2 k != rd l0 (i : Int)) = false := by simp [hq]
      have q2 : decide (rd l2 k = rd l0 (i : Int)) = true := decide_eq_true hq
      go_wp2
      repeat (go_quiet (fail); try go_wp2)
      go_roundg (l4.length - (i + 1))
      case measure => omega
      case rel => exact ⟨i + 1, by omega, by omega, by go_num, ⟨E7.out⟩, ⟨by first | exact BG.out | exact blk_drewN BG.out _ | exact blk_drewN (blk_drewN BG.out _) _⟩, ⟨by first | exact BH.out | exact blk_drewN BH.out _ | exact blk_drewN (blk_drewN BH.out _) _⟩, ⟨by first | exact BM.out | exact blk_drewN BM.out _ | exact blk_drewN (blk_drewN BM.out _) _⟩, ⟨by first | exact BL.out | exact pw_below_drewN BL.out _ | exact pw_below_drewN (pw_below_drewN BL.out _) _⟩⟩
     ·have E6 : nodesE l0 l2 0 l4 = 13 := by rw [← E3.out, if_neg (by omega), if_neg hq]
      have E7 := Lib.hid E6; clear E3 E6
      have q1 : (rd l2 k != rd l0 (i : Int)) = true := by simp [hq]
      have q2 : decide (rd l2 k = rd l0 (i : Int)) = false := decide_eq_false hq
      go_wp2
      repeat (go_quiet (fail); try go_wp2)
      exact bodyPost_ret (v := .int .i64 13) (by simp [results, Try.f47, go_sem]) rfl ⟨by rw [← HS.out, E7.out, if_neg (by decide)], by first | exact BL.out | exact pw_below_drewN BL.out _ | exact pw_below_drewN (pw_below_drewN BL.out _) _⟩
  ·have hlz : ¬ (i : Int) < (l4.length : Int) := by omega
   have hl0 : ¬ (i : Int) < (l0.length : Int) := by have := E4.out; omega
   have E6 : nodesE l0 l2 0 l4 = 0 := by
    have := EN.out; rw [List.drop_of_length_le (by omega), nodesE] at this; exact this.symm
   have E7 := Lib.hid E6; clear EN E6
   go_wp2
   go_loopg [10] l5.length (fun gg v10 wr => ∃ i : Nat, i ≤ l5.length ∧ l5.length - i ≤ gg ∧ v10 = .int .i64 (i : Nat) ∧ Aside0 (edgesE l1 l3 l4 i (l5.drop i) = edgesE l1 l3 l4 0 l5) ∧ Aside0 (Bk wr g 25 (.slice A0 l0.length c0) (.slice A1 l1.length c1)) ∧ Aside0 (Bk wr h 25 (.slice A2 l2.length c2) (.slice A3 l3.length c3)) ∧ Aside0 (Bk wr m 51 (.slice A4 l4.length c4) (.slice A5 l5.length c5)) ∧ Aside0 (Below w.heap.size w wr))
   case atStart => exact ⟨0, Nat.zero_le _, by omega, rfl, ⟨rfl⟩, ⟨BG.out⟩, ⟨BH.out⟩, ⟨BM.out⟩, ⟨BL.out⟩⟩
   case round =>
    clear zG0 zG1 zH0 zH1 zM0 zM1 BG BH BM BL hlz hi hg; obtain ⟨i, hi, hg, rfl, EN, BG, BH, BM, BL⟩ := hrel; obtain ⟨zG0, zG1⟩ := cell2 BG.out; obtain ⟨zH0, zH1⟩ := cell2 BH.out; obtain ⟨zM0, zM1⟩ := cell2 BM.out
    by_cases hlt : i < l5.length
    ·obtain ⟨ad5, rfl, x5⟩ := Kd.at_int R5.out (i : Int) (by omega) (by omega)
     simp only [Int.toNat_natCast] at x5; have PX := Lib.hid x5; replace x5 := (BL.out.cell (World.block_lt_of_cell? w _ x5)).trans x5
     have hlz : (i : Int) < (l5.length : Int) := by omega
     have hl1 : (i : Int) < (l1.length : Int) := by have := E5.out; omega
     have E1 : l5.drop i = rd l5 (i : Int) :: l5.drop (i + 1) := by rw [List.drop_eq_getElem_cons hlt, rd_get l5 i hlt]
     have E2 := EN.out; rw [E1, edgesE] at E2; generalize rd l5 (i : Int) = k at x5 PX E2; have E3 := Lib.hid E2; clear E1 E2 EN
     by_cases h0 : k < 0
     ·have E6 : edgesE l1 l3 l4 0 l5 = 6 := by rw [← E3.out, if_pos (.inl h0)]
      have E8 := Lib.hid E6; clear E3 E6
      go_wp2
      repeat (go_quiet (fail); try go_wp2)
      exact bodyPost_ret (v := .int .i64 6) (by simp [results, Try.f47, go_sem]) rfl ⟨by rw [← HS.out, if_pos E7.out, E8.out], by first | exact BL.out | exact pw_below_drewN BL.out _ | exact pw_below_drewN (pw_below_drewN BL.out _) _⟩
     ·by_cases h1 : (l3.length : Int) ≤ k
      ·have E6 : edgesE l1 l3 l4 0 l5 = 6 := by rw [← E3.out, if_pos (.inr h1)]
       have E8 := Lib.hid E6; clear E3 E6
       go_wp2
       repeat (go_quiet (fail); try go_wp2)
       exact bodyPost_ret (v := .int .i64 6) (by simp [results, Try.f47, go_sem]) rfl ⟨by rw [← HS.out, if_pos E7.out, E8.out], by first | exact BL.out | exact pw_below_drewN BL.out _ | exact pw_below_drewN (pw_below_drewN BL.out _) _⟩
      ·have h1' : k < (l3.length : Int) := by omega
       have h0' : 0 ≤ k := by omega
       obtain ⟨ad1, rfl, a0_, a1_, a2_⟩ := at_T78 R1.out (i : Int) (by omega) (by have := E5.out; omega); obtain ⟨ad3, rfl, b0_, b1_, b2_⟩ := at_T78 R3.out k (by omega) (by omega); simp only [Int.toNat_natCast] at a0_ a1_ a2_; have PA0 := Lib.hid a0_; have PA1 := Lib.hid a1_; have PA2 := Lib.hid a2_; have PB0 := Lib.hid b0_; have PB1 := Lib.hid b1_; have PB2 := Lib.hid b2_; clear a0_ a1_ a2_ b0_ b1_ b2_
       go_upto_region 19 with fail
       go_quiet (fail)
       replace BG := Lib.hid (blk_drewN BG.out nq); replace BH := Lib.hid (blk_drewN BH.out nq); replace BM := Lib.hid (blk_drewN BM.out nq); replace BL := Lib.hid (pw_below_drewN BL.out nq)
       go_upto_region 21 with fail
       clear zG0 zG1 zH0 zH1 zM0 zM1; replace BG := Lib.hid (blk_drew BG.out); replace BH := Lib.hid (blk_drew BH.out); replace BM := Lib.hid (blk_drew BM.out); replace BL := Lib.hid (below_drew1 BL.out)
       refine start_ (n := 18) (S := fun w' => w'.cell? ⟨g, 1, none⟩ = some (.slice (some ad1) l1.length c1) ∧ w'.cell? ⟨h, 1, none⟩ = some (.slice (some ad3) l3.length c3) ∧ w'.cell? ⟨m, 1, none⟩ = some (.slice (some ad5) l5.length c5) ∧ w'.cell? (ad5.add i) = some (.int .i64 k) ∧ w'.cell? (ad1.add (i * 3)) = some (.int .i64 (rd_T78 l1 (i : Int)).f0) ∧ w'.cell? (⟨(ad1.add (i * 3)).block, (ad1.add (i * 3)).off + 1, none⟩) = some (.int .i64 (rd_T78 l1 (i : Int)).f1) ∧ w'.cell? (⟨(ad1.add (i * 3)).block, (ad1.add (i * 3)).off + 2, none⟩) = some (.int .i64 (rd_T78 l1 (i : Int)).f2) ∧ w'.cell? (ad3.add (k.toNat * 3)) = some (.int .i64 (rd_T78 l3 k).f0) ∧ w'.cell? (⟨(ad3.add (k.toNat * 3)).block, (ad3.add (k.toNat * 3)).off + 1, none⟩) = some (.int .i64 (rd_T78 l3 k).f1) ∧ w'.cell? (⟨(ad3.add (k.toNat * 3)).block, (ad3.add (k.toNat * 3)).off + 2, none⟩) = some (.int .i64 (rd_T78 l3 k).f2)) (ds := []) #[false, false, false, false, false, false, false, false, false, false, false, false, false, false, false, false, false, false] (by kernel_rfl) rfl rfl ⟨(cell2 BG.out).2, (cell2 BH.out).2, (cell2 BM.out).2, (BL.out.cell (World.block_lt_of_cell? w _ PX.out)).trans PX.out, (BL.out.cell (World.block_lt_of_cell? w _ PA0.out)).trans PA0.out, (BL.out.cell (World.block_lt_of_cell? w _ PA1.out)).trans PA1.out, (BL.out.cell (World.block_lt_of_cell? w _ PA2.out)).trans PA2.out, (BL.out.cell (World.block_lt_of_cell? w _ PB0.out)).trans PB0.out, (BL.out.cell (World.block_lt_of_cell? w _ PB1.out)).trans PB1.out, (BL.out.cell (World.block_lt_of_cell? w _ PB2.out)).trans PB2.out⟩ (fun hHeld => ?_)
       refine pure_ (i := 0) (N := some 102) (v := ?_) (a' := ?_) #[true, false, false, false, false, false, false, false, false, false, false, false, false, false, false, false, false, false] rfl rfl (by kernel_rfl) (fun _ _ _ h => h) (Or.inl ⟨by rfl, ?_⟩) ?_ ?_
       rotate_left
       ·intro w'
        go_simp
        with_reducible rfl
       rotate_left
       ·simp only [Act.put, sI_, s0_, sS_, i64_w, i32_w]
        rfl
       refine take_ (i := 1) (N := some 103) (v := ?_) (a' := ?_) #[true, true, false, false, false, false, false, false, false, false, false, false, false, false, false, false, false, false] rfl rfl (by kernel_rfl) (fun _ _ _ h => h) (Or.inl ⟨by rfl, ?_⟩) hHeld ?_ ?_
       rotate_left
       ·rintro w' ⟨s0, s1, s2, s3, s4, s5, s6, s7, s8, s9⟩
        go_simp
        with_reducible rfl
       rotate_left
       ·simp only [Act.put, sI_, s0_, sS_, i64_w, i32_w]
        rfl
       refine pure_ (i := 2) (N := some 104) (v := ?_) (a' := ?_) #[true, true, true, false, false, false, false, false, false, false, false, false, false, false, false, false, false, false] rfl rfl (by kernel_rfl) (fun _ _ _ h => h) (Or.inl ⟨by rfl, ?_⟩) ?_ ?_
       rotate_left
       ·intro w'
        go_simp
        with_reducible rfl
       rotate_left
       ·simp only [Act.put, sI_, s0_, sS_, i64_w, i32_w]
        rfl
       refine pure_ (i := 3) (N := some 105) (v := ?_) (a' := ?_) #[true, true, true, true, false, false, false, false, false, false, false, false, false, false, false, false, false, false] rfl rfl (by kernel_rfl) (fun _ _ _ h => h) (Or.inl ⟨by rfl, ?_⟩) ?_ ?_
       rotate_left
       ·intro w'
        go_simp
        with_reducible rfl
       rotate_left
       ·simp only [Act.put, sI_, s0_, sS_, i64_w, i32_w]
        rfl
       refine take_ (i := 4) (N := some 106) (v := ?_) (a' := ?_) #[true, true, true, true, true, false, false, false, false, false, false, false, false, false, false, false, false, false] rfl rfl (by kernel_rfl) (fun _ _ _ h => h) (Or.inl ⟨by rfl, ?_⟩) hHeld ?_ ?_
       rotate_left
       ·rintro w' ⟨s0, s1, s2, s3, s4, s5, s6, s7, s8, s9⟩
        go_simp
        with_reducible rfl
       rotate_left
       ·simp only [Act.put, sI_, s0_, sS_, i64_w, i32_w]
        rfl
       refine pure_ (i := 5) (N := some 107) (v := ?_) (a' := ?_) #[true, true, true, true, true, true, false, false, false, false, false, false, false, false, false, false, false, false] rfl rfl (by kernel_rfl) (fun _ _ _ h => h) (Or.inl ⟨by rfl, ?_⟩) ?_ ?_
       rotate_left
       ·intro w'
        go_simp
        with_reducible rfl
       rotate_left
       ·simp only [Act.put, sI_, s0_, sS_, i64_w, i32_w]
        rfl
       refine take_ (i := 6) (N := some 108) (v := ?_) (a' := ?_) #[true, true, true, true, true, true, true, false, false, false, false, false, false, false, false, false, false, false] rfl rfl (by kernel_rfl) (fun _ _ _ h => h) (Or.inl ⟨by rfl, ?_⟩) hHeld ?_ ?_
       rotate_left
       ·rintro w' ⟨s0, s1, s2, s3, s4, s5, s6, s7, s8, s9⟩
        go_simp
        with_reducible rfl
       rotate_left
       ·simp only [Act.put, sI_, s0_, sS_, i64_w, i32_w]
        rfl
       refine pure_ (i := 7) (N := some 109) (v := ?_) (a' := ?_) #[true, true, true, true, true, true, true, true, false, false, false, false, false, false, false, false, false, false] rfl rfl (by kernel_rfl) (fun _ _ _ h => h) (Or.inl ⟨by rfl, ?_⟩) ?_ ?_
       rotate_left
       ·intro w'
        go_simp
        with_reducible rfl
       rotate_left
       ·simp only [Act.put, sI_, s0_, sS_, i64_w, i32_w]
        rfl
       refine take_ (i := 8) (N := some 110) (v := ?_) (a' := ?_) #[true, true, true, true, true, true, true, true, true, false, false, false, false, false, false, false, false, false] rfl rfl (by kernel_rfl) (fun _ _ _ h => h) (Or.inl ⟨by rfl, ?_⟩) hHeld ?_ ?_
       rotate_left
       ·rintro w' ⟨s0, s1, s2, s3, s4, s5, s6, s7, s8, s9⟩
        go_simp
        with_reducible rfl
       rotate_left
       ·simp only [Act.put, sI_, s0_, sS_, i64_w, i32_w]
        rfl
       refine pure_ (i := 9) (N := some 111) (v := ?_) (a' := ?_) #[true, true, true, true, true, true, true, true, true, true, false, false, false, false, false, false, false, false] rfl rfl (by kernel_rfl) (fun _ _ _ h => h) (Or.inl ⟨by rfl, ?_⟩) ?_ ?_
       rotate_left
       ·intro w'
        go_simp
        with_reducible rfl
       rotate_left
       ·simp only [Act.put, sI_, s0_, sS_, i64_w, i32_w]
        rfl
       refine pure_ (i := 10) (N := some 112) (v := ?_) (a' := ?_) #[true, true, true, true, true, true, true, true, true, true, true, false, false, false, false, false, false, false] rfl rfl (by kernel_rfl) (fun _ _ _ h => h) (Or.inl ⟨by rfl, ?_⟩) ?_ ?_
       rotate_left
       ·intro w'
        go_simp
        with_reducible rfl
       rotate_left
       ·simp only [Act.put, sI_, s0_, sS_, i64_w, i32_w]
        rfl
       refine take_ (i := 11) (N := some 113) (v := ?_) (a' := ?_) #[true, true, true, true, true, true, true, true, true, true, true, true, false, false, false, false, false, false] rfl rfl (by kernel_rfl) (fun _ _ _ h => h) (Or.inl ⟨by rfl, ?_⟩) hHeld ?_ ?_
       rotate_left
       ·rintro w' ⟨s0, s1, s2, s3, s4, s5, s6, s7, s8, s9⟩
        go_simp
        with_reducible rfl
       rotate_left
       ·simp only [Act.put, sI_, s0_, sS_, i64_w, i32_w]
        rfl
       refine pure_ (i := 12) (N := some 114) (v := ?_) (a' := ?_) #[true, true, true, true, true, true, true, true, true, true, true, true, true, false, false, false, false, false] rfl rfl (by kernel_rfl) (fun _ _ _ h => h) (Or.inl ⟨by rfl, ?_⟩) ?_ ?_
       rotate_left
       ·intro w'
        go_simp
        with_reducible rfl
       rotate_left
       ·simp only [Act.put, sI_, s0_, sS_, i64_w, i32_w]
        rfl
       refine take_ (i := 13) (N := some 115) (v := ?_) (a' := ?_) #[true, true, true, true, true, true, true, true, true, true, true, true, true, true, false, false, false, false] rfl rfl (by kernel_rfl) (fun _ _ _ h => h) (Or.inl ⟨by rfl, ?_⟩) hHeld ?_ ?_
       rotate_left
       ·rintro w' ⟨s0, s1, s2, s3, s4, s5, s6, s7, s8, s9⟩
        go_simp
        with_reducible rfl
       rotate_left
       ·simp only [Act.put, sI_, s0_, sS_, i64_w, i32_w]
        rfl
       refine join_ (σ := Nat × Nat) 2 #[true, true, true, true, true, true, true, true, true, true, true, true, true, true, true, true, false, false] (fun s_ => [(11, .pointer (some ⟨s_.1, 0, none⟩)), (12, .pointer (some ⟨s_.2, 0, none⟩))]) (fun s_ w' => (w'.cell? ⟨g, 1, none⟩ = some (.slice (some ad1) l1.length c1) ∧ w'.cell? ⟨h, 1, none⟩ = some (.slice (some ad3) l3.length c3) ∧ w'.cell? ⟨m, 1, none⟩ = some (.slice (some ad5) l5.length c5) ∧ w'.cell? (ad5.add i) = some (.int .i64 k) ∧ w'.cell? (ad1.add (i * 3)) = some (.int .i64 (rd_T78 l1 (i : Int)).f0) ∧ w'.cell? (⟨(ad1.add (i * 3)).block, (ad1.add (i * 3)).off + 1, none⟩) = some (.int .i64 (rd_T78 l1 (i : Int)).f1) ∧ w'.cell? (⟨(ad1.add (i * 3)).block, (ad1.add (i * 3)).off + 2, none⟩) = some (.int .i64 (rd_T78 l1 (i : Int)).f2) ∧ w'.cell? (ad3.add (k.toNat * 3)) = some (.int .i64 (rd_T78 l3 k).f0) ∧ w'.cell? (⟨(ad3.add (k.toNat * 3)).block, (ad3.add (k.toNat * 3)).off + 1, none⟩) = some (.int .i64 (rd_T78 l3 k).f1) ∧ w'.cell? (⟨(ad3.add (k.toNat * 3)).block, (ad3.add (k.toNat * 3)).off + 2, none⟩) = some (.int .i64 (rd_T78 l3 k).f2)) ∧ (m < s_.1) ∧ (m < s_.2) ∧ (s_.1 ≠ s_.2) ∧ (w'.heap[g]? = some (.cells #[.slice A0 l0.length c0, .slice (some ad1) l1.length c1] 25 (0, 0))) ∧ (w'.heap[h]? = some (.cells #[.slice A2 l2.length c2, .slice (some ad3) l3.length c3] 25 (0, 0))) ∧ (w'.heap[m]? = some (.cells #[.slice A4 l4.length c4, .slice (some ad5) l5.length c5] 51 (0, 0))) ∧ (Below w.heap.size w w') ∧ (w'.heap[s_.1]? = some (.cells #[.int .i64 0, .int .i64 0, .int .i64 0] 78 (0, 0))) ∧ (w'.heap[s_.2]? = some (.cells #[.int .i64 0, .int .i64 0, .int .i64 0] 78 (0, 0)))) ?_ ?_
       rotate_left
       ·intro J0_3
        refine join_ (σ := Nat) 3 #[true, true, true, true, true, true, true, true, true, true, true, true, true, true, false, true, false, false] (fun s_ => [(12, .pointer (some ⟨s_, 0, none⟩))]) (fun s_ w' => (w'.cell? ⟨g, 1, none⟩ = some (.slice (some ad1) l1.length c1) ∧ w'.cell? ⟨h, 1, none⟩ = some (.slice (some ad3) l3.length c3) ∧ w'.cell? ⟨m, 1, none⟩ = some (.slice (some ad5) l5.length c5) ∧ w'.cell? (ad5.add i) = some (.int .i64 k) ∧ w'.cell? (ad1.add (i * 3)) = some (.int .i64 (rd_T78 l1 (i : Int)).f0) ∧ w'.cell? (⟨(ad1.add (i * 3)).block, (ad1.add (i * 3)).off + 1, none⟩) = some (.int .i64 (rd_T78 l1 (i : Int)).f1) ∧ w'.cell? (⟨(ad1.add (i * 3)).block, (ad1.add (i * 3)).off + 2, none⟩) = some (.int .i64 (rd_T78 l1 (i : Int)).f2) ∧ w'.cell? (ad3.add (k.toNat * 3)) = some (.int .i64 (rd_T78 l3 k).f0) ∧ w'.cell? (⟨(ad3.add (k.toNat * 3)).block, (ad3.add (k.toNat * 3)).off + 1, none⟩) = some (.int .i64 (rd_T78 l3 k).f1) ∧ w'.cell? (⟨(ad3.add (k.toNat * 3)).block, (ad3.add (k.toNat * 3)).off + 2, none⟩) = some (.int .i64 (rd_T78 l3 k).f2)) ∧ (m < s_) ∧ (w'.heap[g]? = some (.cells #[.slice A0 l0.length c0, .slice (some ad1) l1.length c1] 25 (0, 0))) ∧ (w'.heap[h]? = some (.cells #[.slice A2 l2.length c2, .slice (some ad3) l3.length c3] 25 (0, 0))) ∧ (w'.heap[m]? = some (.cells #[.slice A4 l4.length c4, .slice (some ad5) l5.length c5] 51 (0, 0))) ∧ (Below w.heap.size w w') ∧ (w'.heap[s_]? = some (.cells #[.int .i64 0, .int .i64 0, .int .i64 0] 78 (0, 0)))) ?_ ?_
        rotate_left
        ·intro J0_2
         refine join_ (σ := Nat) 3 #[true, true, true, true, true, true, true, true, true, true, true, true, true, true, true, false, false, false] (fun s_ => [(11, .pointer (some ⟨s_, 0, none⟩))]) (fun s_ w' => (w'.cell? ⟨g, 1, none⟩ = some (.slice (some ad1) l1.length c1) ∧ w'.cell? ⟨h, 1, none⟩ = some (.slice (some ad3) l3.length c3) ∧ w'.cell? ⟨m, 1, none⟩ = some (.slice (some ad5) l5.length c5) ∧ w'.cell? (ad5.add i) = some (.int .i64 k) ∧ w'.cell? (ad1.add (i * 3)) = some (.int .i64 (rd_T78 l1 (i : Int)).f0) ∧ w'.cell? (⟨(ad1.add (i * 3)).block, (ad1.add (i * 3)).off + 1, none⟩) = some (.int .i64 (rd_T78 l1 (i : Int)).f1) ∧ w'.cell? (⟨(ad1.add (i * 3)).block, (ad1.add (i * 3)).off + 2, none⟩) = some (.int .i64 (rd_T78 l1 (i : Int)).f2) ∧ w'.cell? (ad3.add (k.toNat * 3)) = some (.int .i64 (rd_T78 l3 k).f0) ∧ w'.cell? (⟨(ad3.add (k.toNat * 3)).block, (ad3.add (k.toNat * 3)).off + 1, none⟩) = some (.int .i64 (rd_T78 l3 k).f1) ∧ w'.cell? (⟨(ad3.add (k.toNat * 3)).block, (ad3.add (k.toNat * 3)).off + 2, none⟩) = some (.int .i64 (rd_T78 l3 k).f2)) ∧ (m < s_) ∧ (w'.heap[g]? = some (.cells #[.slice A0 l0.length c0, .slice (some ad1) l1.length c1] 25 (0, 0))) ∧ (w'.heap[h]? = some (.cells #[.slice A2 l2.length c2, .slice (some ad3) l3.length c3] 25 (0, 0))) ∧ (w'.heap[m]? = some (.cells #[.slice A4 l4.length c4, .slice (some ad5) l5.length c5] 51 (0, 0))) ∧ (Below w.heap.size w w') ∧ (w'.heap[s_]? = some (.cells #[.int .i64 0, .int .i64 0, .int .i64 0] 78 (0, 0)))) ?_ ?_
         rotate_left
         ·intro J0_1
          refine two_ (i := 14) (j := 15) (Ni := some 11) (Nj := some 12) #[true, true, true, true, true, true, true, true, true, true, true, true, true, true, true, false, false, false] #[true, true, true, true, true, true, true, true, true, true, true, true, true, true, false, true, false, false] rfl rfl rfl rfl (by kernel_rfl) (by decide) (by decide) (fun K hK => ?_) (fun K hK => ?_)
          ·skip
           refine box_step ?hg (N := 11) ?hd (cs := #[.int .i64 0, .int .i64 0, .int .i64 0]) (t := 78) ?hr ?_; (case hd => rfl); (case hg => rfl); (case hr => first | (go_simp; done) | (go_simp; rfl))
           intro x hg w_ hbox hb
           have Hx : m < x := by rw [hg]; exact blk_lt BM.out
           replace BG := Lib.hid (blk_below BG.out hb); replace BH := Lib.hid (blk_below BH.out hb); replace BM := Lib.hid (blk_below BM.out hb); replace BL := Lib.hid (below_then BL.out BL.out.size hb); have BX := Lib.hid hbox; clear hg hbox hb
           refine hK.out _ _ ⟨(cell2 BG.out).2, (cell2 BH.out).2, (cell2 BM.out).2, (BL.out.cell (World.block_lt_of_cell? w _ PX.out)).trans PX.out, (BL.out.cell (World.block_lt_of_cell? w _ PA0.out)).trans PA0.out, (BL.out.cell (World.block_lt_of_cell? w _ PA1.out)).trans PA1.out, (BL.out.cell (World.block_lt_of_cell? w _ PA2.out)).trans PA2.out, (BL.out.cell (World.block_lt_of_cell? w _ PB0.out)).trans PB0.out, (BL.out.cell (World.block_lt_of_cell? w _ PB1.out)).trans PB1.out, (BL.out.cell (World.block_lt_of_cell? w _ PB2.out)).trans PB2.out⟩ (fun hHeld => ?_)
           clear hK K
           refine norm_ (a' := ?_) ?_ ?_
           rotate_left
           ·show Act.put _ (some 11) _ = _
            simp only [Act.put, sI_, s0_, sS_, i64_w, i32_w]
            rfl
           exact norm_ (by first | (simp only [putAll, Act.put, sI_, s0_, sS_]; done) | (simp only [putAll, Act.put, sI_, s0_, sS_]; rfl)) (J0_1 x _ ⟨hHeld, Hx, BG.out, BH.out, BM.out, BL.out, BX.out⟩)
          ·skip
           refine box_step ?hg (N := 12) ?hd (cs := #[.int .i64 0, .int .i64 0, .int .i64 0]) (t := 78) ?hr ?_; (case hd => rfl); (case hg => rfl); (case hr => first | (go_simp; done) | (go_simp; rfl))
           intro y hg w_ hbox hb
           have Hy : m < y := by rw [hg]; exact blk_lt BM.out
           replace BG := Lib.hid (blk_below BG.out hb); replace BH := Lib.hid (blk_below BH.out hb); replace BM := Lib.hid (blk_below BM.out hb); replace BL := Lib.hid (below_then BL.out BL.out.size hb); have BY := Lib.hid hbox; clear hg hbox hb
           refine hK.out _ _ ⟨(cell2 BG.out).2, (cell2 BH.out).2, (cell2 BM.out).2, (BL.out.cell (World.block_lt_of_cell? w _ PX.out)).trans PX.out, (BL.out.cell (World.block_lt_of_cell? w _ PA0.out)).trans PA0.out, (BL.out.cell (World.block_lt_of_cell? w _ PA1.out)).trans PA1.out, (BL.out.cell (World.block_lt_of_cell? w _ PA2.out)).trans PA2.out, (BL.out.cell (World.block_lt_of_cell? w _ PB0.out)).trans PB0.out, (BL.out.cell (World.block_lt_of_cell? w _ PB1.out)).trans PB1.out, (BL.out.cell (World.block_lt_of_cell? w _ PB2.out)).trans PB2.out⟩ (fun hHeld => ?_)
           clear hK K
           refine norm_ (a' := ?_) ?_ ?_
           rotate_left
           ·show Act.put _ (some 12) _ = _
            simp only [Act.put, sI_, s0_, sS_, i64_w, i32_w]
            rfl
           exact norm_ (by first | (simp only [putAll, Act.put, sI_, s0_, sS_]; done) | (simp only [putAll, Act.put, sI_, s0_, sS_]; rfl)) (J0_2 y _ ⟨hHeld, Hy, BG.out, BH.out, BM.out, BL.out, BY.out⟩)
         rintro x w_ ⟨hHeld, Hx, qBG, qBH, qBM, qBL, qBX⟩; replace Hx : m < x := Hx
         replace BG : Hid (w_.heap[g]? = some (.cells #[.slice A0 l0.length c0, .slice (some ad1) l1.length c1] 25 (0, 0))) := Lib.hid qBG; clear qBG
         replace BH : Hid (w_.heap[h]? = some (.cells #[.slice A2 l2.length c2, .slice (some ad3) l3.length c3] 25 (0, 0))) := Lib.hid qBH; clear qBH
         replace BM : Hid (w_.heap[m]? = some (.cells #[.slice A4 l4.length c4, .slice (some ad5) l5.length c5] 51 (0, 0))) := Lib.hid qBM; clear qBM
         replace BL : Hid (Below w.heap.size w w_) := Lib.hid qBL; clear qBL
         have BX : Hid (w_.heap[x]? = some (.cells #[.int .i64 0, .int .i64 0, .int .i64 0] 78 (0, 0))) := Lib.hid qBX; clear qBX
         refine norm_ (a' := ?_) ?_ ?_
         rotate_left
         ·simp only [putAll, Act.put, sI_, s0_, sS_]
          rfl
         refine one_ (i := 15) (N := some 12) #[true, true, true, true, true, true, true, true, true, true, true, true, true, true, true, true, false, false] rfl rfl (by kernel_rfl) (by decide) (fun K hK => ?_)
         refine box_step ?hg (N := 12) ?hd (cs := #[.int .i64 0, .int .i64 0, .int .i64 0]) (t := 78) ?hr ?_; (case hd => rfl); (case hg => rfl); (case hr => first | (go_simp; done) | (go_simp; rfl))
         intro y hg w_ hbox hb
         have Hy : m < y := by rw [hg]; exact blk_lt BM.out
         have Hxy : x ≠ y := by have q_ := blk_lt BX.out; rw [← hg] at q_; omega
         replace BG := Lib.hid (blk_below BG.out hb); replace BH := Lib.hid (blk_below BH.out hb); replace BM := Lib.hid (blk_below BM.out hb); replace BL := Lib.hid (below_then BL.out BL.out.size hb); replace BX := Lib.hid (blk_below BX.out hb); have BY := Lib.hid hbox; clear hg hbox hb
         refine hK.out _ _ ⟨(cell2 BG.out).2, (cell2 BH.out).2, (cell2 BM.out).2, (BL.out.cell (World.block_lt_of_cell? w _ PX.out)).trans PX.out, (BL.out.cell (World.block_lt_of_cell? w _ PA0.out)).trans PA0.out, (BL.out.cell (World.block_lt_of_cell? w _ PA1.out)).trans PA1.out, (BL.out.cell (World.block_lt_of_cell? w _ PA2.out)).trans PA2.out, (BL.out.cell (World.block_lt_of_cell? w _ PB0.out)).trans PB0.out, (BL.out.cell (World.block_lt_of_cell? w _ PB1.out)).trans PB1.out, (BL.out.cell (World.block_lt_of_cell? w _ PB2.out)).trans PB2.out⟩ (fun hHeld => ?_)
         clear hK K
         refine norm_ (a' := ?_) ?_ ?_
         rotate_left
         ·show Act.put _ (some 12) _ = _
          simp only [Act.put, sI_, s0_, sS_, i64_w, i32_w]
          rfl
         exact norm_ (by first | (simp only [putAll, Act.put, sI_, s0_, sS_]; done) | (simp only [putAll, Act.put, sI_, s0_, sS_]; rfl)) (J0_3 (x, y) _ ⟨hHeld, Hx, Hy, Hxy, BG.out, BH.out, BM.out, BL.out, BX.out, BY.out⟩)
        rintro y w_ ⟨hHeld, Hy, qBG, qBH, qBM, qBL, qBY⟩; replace Hy : m < y := Hy
        replace BG : Hid (w_.heap[g]? = some (.cells #[.slice A0 l0.length c0, .slice (some ad1) l1.length c1] 25 (0, 0))) := Lib.hid qBG; clear qBG
        replace BH : Hid (w_.heap[h]? = some (.cells #[.slice A2 l2.length c2, .slice (some ad3) l3.length c3] 25 (0, 0))) := Lib.hid qBH; clear qBH
        replace BM : Hid (w_.heap[m]? = some (.cells #[.slice A4 l4.length c4, .slice (some ad5) l5.length c5] 51 (0, 0))) := Lib.hid qBM; clear qBM
        replace BL : Hid (Below w.heap.size w w_) := Lib.hid qBL; clear qBL
        have BY : Hid (w_.heap[y]? = some (.cells #[.int .i64 0, .int .i64 0, .int .i64 0] 78 (0, 0))) := Lib.hid qBY; clear qBY
        refine norm_ (a' := ?_) ?_ ?_
        rotate_left
        ·simp only [putAll, Act.put, sI_, s0_, sS_]
         rfl
        refine one_ (i := 14) (N := some 11) #[true, true, true, true, true, true, true, true, true, true, true, true, true, true, true, true, false, false] rfl rfl (by kernel_rfl) (by decide) (fun K hK => ?_)
        refine box_step ?hg (N := 11) ?hd (cs := #[.int .i64 0, .int .i64 0, .int .i64 0]) (t := 78) ?hr ?_; (case hd => rfl); (case hg => rfl); (case hr => first | (go_simp; done) | (go_simp; rfl))
        intro x hg w_ hbox hb
        have Hx : m < x := by rw [hg]; exact blk_lt BM.out
        have Hxy : x ≠ y := by have q_ := blk_lt BY.out; rw [← hg] at q_; omega
        replace BG := Lib.hid (blk_below BG.out hb); replace BH := Lib.hid (blk_below BH.out hb); replace BM := Lib.hid (blk_below BM.out hb); replace BL := Lib.hid (below_then BL.out BL.out.size hb); replace BY := Lib.hid (blk_below BY.out hb); have BX := Lib.hid hbox; clear hg hbox hb
        refine hK.out _ _ ⟨(cell2 BG.out).2, (cell2 BH.out).2, (cell2 BM.out).2, (BL.out.cell (World.block_lt_of_cell? w _ PX.out)).trans PX.out, (BL.out.cell (World.block_lt_of_cell? w _ PA0.out)).trans PA0.out, (BL.out.cell (World.block_lt_of_cell? w _ PA1.out)).trans PA1.out, (BL.out.cell (World.block_lt_of_cell? w _ PA2.out)).trans PA2.out, (BL.out.cell (World.block_lt_of_cell? w _ PB0.out)).trans PB0.out, (BL.out.cell (World.block_lt_of_cell? w _ PB1.out)).trans PB1.out, (BL.out.cell (World.block_lt_of_cell? w _ PB2.out)).trans PB2.out⟩ (fun hHeld => ?_)
        clear hK K
        refine norm_ (a' := ?_) ?_ ?_
        rotate_left
        ·show Act.put _ (some 11) _ = _
         simp only [Act.put, sI_, s0_, sS_, i64_w, i32_w]
         rfl
        exact norm_ (by first | (simp only [putAll, Act.put, sI_, s0_, sS_]; done) | (simp only [putAll, Act.put, sI_, s0_, sS_]; rfl)) (J0_3 (x, y) _ ⟨hHeld, Hx, Hy, Hxy, BG.out, BH.out, BM.out, BL.out, BX.out, BY.out⟩)
       rintro ⟨x, y⟩ w_ ⟨hHeld, Hx, Hy, Hxy, qBG, qBH, qBM, qBL, qBX, qBY⟩; replace Hx : m < x := Hx; replace Hy : m < y := Hy; replace Hxy : x ≠ y := Hxy
       replace BG : Hid (w_.heap[g]? = some (.cells #[.slice A0 l0.length c0, .slice (some ad1) l1.length c1] 25 (0, 0))) := Lib.hid qBG; clear qBG
       replace BH : Hid (w_.heap[h]? = some (.cells #[.slice A2 l2.length c2, .slice (some ad3) l3.length c3] 25 (0, 0))) := Lib.hid qBH; clear qBH
       replace BM : Hid (w_.heap[m]? = some (.cells #[.slice A4 l4.length c4, .slice (some ad5) l5.length c5] 51 (0, 0))) := Lib.hid qBM; clear qBM
       replace BL : Hid (Below w.heap.size w w_) := Lib.hid qBL; clear qBL
       have BX : Hid (w_.heap[x]? = some (.cells #[.int .i64 0, .int .i64 0, .int .i64 0] 78 (0, 0))) := Lib.hid qBX; clear qBX
       have BY : Hid (w_.heap[y]? = some (.cells #[.int .i64 0, .int .i64 0, .int .i64 0] 78 (0, 0))) := Lib.hid qBY; clear qBY
       refine norm_ (a' := ?_) ?_ ?_
       rotate_left
       ·simp only [putAll, Act.put, sI_, s0_, sS_]
        rfl
       refine one_ (i := 16) (N := none) #[true, true, true, true, true, true, true, true, true, true, true, true, true, true, true, true, true, false] rfl rfl (by kernel_rfl) (by decide) (fun K hK => ?_)
       have y0_ := (blk_cell BX.out 0).trans rfl; have y1_ := (blk_cell BX.out 1).trans rfl; have y2_ := (blk_cell BX.out 2).trans rfl; have f0_ := blk_frozen BX.out 0; have f1_ := blk_frozen BX.out 1; have f2_ := blk_frozen BX.out 2
       refine skip_ (w1 := ?_) (by rfl) rfl ?_ ?_
       rotate_left
       ·go_simp
        rfl
       clear y0_ f0_ y1_ f1_ y2_ f2_; replace BG := Lib.hid (blk_far BG.out (p := ⟨x, 0, none⟩) (by show g ≠ x; omega) (.int .i64 (rd_T78 l1 (i : Int)).f0)); replace BH := Lib.hid (blk_far BH.out (p := ⟨x, 0, none⟩) (by show h ≠ x; omega) (.int .i64 (rd_T78 l1 (i : Int)).f0)); replace BM := Lib.hid (blk_far BM.out (p := ⟨x, 0, none⟩) (by show m ≠ x; omega) (.int .i64 (rd_T78 l1 (i : Int)).f0)); replace BL := Lib.hid (below_set (g := x) (j := 0) (v := .int .i64 (rd_T78 l1 (i : Int)).f0) BL.out (by omega)); replace BY := Lib.hid (blk_far BY.out (p := ⟨x, 0, none⟩) (by show y ≠ x; omega) (.int .i64 (rd_T78 l1 (i : Int)).f0)); replace BX := Lib.hid (blk_put (cs' := #[.int .i64 (rd_T78 l1 (i : Int)).f0, .int .i64 0, .int .i64 0]) BX.out 0 (.int .i64 (rd_T78 l1 (i : Int)).f0) rfl); replace BG := Lib.hid (blk_far BG.out (p := ⟨x, 1, none⟩) (by show g ≠ x; omega) (.int .i64 (rd_T78 l1 (i : Int)).f1)); replace BH := Lib.hid (blk_far BH.out (p := ⟨x, 1, none⟩) (by show h ≠ x; omega) (.int .i64 (rd_T78 l1 (i : Int)).f1)); replace BM := Lib.hid (blk_far BM.out (p := ⟨x, 1, none⟩) (by show m ≠ x; omega) (.int .i64 (rd_T78 l1 (i : Int)).f1)); replace BL := Lib.hid (below_set (g := x) (j := 1) (v := .int .i64 (rd_T78 l1 (i : Int)).f1) BL.out (by omega)); replace BY := Lib.hid (blk_far BY.out (p := ⟨x, 1, none⟩) (by show y ≠ x; omega) (.int .i64 (rd_T78 l1 (i : Int)).f1)); replace BX := Lib.hid (blk_put (cs' := #[.int .i64 (rd_T78 l1 (i : Int)).f0, .int .i64 (rd_T78 l1 (i : Int)).f1, .int .i64 0]) BX.out 1 (.int .i64 (rd_T78 l1 (i : Int)).f1) rfl); replace BG := Lib.hid (blk_far BG.out (p := ⟨x, 2, none⟩) (by show g ≠ x; omega) (.int .i64 (rd_T78 l1 (i : Int)).f2)); replace BH := Lib.hid (blk_far BH.out (p := ⟨x, 2, none⟩) (by show h ≠ x; omega) (.int .i64 (rd_T78 l1 (i : Int)).f2)); replace BM := Lib.hid (blk_far BM.out (p := ⟨x, 2, none⟩) (by show m ≠ x; omega) (.int .i64 (rd_T78 l1 (i : Int)).f2)); replace BL := Lib.hid (below_set (g := x) (j := 2) (v := .int .i64 (rd_T78 l1 (i : Int)).f2) BL.out (by omega)); replace BY := Lib.hid (blk_far BY.out (p := ⟨x, 2, none⟩) (by show y ≠ x; omega) (.int .i64 (rd_T78 l1 (i : Int)).f2)); replace BX := Lib.hid (blk_put (cs' := #[.int .i64 (rd_T78 l1 (i : Int)).f0, .int .i64 (rd_T78 l1 (i : Int)).f1, .int .i64 (rd_T78 l1 (i : Int)).f2]) BX.out 2 (.int .i64 (rd_T78 l1 (i : Int)).f2) rfl); generalize hq_ : World.setCell _ _ _ = w5_; replace BG := Lib.hid (at_blk hq_ BG.out); replace BH := Lib.hid (at_blk hq_ BH.out); replace BM := Lib.hid (at_blk hq_ BM.out); replace BL := Lib.hid (at_bel hq_ BL.out); replace BX := Lib.hid (at_blk hq_ BX.out); replace BY := Lib.hid (at_blk hq_ BY.out); clear hq_
       refine hK.out _ _ ⟨(cell2 BG.out).2, (cell2 BH.out).2, (cell2 BM.out).2, (BL.out.cell (World.block_lt_of_cell? w _ PX.out)).trans PX.out, (BL.out.cell (World.block_lt_of_cell? w _ PA0.out)).trans PA0.out, (BL.out.cell (World.block_lt_of_cell? w _ PA1.out)).trans PA1.out, (BL.out.cell (World.block_lt_of_cell? w _ PA2.out)).trans PA2.out, (BL.out.cell (World.block_lt_of_cell? w _ PB0.out)).trans PB0.out, (BL.out.cell (World.block_lt_of_cell? w _ PB1.out)).trans PB1.out, (BL.out.cell (World.block_lt_of_cell? w _ PB2.out)).trans PB2.out⟩ (fun hHeld => ?_)
       clear hK K
       refine one_ (i := 17) (N := none) #[true, true, true, true, true, true, true, true, true, true, true, true, true, true, true, true, true, true] rfl rfl (by kernel_rfl) (by decide) (fun K hK => ?_)
       have y0_ := (blk_cell BY.out 0).trans rfl; have y1_ := (blk_cell BY.out 1).trans rfl; have y2_ := (blk_cell BY.out 2).trans rfl; have f0_ := blk_frozen BY.out 0; have f1_ := blk_frozen BY.out 1; have f2_ := blk_frozen BY.out 2
       refine skip_ (w1 := ?_) (by rfl) rfl ?_ ?_
       rotate_left
       ·go_simp
        rfl
       clear y0_ f0_ y1_ f1_ y2_ f2_; replace BG := Lib.hid (blk_far BG.out (p := ⟨y, 0, none⟩) (by show g ≠ y; omega) (.int .i64 (rd_T78 l3 k).f0)); replace BH := Lib.hid (blk_far BH.out (p := ⟨y, 0, none⟩) (by show h ≠ y; omega) (.int .i64 (rd_T78 l3 k).f0)); replace BM := Lib.hid (blk_far BM.out (p := ⟨y, 0, none⟩) (by show m ≠ y; omega) (.int .i64 (rd_T78 l3 k).f0)); replace BL := Lib.hid (below_set (g := y) (j := 0) (v := .int .i64 (rd_T78 l3 k).f0) BL.out (by omega)); replace BX := Lib.hid (blk_far BX.out (p := ⟨y, 0, none⟩) (by show x ≠ y; omega) (.int .i64 (rd_T78 l3 k).f0)); replace BY := Lib.hid (blk_put (cs' := #[.int .i64 (rd_T78 l3 k).f0, .int .i64 0, .int .i64 0]) BY.out 0 (.int .i64 (rd_T78 l3 k).f0) rfl); replace BG := Lib.hid (blk_far BG.out (p := ⟨y, 1, none⟩) (by show g ≠ y; omega) (.int .i64 (rd_T78 l3 k).f1)); replace BH := Lib.hid (blk_far BH.out (p := ⟨y, 1, none⟩) (by show h ≠ y; omega) (.int .i64 (rd_T78 l3 k).f1)); replace BM := Lib.hid (blk_far BM.out (p := ⟨y, 1, none⟩) (by show m ≠ y; omega) (.int .i64 (rd_T78 l3 k).f1)); replace BL := Lib.hid (below_set (g := y) (j := 1) (v := .int .i64 (rd_T78 l3 k).f1) BL.out (by omega)); replace BX := Lib.hid (blk_far BX.out (p := ⟨y, 1, none⟩) (by show x ≠ y; omega) (.int .i64 (rd_T78 l3 k).f1)); replace BY := Lib.hid (blk_put (cs' := #[.int .i64 (rd_T78 l3 k).f0, .int .i64 (rd_T78 l3 k).f1, .int .i64 0]) BY.out 1 (.int .i64 (rd_T78 l3 k).f1) rfl); replace BG := Lib.hid (blk_far BG.out (p := ⟨y, 2, none⟩) (by show g ≠ y; omega) (.int .i64 (rd_T78 l3 k).f2)); replace BH := Lib.hid (blk_far BH.out (p := ⟨y, 2, none⟩) (by show h ≠ y; omega) (.int .i64 (rd_T78 l3 k).f2)); replace BM := Lib.hid (blk_far BM.out (p := ⟨y, 2, none⟩) (by show m ≠ y; omega) (.int .i64 (rd_T78 l3 k).f2)); replace BL := Lib.hid (below_set (g := y) (j := 2) (v := .int .i64 (rd_T78 l3 k).f2) BL.out (by omega)); replace BX := Lib.hid (blk_far BX.out (p := ⟨y, 2, none⟩) (by show x ≠ y; omega) (.int .i64 (rd_T78 l3 k).f2)); replace BY := Lib.hid (blk_put (cs' := #[.int .i64 (rd_T78 l3 k).f0, .int .i64 (rd_T78 l3 k).f1, .int .i64 (rd_T78 l3 k).f2]) BY.out 2 (.int .i64 (rd_T78 l3 k).f2) rfl); generalize hq_ : World.setCell _ _ _ = w5_; replace BG := Lib.hid (at_blk hq_ BG.out); replace BH := Lib.hid (at_blk hq_ BH.out); replace BM := Lib.hid (at_blk hq_ BM.out); replace BL := Lib.hid (at_bel hq_ BL.out); replace BX := Lib.hid (at_blk hq_ BX.out); replace BY := Lib.hid (at_blk hq_ BY.out); clear hq_
       refine hK.out _ _ ⟨(cell2 BG.out).2, (cell2 BH.out).2, (cell2 BM.out).2, (BL.out.cell (World.block_lt_of_cell? w _ PX.out)).trans PX.out, (BL.out.cell (World.block_lt_of_cell? w _ PA0.out)).trans PA0.out, (BL.out.cell (World.block_lt_of_cell? w _ PA1.out)).trans PA1.out, (BL.out.cell (World.block_lt_of_cell? w _ PA2.out)).trans PA2.out, (BL.out.cell (World.block_lt_of_cell? w _ PB0.out)).trans PB0.out, (BL.out.cell (World.block_lt_of_cell? w _ PB1.out)).trans PB1.out, (BL.out.cell (World.block_lt_of_cell? w _ PB2.out)).trans PB2.out⟩ (fun hHeld => ?_)
       clear hK K
       refine done_ (by kernel_rfl) ?_
       have x0_ := (blk_cell BX.out 0).trans rfl; have x1_ := (blk_cell BX.out 1).trans rfl; have x2_ := (blk_cell BX.out 2).trans rfl; have y0_ := (blk_cell BY.out 0).trans rfl; have y1_ := (blk_cell BY.out 1).trans rfl; have y2_ := (blk_cell BY.out 2).trans rfl; obtain ⟨zM0, zM1⟩ := cell2 BM.out; obtain ⟨t1, t2, t3, t4⟩ := fits_of V0.out i (by have := E5.out; omega); rw [← rdT_get l1 i (by have := E5.out; omega)] at t1 t2 t3 t4; generalize rd_T78 l1 (i : Int) = X at t1 t2 t3 t4 x0_ x1_ x2_ E3; generalize rd_T78 l3 k = Y at y0_ y1_ y2_ E3
       have t2' : X.f1 < (l4.length : Int) := by have := E4.out; omega
       have t4' : X.f2 < (l4.length : Int) := by have := E4.out; omega
       obtain ⟨ad4, rfl, n1⟩ := Kd.at_int R4.out X.f1 t1 t2'; obtain ⟨_, he_, n2⟩ := Kd.at_int R4.out X.f2 t3 t4'; cases he_; replace n1 := (BL.out.cell (World.block_lt_of_cell? w _ n1)).trans n1; replace n2 := (BL.out.cell (World.block_lt_of_cell? w _ n2)).trans n2
       by_cases ht : X.f0 = Y.f0
       ·have s1 : (X.f0 != Y.f0) = false := by simp [ht]
        have s2 : decide (X.f0 = Y.f0) = true := decide_eq_true ht
        by_cases hq1 : rd l4 X.f1 = Y.f1
        ·have u1 : (rd l4 X.f1 != Y.f1) = false := by simp [hq1]
         have u2 : decide (rd l4 X.f1 = Y.f1) = true := decide_eq_true hq1
         by_cases hq2 : rd l4 X.f2 = Y.f2
         ·have E6 : edgesE l1 l3 l4 (i + 1) (l5.drop (i + 1)) = edgesE l1 l3 l4 0 l5 := by rw [← E3.out, if_neg (by omega), if_pos ht, if_pos ⟨hq1, hq2⟩]
          have u3 : (rd l4 X.f2 != Y.f2) = false := by simp [hq2]
          have u4 : decide (rd l4 X.f2 = Y.f2) = true := decide_eq_true hq2; have E8 := Lib.hid E6; clear E3 E6
          go_wp2
          repeat (go_quiet (fail); try go_wp2)
          go_roundg (l5.length - (i + 1))
          case measure => omega
          case rel => exact ⟨i + 1, by omega, by omega, by go_num, ⟨E8.out⟩, ⟨by first | exact BG.out | exact blk_drewN BG.out _ | exact blk_drewN (blk_drewN BG.out _) _⟩, ⟨by first | exact BH.out | exact blk_drewN BH.out _ | exact blk_drewN (blk_drewN BH.out _) _⟩, ⟨by first | exact BM.out | exact blk_drewN BM.out _ | exact blk_drewN (blk_drewN BM.out _) _⟩, ⟨by first | exact BL.out | exact pw_below_drewN BL.out _ | exact pw_below_drewN (pw_below_drewN BL.out _) _⟩⟩
         ·have E6 : edgesE l1 l3 l4 0 l5 = 11 := by rw [← E3.out, if_neg (by omega), if_pos ht, if_neg (fun q => hq2 q.2)]
          have u3 : (rd l4 X.f2 != Y.f2) = true := by simp [hq2]
          have u4 : decide (rd l4 X.f2 = Y.f2) = false := decide_eq_false hq2; have E8 := Lib.hid E6; clear E3 E6
          go_wp2
          repeat (go_quiet (fail); try go_wp2)
          exact bodyPost_ret (v := .int .i64 11) (by simp [results, Try.f47, go_sem]) rfl ⟨by rw [← HS.out, if_pos E7.out, E8.out], by first | exact BL.out | exact pw_below_drewN BL.out _ | exact pw_below_drewN (pw_below_drewN BL.out _) _⟩
        ·have E6 : edgesE l1 l3 l4 0 l5 = 11 := by rw [← E3.out, if_neg (by omega), if_pos ht, if_neg (fun q => hq1 q.1)]
         have u1 : (rd l4 X.f1 != Y.f1) = true := by simp [hq1]
         have u2 : decide (rd l4 X.f1 = Y.f1) = false := decide_eq_false hq1; have E8 := Lib.hid E6; clear E3 E6
         go_wp2
         repeat (go_quiet (fail); try go_wp2)
         exact bodyPost_ret (v := .int .i64 11) (by simp [results, Try.f47, go_sem]) rfl ⟨by rw [← HS.out, if_pos E7.out, E8.out], by first | exact BL.out | exact pw_below_drewN BL.out _ | exact pw_below_drewN (pw_below_drewN BL.out _) _⟩
       ·have E6 : edgesE l1 l3 l4 0 l5 = 13 := by rw [← E3.out, if_neg (by omega), if_neg ht]
        have s1 : (X.f0 != Y.f0) = true := by simp [ht]
        have s2 : decide (X.f0 = Y.f0) = false := decide_eq_false ht; have E8 := Lib.hid E6; clear E3 E6
        go_wp2
        exact bodyPost_ret (v := .int .i64 13) (by simp [results, Try.f47, go_sem]) rfl ⟨by rw [← HS.out, if_pos E7.out, E8.out], by first | exact BL.out | exact pw_below_drewN BL.out _ | exact pw_below_drewN (pw_below_drewN BL.out _) _⟩
    ·have hlz : ¬ (i : Int) < (l5.length : Int) := by omega
     have hl1 : ¬ (i : Int) < (l1.length : Int) := by have := E5.out; omega
     have E6 : edgesE l1 l3 l4 0 l5 = 0 := by
      have := EN.out; rw [List.drop_of_length_le (by omega), edgesE] at this; exact this.symm
     have E8 := Lib.hid E6; clear EN E6
     go_wp2
     exact bodyPost_ret (v := .int .i64 0) (by simp [results, Try.f47, go_sem]) rfl ⟨by rw [← HS.out, if_pos E7.out, E8.out], by first | exact BL.out | exact pw_below_drewN BL.out _ | exact pw_below_drewN (pw_below_drewN BL.out _) _⟩
set_option maxHeartbeats 4000000 in
set_option maxRecDepth 100000 in
theorem scarfjointref06_Valid.err (A0 : Option Addr) (c0 : Nat) (l0 : List Int) (A1 : Option Addr) (c1 : Nat) (l1 : List S78) (A2 : Option Addr) (c2 : Nat) (l2 : List Int) (A3 : Option Addr) (c3 : Nat) (l3 : List S78) (A4 : Option Addr) (c4 : Nat) (l4 : List Int) (A5 : Option Addr) (c5 : Nat) (l5 : List Int) (w : World)
  (r0 : Kd.C (Kd.int .i64) w A0 l0.length l0) (m0 : l0.length ≤ c0) (r1 : Kd.C (k78) w A1 l1.length l1) (m1 : l1.length ≤ c1) (r2 : Kd.C (Kd.int .i64) w A2 l2.length l2) (m2 : l2.length ≤ c2) (r3 : Kd.C (k78) w A3 l3.length l3) (m3 : l3.length ≤ c3) (r4 : Kd.C (Kd.int .i64) w A4 l4.length l4) (m4 : l4.length ≤ c4) (r5 : Kd.C (Kd.int .i64) w A5 l5.length l5) (m5 : l5.length ≤ c5)
  (res : Int) (hbad : (validB l0 l1 = res ∧ res ≠ 0) ∨ (validB l0 l1 = 0 ∧ validB l2 l3 = res ∧ res ≠ 0) ∨ (validB l0 l1 = 0 ∧ validB l2 l3 = 0 ∧ (l4.length ≠ l0.length ∨ l5.length ≠ l1.length) ∧ res = 20)) :
  Calls Try.prog 47 #[.agg #[.slice A0 l0.length c0, .slice A1 l1.length c1], .agg #[.slice A2 l2.length c2, .slice A3 l3.length c3], .agg #[.slice A4 l4.length c4, .slice A5 l5.length c5]] w fun e w' => e = .returned (.int .i64 res) ∧ Below w.heap.size w w' := by
 have hu25 := Try.underlying25; have hu51 := Try.underlying51; have hm4 := Kd.C_max r4; have hm5 := Kd.C_max r5; have R0 := Lib.hid r0; have R1 := Lib.hid r1; have R2 := Lib.hid r2; have R3 := Lib.hid r3; have R4 := Lib.hid r4; have R5 := Lib.hid r5; have M0 := Lib.hid m0; have M1 := Lib.hid m1; have M2 := Lib.hid m2; have M3 := Lib.hid m3; clear r0 r1 r2 r3 r4 r5 m0 m1 m2 m3 m4 m5
 go_enter Try.func47, Try.ntmps47
 go_upto_region 1 with (first
  | ((with_reducible refine gate_dst (N := 3) rfl ?_); (try (refine gate_guard (by rfl) ?_; dsimp only)); refine box_event ?hg (N := 3) ?hd (cs := #[.slice A0 l0.length c0, .slice A1 l1.length c1]) (t := 25) ?hr ?_; (case hd => rfl); (case hg => rfl); (case hr => first | (go_simp; done) | (go_simp; rfl)); intro g hg w_ hbox hb; have HG : w.heap.size ≤ g := (hg ▸ Nat.le_refl _); have BG := Lib.hid hbox; have BL := Lib.hid hb; clear hg hbox hb)
  | ((with_reducible refine gate_dst (N := 4) rfl ?_); (try (refine gate_guard (by rfl) ?_; dsimp only)); refine box_event ?hg (N := 4) ?hd (cs := #[.slice A2 l2.length c2, .slice A3 l3.length c3]) (t := 25) ?hr ?_; (case hd => rfl); (case hg => rfl); (case hr => first | (go_simp; done) | (go_simp; rfl)); intro h hg w_ hbox hb; have HH : g < h := (hg ▸ blk_lt BG.out); replace BG := Lib.hid (blk_below BG.out hb); replace BL := Lib.hid (below_then BL.out BL.out.size hb); have BH := Lib.hid hbox; clear hg hbox hb)
  | ((with_reducible refine gate_dst (N := 5) rfl ?_); (try (refine gate_guard (by rfl) ?_; dsimp only)); refine box_event ?hg (N := 5) ?hd (cs := #[.slice A4 l4.length c4, .slice A5 l5.length c5]) (t := 51) ?hr ?_; (case hd => rfl); (case hg => rfl); (case hr => first | (go_simp; done) | (go_simp; rfl)); intro m hg w_ hbox hb; have HM : h < m := (hg ▸ blk_lt BH.out); replace BG := Lib.hid (blk_below BG.out hb); replace BL := Lib.hid (below_then BL.out BL.out.size hb); replace BH := Lib.hid (blk_below BH.out hb); have BM := Lib.hid hbox; clear hg hbox hb))
 obtain ⟨zBG_0, zBG_1⟩ := cell2 BG.out; obtain ⟨zBH_0, zBH_1⟩ := cell2 BH.out; obtain ⟨zBM_0, zBM_1⟩ := cell2 BM.out
 rcases hbad with ⟨he, hne⟩ | ⟨v0, he, hne⟩ | ⟨v0, v2, hne, rfl⟩
 ·have e1 : (res != 0) = true := by simpa using hne
  have e2 : decide (res = 0) = false := decide_eq_false hne
  go_wp2_with (first
   | (go_at_call 20; refine (ref05_Valid.calls0 A0 c0 l0 A1 c1 l1 _ (Kd.C_below R0.out BL.out) M0.out (Kd.C_below R1.out BL.out) M1.out).mono ?_; rintro e w_ ⟨he_, hb⟩; rw [he] at he_; subst he_; clear zBG_0 zBG_1 zBH_0 zBH_1 zBM_0 zBM_1; replace BG := Lib.hid (blk_below BG.out hb); replace BL := Lib.hid (below_then BL.out BL.out.size hb); replace BH := Lib.hid (blk_below BH.out hb); replace BM := Lib.hid (blk_below BM.out hb); clear hb; obtain ⟨zBG_0, zBG_1⟩ := cell2 BG.out; obtain ⟨zBH_0, zBH_1⟩ := cell2 BH.out; obtain ⟨zBM_0, zBM_1⟩ := cell2 BM.out))
  repeat (go_quiet (fail); try go_wp2)
  exact bodyPost_ret (v := .int .i64 res) (by simp [results, Try.f47, go_sem]) rfl ⟨rfl, by first | exact BL.out | exact pw_below_drewN BL.out _ | exact pw_below_drewN (pw_below_drewN BL.out _) _⟩
 ·have e1 : (res != 0) = true := by simpa using hne
  have e2 : decide (res = 0) = false := decide_eq_false hne
  go_upto_region 4 with (first
   | (go_at_call 20; refine (ref05_Valid.calls0 A0 c0 l0 A1 c1 l1 _ (Kd.C_below R0.out BL.out) M0.out (Kd.C_below R1.out BL.out) M1.out).mono ?_; rintro e w_ ⟨he_, hb⟩; rw [v0] at he_; subst he_; clear zBG_0 zBG_1 zBH_0 zBH_1 zBM_0 zBM_1; replace BG := Lib.hid (blk_below BG.out hb); replace BL := Lib.hid (below_then BL.out BL.out.size hb); replace BH := Lib.hid (blk_below BH.out hb); replace BM := Lib.hid (blk_below BM.out hb); clear hb; obtain ⟨zBG_0, zBG_1⟩ := cell2 BG.out; obtain ⟨zBH_0, zBH_1⟩ := cell2 BH.out; obtain ⟨zBM_0, zBM_1⟩ := cell2 BM.out))
  go_wp2_with (first
   | (go_at_call 20; refine (ref05_Valid.calls0 A2 c2 l2 A3 c3 l3 _ (Kd.C_below R2.out BL.out) M2.out (Kd.C_below R3.out BL.out) M3.out).mono ?_; rintro e w_ ⟨he_, hb⟩; rw [he] at he_; subst he_; clear zBG_0 zBG_1 zBH_0 zBH_1 zBM_0 zBM_1; replace BG := Lib.hid (blk_below BG.out hb); replace BL := Lib.hid (below_then BL.out BL.out.size hb); replace BH := Lib.hid (blk_below BH.out hb); replace BM := Lib.hid (blk_below BM.out hb); clear hb; obtain ⟨zBG_0, zBG_1⟩ := cell2 BG.out; obtain ⟨zBH_0, zBH_1⟩ := cell2 BH.out; obtain ⟨zBM_0, zBM_1⟩ := cell2 BM.out))
  repeat (go_quiet (fail); try go_wp2)
  exact bodyPost_ret (v := .int .i64 res) (by simp [results, Try.f47, go_sem]) rfl ⟨rfl, by first | exact BL.out | exact pw_below_drewN BL.out _ | exact pw_below_drewN (pw_below_drewN BL.out _) _⟩
 ·skip
  go_upto_region 4 with (first
   | (go_at_call 20; refine (ref05_Valid.calls0 A0 c0 l0 A1 c1 l1 _ (Kd.C_below R0.out BL.out) M0.out (Kd.C_below R1.out BL.out) M1.out).mono ?_; rintro e w_ ⟨he_, hb⟩; rw [v0] at he_; subst he_; clear zBG_0 zBG_1 zBH_0 zBH_1 zBM_0 zBM_1; replace BG := Lib.hid (blk_below BG.out hb); replace BL := Lib.hid (below_then BL.out BL.out.size hb); replace BH := Lib.hid (blk_below BH.out hb); replace BM := Lib.hid (blk_below BM.out hb); clear hb; obtain ⟨zBG_0, zBG_1⟩ := cell2 BG.out; obtain ⟨zBH_0, zBH_1⟩ := cell2 BH.out; obtain ⟨zBM_0, zBM_1⟩ := cell2 BM.out))
  go_upto_region 7 with (first
   | (go_at_call 20; refine (ref05_Valid.calls0 A2 c2 l2 A3 c3 l3 _ (Kd.C_below R2.out BL.out) M2.out (Kd.C_below R3.out BL.out) M3.out).mono ?_; rintro e w_ ⟨he_, hb⟩; rw [v2] at he_; subst he_; clear zBG_0 zBG_1 zBH_0 zBH_1 zBM_0 zBM_1; replace BG := Lib.hid (blk_below BG.out hb); replace BL := Lib.hid (below_then BL.out BL.out.size hb); replace BH := Lib.hid (blk_below BH.out hb); replace BM := Lib.hid (blk_below BM.out hb); clear hb; obtain ⟨zBG_0, zBG_1⟩ := cell2 BG.out; obtain ⟨zBH_0, zBH_1⟩ := cell2 BH.out; obtain ⟨zBM_0, zBM_1⟩ := cell2 BM.out))
  by_cases e4 : l4.length = l0.length
  ·have e5 : l5.length ≠ l1.length := hne.resolve_left (fun q => q e4)
   have d4 : ((l4.length : Int) != (l0.length : Int)) = false := by simp [e4]
   have d6 : decide ((l4.length : Int) = (l0.length : Int)) = true := decide_eq_true (by omega)
   have d5 : ((l5.length : Int) != (l1.length : Int)) = true := by simp; omega
   have d7 : decide ((l5.length : Int) = (l1.length : Int)) = false := decide_eq_false (by omega)
   go_wp2
   repeat (go_quiet (fail); try go_wp2)
   exact bodyPost_ret (v := .int .i64 20) (by simp [results, Try.f47, go_sem]) rfl ⟨rfl, by first | exact BL.out | exact pw_below_drewN BL.out _ | exact pw_below_drewN (pw_below_drewN BL.out _) _⟩
  ·have d4 : ((l4.length : Int) != (l0.length : Int)) = true := by simp; omega
   have d6 : decide ((l4.length : Int) = (l0.length : Int)) = false := decide_eq_false (by omega)
   go_wp2
   repeat (go_quiet (fail); try go_wp2)
   exact bodyPost_ret (v := .int .i64 20) (by simp [results, Try.f47, go_sem]) rfl ⟨rfl, by first | exact BL.out | exact pw_below_drewN BL.out _ | exact pw_below_drewN (pw_below_drewN BL.out _) _⟩
def scarfjointref06_Valid.f (l0_0 : List Int) (l0_1 : List S78) (l1_0 : List Int) (l1_1 : List S78) (l2_0 l2_1 : List Int) : Option Int := some (morphE l0_0 l0_1 l1_0 l1_1 l2_0 l2_1)
theorem scarfjointref06_Valid.calls (A0_0 : Option Addr) (c0_0 : Nat) (l0_0 : List Int) (A0_1 : Option Addr) (c0_1 : Nat) (l0_1 : List (S78)) (A1_0 : Option Addr) (c1_0 : Nat) (l1_0 : List Int) (A1_1 : Option Addr) (c1_1 : Nat) (l1_1 : List (S78)) (A2_0 : Option Addr) (c2_0 : Nat) (l2_0 : List Int) (A2_1 : Option Addr) (c2_1 : Nat) (l2_1 : List Int) (r : Int) (w : World) (hr0_0 : Kd.C (Kd.int .i64) w A0_0 l0_0.length l0_0) (hc0_0 : l0_0.length ≤ c0_0) (hr0_1 : Kd.C (k78) w A0_1 l0_1.length l0_1) (hc0_1 : l0_1.length ≤ c0_1) (hr1_0 : Kd.C (Kd.int .i64) w A1_0 l1_0.length l1_0) (hc1_0 : l1_0.length ≤ c1_0) (hr1_1 : Kd.C (k78) w A1_1 l1_1.length l1_1) (hc1_1 : l1_1.length ≤ c1_1) (hr2_0 : Kd.C (Kd.int .i64) w A2_0 l2_0.length l2_0) (hc2_0 : l2_0.length ≤ c2_0) (hr2_1 : Kd.C (Kd.int .i64) w A2_1 l2_1.length l2_1) (hc2_1 : l2_1.length ≤ c2_1) (h : scarfjointref06_Valid.f l0_0 l0_1 l1_0 l1_1 l2_0 l2_1 = some r) :
  Calls Try.prog 47 #[.agg #[.slice A0_0 l0_0.length c0_0, .slice A0_1 l0_1.length c0_1], .agg #[.slice A1_0 l1_0.length c1_0, .slice A1_1 l1_1.length c1_1], .agg #[.slice A2_0 l2_0.length c2_0, .slice A2_1 l2_1.length c2_1]] w fun e w' => e = .returned (.int .i64 r) ∧ Below w.heap.size w w' := by
 have h := Option.some.inj h; unfold morphE at h
 by_cases v0 : validB l0_0 l0_1 = 0
 ·rw [if_neg (fun q => q v0)] at h
  by_cases v2 : validB l1_0 l1_1 = 0
  ·rw [if_neg (fun q => q v2)] at h
   by_cases e : l2_0.length = l0_0.length ∧ l2_1.length = l0_1.length
   ·rw [if_pos e] at h
    exact scarfjointref06_Valid.ok A0_0 c0_0 l0_0 A0_1 c0_1 l0_1 A1_0 c1_0 l1_0 A1_1 c1_1 l1_1 A2_0 c2_0 l2_0 A2_1 c2_1 l2_1 w hr0_0 hc0_0 hr0_1 hc0_1 hr1_0 hc1_0 hr1_1 hc1_1 hr2_0 hc2_0 hr2_1 hc2_1 v0 v2 e.1 e.2 r h
   ·rw [if_neg e] at h
    exact scarfjointref06_Valid.err A0_0 c0_0 l0_0 A0_1 c0_1 l0_1 A1_0 c1_0 l1_0 A1_1 c1_1 l1_1 A2_0 c2_0 l2_0 A2_1 c2_1 l2_1 w hr0_0 hc0_0 hr0_1 hc0_1 hr1_0 hc1_0 hr1_1 hc1_1 hr2_0 hc2_0 hr2_1 hc2_1 r (.inr (.inr ⟨v0, v2, by omega, h.symm⟩))
  ·rw [if_pos v2] at h
   exact scarfjointref06_Valid.err A0_0 c0_0 l0_0 A0_1 c0_1 l0_1 A1_0 c1_0 l1_0 A1_1 c1_1 l1_1 A2_0 c2_0 l2_0 A2_1 c2_1 l2_1 w hr0_0 hc0_0 hr0_1 hc0_1 hr1_0 hc1_0 hr1_1 hc1_1 hr2_0 hc2_0 hr2_1 hc2_1 r (.inr (.inl ⟨v0, h, h ▸ v2⟩))
 ·rw [if_pos v0] at h
  exact scarfjointref06_Valid.err A0_0 c0_0 l0_0 A0_1 c0_1 l0_1 A1_0 c1_0 l1_0 A1_1 c1_1 l1_1 A2_0 c2_0 l2_0 A2_1 c2_1 l2_1 w hr0_0 hc0_0 hr0_1 hc0_1 hr1_0 hc1_0 hr1_1 hc1_1 hr2_0 hc2_0 hr2_1 hc2_1 r (.inl ⟨h, h ▸ v0⟩)
end Go.Proofs.Ytonipihlpbaknaa.Print

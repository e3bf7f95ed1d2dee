/- A part of the proof that the law returns true at every input; what the walked functions compute. -/
import Derived.Test.YtonipihlpbaknaaZAd0
import Derived.Test.YtonipihlpbaknaaZAd1
import Derived.Test.YtonipihlpbaknaaZAd2
import Derived.Test.YtonipihlpbaknaaZAd3
import Derived.Test.YtonipihlpbaknaaZAd4
import Derived.Test.YtonipihlpbaknaaZAd5
import Derived.Test.YtonipihlpbaknaaZAd6
namespace Go.Proofs.Ytonipihlpbaknaa.Print
set_option linter.unusedVariables false
set_option linter.unusedSimpArgs false
open Go.RowKit Go.Proofs.YtonipihlpbaknaaW.PrintWords Go.Proofs.YtonipihlpbaknaaW.PrintLast Go.Proofs.YtonipihlpbaknaaW.PrintMore
theorem at_R {α : Type} {d : Kd α} {e b : Nat} {ok : Nat → Prop} {w w' : World} {v : Value} {xs : List α} (hq : w = w') (h : d.R e w b ok v xs) : d.R e w' b ok v xs := hq ▸ h
theorem at_blk {w w' : World} {g : Nat} {o : Obj} (hq : w = w') (h : w.heap[g]? = some o) : w'.heap[g]? = some o := hq ▸ h
theorem at_bel {b : Nat} {u w w' : World} (hq : w = w') (h : Below b u w) : Below b u w' := hq ▸ h
/-- The error of the nodes of a morphism, of its edges. -/
def nodesE (a0 b0 : List Int) : Nat → List Int → Int
  | _, [] => 0
  | i, k :: r => if k < 0 ∨ (b0.length : Int) ≤ k then 6 else if rd b0 k = rd a0 i then nodesE a0 b0 (i + 1) r else 13
def edgesE (a1 b1 : List S78) (m0 : List Int) : Nat → List Int → Int
  | _, [] => 0
  | i, k :: r => if k < 0 ∨ (b1.length : Int) ≤ k then 6 else if (rd_T78 a1 i).f0 = (rd_T78 b1 k).f0 then (if rd m0 (rd_T78 a1 i).f1 = (rd_T78 b1 k).f1 ∧ rd m0 (rd_T78 a1 i).f2 = (rd_T78 b1 k).f2 then edgesE a1 b1 m0 (i + 1) r else 11) else 13
/-- The error of a morphism. -/
def morphE (l0 : List Int) (l1 : List S78) (l2 : List Int) (l3 : List S78) (l4 l5 : List Int) : Int :=
  if validB l0 l1 ≠ 0 then validB l0 l1 else if validB l2 l3 ≠ 0 then validB l2 l3 else if l4.length = l0.length ∧ l5.length = l1.length then (if nodesE l0 l2 0 l4 = 0 then edgesE l1 l3 l4 0 l5 else nodesE l0 l2 0 l4) else 20
set_option maxHeartbeats 4000000 in
set_option maxRecDepth 100000 in
theorem morphism_Valid.ok (A0 : Option Addr) (c0 : Nat) (l0 : List Int) (A1 : Option Addr) (c1 : Nat) (l1 : List S78) (A2 : Option Addr) (c2 : Nat) (l2 : List Int) (A3 : Option Addr) (c3 : Nat) (l3 : List S78) (A4 : Option Addr) (c4 : Nat) (l4 : List Int) (A5 : Option Addr) (c5 : Nat) (l5 : List Int) (w : World)
  (r0 : Kd.C (Kd.int .i64) w A0 l0.length l0) (m0 : l0.length ≤ c0) (r1 : Kd.C (k78) w A1 l1.length l1) (m1 : l1.length ≤ c1) (r2 : Kd.C (Kd.int .i64) w A2 l2.length l2) (m2 : l2.length ≤ c2) (r3 : Kd.C (k78) w A3 l3.length l3) (m3 : l3.length ≤ c3) (r4 : Kd.C (Kd.int .i64) w A4 l4.length l4) (m4 : l4.length ≤ c4) (r5 : Kd.C (Kd.int .i64) w A5 l5.length l5) (m5 : l5.length ≤ c5)
  (v0 : validB l0 l1 = 0) (v2 : validB l2 l3 = 0) (e4 : l4.length = l0.length) (e5 : l5.length = l1.length) (res : Int) (hres : (if nodesE l0 l2 0 l4 = 0 then edgesE l1 l3 l4 0 l5 else nodesE l0 l2 0 l4) = res) :
  Calls Try.prog 80 #[.agg #[.slice A0 l0.length c0, .slice A1 l1.length c1], .agg #[.slice A2 l2.length c2, .slice A3 l3.length c3], .agg #[.slice A4 l4.length c4, .slice A5 l5.length c5]] w fun e w' => e = .returned (.int .i64 res) ∧ Below w.heap.size w w' := by
 have hu25 := Try.underlying25; have hu51 := Try.underlying51; have hm4 := Kd.C_max r4; have hm5 := Kd.C_max r5; have R0 := Lib.hid r0; have R1 := Lib.hid r1; have R2 := Lib.hid r2; have R3 := Lib.hid r3; have R4 := Lib.hid r4; have R5 := Lib.hid r5; clear r0 r1 r2 r3 r4 r5 m0 m1 m2 m3 m4 m5; have V0 := Lib.hid v0; have HS := Lib.hid hres; clear hres; have E4 := Lib.hid e4; have E5 := Lib.hid e5
 have d4 : ((l4.length : Int) != (l0.length : Int)) = false := by simp [e4]
 have d5 : ((l5.length : Int) != (l1.length : Int)) = false := by simp [e5]
 have d6 : decide ((l4.length : Int) = (l0.length : Int)) = true := decide_eq_true (by omega); have d7 : decide ((l5.length : Int) = (l1.length : Int)) = true := decide_eq_true (by omega); clear e4 e5
 go_enter Try.func80, Try.ntmps80
 go_upto_region 1 with (first
  | ((with_reducible refine gate_dst (N := 3) rfl ?_); (try (refine gate_guard (by rfl) ?_; dsimp only)); refine box_event ?hg (N := 3) ?hd (cs := #[.slice A0 l0.length c0, .slice A1 l1.length c1]) (t := 25) ?hr ?_; (case hd => rfl); (case hg => rfl); (case hr => first | (go_simp; done) | (go_simp; rfl)); intro g hg w_ hbox hb; have HG : w.heap.size ≤ g := (hg ▸ Nat.le_refl _); have BG := Lib.hid hbox; have BL := Lib.hid hb; clear hg hbox hb)
  | ((with_reducible refine gate_dst (N := 4) rfl ?_); (try (refine gate_guard (by rfl) ?_; dsimp only)); refine box_event ?hg (N := 4) ?hd (cs := #[.slice A2 l2.length c2, .slice A3 l3.length c3]) (t := 25) ?hr ?_; (case hd => rfl); (case hg => rfl); (case hr => first | (go_simp; done) | (go_simp; rfl)); intro h hg w_ hbox hb; have HH : g < h := (hg ▸ blk_lt BG.out); replace BG := Lib.hid (blk_below BG.out hb); replace BL := Lib.hid (below_then BL.out BL.out.size hb); have BH := Lib.hid hbox; clear hg hbox hb)
  | ((with_reducible refine gate_dst (N := 5) rfl ?_); (try (refine gate_guard (by rfl) ?_; dsimp only)); refine box_event ?hg (N := 5) ?hd (cs := #[.slice A4 l4.length c4, .slice A5 l5.length c5]) (t := 51) ?hr ?_; (case hd => rfl); (case hg => rfl); (case hr => first | (go_simp; done) | (go_simp; rfl)); intro m hg w_ hbox hb; have HM : h < m := (hg ▸ blk_lt BH.out); replace BG := Lib.hid (blk_below BG.out hb); replace BL := Lib.hid (below_then BL.out BL.out.size hb); replace BH := Lib.hid (blk_below BH.out hb); have BM := Lib.hid hbox; clear hg hbox hb))
 obtain ⟨zBG_0, zBG_1⟩ := cell2 BG.out; obtain ⟨zBH_0, zBH_1⟩ := cell2 BH.out; obtain ⟨zBM_0, zBM_1⟩ := cell2 BM.out
 go_upto_region 4 with (first
  | (go_at_call 53; refine (graph_Valid.calls0 A0 c0 l0 A1 c1 l1 _ (Kd.C_below R0.out BL.out) (Kd.C_below R1.out BL.out)).mono ?_; rintro e w_ ⟨he_, hb⟩; rw [v0] at he_; subst he_; clear zBG_0 zBG_1 zBH_0 zBH_1 zBM_0 zBM_1; replace BG := Lib.hid (blk_below BG.out hb); replace BL := Lib.hid (below_then BL.out BL.out.size hb); replace BH := Lib.hid (blk_below BH.out hb); replace BM := Lib.hid (blk_below BM.out hb); clear hb; obtain ⟨zBG_0, zBG_1⟩ := cell2 BG.out; obtain ⟨zBH_0, zBH_1⟩ := cell2 BH.out; obtain ⟨zBM_0, zBM_1⟩ := cell2 BM.out))
 go_upto_region 9 with (first
  | (go_at_call 53; refine (graph_Valid.calls0 A2 c2 l2 A3 c3 l3 _ (Kd.C_below R2.out BL.out) (Kd.C_below R3.out BL.out)).mono ?_; rintro e w_ ⟨he_, hb⟩; rw [v2] at he_; subst he_; clear zBG_0 zBG_1 zBH_0 zBH_1 zBM_0 zBM_1; replace BG := Lib.hid (blk_below BG.out hb); replace BL := Lib.hid (below_then BL.out BL.out.size hb); replace BH := Lib.hid (blk_below BH.out hb); replace BM := Lib.hid (blk_below BM.out hb); clear hb; obtain ⟨zBG_0, zBG_1⟩ := cell2 BG.out; obtain ⟨zBH_0, zBH_1⟩ := cell2 BH.out; obtain ⟨zBM_0, zBM_1⟩ := cell2 BM.out))
 clear zBG_0 zBG_1 zBH_0 zBH_1 zBM_0 zBM_1; have HL := Lib.hid (BL.out); obtain ⟨zM0, zM1⟩ := cell2 BM.out
 go_wp2
 go_loopg [44] l4.length (fun gg v44 wr => ∃ i : Nat, i ≤ l4.length ∧ l4.length - i ≤ gg ∧ v44 = .int .i64 (i : Nat) ∧ Aside0 (nodesE l0 l2 i (l4.drop i) = nodesE l0 l2 0 l4) ∧ Aside0 (Bk wr g 25 (.slice A0 l0.length c0) (.slice A1 l1.length c1)) ∧ Aside0 (Bk wr h 25 (.slice A2 l2.length c2) (.slice A3 l3.length c3)) ∧ Aside0 (Bk wr m 51 (.slice A4 l4.length c4) (.slice A5 l5.length c5)) ∧ Aside0 (Below w.heap.size w wr))
 case atStart => exact ⟨0, Nat.zero_le _, by omega, rfl, ⟨rfl⟩, ⟨BG.out⟩, ⟨BH.out⟩, ⟨BM.out⟩, ⟨BL.out⟩⟩
 case round =>
  clear zM0 zM1 BG BH BM BL HL; obtain ⟨i, hi, hg, rfl, EN, BG, BH, BM, BL⟩ := hrel; obtain ⟨zG0, zG1⟩ := cell2 BG.out; obtain ⟨zH0, zH1⟩ := cell2 BH.out; obtain ⟨zM0, zM1⟩ := cell2 BM.out
  by_cases hlt : i < l4.length
  ·obtain ⟨ad4, rfl, x4⟩ := Kd.at_int R4.out (i : Int) (by omega) (by omega)
   replace x4 := (BL.out.cell (World.block_lt_of_cell? w _ x4)).trans x4; simp only [Int.toNat_natCast] at x4
   have hlz : (i : Int) < (l4.length : Int) := by omega
   have hl0 : (i : Int) < (l0.length : Int) := by have := E4.out; omega
   have E1 : l4.drop i = rd l4 (i : Int) :: l4.drop (i + 1) := by rw [List.drop_eq_getElem_cons hlt, rd_get l4 i hlt]
   have E2 := EN.out; rw [E1, nodesE] at E2; generalize rd l4 (i : Int) = k at x4 E2; have E3 := Lib.hid E2; clear E1 E2 EN
   by_cases h0 : k < 0
   ·have E6 : nodesE l0 l2 0 l4 = 6 := by rw [← E3.out, if_pos (.inl h0)]
    have E7 := Lib.hid E6; clear E3 E6
    go_wp2
    repeat (go_quiet (fail); try go_wp2)
    exact bodyPost_ret (v := .int .i64 6) (by simp [results, Try.f80, go_sem]) rfl ⟨by rw [← HS.out, E7.out, if_neg (by decide)], by first | exact BL.out | exact pw_below_drewN BL.out _ | exact pw_below_drewN (pw_below_drewN BL.out _) _⟩
   ·by_cases h1 : (l2.length : Int) ≤ k
    ·have E6 : nodesE l0 l2 0 l4 = 6 := by rw [← E3.out, if_pos (.inr h1)]
     have E7 := Lib.hid E6; clear E3 E6
     go_wp2
     repeat (go_quiet (fail); try go_wp2)
     exact bodyPost_ret (v := .int .i64 6) (by simp [results, Try.f80, go_sem]) rfl ⟨by rw [← HS.out, E7.out, if_neg (by decide)], by first | exact BL.out | exact pw_below_drewN BL.out _ | exact pw_below_drewN (pw_below_drewN BL.out _) _⟩
    ·obtain ⟨ad2, rfl, x2⟩ := Kd.at_int R2.out k (by omega) (by omega)
     replace x2 := (BL.out.cell (World.block_lt_of_cell? w _ x2)).trans x2; obtain ⟨ad0, rfl, x0⟩ := Kd.at_int R0.out (i : Int) (by omega) (by have := E4.out; omega); replace x0 := (BL.out.cell (World.block_lt_of_cell? w _ x0)).trans x0; simp only [Int.toNat_natCast] at x0
     have h1' : k < (l2.length : Int) := by omega
     have h0' : 0 ≤ k := by omega
     by_cases hq : rd l2 k = rd l0 (i : Int)
     ·have E6 : nodesE l0 l2 (i + 1) (l4.drop (i + 1)) = nodesE l0 l2 0 l4 := by rw [← E3.out, if_neg (by omega), if_pos hq]
      clear E3; have E7 := Lib.hid E6; clear E6
      have q1 : (rd l2 k != rd l0 (i : Int)) = false := by simp [hq]
      have q2 : decide (rd l2 k = rd l0 (i : Int)) = true := decide_eq_true hq
      go_wp2
      repeat (go_quiet (fail); try go_wp2)
      go_roundg (l4.length - (i + 1))
      case measure => omega
      case rel => exact ⟨i + 1, by omega, by omega, by go_num, ⟨E7.out⟩, ⟨by first | exact BG.out | exact blk_drewN BG.out _ | exact blk_drewN (blk_drewN BG.out _) _⟩, ⟨by first | exact BH.out | exact blk_drewN BH.out _ | exact blk_drewN (blk_drewN BH.out _) _⟩, ⟨by first | exact BM.out | exact blk_drewN BM.out _ | exact blk_drewN (blk_drewN BM.out _) _⟩, ⟨by first | exact BL.out | exact pw_below_drewN BL.out _ | exact pw_below_drewN (pw_below_drewN BL.out _) _⟩⟩
     ·have E6 : nodesE l0 l2 0 l4 = 13 := by rw [← E3.out, if_neg (by omega), if_neg hq]
      have E7 := Lib.hid E6; clear E3 E6
      have q1 : (rd l2 k != rd l0 (i : Int)) = true := by simp [hq]
      have q2 : decide (rd l2 k = rd l0 (i : Int)) = false := decide_eq_false hq
      go_wp2
      repeat (go_quiet (fail); try go_wp2)
      exact bodyPost_ret (v := .int .i64 13) (by simp [results, Try.f80, go_sem]) rfl ⟨by rw [← HS.out, E7.out, if_neg (by decide)], by first | exact BL.out | exact pw_below_drewN BL.out _ | exact pw_below_drewN (pw_below_drewN BL.out _) _⟩
  ·have hlz : ¬ (i : Int) < (l4.length : Int) := by omega
   have hl0 : ¬ (i : Int) < (l0.length : Int) := by have := E4.out; omega
   have E6 : nodesE l0 l2 0 l4 = 0 := by
    have := EN.out; rw [List.drop_of_length_le (by omega), nodesE] at this; exact this.symm
   have E7 := Lib.hid E6; clear EN E6
   go_wp2
   go_loopg [73] l5.length (fun gg v73 wr => ∃ i : Nat, i ≤ l5.length ∧ l5.length - i ≤ gg ∧ v73 = .int .i64 (i : Nat) ∧ Aside0 (edgesE l1 l3 l4 i (l5.drop i) = edgesE l1 l3 l4 0 l5) ∧ Aside0 (Bk wr g 25 (.slice A0 l0.length c0) (.slice A1 l1.length c1)) ∧ Aside0 (Bk wr h 25 (.slice A2 l2.length c2) (.slice A3 l3.length c3)) ∧ Aside0 (Bk wr m 51 (.slice A4 l4.length c4) (.slice A5 l5.length c5)) ∧ Aside0 (Below w.heap.size w wr))
   case atStart => exact ⟨0, Nat.zero_le _, by omega, rfl, ⟨rfl⟩, ⟨BG.out⟩, ⟨BH.out⟩, ⟨BM.out⟩, ⟨BL.out⟩⟩
   case round =>
    clear zG0 zG1 zH0 zH1 zM0 zM1 BG BH BM BL hlz hi hg; obtain ⟨i, hi, hg, rfl, EN, BG, BH, BM, BL⟩ := hrel; obtain ⟨zG0, zG1⟩ := cell2 BG.out; obtain ⟨zH0, zH1⟩ := cell2 BH.out; obtain ⟨zM0, zM1⟩ := cell2 BM.out
    by_cases hlt : i < l5.length
    ·obtain ⟨ad5, rfl, x5⟩ := Kd.at_int R5.out (i : Int) (by omega) (by omega)
     simp only [Int.toNat_natCast] at x5; have PX := Lib.hid x5; replace x5 := (BL.out.cell (World.block_lt_of_cell? w _ x5)).trans x5
     have hlz : (i : Int) < (l5.length : Int) := by omega
     have hl1 : (i : Int) < (l1.length : Int) := by have := E5.out; omega
     have E1 : l5.drop i = rd l5 (i : Int) :: l5.drop (i + 1) := by rw [List.drop_eq_getElem_cons hlt, rd_get l5 i hlt]
     have E2 := EN.out; rw [E1, edgesE] at E2; generalize rd l5 (i : Int) = k at x5 PX E2; have E3 := Lib.hid E2; clear E1 E2 EN
     by_cases h0 : k < 0
     ·have E6 : edgesE l1 l3 l4 0 l5 = 6 := by rw [← E3.out, if_pos (.inl h0)]
      have E8 := Lib.hid E6; clear E3 E6
      go_wp2
      repeat (go_quiet (fail); try go_wp2)
      exact bodyPost_ret (v := .int .i64 6) (by simp [results, Try.f80, go_sem]) rfl ⟨by rw [← HS.out, if_pos E7.out, E8.out], by first | exact BL.out | exact pw_below_drewN BL.out _ | exact pw_below_drewN (pw_below_drewN BL.out _) _⟩
     ·by_cases h1 : (l3.length : Int) ≤ k
      ·have E6 : edgesE l1 l3 l4 0 l5 = 6 := by rw [← E3.out, if_pos (.inr h1)]
       have E8 := Lib.hid E6; clear E3 E6
       go_wp2
       repeat (go_quiet (fail); try go_wp2)
       exact bodyPost_ret (v := .int .i64 6) (by simp [results, Try.f80, go_sem]) rfl ⟨by rw [← HS.out, if_pos E7.out, E8.out], by first | exact BL.out | exact pw_below_drewN BL.out _ | exact pw_below_drewN (pw_below_drewN BL.out _) _⟩
      ·have h1' : k < (l3.length : Int) := by omega
       have h0' : 0 ≤ k := by omega
       obtain ⟨ad1, rfl, a0_, a1_, a2_⟩ := at_T78 R1.out (i : Int) (by omega) (by have := E5.out; omega); obtain ⟨ad3, rfl, b0_, b1_, b2_⟩ := at_T78 R3.out k (by omega) (by omega); simp only [Int.toNat_natCast] at a0_ a1_ a2_; have PA0 := Lib.hid a0_; have PA1 := Lib.hid a1_; have PA2 := Lib.hid a2_; have PB0 := Lib.hid b0_; have PB1 := Lib.hid b1_; have PB2 := Lib.hid b2_; clear a0_ a1_ a2_ b0_ b1_ b2_
       go_upto_region 22 with fail
       clear zG0 zG1 zH0 zH1 zM0 zM1; replace BG := Lib.hid (blk_drew BG.out); replace BH := Lib.hid (blk_drew BH.out); replace BM := Lib.hid (blk_drew BM.out); replace BL := Lib.hid (below_drew1 BL.out)
       refine start_ (n := 14) (S := fun w' => w'.cell? ⟨g, 1, none⟩ = some (.slice (some ad1) l1.length c1) ∧ w'.cell? ⟨h, 1, none⟩ = some (.slice (some ad3) l3.length c3) ∧ w'.cell? (ad1.add (i * 3)) = some (.int .i64 (rd_T78 l1 (i : Int)).f0) ∧ w'.cell? (⟨(ad1.add (i * 3)).block, (ad1.add (i * 3)).off + 1, none⟩) = some (.int .i64 (rd_T78 l1 (i : Int)).f1) ∧ w'.cell? (⟨(ad1.add (i * 3)).block, (ad1.add (i * 3)).off + 2, none⟩) = some (.int .i64 (rd_T78 l1 (i : Int)).f2) ∧ w'.cell? (ad3.add (k.toNat * 3)) = some (.int .i64 (rd_T78 l3 k).f0) ∧ w'.cell? (⟨(ad3.add (k.toNat * 3)).block, (ad3.add (k.toNat * 3)).off + 1, none⟩) = some (.int .i64 (rd_T78 l3 k).f1) ∧ w'.cell? (⟨(ad3.add (k.toNat * 3)).block, (ad3.add (k.toNat * 3)).off + 2, none⟩) = some (.int .i64 (rd_T78 l3 k).f2)) (ds := []) #[false, false, false, false, false, false, false, false, false, false, false, false, false, false] (by kernel_rfl) rfl rfl ⟨(cell2 BG.out).2, (cell2 BH.out).2, (BL.out.cell (World.block_lt_of_cell? w _ PA0.out)).trans PA0.out, (BL.out.cell (World.block_lt_of_cell? w _ PA1.out)).trans PA1.out, (BL.out.cell (World.block_lt_of_cell? w _ PA2.out)).trans PA2.out, (BL.out.cell (World.block_lt_of_cell? w _ PB0.out)).trans PB0.out, (BL.out.cell (World.block_lt_of_cell? w _ PB1.out)).trans PB1.out, (BL.out.cell (World.block_lt_of_cell? w _ PB2.out)).trans PB2.out⟩ (fun hHeld => ?_)
       refine pure_ (i := 0) (N := some 87) (v := ?_) (a' := ?_) #[true, false, false, false, false, false, false, false, false, false, false, false, false, false] rfl rfl (by kernel_rfl) (fun _ _ _ h => h) (Or.inl ⟨by rfl, ?_⟩) ?_ ?_
       rotate_left
       ·intro w'
        go_simp
        with_reducible rfl
       rotate_left
       ·simp only [Act.put, sI_, s0_, sS_, i64_w, i32_w]
        rfl
       refine take_ (i := 1) (N := some 88) (v := ?_) (a' := ?_) #[true, true, false, false, false, false, false, false, false, false, false, false, false, false] rfl rfl (by kernel_rfl) (fun _ _ _ h => h) (Or.inl ⟨by rfl, ?_⟩) hHeld ?_ ?_
       rotate_left
       ·rintro w' ⟨s0, s1, s2, s3, s4, s5, s6, s7⟩
        go_simp
        with_reducible rfl
       rotate_left
       ·simp only [Act.put, sI_, s0_, sS_, i64_w, i32_w]
        rfl
       refine pure_ (i := 2) (N := some 89) (v := ?_) (a' := ?_) #[true, true, true, false, false, false, false, false, false, false, false, false, false, false] rfl rfl (by kernel_rfl) (fun _ _ _ h => h) (Or.inl ⟨by rfl, ?_⟩) ?_ ?_
       rotate_left
       ·intro w'
        go_simp
        with_reducible rfl
       rotate_left
       ·simp only [Act.put, sI_, s0_, sS_, i64_w, i32_w]
        rfl
       refine pure_ (i := 3) (N := some 90) (v := ?_) (a' := ?_) #[true, true, true, true, false, false, false, false, false, false, false, false, false, false] rfl rfl (by kernel_rfl) (fun _ _ _ h => h) (Or.inl ⟨by rfl, ?_⟩) ?_ ?_
       rotate_left
       ·intro w'
        go_simp
        with_reducible rfl
       rotate_left
       ·simp only [Act.put, sI_, s0_, sS_, i64_w, i32_w]
        rfl
       refine take_ (i := 4) (N := some 91) (v := ?_) (a' := ?_) #[true, true, true, true, true, false, false, false, false, false, false, false, false, false] rfl rfl (by kernel_rfl) (fun _ _ _ h => h) (Or.inl ⟨by rfl, ?_⟩) hHeld ?_ ?_
       rotate_left
       ·rintro w' ⟨s0, s1, s2, s3, s4, s5, s6, s7⟩
        go_simp
        with_reducible rfl
       rotate_left
       ·simp only [Act.put, sI_, s0_, sS_, i64_w, i32_w]
        rfl
       refine pure_ (i := 5) (N := some 92) (v := ?_) (a' := ?_) #[true, true, true, true, true, true, false, false, false, false, false, false, false, false] rfl rfl (by kernel_rfl) (fun _ _ _ h => h) (Or.inl ⟨by rfl, ?_⟩) ?_ ?_
       rotate_left
       ·intro w'
        go_simp
        with_reducible rfl
       rotate_left
       ·simp only [Act.put, sI_, s0_, sS_, i64_w, i32_w]
        rfl
       refine take_ (i := 6) (N := some 93) (v := ?_) (a' := ?_) #[true, true, true, true, true, true, true, false, false, false, false, false, false, false] rfl rfl (by kernel_rfl) (fun _ _ _ h => h) (Or.inl ⟨by rfl, ?_⟩) hHeld ?_ ?_
       rotate_left
       ·rintro w' ⟨s0, s1, s2, s3, s4, s5, s6, s7⟩
        go_simp
        with_reducible rfl
       rotate_left
       ·simp only [Act.put, sI_, s0_, sS_, i64_w, i32_w]
        rfl
       refine pure_ (i := 7) (N := some 94) (v := ?_) (a' := ?_) #[true, true, true, true, true, true, true, true, false, false, false, false, false, false] rfl rfl (by kernel_rfl) (fun _ _ _ h => h) (Or.inl ⟨by rfl, ?_⟩) ?_ ?_
       rotate_left
       ·intro w'
        go_simp
        with_reducible rfl
       rotate_left
       ·simp only [Act.put, sI_, s0_, sS_, i64_w, i32_w]
        rfl
       refine pure_ (i := 8) (N := some 95) (v := ?_) (a' := ?_) #[true, true, true, true, true, true, true, true, true, false, false, false, false, false] rfl rfl (by kernel_rfl) (fun _ _ _ h => h) (Or.inl ⟨by rfl, ?_⟩) ?_ ?_
       rotate_left
       ·intro w'
        go_simp
        with_reducible rfl
       rotate_left
       ·simp only [Act.put, sI_, s0_, sS_, i64_w, i32_w]
        rfl
       refine take_ (i := 9) (N := some 96) (v := ?_) (a' := ?_) #[true, true, true, true, true, true, true, true, true, true, false, false, false, false] rfl rfl (by kernel_rfl) (fun _ _ _ h => h) (Or.inl ⟨by rfl, ?_⟩) hHeld ?_ ?_
       rotate_left
       ·rintro w' ⟨s0, s1, s2, s3, s4, s5, s6, s7⟩
        go_simp
        with_reducible rfl
       rotate_left
       ·simp only [Act.put, sI_, s0_, sS_, i64_w, i32_w]
        rfl
       refine join_ (σ := Nat × Nat) 2 #[true, true, true, true, true, true, true, true, true, true, true, true, false, false] (fun s_ => [(13, .pointer (some ⟨s_.1, 0, none⟩)), (14, .pointer (some ⟨s_.2, 0, none⟩))]) (fun s_ w' => (w'.cell? ⟨g, 1, none⟩ = some (.slice (some ad1) l1.length c1) ∧ w'.cell? ⟨h, 1, none⟩ = some (.slice (some ad3) l3.length c3) ∧ w'.cell? (ad1.add (i * 3)) = some (.int .i64 (rd_T78 l1 (i : Int)).f0) ∧ w'.cell? (⟨(ad1.add (i * 3)).block, (ad1.add (i * 3)).off + 1, none⟩) = some (.int .i64 (rd_T78 l1 (i : Int)).f1) ∧ w'.cell? (⟨(ad1.add (i * 3)).block, (ad1.add (i * 3)).off + 2, none⟩) = some (.int .i64 (rd_T78 l1 (i : Int)).f2) ∧ w'.cell? (ad3.add (k.toNat * 3)) = some (.int .i64 (rd_T78 l3 k).f0) ∧ w'.cell? (⟨(ad3.add (k.toNat * 3)).block, (ad3.add (k.toNat * 3)).off + 1, none⟩) = some (.int .i64 (rd_T78 l3 k).f1) ∧ w'.cell? (⟨(ad3.add (k.toNat * 3)).block, (ad3.add (k.toNat * 3)).off + 2, none⟩) = some (.int .i64 (rd_T78 l3 k).f2)) ∧ (m < s_.1) ∧ (m < s_.2) ∧ (s_.1 ≠ s_.2) ∧ (w'.heap[g]? = some (.cells #[.slice A0 l0.length c0, .slice (some ad1) l1.length c1] 25 (0, 0))) ∧ (w'.heap[h]? = some (.cells #[.slice A2 l2.length c2, .slice (some ad3) l3.length c3] 25 (0, 0))) ∧ (w'.heap[m]? = some (.cells #[.slice A4 l4.length c4, .slice (some ad5) l5.length c5] 51 (0, 0))) ∧ (Below w.heap.size w w') ∧ (w'.heap[s_.1]? = some (.cells #[.int .i64 0, .int .i64 0, .int .i64 0] 78 (0, 0))) ∧ (w'.heap[s_.2]? = some (.cells #[.int .i64 0, .int .i64 0, .int .i64 0] 78 (0, 0)))) ?_ ?_
       rotate_left
       ·intro J0_3
        refine join_ (σ := Nat) 3 #[true, true, true, true, true, true, true, true, true, true, false, true, false, false] (fun s_ => [(14, .pointer (some ⟨s_, 0, none⟩))]) (fun s_ w' => (w'.cell? ⟨g, 1, none⟩ = some (.slice (some ad1) l1.length c1) ∧ w'.cell? ⟨h, 1, none⟩ = some (.slice (some ad3) l3.length c3) ∧ w'.cell? (ad1.add (i * 3)) = some (.int .i64 (rd_T78 l1 (i : Int)).f0) ∧ w'.cell? (⟨(ad1.add (i * 3)).block, (ad1.add (i * 3)).off + 1, none⟩) = some (.int .i64 (rd_T78 l1 (i : Int)).f1) ∧ w'.cell? (⟨(ad1.add (i * 3)).block, (ad1.add (i * 3)).off + 2, none⟩) = some (.int .i64 (rd_T78 l1 (i : Int)).f2) ∧ w'.cell? (ad3.add (k.toNat * 3)) = some (.int .i64 (rd_T78 l3 k).f0) ∧ w'.cell? (⟨(ad3.add (k.toNat * 3)).block, (ad3.add (k.toNat * 3)).off + 1, none⟩) = some (.int .i64 (rd_T78 l3 k).f1) ∧ w'.cell? (⟨(ad3.add (k.toNat * 3)).block, (ad3.add (k.toNat * 3)).off + 2, none⟩) = some (.int .i64 (rd_T78 l3 k).f2)) ∧ (m < s_) ∧ (w'.heap[g]? = some (.cells #[.slice A0 l0.length c0, .slice (some ad1) l1.length c1] 25 (0, 0))) ∧ (w'.heap[h]? = some (.cells #[.slice A2 l2.length c2, .slice (some ad3) l3.length c3] 25 (0, 0))) ∧ (w'.heap[m]? = some (.cells #[.slice A4 l4.length c4, .slice (some ad5) l5.length c5] 51 (0, 0))) ∧ (Below w.heap.size w w') ∧ (w'.heap[s_]? = some (.cells #[.int .i64 0, .int .i64 0, .int .i64 0] 78 (0, 0)))) ?_ ?_
        rotate_left
        ·intro J0_2
         refine join_ (σ := Nat) 3 #[true, true, true, true, true, true, true, true, true, true, true, false, false, false] (fun s_ => [(13, .pointer (some ⟨s_, 0, none⟩))]) (fun s_ w' => (w'.cell? ⟨g, 1, none⟩ = some (.slice (some ad1) l1.length c1) ∧ w'.cell? ⟨h, 1, none⟩ = some (.slice (some ad3) l3.length c3) ∧ w'.cell? (ad1.add (i * 3)) = some (.int .i64 (rd_T78 l1 (i : Int)).f0) ∧ w'.cell? (⟨(ad1.add (i * 3)).block, (ad1.add (i * 3)).off + 1, none⟩) = some (.int .i64 (rd_T78 l1 (i : Int)).f1) ∧ w'.cell? (⟨(ad1.add (i * 3)).block, (ad1.add (i * 3)).off + 2, none⟩) = some (.int .i64 (rd_T78 l1 (i : Int)).f2) ∧ w'.cell? (ad3.add (k.toNat * 3)) = some (.int .i64 (rd_T78 l3 k).f0) ∧ w'.cell? (⟨(ad3.add (k.toNat * 3)).block, (ad3.add (k.toNat * 3)).off + 1, none⟩) = some (.int .i64 (rd_T78 l3 k).f1) ∧ w'.cell? (⟨(ad3.add (k.toNat * 3)).block, (ad3.add (k.toNat * 3)).off + 2, none⟩) = some (.int .i64 (rd_T78 l3 k).f2)) ∧ (m < s_) ∧ (w'.heap[g]? = some (.cells #[.slice A0 l0.length c0, .slice (some ad1) l1.length c1] 25 (0, 0))) ∧ (w'.heap[h]? = some (.cells #[.slice A2 l2.length c2, .slice (some ad3) l3.length c3] 25 (0, 0))) ∧ (w'.heap[m]? = some (.cells #[.slice A4 l4.length c4, .slice (some ad5) l5.length c5] 51 (0, 0))) ∧ (Below w.heap.size w w') ∧ (w'.heap[s_]? = some (.cells #[.int .i64 0, .int .i64 0, .int .i64 0] 78 (0, 0)))) ?_ ?_
         rotate_left
         ·intro J0_1
          refine two_ (i := 10) (j := 11) (Ni := some 13) (Nj := some 14) #[true, true, true, true, true, true, true, true, true, true, true, false, false, false] #[true, true, true, true, true, true, true, true, true, true, false, true, false, false] rfl rfl rfl rfl (by kernel_rfl) (by decide) (by decide) (fun K hK => ?_) (fun K hK => ?_)
          ·skip
           refine box_step ?hg (N := 13) ?hd (cs := #[.int .i64 0, .int .i64 0, .int .i64 0]) (t := 78) ?hr ?_; (case hd => rfl); (case hg => rfl); (case hr => first | (go_simp; done) | (go_simp; rfl))
           intro x hg w_ hbox hb
           have Hx : m < x := by rw [hg]; exact blk_lt BM.out
           replace BG := Lib.hid (blk_below BG.out hb); replace BH := Lib.hid (blk_below BH.out hb); replace BM := Lib.hid (blk_below BM.out hb); replace BL := Lib.hid (below_then BL.out BL.out.size hb); have BX := Lib.hid hbox; clear hg hbox hb
           refine hK.out _ _ ⟨(cell2 BG.out).2, (cell2 BH.out).2, (BL.out.cell (World.block_lt_of_cell? w _ PA0.out)).trans PA0.out, (BL.out.cell (World.block_lt_of_cell? w _ PA1.out)).trans PA1.out, (BL.out.cell (World.block_lt_of_cell? w _ PA2.out)).trans PA2.out, (BL.out.cell (World.block_lt_of_cell? w _ PB0.out)).trans PB0.out, (BL.out.cell (World.block_lt_of_cell? w _ PB1.out)).trans PB1.out, (BL.out.cell (World.block_lt_of_cell? w _ PB2.out)).trans PB2.out⟩ (fun hHeld => ?_)
           clear hK K
           refine norm_ (a' := ?_) ?_ ?_
           rotate_left
           ·show Act.put _ (some 13) _ = _
            simp only [Act.put, sI_, s0_, sS_, i64_w, i32_w]
            rfl
           exact norm_ (by first | (simp only [putAll, Act.put, sI_, s0_, sS_]; done) | (simp only [putAll, Act.put, sI_, s0_, sS_]; rfl)) (J0_1 x _ ⟨hHeld, Hx, BG.out, BH.out, BM.out, BL.out, BX.out⟩)
          ·skip
           refine box_step ?hg (N := 14) ?hd (cs := #[.int .i64 0, .int .i64 0, .int .i64 0]) (t := 78) ?hr ?_; (case hd => rfl); (case hg => rfl); (case hr => first | (go_simp; done) | (go_simp; rfl))
           intro y hg w_ hbox hb
           have Hy : m < y := by rw [hg]; exact blk_lt BM.out
           replace BG := Lib.hid (blk_below BG.out hb); replace BH := Lib.hid (blk_below BH.out hb); replace BM := Lib.hid (blk_below BM.out hb); replace BL := Lib.hid (below_then BL.out BL.out.size hb); have BY := Lib.hid hbox; clear hg hbox hb
           refine hK.out _ _ ⟨(cell2 BG.out).2, (cell2 BH.out).2, (BL.out.cell (World.block_lt_of_cell? w _ PA0.out)).trans PA0.out, (BL.out.cell (World.block_lt_of_cell? w _ PA1.out)).trans PA1.out, (BL.out.cell (World.block_lt_of_cell? w _ PA2.out)).trans PA2.out, (BL.out.cell (World.block_lt_of_cell? w _ PB0.out)).trans PB0.out, (BL.out.cell (World.block_lt_of_cell? w _ PB1.out)).trans PB1.out, (BL.out.cell (World.block_lt_of_cell? w _ PB2.out)).trans PB2.out⟩ (fun hHeld => ?_)
           clear hK K
           refine norm_ (a' := ?_) ?_ ?_
           rotate_left
           ·show Act.put _ (some 14) _ = _
            simp only [Act.put, sI_, s0_, sS_, i64_w, i32_w]
            rfl
           exact norm_ (by first | (simp only [putAll, Act.put, sI_, s0_, sS_]; done) | (simp only [putAll, Act.put, sI_, s0_, sS_]; rfl)) (J0_2 y _ ⟨hHeld, Hy, BG.out, BH.out, BM.out, BL.out, BY.out⟩)
         rintro x w_ ⟨hHeld, Hx, qBG, qBH, qBM, qBL, qBX⟩; replace Hx : m < x := Hx
         replace BG : Hid (w_.heap[g]? = some (.cells #[.slice A0 l0.length c0, .slice (some ad1) l1.length c1] 25 (0, 0))) := Lib.hid qBG; clear qBG
         replace BH : Hid (w_.heap[h]? = some (.cells #[.slice A2 l2.length c2, .slice (some ad3) l3.length c3] 25 (0, 0))) := Lib.hid qBH; clear qBH
         replace BM : Hid (w_.heap[m]? = some (.cells #[.slice A4 l4.length c4, .slice (some ad5) l5.length c5] 51 (0, 0))) := Lib.hid qBM; clear qBM
         replace BL : Hid (Below w.heap.size w w_) := Lib.hid qBL; clear qBL
         have BX : Hid (w_.heap[x]? = some (.cells #[.int .i64 0, .int .i64 0, .int .i64 0] 78 (0, 0))) := Lib.hid qBX; clear qBX
         refine norm_ (a' := ?_) ?_ ?_
         rotate_left
         ·simp only [putAll, Act.put, sI_, s0_, sS_]
          rfl
         refine one_ (i := 11) (N := some 14) #[true, true, true, true, true, true, true, true, true, true, true, true, false, false] rfl rfl (by kernel_rfl) (by decide) (fun K hK => ?_)
         refine box_step ?hg (N := 14) ?hd (cs := #[.int .i64 0, .int .i64 0, .int .i64 0]) (t := 78) ?hr ?_; (case hd => rfl); (case hg => rfl); (case hr => first | (go_simp; done) | (go_simp; rfl))
         intro y hg w_ hbox hb
         have Hy : m < y := by rw [hg]; exact blk_lt BM.out
         have Hxy : x ≠ y := by have q_ := blk_lt BX.out; rw [← hg] at q_; omega
         replace BG := Lib.hid (blk_below BG.out hb); replace BH := Lib.hid (blk_below BH.out hb); replace BM := Lib.hid (blk_below BM.out hb); replace BL := Lib.hid (below_then BL.out BL.out.size hb); replace BX := Lib.hid (blk_below BX.out hb); have BY := Lib.hid hbox; clear hg hbox hb
         refine hK.out _ _ ⟨(cell2 BG.out).2, (cell2 BH.out).2, (BL.out.cell (World.block_lt_of_cell? w _ PA0.out)).trans PA0.out, (BL.out.cell (World.block_lt_of_cell? w _ PA1.out)).trans PA1.out, (BL.out.cell (World.block_lt_of_cell? w _ PA2.out)).trans PA2.out, (BL.out.cell (World.block_lt_of_cell? w _ PB0.out)).trans PB0.out, (BL.out.cell (World.block_lt_of_cell? w _ PB1.out)).trans PB1.out, (BL.out.cell (World.block_lt_of_cell? w _ PB2.out)).trans PB2.out⟩ (fun hHeld => ?_)
         clear hK K
         refine norm_ (a' := ?_) ?_ ?_
         rotate_left
         ·show Act.put _ (some 14) _ = _
          simp only [Act.put, sI_, s0_, sS_, i64_w, i32_w]
          rfl
         exact norm_ (by first | (simp only [putAll, Act.put, sI_, s0_, sS_]; done) | (simp only [putAll, Act.put, sI_, s0_, sS_]; rfl)) (J0_3 (x, y) _ ⟨hHeld, Hx, Hy, Hxy, BG.out, BH.out, BM.out, BL.out, BX.out, BY.out⟩)
        rintro y w_ ⟨hHeld, Hy, qBG, qBH, qBM, qBL, qBY⟩; replace Hy : m < y := Hy
        replace BG : Hid (w_.heap[g]? = some (.cells #[.slice A0 l0.length c0, .slice (some ad1) l1.length c1] 25 (0, 0))) := Lib.hid qBG; clear qBG
        replace BH : Hid (w_.heap[h]? = some (.cells #[.slice A2 l2.length c2, .slice (some ad3) l3.length c3] 25 (0, 0))) := Lib.hid qBH; clear qBH
        replace BM : Hid (w_.heap[m]? = some (.cells #[.slice A4 l4.length c4, .slice (some ad5) l5.length c5] 51 (0, 0))) := Lib.hid qBM; clear qBM
        replace BL : Hid (Below w.heap.size w w_) := Lib.hid qBL; clear qBL
        have BY : Hid (w_.heap[y]? = some (.cells #[.int .i64 0, .int .i64 0, .int .i64 0] 78 (0, 0))) := Lib.hid qBY; clear qBY
        refine norm_ (a' := ?_) ?_ ?_
        rotate_left
        ·simp only [putAll, Act.put, sI_, s0_, sS_]
         rfl
        refine one_ (i := 10) (N := some 13) #[true, true, true, true, true, true, true, true, true, true, true, true, false, false] rfl rfl (by kernel_rfl) (by decide) (fun K hK => ?_)
        refine box_step ?hg (N := 13) ?hd (cs := #[.int .i64 0, .int .i64 0, .int .i64 0]) (t := 78) ?hr ?_; (case hd => rfl); (case hg => rfl); (case hr => first | (go_simp; done) | (go_simp; rfl))
        intro x hg w_ hbox hb
        have Hx : m < x := by rw [hg]; exact blk_lt BM.out
        have Hxy : x ≠ y := by have q_ := blk_lt BY.out; rw [← hg] at q_; omega
        replace BG := Lib.hid (blk_below BG.out hb); replace BH := Lib.hid (blk_below BH.out hb); replace BM := Lib.hid (blk_below BM.out hb); replace BL := Lib.hid (below_then BL.out BL.out.size hb); replace BY := Lib.hid (blk_below BY.out hb); have BX := Lib.hid hbox; clear hg hbox hb
        refine hK.out _ _ ⟨(cell2 BG.out).2, (cell2 BH.out).2, (BL.out.cell (World.block_lt_of_cell? w _ PA0.out)).trans PA0.out, (BL.out.cell (World.block_lt_of_cell? w _ PA1.out)).trans PA1.out, (BL.out.cell (World.block_lt_of_cell? w _ PA2.out)).trans PA2.out, (BL.out.cell (World.block_lt_of_cell? w _ PB0.out)).trans PB0.out, (BL.out.cell (World.block_lt_of_cell? w _ PB1.out)).trans PB1.out, (BL.out.cell (World.block_lt_of_cell? w _ PB2.out)).trans PB2.out⟩ (fun hHeld => ?_)
        clear hK K
        refine norm_ (a' := ?_) ?_ ?_
        rotate_left
        ·show Act.put _ (some 13) _ = _
         simp only [Act.put, sI_, s0_, sS_, i64_w, i32_w]
         rfl
        exact norm_ (by first | (simp only [putAll, Act.put, sI_, s0_, sS_]; done) | (simp only [putAll, Act.put, sI_, s0_, sS_]; rfl)) (J0_3 (x, y) _ ⟨hHeld, Hx, Hy, Hxy, BG.out, BH.out, BM.out, BL.out, BX.out, BY.out⟩)
       rintro ⟨x, y⟩ w_ ⟨hHeld, Hx, Hy, Hxy, qBG, qBH, qBM, qBL, qBX, qBY⟩; replace Hx : m < x := Hx; replace Hy : m < y := Hy; replace Hxy : x ≠ y := Hxy
       replace BG : Hid (w_.heap[g]? = some (.cells #[.slice A0 l0.length c0, .slice (some ad1) l1.length c1] 25 (0, 0))) := Lib.hid qBG; clear qBG
       replace BH : Hid (w_.heap[h]? = some (.cells #[.slice A2 l2.length c2, .slice (some ad3) l3.length c3] 25 (0, 0))) := Lib.hid qBH; clear qBH
       replace BM : Hid (w_.heap[m]? = some (.cells #[.slice A4 l4.length c4, .slice (some ad5) l5.length c5] 51 (0, 0))) := Lib.hid qBM; clear qBM
       replace BL : Hid (Below w.heap.size w w_) := Lib.hid qBL; clear qBL
       have BX : Hid (w_.heap[x]? = some (.cells #[.int .i64 0, .int .i64 0, .int .i64 0] 78 (0, 0))) := Lib.hid qBX; clear qBX
       have BY : Hid (w_.heap[y]? = some (.cells #[.int .i64 0, .int .i64 0, .int .i64 0] 78 (0, 0))) := Lib.hid qBY; clear qBY
       refine norm_ (a' := ?_) ?_ ?_
       rotate_left
       ·simp only [putAll, Act.put, sI_, s0_, sS_]
        rfl
       refine one_ (i := 12) (N := none) #[true, true, true, true, true, true, true, true, true, true, true, true, true, false] rfl rfl (by kernel_rfl) (by decide) (fun K hK => ?_)
       have y0_ := (blk_cell BX.out 0).trans rfl; have y1_ := (blk_cell BX.out 1).trans rfl; have y2_ := (blk_cell BX.out 2).trans rfl; have f0_ := blk_frozen BX.out 0; have f1_ := blk_frozen BX.out 1; have f2_ := blk_frozen BX.out 2
       refine skip_ (w1 := ?_) (by rfl) rfl ?_ ?_
       rotate_left
       ·go_simp
        rfl
       clear y0_ f0_ y1_ f1_ y2_ f2_; replace BG := Lib.hid (blk_far BG.out (p := ⟨x, 0, none⟩) (by show g ≠ x; omega) (.int .i64 (rd_T78 l1 (i : Int)).f0)); replace BH := Lib.hid (blk_far BH.out (p := ⟨x, 0, none⟩) (by show h ≠ x; omega) (.int .i64 (rd_T78 l1 (i : Int)).f0)); replace BM := Lib.hid (blk_far BM.out (p := ⟨x, 0, none⟩) (by show m ≠ x; omega) (.int .i64 (rd_T78 l1 (i : Int)).f0)); replace BL := Lib.hid (below_set (g := x) (j := 0) (v := .int .i64 (rd_T78 l1 (i : Int)).f0) BL.out (by omega)); replace BY := Lib.hid (blk_far BY.out (p := ⟨x, 0, none⟩) (by show y ≠ x; omega) (.int .i64 (rd_T78 l1 (i : Int)).f0)); replace BX := Lib.hid (blk_put (cs' := #[.int .i64 (rd_T78 l1 (i : Int)).f0, .int .i64 0, .int .i64 0]) BX.out 0 (.int .i64 (rd_T78 l1 (i : Int)).f0) rfl); replace BG := Lib.hid (blk_far BG.out (p := ⟨x, 1, none⟩) (by show g ≠ x; omega) (.int .i64 (rd_T78 l1 (i : Int)).f1)); replace BH := Lib.hid (blk_far BH.out (p := ⟨x, 1, none⟩) (by show h ≠ x; omega) (.int .i64 (rd_T78 l1 (i : Int)).f1)); replace BM := Lib.hid (blk_far BM.out (p := ⟨x, 1, none⟩) (by show m ≠ x; omega) (.int .i64 (rd_T78 l1 (i : Int)).f1)); replace BL := Lib.hid (below_set (g := x) (j := 1) (v := .int .i64 (rd_T78 l1 (i : Int)).f1) BL.out (by omega)); replace BY := Lib.hid (blk_far BY.out (p := ⟨x, 1, none⟩) (by show y ≠ x; omega) (.int .i64 (rd_T78 l1 (i : Int)).f1)); replace BX := Lib.hid (blk_put (cs' := #[.int .i64 (rd_T78 l1 (i : Int)).f0, .int .i64 (rd_T78 l1 (i : Int)).f1, .int .i64 0]) BX.out 1 (.int .i64 (rd_T78 l1 (i : Int)).f1) rfl); replace BG := Lib.hid (blk_far BG.out (p := ⟨x, 2, none⟩) (by show g ≠ x; omega) (.int .i64 (rd_T78 l1 (i : Int)).f2)); replace BH := Lib.hid (blk_far BH.out (p := ⟨x, 2, none⟩) (by show h ≠ x; omega) (.int .i64 (rd_T78 l1 (i : Int)).f2)); replace BM := Lib.hid (blk_far BM.out (p := ⟨x, 2, none⟩) (by show m ≠ x; omega) (.int .i64 (rd_T78 l1 (i : Int)).f2)); replace BL := Lib.hid (below_set (g := x) (j := 2) (v := .int .i64 (rd_T78 l1 (i : Int)).f2) BL.out (by omega)); replace BY := Lib.hid (blk_far BY.out (p := ⟨x, 2, none⟩) (by show y ≠ x; omega) (.int .i64 (rd_T78 l1 (i : Int)).f2)); replace BX := Lib.hid (blk_put (cs' := #[.int .i64 (rd_T78 l1 (i : Int)).f0, .int .i64 (rd_T78 l1 (i : Int)).f1, .int .i64 (rd_T78 l1 (i : Int)).f2]) BX.out 2 (.int .i64 (rd_T78 l1 (i : Int)).f2) rfl); generalize hq_ : World.setCell _ _ _ = w5_; replace BG := Lib.hid (at_blk hq_ BG.out); replace BH := Lib.hid (at_blk hq_ BH.out); replace BM := Lib.hid (at_blk hq_ BM.out); replace BL := Lib.hid (at_bel hq_ BL.out); replace BX := Lib.hid (at_blk hq_ BX.out); replace BY := Lib.hid (at_blk hq_ BY.out); clear hq_
       refine hK.out _ _ ⟨(cell2 BG.out).2, (cell2 BH.out).2, (BL.out.cell (World.block_lt_of_cell? w _ PA0.out)).trans PA0.out, (BL.out.cell (World.block_lt_of_cell? w _ PA1.out)).trans PA1.out, (BL.out.cell (World.block_lt_of_cell? w _ PA2.out)).trans PA2.out, (BL.out.cell (World.block_lt_of_cell? w _ PB0.out)).trans PB0.out, (BL.out.cell (World.block_lt_of_cell? w _ PB1.out)).trans PB1.out, (BL.out.cell (World.block_lt_of_cell? w _ PB2.out)).trans PB2.out⟩ (fun hHeld => ?_)
       clear hK K
       refine one_ (i := 13) (N := none) #[true, true, true, true, true, true, true, true, true, true, true, true, true, true] rfl rfl (by kernel_rfl) (by decide) (fun K hK => ?_)
       have y0_ := (blk_cell BY.out 0).trans rfl; have y1_ := (blk_cell BY.out 1).trans rfl; have y2_ := (blk_cell BY.out 2).trans rfl; have f0_ := blk_frozen BY.out 0; have f1_ := blk_frozen BY.out 1; have f2_ := blk_frozen BY.out 2
       refine skip_ (w1 := ?_) (by rfl) rfl ?_ ?_
       rotate_left
       ·go_simp
        rfl
       clear y0_ f0_ y1_ f1_ y2_ f2_; replace BG := Lib.hid (blk_far BG.out (p := ⟨y, 0, none⟩) (by show g ≠ y; omega) (.int .i64 (rd_T78 l3 k).f0)); replace BH := Lib.hid (blk_far BH.out (p := ⟨y, 0, none⟩) (by show h ≠ y; omega) (.int .i64 (rd_T78 l3 k).f0)); replace BM := Lib.hid (blk_far BM.out (p := ⟨y, 0, none⟩) (by show m ≠ y; omega) (.int .i64 (rd_T78 l3 k).f0)); replace BL := Lib.hid (below_set (g := y) (j := 0) (v := .int .i64 (rd_T78 l3 k).f0) BL.out (by omega)); replace BX := Lib.hid (blk_far BX.out (p := ⟨y, 0, none⟩) (by show x ≠ y; omega) (.int .i64 (rd_T78 l3 k).f0)); replace BY := Lib.hid (blk_put (cs' := #[.int .i64 (rd_T78 l3 k).f0, .int .i64 0, .int .i64 0]) BY.out 0 (.int .i64 (rd_T78 l3 k).f0) rfl); replace BG := Lib.hid (blk_far BG.out (p := ⟨y, 1, none⟩) (by show g ≠ y; omega) (.int .i64 (rd_T78 l3 k).f1)); replace BH := Lib.hid (blk_far BH.out (p := ⟨y, 1, none⟩) (by show h ≠ y; omega) (.int .i64 (rd_T78 l3 k).f1)); replace BM := Lib.hid (blk_far BM.out (p := ⟨y, 1, none⟩) (by show m ≠ y; omega) (.int .i64 (rd_T78 l3 k).f1)); replace BL := Lib.hid (below_set (g := y) (j := 1) (v := .int .i64 (rd_T78 l3 k).f1) BL.out (by omega)); replace BX := Lib.hid (blk_far BX.out (p := ⟨y, 1, none⟩) (by show x ≠ y; omega) (.int .i64 (rd_T78 l3 k).f1)); replace BY := Lib.hid (blk_put (cs' := #[.int .i64 (rd_T78 l3 k).f0, .int .i64 (rd_T78 l3 k).f1, .int .i64 0]) BY.out 1 (.int .i64 (rd_T78 l3 k).f1) rfl); replace BG := Lib.hid (blk_far BG.out (p := ⟨y, 2, none⟩) (by show g ≠ y; omega) (.int .i64 (rd_T78 l3 k).f2)); replace BH := Lib.hid (blk_far BH.out (p := ⟨y, 2, none⟩) (by show h ≠ y; omega) (.int .i64 (rd_T78 l3 k).f2)); replace BM := Lib.hid (blk_far BM.out (p := ⟨y, 2, none⟩) (by show m ≠ y; omega) (.int .i64 (rd_T78 l3 k).f2)); replace BL := Lib.hid (below_set (g := y) (j := 2) (v := .int .i64 (rd_T78 l3 k).f2) BL.out (by omega)); replace BX := Lib.hid (blk_far BX.out (p := ⟨y, 2, none⟩) (by show x ≠ y; omega) (.int .i64 (rd_T78 l3 k).f2)); replace BY := Lib.hid (blk_put (cs' := #[.int .i64 (rd_T78 l3 k).f0, .int .i64 (rd_T78 l3 k).f1, .int .i64 (rd_T78 l3 k).f2]) BY.out 2 (.int .i64 (rd_T78 l3 k).f2) rfl); generalize hq_ : World.setCell _ _ _ = w5_; replace BG := Lib.hid (at_blk hq_ BG.out); replace BH := Lib.hid (at_blk hq_ BH.out); replace BM := Lib.hid (at_blk hq_ BM.out); replace BL := Lib.hid (at_bel hq_ BL.out); replace BX := Lib.hid (at_blk hq_ BX.out); replace BY := Lib.hid (at_blk hq_ BY.out); clear hq_
       refine hK.out _ _ ⟨(cell2 BG.out).2, (cell2 BH.out).2, (BL.out.cell (World.block_lt_of_cell? w _ PA0.out)).trans PA0.out, (BL.out.cell (World.block_lt_of_cell? w _ PA1.out)).trans PA1.out, (BL.out.cell (World.block_lt_of_cell? w _ PA2.out)).trans PA2.out, (BL.out.cell (World.block_lt_of_cell? w _ PB0.out)).trans PB0.out, (BL.out.cell (World.block_lt_of_cell? w _ PB1.out)).trans PB1.out, (BL.out.cell (World.block_lt_of_cell? w _ PB2.out)).trans PB2.out⟩ (fun hHeld => ?_)
       clear hK K
       refine done_ (by kernel_rfl) ?_
       have x0_ := (blk_cell BX.out 0).trans rfl; have x1_ := (blk_cell BX.out 1).trans rfl; have x2_ := (blk_cell BX.out 2).trans rfl; have y0_ := (blk_cell BY.out 0).trans rfl; have y1_ := (blk_cell BY.out 1).trans rfl; have y2_ := (blk_cell BY.out 2).trans rfl; obtain ⟨zM0, zM1⟩ := cell2 BM.out; obtain ⟨t1, t2, t3, t4⟩ := fits_of V0.out i (by have := E5.out; omega); rw [← rdT_get l1 i (by have := E5.out; omega)] at t1 t2 t3 t4; generalize rd_T78 l1 (i : Int) = X at t1 t2 t3 t4 x0_ x1_ x2_ E3; generalize rd_T78 l3 k = Y at y0_ y1_ y2_ E3
       have t2' : X.f1 < (l4.length : Int) := by have := E4.out; omega
       have t4' : X.f2 < (l4.length : Int) := by have := E4.out; omega
       obtain ⟨ad4, rfl, n1⟩ := Kd.at_int R4.out X.f1 t1 t2'; obtain ⟨_, he_, n2⟩ := Kd.at_int R4.out X.f2 t3 t4'; cases he_; replace n1 := (BL.out.cell (World.block_lt_of_cell? w _ n1)).trans n1; replace n2 := (BL.out.cell (World.block_lt_of_cell? w _ n2)).trans n2
       by_cases ht : X.f0 = Y.f0
       ·have s1 : (X.f0 != Y.f0) = false := by simp [ht]
        have s2 : decide (X.f0 = Y.f0) = true := decide_eq_true ht
        by_cases hq1 : rd l4 X.f1 = Y.f1
        ·have u1 : (rd l4 X.f1 != Y.f1) = false := by simp [hq1]
         have u2 : decide (rd l4 X.f1 = Y.f1) = true := decide_eq_true hq1
         by_cases hq2 : rd l4 X.f2 = Y.f2
         ·have E6 : edgesE l1 l3 l4 (i + 1) (l5.drop (i + 1)) = edgesE l1 l3 l4 0 l5 := by rw [← E3.out, if_neg (by omega), if_pos ht, if_pos ⟨hq1, hq2⟩]
          have u3 : (rd l4 X.f2 != Y.f2) = false := by simp [hq2]
          have u4 : decide (rd l4 X.f2 = Y.f2) = true := decide_eq_true hq2; have E8 := Lib.hid E6; clear E3 E6
          go_wp2
          repeat (go_quiet (fail); try go_wp2)
          go_roundg (l5.length - (i + 1))
          case measure => omega
          case rel => exact ⟨i + 1, by omega, by omega, by go_num, ⟨E8.out⟩, ⟨by first | exact BG.out | exact blk_drewN BG.out _ | exact blk_drewN (blk_drewN BG.out _) _⟩, ⟨by first | exact BH.out | exact blk_drewN BH.out _ | exact blk_drewN (blk_drewN BH.out _) _⟩, ⟨by first | exact BM.out | exact blk_drewN BM.out _ | exact blk_drewN (blk_drewN BM.out _) _⟩, ⟨by first | exact BL.out | exact pw_below_drewN BL.out _ | exact pw_below_drewN (pw_below_drewN BL.out _) _⟩⟩
         ·have E6 : edgesE l1 l3 l4 0 l5 = 11 := by rw [← E3.out, if_neg (by omega), if_pos ht, if_neg (fun q => hq2 q.2)]
          have u3 : (rd l4 X.f2 != Y.f2) = true := by simp [hq2]
          have u4 : decide (rd l4 X.f2 = Y.f2) = false := decide_eq_false hq2; have E8 := Lib.hid E6; clear E3 E6
          go_wp2
          repeat (go_quiet (fail); try go_wp2)
          exact bodyPost_ret (v := .int .i64 11) (by simp [results, Try.f80, go_sem]) rfl ⟨by rw [← HS.out, if_pos E7.out, E8.out], by first | exact BL.out | exact pw_below_drewN BL.out _ | exact pw_below_drewN (pw_below_drewN BL.out _) _⟩
        ·have E6 : edgesE l1 l3 l4 0 l5 = 11 := by rw [← E3.out, if_neg (by omega), if_pos ht, if_neg (fun q => hq1 q.1)]
         have u1 : (rd l4 X.f1 != Y.f1) = true := by simp [hq1]
         have u2 : decide (rd l4 X.f1 = Y.f1) = false := decide_eq_false hq1; have E8 := Lib.hid E6; clear E3 E6
         go_wp2
         repeat (go_quiet (fail); try go_wp2)
         exact bodyPost_ret (v := .int .i64 11) (by simp [results, Try.f80, go_sem]) rfl ⟨by rw [← HS.out, if_pos E7.out, E8.out], by first | exact BL.out | exact pw_below_drewN BL.out _ | exact pw_below_drewN (pw_below_drewN BL.out _) _⟩
       ·have E6 : edgesE l1 l3 l4 0 l5 = 13 := by rw [← E3.out, if_neg (by omega), if_neg ht]
        have s1 : (X.f0 != Y.f0) = true := by simp [ht]
        have s2 : decide (X.f0 = Y.f0) = false := decide_eq_false ht; have E8 := Lib.hid E6; clear E3 E6
        go_wp2
        exact bodyPost_ret (v := .int .i64 13) (by simp [results, Try.f80, go_sem]) rfl ⟨by rw [← HS.out, if_pos E7.out, E8.out], by first | exact BL.out | exact pw_below_drewN BL.out _ | exact pw_below_drewN (pw_below_drewN BL.out _) _⟩
    ·have hlz : ¬ (i : Int) < (l5.length : Int) := by omega
     have hl1 : ¬ (i : Int) < (l1.length : Int) := by have := E5.out; omega
     have E6 : edgesE l1 l3 l4 0 l5 = 0 := by
      have := EN.out; rw [List.drop_of_length_le (by omega), edgesE] at this; exact this.symm
     have E8 := Lib.hid E6; clear EN E6
     go_wp2
     exact bodyPost_ret (v := .int .i64 0) (by simp [results, Try.f80, go_sem]) rfl ⟨by rw [← HS.out, if_pos E7.out, E8.out], by first | exact BL.out | exact pw_below_drewN BL.out _ | exact pw_below_drewN (pw_below_drewN BL.out _) _⟩
set_option maxHeartbeats 4000000 in
set_option maxRecDepth 100000 in
theorem morphism_Valid.err (A0 : Option Addr) (c0 : Nat) (l0 : List Int) (A1 : Option Addr) (c1 : Nat) (l1 : List S78) (A2 : Option Addr) (c2 : Nat) (l2 : List Int) (A3 : Option Addr) (c3 : Nat) (l3 : List S78) (A4 : Option Addr) (c4 : Nat) (l4 : List Int) (A5 : Option Addr) (c5 : Nat) (l5 : List Int) (w : World)
  (r0 : Kd.C (Kd.int .i64) w A0 l0.length l0) (m0 : l0.length ≤ c0) (r1 : Kd.C (k78) w A1 l1.length l1) (m1 : l1.length ≤ c1) (r2 : Kd.C (Kd.int .i64) w A2 l2.length l2) (m2 : l2.length ≤ c2) (r3 : Kd.C (k78) w A3 l3.length l3) (m3 : l3.length ≤ c3) (r4 : Kd.C (Kd.int .i64) w A4 l4.length l4) (m4 : l4.length ≤ c4) (r5 : Kd.C (Kd.int .i64) w A5 l5.length l5) (m5 : l5.length ≤ c5)
  (res : Int) (hbad : (validB l0 l1 = res ∧ res ≠ 0) ∨ (validB l0 l1 = 0 ∧ validB l2 l3 = res ∧ res ≠ 0) ∨ (validB l0 l1 = 0 ∧ validB l2 l3 = 0 ∧ (l4.length ≠ l0.length ∨ l5.length ≠ l1.length) ∧ res = 20)) :
  Calls Try.prog 80 #[.agg #[.slice A0 l0.length c0, .slice A1 l1.length c1], .agg #[.slice A2 l2.length c2, .slice A3 l3.length c3], .agg #[.slice A4 l4.length c4, .slice A5 l5.length c5]] w fun e w' => e = .returned (.int .i64 res) ∧ Below w.heap.size w w' := by
 have hu25 := Try.underlying25; have hu51 := Try.underlying51; have hm4 := Kd.C_max r4; have hm5 := Kd.C_max r5; have R0 := Lib.hid r0; have R1 := Lib.hid r1; have R2 := Lib.hid r2; have R3 := Lib.hid r3; have R4 := Lib.hid r4; have R5 := Lib.hid r5; clear r0 r1 r2 r3 r4 r5 m0 m1 m2 m3 m4 m5
 go_enter Try.func80, Try.ntmps80
 go_upto_region 1 with (first
  | ((with_reducible refine gate_dst (N := 3) rfl ?_); (try (refine gate_guard (by rfl) ?_; dsimp only)); refine box_event ?hg (N := 3) ?hd (cs := #[.slice A0 l0.length c0, .slice A1 l1.length c1]) (t := 25) ?hr ?_; (case hd => rfl); (case hg => rfl); (case hr => first | (go_simp; done) | (go_simp; rfl)); intro g hg w_ hbox hb; have HG : w.heap.size ≤ g := (hg ▸ Nat.le_refl _); have BG := Lib.hid hbox; have BL := Lib.hid hb; clear hg hbox hb)
  | ((with_reducible refine gate_dst (N := 4) rfl ?_); (try (refine gate_guard (by rfl) ?_; dsimp only)); refine box_event ?hg (N := 4) ?hd (cs := #[.slice A2 l2.length c2, .slice A3 l3.length c3]) (t := 25) ?hr ?_; (case hd => rfl); (case hg => rfl); (case hr => first | (go_simp; done) | (go_simp; rfl)); intro h hg w_ hbox hb; have HH : g < h := (hg ▸ blk_lt BG.out); replace BG := Lib.hid (blk_below BG.out hb); replace BL := Lib.hid (below_then BL.out BL.out.size hb); have BH := Lib.hid hbox; clear hg hbox hb)
  | ((with_reducible refine gate_dst (N := 5) rfl ?_); (try (refine gate_guard (by rfl) ?_; dsimp only)); refine box_event ?hg (N := 5) ?hd (cs := #[.slice A4 l4.length c4, .slice A5 l5.length c5]) (t := 51) ?hr ?_; (case hd => rfl); (case hg => rfl); (case hr => first | (go_simp; done) | (go_simp; rfl)); intro m hg w_ hbox hb; have HM : h < m := (hg ▸ blk_lt BH.out); replace BG := Lib.hid (blk_below BG.out hb); replace BL := Lib.hid (below_then BL.out BL.out.size hb); replace BH := Lib.hid (blk_below BH.out hb); have BM := Lib.hid hbox; clear hg hbox hb))
 obtain ⟨zBG_0, zBG_1⟩ := cell2 BG.out; obtain ⟨zBH_0, zBH_1⟩ := cell2 BH.out; obtain ⟨zBM_0, zBM_1⟩ := cell2 BM.out
 rcases hbad with ⟨he, hne⟩ | ⟨v0, he, hne⟩ | ⟨v0, v2, hne, rfl⟩
 ·have e1 : (res != 0) = true := by simpa using hne
  have e2 : decide (res = 0) = false := decide_eq_false hne
  go_wp2_with (first
   | (go_at_call 53; refine (graph_Valid.calls0 A0 c0 l0 A1 c1 l1 _ (Kd.C_below R0.out BL.out) (Kd.C_below R1.out BL.out)).mono ?_; rintro e w_ ⟨he_, hb⟩; rw [he] at he_; subst he_; clear zBG_0 zBG_1 zBH_0 zBH_1 zBM_0 zBM_1; replace BG := Lib.hid (blk_below BG.out hb); replace BL := Lib.hid (below_then BL.out BL.out.size hb); replace BH := Lib.hid (blk_below BH.out hb); replace BM := Lib.hid (blk_below BM.out hb); clear hb; obtain ⟨zBG_0, zBG_1⟩ := cell2 BG.out; obtain ⟨zBH_0, zBH_1⟩ := cell2 BH.out; obtain ⟨zBM_0, zBM_1⟩ := cell2 BM.out))
  repeat (go_quiet (fail); try go_wp2)
  exact bodyPost_ret (v := .int .i64 res) (by simp [results, Try.f80, go_sem]) rfl ⟨rfl, by first | exact BL.out | exact pw_below_drewN BL.out _ | exact pw_below_drewN (pw_below_drewN BL.out _) _⟩
 ·have e1 : (res != 0) = true := by simpa using hne
  have e2 : decide (res = 0) = false := decide_eq_false hne
  go_upto_region 4 with (first
   | (go_at_call 53; refine (graph_Valid.calls0 A0 c0 l0 A1 c1 l1 _ (Kd.C_below R0.out BL.out) (Kd.C_below R1.out BL.out)).mono ?_; rintro e w_ ⟨he_, hb⟩; rw [v0] at he_; subst he_; clear zBG_0 zBG_1 zBH_0 zBH_1 zBM_0 zBM_1; replace BG := Lib.hid (blk_below BG.out hb); replace BL := Lib.hid (below_then BL.out BL.out.size hb); replace BH := Lib.hid (blk_below BH.out hb); replace BM := Lib.hid (blk_below BM.out hb); clear hb; obtain ⟨zBG_0, zBG_1⟩ := cell2 BG.out; obtain ⟨zBH_0, zBH_1⟩ := cell2 BH.out; obtain ⟨zBM_0, zBM_1⟩ := cell2 BM.out))
  go_wp2_with (first
   | (go_at_call 53; refine (graph_Valid.calls0 A2 c2 l2 A3 c3 l3 _ (Kd.C_below R2.out BL.out) (Kd.C_below R3.out BL.out)).mono ?_; rintro e w_ ⟨he_, hb⟩; rw [he] at he_; subst he_; clear zBG_0 zBG_1 zBH_0 zBH_1 zBM_0 zBM_1; replace BG := Lib.hid (blk_below BG.out hb); replace BL := Lib.hid (below_then BL.out BL.out.size hb); replace BH := Lib.hid (blk_below BH.out hb); replace BM := Lib.hid (blk_below BM.out hb); clear hb; obtain ⟨zBG_0, zBG_1⟩ := cell2 BG.out; obtain ⟨zBH_0, zBH_1⟩ := cell2 BH.out; obtain ⟨zBM_0, zBM_1⟩ := cell2 BM.out))
  repeat (go_quiet (fail); try go_wp2)
  exact bodyPost_ret (v := .int .i64 res) (by simp [results, Try.f80, go_sem]) rfl ⟨rfl, by first | exact BL.out | exact pw_below_drewN BL.out _ | exact pw_below_drewN (pw_below_drewN BL.out _) _⟩
 ·skip
  go_upto_region 4 with (first
   | (go_at_call 53; refine (graph_Valid.calls0 A0 c0 l0 A1 c1 l1 _ (Kd.C_below R0.out BL.out) (Kd.C_below R1.out BL.out)).mono ?_; rintro e w_ ⟨he_, hb⟩; rw [v0] at he_; subst he_; clear zBG_0 zBG_1 zBH_0 zBH_1 zBM_0 zBM_1; replace BG := Lib.hid (blk_below BG.out hb); replace BL := Lib.hid (below_then BL.out BL.out.size hb); replace BH := Lib.hid (blk_below BH.out hb); replace BM := Lib.hid (blk_below BM.out hb); clear hb; obtain ⟨zBG_0, zBG_1⟩ := cell2 BG.out; obtain ⟨zBH_0, zBH_1⟩ := cell2 BH.out; obtain ⟨zBM_0, zBM_1⟩ := cell2 BM.out))
  go_upto_region 7 with (first
   | (go_at_call 53; refine (graph_Valid.calls0 A2 c2 l2 A3 c3 l3 _ (Kd.C_below R2.out BL.out) (Kd.C_below R3.out BL.out)).mono ?_; rintro e w_ ⟨he_, hb⟩; rw [v2] at he_; subst he_; clear zBG_0 zBG_1 zBH_0 zBH_1 zBM_0 zBM_1; replace BG := Lib.hid (blk_below BG.out hb); replace BL := Lib.hid (below_then BL.out BL.out.size hb); replace BH := Lib.hid (blk_below BH.out hb); replace BM := Lib.hid (blk_below BM.out hb); clear hb; obtain ⟨zBG_0, zBG_1⟩ := cell2 BG.out; obtain ⟨zBH_0, zBH_1⟩ := cell2 BH.out; obtain ⟨zBM_0, zBM_1⟩ := cell2 BM.out))
  by_cases e4 : l4.length = l0.length
  ·have e5 : l5.length ≠ l1.length := hne.resolve_left (fun q => q e4)
   have d4 : ((l4.length : Int) != (l0.length : Int)) = false := by simp [e4]
   have d6 : decide ((l4.length : Int) = (l0.length : Int)) = true := decide_eq_true (by omega)
   have d5 : ((l5.length : Int) != (l1.length : Int)) = true := by simp; omega
   have d7 : decide ((l5.length : Int) = (l1.length : Int)) = false := decide_eq_false (by omega)
   go_wp2
   repeat (go_quiet (fail); try go_wp2)
   exact bodyPost_ret (v := .int .i64 20) (by simp [results, Try.f80, go_sem]) rfl ⟨rfl, by first | exact BL.out | exact pw_below_drewN BL.out _ | exact pw_below_drewN (pw_below_drewN BL.out _) _⟩
  ·have d4 : ((l4.length : Int) != (l0.length : Int)) = true := by simp; omega
   have d6 : decide ((l4.length : Int) = (l0.length : Int)) = false := decide_eq_false (by omega)
   go_wp2
   repeat (go_quiet (fail); try go_wp2)
   exact bodyPost_ret (v := .int .i64 20) (by simp [results, Try.f80, go_sem]) rfl ⟨rfl, by first | exact BL.out | exact pw_below_drewN BL.out _ | exact pw_below_drewN (pw_below_drewN BL.out _) _⟩
def morphism_Valid.f (l0_0 : List Int) (l0_1 : List S78) (l1_0 : List Int) (l1_1 : List S78) (l2_0 l2_1 : List Int) : Option Int := some (morphE l0_0 l0_1 l1_0 l1_1 l2_0 l2_1)
theorem morphism_Valid.calls (A0_0 : Option Addr) (c0_0 : Nat) (l0_0 : List Int) (A0_1 : Option Addr) (c0_1 : Nat) (l0_1 : List (S78)) (A1_0 : Option Addr) (c1_0 : Nat) (l1_0 : List Int) (A1_1 : Option Addr) (c1_1 : Nat) (l1_1 : List (S78)) (A2_0 : Option Addr) (c2_0 : Nat) (l2_0 : List Int) (A2_1 : Option Addr) (c2_1 : Nat) (l2_1 : List Int) (r : Int) (w : World) (hr0_0 : Kd.C (Kd.int .i64) w A0_0 l0_0.length l0_0) (hc0_0 : l0_0.length ≤ c0_0) (hr0_1 : Kd.C (k78) w A0_1 l0_1.length l0_1) (hc0_1 : l0_1.length ≤ c0_1) (hr1_0 : Kd.C (Kd.int .i64) w A1_0 l1_0.length l1_0) (hc1_0 : l1_0.length ≤ c1_0) (hr1_1 : Kd.C (k78) w A1_1 l1_1.length l1_1) (hc1_1 : l1_1.length ≤ c1_1) (hr2_0 : Kd.C (Kd.int .i64) w A2_0 l2_0.length l2_0) (hc2_0 : l2_0.length ≤ c2_0) (hr2_1 : Kd.C (Kd.int .i64) w A2_1 l2_1.length l2_1) (hc2_1 : l2_1.length ≤ c2_1) (h : morphism_Valid.f l0_0 l0_1 l1_0 l1_1 l2_0 l2_1 = some r) :
    Calls Try.prog 80 #[.agg #[.slice A0_0 l0_0.length c0_0, .slice A0_1 l0_1.length c0_1], .agg #[.slice A1_0 l1_0.length c1_0, .slice A1_1 l1_1.length c1_1], .agg #[.slice A2_0 l2_0.length c2_0, .slice A2_1 l2_1.length c2_1]] w fun e w' => e = .returned (.int .i64 r) ∧ Below w.heap.size w w' := by
  have h := Option.some.inj h; unfold morphE at h
  by_cases v0 : validB l0_0 l0_1 = 0
  · rw [if_neg (fun q => q v0)] at h
    by_cases v2 : validB l1_0 l1_1 = 0
    · rw [if_neg (fun q => q v2)] at h
      by_cases e : l2_0.length = l0_0.length ∧ l2_1.length = l0_1.length
      · rw [if_pos e] at h
        exact morphism_Valid.ok A0_0 c0_0 l0_0 A0_1 c0_1 l0_1 A1_0 c1_0 l1_0 A1_1 c1_1 l1_1 A2_0 c2_0 l2_0 A2_1 c2_1 l2_1 w hr0_0 hc0_0 hr0_1 hc0_1 hr1_0 hc1_0 hr1_1 hc1_1 hr2_0 hc2_0 hr2_1 hc2_1 v0 v2 e.1 e.2 r h
      · rw [if_neg e] at h
        exact morphism_Valid.err A0_0 c0_0 l0_0 A0_1 c0_1 l0_1 A1_0 c1_0 l1_0 A1_1 c1_1 l1_1 A2_0 c2_0 l2_0 A2_1 c2_1 l2_1 w hr0_0 hc0_0 hr0_1 hc0_1 hr1_0 hc1_0 hr1_1 hc1_1 hr2_0 hc2_0 hr2_1 hc2_1 r (.inr (.inr ⟨v0, v2, by omega, h.symm⟩))
    · rw [if_pos v2] at h
      exact morphism_Valid.err A0_0 c0_0 l0_0 A0_1 c0_1 l0_1 A1_0 c1_0 l1_0 A1_1 c1_1 l1_1 A2_0 c2_0 l2_0 A2_1 c2_1 l2_1 w hr0_0 hc0_0 hr0_1 hc0_1 hr1_0 hc1_0 hr1_1 hc1_1 hr2_0 hc2_0 hr2_1 hc2_1 r (.inr (.inl ⟨v0, h, h ▸ v2⟩))
  · rw [if_pos v0] at h
    exact morphism_Valid.err A0_0 c0_0 l0_0 A0_1 c0_1 l0_1 A1_0 c1_0 l1_0 A1_1 c1_1 l1_1 A2_0 c2_0 l2_0 A2_1 c2_1 l2_1 w hr0_0 hc0_0 hr0_1 hc0_1 hr1_0 hc1_0 hr1_1 hc1_1 hr2_0 hc2_0 hr2_1 hc2_1 r (.inl ⟨h, h ▸ v0⟩)
end Go.Proofs.Ytonipihlpbaknaa.Print
namespace Go.Proofs.Ytonipihlpbaknaa.Print
set_option linter.unusedVariables false
set_option linter.unusedSimpArgs false
open Go.RowKit Go.Proofs.YtonipihlpbaknaaW.PrintWords Go.Proofs.YtonipihlpbaknaaW.PrintLast Go.Proofs.YtonipihlpbaknaaW.PrintMore
theorem nodesE_iff (a0 b0 : List Int) : ∀ (l : List Int) (i : Nat), nodesE a0 b0 i l = 0 ↔ ∀ j, (h : j < l.length) → 0 ≤ l[j] ∧ l[j] < b0.length ∧ rd b0 l[j] = rd a0 ((i + j : Nat) : Int) := by
  intro l
  induction l with
  | nil => intro i; simp [nodesE]
  | cons k r ih =>
    intro i; rw [nodesE]
    constructor
    · intro h j hj
      by_cases h0 : k < 0 ∨ (b0.length : Int) ≤ k
      · rw [if_pos h0] at h; omega
      · rw [if_neg h0] at h
        by_cases h1 : rd b0 k = rd a0 i
        · rw [if_pos h1] at h
          cases j with
          | zero => exact ⟨by simp; omega, by simp; omega, by simpa using h1⟩
          | succ j =>
            have := (ih (i + 1)).1 h j (by simpa using hj); rw [show i + (j + 1) = i + 1 + j by omega]
            simpa using this
        · rw [if_neg h1] at h; omega
    · intro h
      have q := h 0 (by simp); simp only [List.getElem_cons_zero, Nat.add_zero] at q; rw [if_neg (by omega), if_pos q.2.2]
      refine (ih (i + 1)).2 fun j hj => ?_
      have := h (j + 1) (by simpa using hj); rw [show i + (j + 1) = i + 1 + j by omega] at this
      simpa using this
theorem edgesE_iff (a1 b1 : List S78) (m0 : List Int) : ∀ (l : List Int) (i : Nat), edgesE a1 b1 m0 i l = 0 ↔ ∀ j, (h : j < l.length) → 0 ≤ l[j] ∧ l[j] < b1.length ∧ (rd_T78 a1 ((i + j : Nat) : Int)).f0 = (rd_T78 b1 l[j]).f0 ∧
    rd m0 (rd_T78 a1 ((i + j : Nat) : Int)).f1 = (rd_T78 b1 l[j]).f1 ∧ rd m0 (rd_T78 a1 ((i + j : Nat) : Int)).f2 = (rd_T78 b1 l[j]).f2 := by
  intro l
  induction l with
  | nil => intro i; simp [edgesE]
  | cons k r ih =>
    intro i; rw [edgesE]
    constructor
    · intro h j hj
      by_cases h0 : k < 0 ∨ (b1.length : Int) ≤ k
      · rw [if_pos h0] at h; omega
      · rw [if_neg h0] at h
        by_cases h1 : (rd_T78 a1 i).f0 = (rd_T78 b1 k).f0
        · rw [if_pos h1] at h
          by_cases h2 : rd m0 (rd_T78 a1 i).f1 = (rd_T78 b1 k).f1 ∧ rd m0 (rd_T78 a1 i).f2 = (rd_T78 b1 k).f2
          · rw [if_pos h2] at h
            cases j with
            | zero => exact ⟨by simp; omega, by simp; omega, by simpa using h1, by simpa using h2.1, by simpa using h2.2⟩
            | succ j =>
              have := (ih (i + 1)).1 h j (by simpa using hj); rw [show i + (j + 1) = i + 1 + j by omega]
              simpa using this
          · rw [if_neg h2] at h; omega
        · rw [if_neg h1] at h; omega
    · intro h
      have q := h 0 (by simp); simp only [List.getElem_cons_zero, Nat.add_zero] at q; rw [if_neg (by omega), if_pos q.2.2.1, if_pos q.2.2.2]
      refine (ih (i + 1)).2 fun j hj => ?_
      have := h (j + 1) (by simpa using hj); rw [show i + (j + 1) = i + 1 + j by omega] at this
      simpa using this
theorem rd_map (l : List Int) (g : Int → Int) (i : Nat) (h : i < l.length) : rd (l.map g) (i : Int) = g l[i] := by rw [rd_get _ i (by simpa using h)]; simp
theorem rdT_map (l : List Int) (g : Int → S78) (i : Nat) (h : i < l.length) : rd_T78 (l.map g) (i : Int) = g l[i] := by rw [rdT_get _ i (by simpa using h)]; simp
/-- The inclusion of a part is a morphism. -/
theorem incl_valid {l0 : List Int} {l1 : List S78} {ns es : List Int} (hv : validB l0 l1 = 0) (hp : partE l0 l1 ns es = 0) : morphE (ns.map (rd l0)) (es.map (cutE l1 ns)) l0 l1 ns es = 0 := by
  obtain ⟨f1, f2, f3, f4, f5⟩ := partE_facts l0 l1 ns es hp; have hc := cut_valid hv hp
  have hn : nodesE (ns.map (rd l0)) l0 0 ns = 0 := (nodesE_iff _ _ _ _).2 fun j hj => by
    have := f1 _ (List.getElem_mem hj)
    refine ⟨this.1, this.2, ?_⟩
    rw [Nat.zero_add, rd_map _ _ _ hj]
  have he : edgesE (es.map (cutE l1 ns)) l1 ns 0 es = 0 := (edgesE_iff _ _ _ _ _).2 fun j hj => by
    have := f3 _ (List.getElem_mem hj); obtain ⟨g1, g2⟩ := f5 _ (List.getElem_mem hj)
    refine ⟨this.1, this.2, ?_⟩
    rw [Nat.zero_add, rdT_map _ _ _ hj]; exact ⟨rfl, (low_get f2 g1).2, (low_get f2 g2).2⟩
  unfold morphE; rw [if_neg (by simp [hc]), if_neg (by simp [hv]), if_pos (by simp), if_pos hn, he]
end Go.Proofs.Ytonipihlpbaknaa.Print
namespace Go.Proofs.Ytonipihlpbaknaa.Print
open Go.RowKit Go.Proofs.YtonipihlpbaknaaW.PrintWords Go.Proofs.YtonipihlpbaknaaW.PrintLast Go.Proofs.YtonipihlpbaknaaW.PrintMore
attribute [local go_sem] max2_int min2_int max_two min_two max_three min_three max_four min_four   -- for this text's walks alone
set_option linter.unusedVariables false
set_option linter.unusedSimpArgs false
def subgraph_Image.f (l0_0 : List Int) (l0_1 : List (S78)) (l1_0 : List Int) (l1_1 : List (S78)) (l2_0 : List Int) (l2_1 : List Int) : Option (List Int × List Int × Int) := (morphism_Valid.f l0_0 l0_1 l1_0 l1_1 l2_0 l2_1).bind fun t105 => (if t105 = 0 then ((slices_Clone_int_int.f l2_0).bind fun t106 => ((subgraph_sorted.f t106).bind fun t109 => ((slices_Clone_int_int.f l2_1).bind fun t112 => ((subgraph_sorted.f t112).bind fun t115 => (some (t109, t115, 0)))))) else (some (([] : List Int), ([] : List Int), t105)))
def subgraph_Image.T4 : Bool × List (List Nat × List Nat) := (true, [([], []), ([0], [0]), ([1], [1]), ([2, 2], [2]), ([], []), ([4], [4]), ([5, 3], [5]), ([6, 6], [6]), ([3, 7], [3, 7]), ([8, 7, 0, 1, 2, 3, 4, 5, 6, 7, 8], [8]), ([9, 0, 1, 2, 3, 4, 5, 6, 7, 8, 9], [])])
def subgraph_Image.B4 : List Nat := [0, 1, 3, 7, 0, 16, 63, 127, 255, 511, 1023]
theorem subgraph_Image.tab4 : rtab .any (opsOf Try.f40 4) = subgraph_Image.T4 := by kernel_rfl
theorem subgraph_Image.bits4 : waitsOk subgraph_Image.T4.2 subgraph_Image.B4 = true := by kernel_rfl
set_option maxHeartbeats 8000000 in
set_option maxRecDepth 100000 in
theorem subgraph_Image.calls (A0_0 : Option Addr) (c0_0 : Nat) (l0_0 : List Int) (A0_1 : Option Addr) (c0_1 : Nat) (l0_1 : List (S78)) (A1_0 : Option Addr) (c1_0 : Nat) (l1_0 : List Int) (A1_1 : Option Addr) (c1_1 : Nat) (l1_1 : List (S78)) (A2_0 : Option Addr) (c2_0 : Nat) (l2_0 : List Int) (A2_1 : Option Addr) (c2_1 : Nat) (l2_1 : List Int) (r1 : List Int) (r2 : List Int) (r3 : Int) (w : World) (hr0_0 : Kd.C (Kd.int .i64) w A0_0 l0_0.length l0_0) (hc0_0 : l0_0.length ≤ c0_0) (hr0_1 : Kd.C k78 w A0_1 l0_1.length l0_1) (hc0_1 : l0_1.length ≤ c0_1) (hr1_0 : Kd.C (Kd.int .i64) w A1_0 l1_0.length l1_0) (hc1_0 : l1_0.length ≤ c1_0) (hr1_1 : Kd.C k78 w A1_1 l1_1.length l1_1) (hc1_1 : l1_1.length ≤ c1_1) (hr2_0 : Kd.C (Kd.int .i64) w A2_0 l2_0.length l2_0) (hc2_0 : l2_0.length ≤ c2_0) (hr2_1 : Kd.C (Kd.int .i64) w A2_1 l2_1.length l2_1) (hc2_1 : l2_1.length ≤ c2_1) (h : subgraph_Image.f l0_0 l0_1 l1_0 l1_1 l2_0 l2_1 = some (r1, r2, r3)) :
  Calls Try.prog 40 #[.agg #[.slice A0_0 l0_0.length c0_0, .slice A0_1 l0_1.length c0_1], .agg #[.slice A1_0 l1_0.length c1_0, .slice A1_1 l1_1.length c1_1], .agg #[.slice A2_0 l2_0.length c2_0, .slice A2_1 l2_1.length c2_1]] w fun e w' => ∃ v0_ v1_ : Value, e = .returned (.tuple #[.agg #[v0_, v1_], .int .i64 r3]) ∧ Kd.R (Kd.int .i64) 3 w' w.heap.size (fun k_ => some k_ ≠ (v1_ : Value).ownBlock) v0_ r1 ∧ Kd.R (Kd.int .i64) 3 w' w.heap.size (fun k_ => some k_ ≠ (v0_ : Value).ownBlock) v1_ r2 ∧ Below w.heap.size w w' := by
 have hu25 := Try.underlying25; have hu51 := Try.underlying51; have hu27 := Try.underlying27; have HR0_0 := Aside0.mk hr0_0; have HC0_0 := Aside0.mk hc0_0; clear hr0_0 hc0_0; have HR0_1 := Aside0.mk hr0_1; have HC0_1 := Aside0.mk hc0_1; clear hr0_1 hc0_1; have HR1_0 := Aside0.mk hr1_0; have HC1_0 := Aside0.mk hc1_0; clear hr1_0 hc1_0; have HR1_1 := Aside0.mk hr1_1; have HC1_1 := Aside0.mk hc1_1; clear hr1_1 hc1_1; have HR2_0 := Aside0.mk hr2_0; have HC2_0 := Aside0.mk hc2_0; clear hr2_0 hc2_0; have HR2_1 := Aside0.mk hr2_1; have HC2_1 := Aside0.mk hc2_1; clear hr2_1 hc2_1; have HB := Aside0.mk (Below.refl w.heap.size w); have H : ((morphism_Valid.f l0_0 l0_1 l1_0 l1_1 l2_0 l2_1).bind fun t105 => (if t105 = 0 then ((slices_Clone_int_int.f l2_0).bind fun t106 => ((subgraph_sorted.f t106).bind fun t109 => ((slices_Clone_int_int.f l2_1).bind fun t112 => ((subgraph_sorted.f t112).bind fun t115 => (some (t109, t115, 0)))))) else (some (([] : List Int), ([] : List Int), t105)))) = some (r1, r2, r3) := h; clear h; replace H := Option.bind_eq_some_iff.mp H; obtain ⟨t105, A40, H⟩ := H; replace H : (if t105 = 0 then ((slices_Clone_int_int.f l2_0).bind fun t106 => ((subgraph_sorted.f t106).bind fun t109 => ((slices_Clone_int_int.f l2_1).bind fun t112 => ((subgraph_sorted.f t112).bind fun t115 => (some (t109, t115, 0)))))) else (some (([] : List Int), ([] : List Int), t105))) = some (r1, r2, r3) := H; have A4 := Aside0.mk A40; clear A40
 by_cases c5 : t105 = 0
 ·rw [if_pos c5] at H
  have c5b0 : (t105 == 0) = true := beq_iff_eq.mpr c5; have c5b1 : (t105 != 0) = false := bne_eq_false_iff_eq.mpr c5; clear c5; replace H := Option.bind_eq_some_iff.mp H; obtain ⟨t106, A60, H⟩ := H; replace H : ((subgraph_sorted.f t106).bind fun t109 => ((slices_Clone_int_int.f l2_1).bind fun t112 => ((subgraph_sorted.f t112).bind fun t115 => (some (t109, t115, 0))))) = some (r1, r2, r3) := H; have A6 := Aside0.mk A60; clear A60; replace H := Option.bind_eq_some_iff.mp H; obtain ⟨t109, A70, H⟩ := H; replace H : ((slices_Clone_int_int.f l2_1).bind fun t112 => ((subgraph_sorted.f t112).bind fun t115 => (some (t109, t115, 0)))) = some (r1, r2, r3) := H; have A7 := Aside0.mk A70; clear A70; replace H := Option.bind_eq_some_iff.mp H; obtain ⟨t112, A80, H⟩ := H; replace H : ((subgraph_sorted.f t112).bind fun t115 => (some (t109, t115, 0))) = some (r1, r2, r3) := H; have A8 := Aside0.mk A80; clear A80; replace H := Option.bind_eq_some_iff.mp H; obtain ⟨t115, A90, H⟩ := H; replace H : (some (t109, t115, 0)) = some (r1, r2, r3) := H; have A9 := Aside0.mk A90; clear A90; simp only [Option.some.injEq, Prod.mk.injEq] at H; obtain ⟨rfl, rfl, rfl⟩ := H
  go_enter Try.func40, Try.ntmps40
  try go_wp2_with (first | ((with_reducible refine gate_dst (N := 3) rfl ?_); refine box_event ?hg (N := 3) ?hd (cs := #[.slice A0_0 l0_0.length c0_0, .slice A0_1 l0_1.length c0_1]) (t := 25) ?hr ?_; (case hd => rfl); (case hg => rfl); (case hr => first | (go_simp; done) | (go_simp; rfl)); intro gb101 hg w10 hbox hb; have n0_ := Aside0.mk (below_step (by repeat (first | (with_reducible first | exact HB.out | apply lA_ | apply lN_ | apply lD_) | exact HB.out)) hb); have n1_ := Aside0.mk (hbox); have n2_ := Aside0.mk ((by rw [hg]; exact (below_size (by repeat (first | (with_reducible first | exact HB.out | apply lA_ | apply lN_ | apply lD_) | exact HB.out))) : w.heap.size ≤ gb101)); have n3_ := Aside0.mk ((by rw [hg]; exact (below_size (by repeat (first | (with_reducible first | exact HB.out | apply lA_ | apply lN_ | apply lD_) | exact HB.out))) : w.heap.size ≤ gb101)); clear HB; have HB := n0_; have BK101 := n1_; have GW101 := n2_; have GE101 := n3_; clear n0_ n1_ n2_ n3_; clear hb hbox hg) | ((with_reducible refine gate_dst (N := 4) rfl ?_); refine box_event ?hg (N := 4) ?hd (cs := #[.slice A1_0 l1_0.length c1_0, .slice A1_1 l1_1.length c1_1]) (t := 25) ?hr ?_; (case hd => rfl); (case hg => rfl); (case hr => first | (go_simp; done) | (go_simp; rfl)); intro gb102 hg w11 hbox hb; have n0_ := Aside0.mk (blk_below (g := gb101) (o := .cells #[.slice A0_0 l0_0.length c0_0, .slice A0_1 l0_1.length c0_1] 25 (0, 0)) (by (with_reducible repeat first | refine bN_ ?_ _ | refine bD_ ?_ | refine bA_ ?_ _); exact BK101.out) hb); have n1_ := Aside0.mk (below_step (by repeat (first | (with_reducible first | exact HB.out | apply lA_ | apply lN_ | apply lD_ | refine below_set ?_ GE101.out) | exact HB.out)) hb); have n2_ := Aside0.mk (hbox); have n3_ := Aside0.mk ((by rw [hg]; exact (below_size (by repeat (first | (with_reducible first | exact HB.out | apply lA_ | apply lN_ | apply lD_ | refine below_set ?_ GE101.out) | exact HB.out))) : w.heap.size ≤ gb102)); have n4_ := Aside0.mk ((by rw [hg]; exact (below_size (by repeat (first | (with_reducible first | exact HB.out | apply lA_ | apply lN_ | apply lD_ | refine below_set ?_ GE101.out) | exact HB.out))) : w.heap.size ≤ gb102)); have n5_ := Aside0.mk ((by rw [hg]; exact Nat.ne_of_lt (blk_lt (g := gb101) (o := .cells #[.slice A0_0 l0_0.length c0_0, .slice A0_1 l0_1.length c0_1] 25 (0, 0)) (by (with_reducible repeat first | refine bN_ ?_ _ | refine bD_ ?_ | refine bA_ ?_ _); exact BK101.out)) : gb101 ≠ gb102)); have n6_ := Aside0.mk ((by rw [hg]; exact Nat.ne_of_gt (blk_lt (g := gb101) (o := .cells #[.slice A0_0 l0_0.length c0_0, .slice A0_1 l0_1.length c0_1] 25 (0, 0)) (by (with_reducible repeat first | refine bN_ ?_ _ | refine bD_ ?_ | refine bA_ ?_ _); exact BK101.out)) : gb102 ≠ gb101)); clear BK101; clear HB; have BK101 := n0_; have HB := n1_; have BK102 := n2_; have GW102 := n3_; have GE102 := n4_; have NB101_102 := n5_; have NB102_101 := n6_; clear n0_ n1_ n2_ n3_ n4_ n5_ n6_; clear hb hbox hg) | ((with_reducible refine gate_dst (N := 5) rfl ?_); refine box_event ?hg (N := 5) ?hd (cs := #[.slice A2_0 l2_0.length c2_0, .slice A2_1 l2_1.length c2_1]) (t := 51) ?hr ?_; (case hd => rfl); (case hg => rfl); (case hr => first | (go_simp; done) | (go_simp; rfl)); intro gb103 hg w12 hbox hb; have n0_ := Aside0.mk (blk_below (g := gb101) (o := .cells #[.slice A0_0 l0_0.length c0_0, .slice A0_1 l0_1.length c0_1] 25 (0, 0)) (by (with_reducible repeat first | refine bN_ ?_ _ | refine bD_ ?_ | refine bA_ ?_ _); exact BK101.out) hb); have n1_ := Aside0.mk (blk_below (g := gb102) (o := .cells #[.slice A1_0 l1_0.length c1_0, .slice A1_1 l1_1.length c1_1] 25 (0, 0)) (by (with_reducible repeat first | refine bN_ ?_ _ | refine bD_ ?_ | refine bA_ ?_ _); exact BK102.out) hb); have n2_ := Aside0.mk (below_step (by repeat (first | (with_reducible first | exact HB.out | apply lA_ | apply lN_ | apply lD_ | refine below_set ?_ GE101.out | refine below_set ?_ GE102.out) | exact HB.out)) hb); have n3_ := Aside0.mk (hbox); have n4_ := Aside0.mk ((by rw [hg]; exact (below_size (by repeat (first | (with_reducible first | exact HB.out | apply lA_ | apply lN_ | apply lD_ | refine below_set ?_ GE101.out | refine below_set ?_ GE102.out) | exact HB.out))) : w.heap.size ≤ gb103)); have n5_ := Aside0.mk ((by rw [hg]; exact (below_size (by repeat (first | (with_reducible first | exact HB.out | apply lA_ | apply lN_ | apply lD_ | refine below_set ?_ GE101.out | refine below_set ?_ GE102.out) | exact HB.out))) : w.heap.size ≤ gb103)); have n6_ := Aside0.mk ((by rw [hg]; exact Nat.ne_of_lt (blk_lt (g := gb101) (o := .cells #[.slice A0_0 l0_0.length c0_0, .slice A0_1 l0_1.length c0_1] 25 (0, 0)) (by (with_reducible repeat first | refine bN_ ?_ _ | refine bD_ ?_ | refine bA_ ?_ _); exact BK101.out)) : gb101 ≠ gb103)); have n7_ := Aside0.mk ((by rw [hg]; exact Nat.ne_of_gt (blk_lt (g := gb101) (o := .cells #[.slice A0_0 l0_0.length c0_0, .slice A0_1 l0_1.length c0_1] 25 (0, 0)) (by (with_reducible repeat first | refine bN_ ?_ _ | refine bD_ ?_ | refine bA_ ?_ _); exact BK101.out)) : gb103 ≠ gb101)); have n8_ := Aside0.mk ((by rw [hg]; exact Nat.ne_of_lt (blk_lt (g := gb102) (o := .cells #[.slice A1_0 l1_0.length c1_0, .slice A1_1 l1_1.length c1_1] 25 (0, 0)) (by (with_reducible repeat first | refine bN_ ?_ _ | refine bD_ ?_ | refine bA_ ?_ _); exact BK102.out)) : gb102 ≠ gb103)); have n9_ := Aside0.mk ((by rw [hg]; exact Nat.ne_of_gt (blk_lt (g := gb102) (o := .cells #[.slice A1_0 l1_0.length c1_0, .slice A1_1 l1_1.length c1_1] 25 (0, 0)) (by (with_reducible repeat first | refine bN_ ?_ _ | refine bD_ ?_ | refine bA_ ?_ _); exact BK102.out)) : gb103 ≠ gb102)); clear BK101; clear BK102; clear HB; have BK101 := n0_; have BK102 := n1_; have HB := n2_; have BK103 := n3_; have GW103 := n4_; have GE103 := n5_; have NB101_103 := n6_; have NB103_101 := n7_; have NB102_103 := n8_; have NB103_102 := n9_; clear n0_ n1_ n2_ n3_ n4_ n5_ n6_ n7_ n8_ n9_; clear hb hbox hg) | ((with_reducible refine gate_dst (N := 6) rfl ?_); refine box_event ?hg (N := 6) ?hd (cs := #[.slice none 0 0, .slice none 0 0]) (t := 27) ?hr ?_; (case hd => rfl); (case hg => rfl); (case hr => first | (go_simp; done) | (go_simp; rfl)); intro gb104 hg w13 hbox hb; have n0_ := Aside0.mk (blk_below (g := gb101) (o := .cells #[.slice A0_0 l0_0.length c0_0, .slice A0_1 l0_1.length c0_1] 25 (0, 0)) (by (with_reducible repeat first | refine bN_ ?_ _ | refine bD_ ?_ | refine bA_ ?_ _); exact BK101.out) hb); have n1_ := Aside0.mk (blk_below (g := gb102) (o := .cells #[.slice A1_0 l1_0.length c1_0, .slice A1_1 l1_1.length c1_1] 25 (0, 0)) (by (with_reducible repeat first | refine bN_ ?_ _ | refine bD_ ?_ | refine bA_ ?_ _); exact BK102.out) hb); have n2_ := Aside0.mk (blk_below (g := gb103) (o := .cells #[.slice A2_0 l2_0.length c2_0, .slice A2_1 l2_1.length c2_1] 51 (0, 0)) (by (with_reducible repeat first | refine bN_ ?_ _ | refine bD_ ?_ | refine bA_ ?_ _); exact BK103.out) hb); have n3_ := Aside0.mk (below_step (by repeat (first | (with_reducible first | exact HB.out | apply lA_ | apply lN_ | apply lD_ | refine below_set ?_ GE101.out | refine below_set ?_ GE102.out | refine below_set ?_ GE103.out) | exact HB.out)) hb); have n4_ := Aside0.mk (hbox); have n5_ := Aside0.mk ((by rw [hg]; exact (below_size (by repeat (first | (with_reducible first | exact HB.out | apply lA_ | apply lN_ | apply lD_ | refine below_set ?_ GE101.out | refine below_set ?_ GE102.out | refine below_set ?_ GE103.out) | exact HB.out))) : w.heap.size ≤ gb104)); have n6_ := Aside0.mk ((by rw [hg]; exact (below_size (by repeat (first | (with_reducible first | exact HB.out | apply lA_ | apply lN_ | apply lD_ | refine below_set ?_ GE101.out | refine below_set ?_ GE102.out | refine below_set ?_ GE103.out) | exact HB.out))) : w.heap.size ≤ gb104)); have n7_ := Aside0.mk ((by rw [hg]; exact Nat.ne_of_lt (blk_lt (g := gb101) (o := .cells #[.slice A0_0 l0_0.length c0_0, .slice A0_1 l0_1.length c0_1] 25 (0, 0)) (by (with_reducible repeat first | refine bN_ ?_ _ | refine bD_ ?_ | refine bA_ ?_ _); exact BK101.out)) : gb101 ≠ gb104)); have n8_ := Aside0.mk ((by rw [hg]; exact Nat.ne_of_gt (blk_lt (g := gb101) (o := .cells #[.slice A0_0 l0_0.length c0_0, .slice A0_1 l0_1.length c0_1] 25 (0, 0)) (by (with_reducible repeat first | refine bN_ ?_ _ | refine bD_ ?_ | refine bA_ ?_ _); exact BK101.out)) : gb104 ≠ gb101)); have n9_ := Aside0.mk ((by rw [hg]; exact Nat.ne_of_lt (blk_lt (g := gb102) (o := .cells #[.slice A1_0 l1_0.length c1_0, .slice A1_1 l1_1.length c1_1] 25 (0, 0)) (by (with_reducible repeat first | refine bN_ ?_ _ | refine bD_ ?_ | refine bA_ ?_ _); exact BK102.out)) : gb102 ≠ gb104)); have n10_ := Aside0.mk ((by rw [hg]; exact Nat.ne_of_gt (blk_lt (g := gb102) (o := .cells #[.slice A1_0 l1_0.length c1_0, .slice A1_1 l1_1.length c1_1] 25 (0, 0)) (by (with_reducible repeat first | refine bN_ ?_ _ | refine bD_ ?_ | refine bA_ ?_ _); exact BK102.out)) : gb104 ≠ gb102)); have n11_ := Aside0.mk ((by rw [hg]; exact Nat.ne_of_lt (blk_lt (g := gb103) (o := .cells #[.slice A2_0 l2_0.length c2_0, .slice A2_1 l2_1.length c2_1] 51 (0, 0)) (by (with_reducible repeat first | refine bN_ ?_ _ | refine bD_ ?_ | refine bA_ ?_ _); exact BK103.out)) : gb103 ≠ gb104)); have n12_ := Aside0.mk ((by rw [hg]; exact Nat.ne_of_gt (blk_lt (g := gb103) (o := .cells #[.slice A2_0 l2_0.length c2_0, .slice A2_1 l2_1.length c2_1] 51 (0, 0)) (by (with_reducible repeat first | refine bN_ ?_ _ | refine bD_ ?_ | refine bA_ ?_ _); exact BK103.out)) : gb104 ≠ gb103)); clear BK101; clear BK102; clear BK103; clear HB; have BK101 := n0_; have BK102 := n1_; have BK103 := n2_; have HB := n3_; have BK104 := n4_; have GW104 := n5_; have GE104 := n6_; have NB101_104 := n7_; have NB104_101 := n8_; have NB102_104 := n9_; have NB104_102 := n10_; have NB103_104 := n11_; have NB104_103 := n12_; clear n0_ n1_ n2_ n3_ n4_ n5_ n6_ n7_ n8_ n9_ n10_ n11_ n12_; clear hb hbox hg; have hnb14 := NB101_102.out; have hnc14 := NB102_101.out; have hnb15 := NB101_103.out; have hnc15 := NB103_101.out; have hnb16 := NB101_104.out; have hnc16 := NB104_101.out; have hcz17_0 : w13.cell? ⟨gb101, 0, none⟩ = some (.slice A0_0 l0_0.length c0_0) := (blk_cell BK101.out 0).trans rfl; have hcz17_1 : w13.cell? ⟨gb101, 1, none⟩ = some (.slice A0_1 l0_1.length c0_1) := (blk_cell BK101.out 1).trans rfl; have hfz17_0 := blk_frozen BK101.out 0; have hfz17_1 := blk_frozen BK101.out 1; have hnb18 := NB102_103.out; have hnc18 := NB103_102.out; have hnb19 := NB102_104.out; have hnc19 := NB104_102.out; have hcz20_0 : w13.cell? ⟨gb102, 0, none⟩ = some (.slice A1_0 l1_0.length c1_0) := (blk_cell BK102.out 0).trans rfl; have hcz20_1 : w13.cell? ⟨gb102, 1, none⟩ = some (.slice A1_1 l1_1.length c1_1) := (blk_cell BK102.out 1).trans rfl; have hfz20_0 := blk_frozen BK102.out 0; have hfz20_1 := blk_frozen BK102.out 1; have hnb21 := NB103_104.out; have hnc21 := NB104_103.out; have hcz22_0 : w13.cell? ⟨gb103, 0, none⟩ = some (.slice A2_0 l2_0.length c2_0) := (blk_cell BK103.out 0).trans rfl; have hcz22_1 : w13.cell? ⟨gb103, 1, none⟩ = some (.slice A2_1 l2_1.length c2_1) := (blk_cell BK103.out 1).trans rfl; have hfz22_0 := blk_frozen BK103.out 0; have hfz22_1 := blk_frozen BK103.out 1) | ((with_reducible refine gate_callee (f := 80) rfl ?_); refine goesL_ (some 12) rfl rfl Try.func80 (by kernel_rfl) rfl #[.agg #[.slice A0_0 l0_0.length c0_0, .slice A0_1 l0_1.length c0_1], .agg #[.slice A1_0 l1_0.length c1_0, .slice A1_1 l1_1.length c1_1], .agg #[.slice A2_0 l2_0.length c2_0, .slice A2_1 l2_1.length c2_1]] rfl (by (try simp only [List.map_toArray, List.map_cons, List.map_nil]); first | done | rfl | (simp only [List.length_drop, List.length_take]; rfl)) ?_; (with_reducible refine (morphism_Valid.calls _ _ l0_0 _ _ l0_1 _ _ l1_0 _ _ l1_1 _ _ l2_0 _ _ l2_1 t105 _ ?side1 ?side2 ?side3 ?side4 ?side5 ?side6 ?side7 ?side8 ?side9 ?side10 ?side11 ?side12 A4.out).mono ?_); (case side1 => repeat (first | exact (Kd.C_below HR0_0.out HB.out) | (with_reducible refine Kd.C_alloc ?_ _) | (with_reducible refine Kd.C_drewN ?_ _) | (with_reducible refine Kd.C_drew ?_))); (case side2 => exact HC0_0.out); (case side3 => repeat (first | exact (Kd.C_below HR0_1.out HB.out) | (with_reducible refine Kd.C_alloc ?_ _) | (with_reducible refine Kd.C_drewN ?_ _) | (with_reducible refine Kd.C_drew ?_))); (case side4 => exact HC0_1.out); (case side5 => repeat (first | exact (Kd.C_below HR1_0.out HB.out) | (with_reducible refine Kd.C_alloc ?_ _) | (with_reducible refine Kd.C_drewN ?_ _) | (with_reducible refine Kd.C_drew ?_))); (case side6 => exact HC1_0.out); (case side7 => repeat (first | exact (Kd.C_below HR1_1.out HB.out) | (with_reducible refine Kd.C_alloc ?_ _) | (with_reducible refine Kd.C_drewN ?_ _) | (with_reducible refine Kd.C_drew ?_))); (case side8 => exact HC1_1.out); (case side9 => repeat (first | exact (Kd.C_below HR2_0.out HB.out) | (with_reducible refine Kd.C_alloc ?_ _) | (with_reducible refine Kd.C_drewN ?_ _) | (with_reducible refine Kd.C_drew ?_))); (case side10 => exact HC2_0.out); (case side11 => repeat (first | exact (Kd.C_below HR2_1.out HB.out) | (with_reducible refine Kd.C_alloc ?_ _) | (with_reducible refine Kd.C_drewN ?_ _) | (with_reducible refine Kd.C_drew ?_))); (case side12 => exact HC2_1.out); rintro e w23 ⟨rfl, hb⟩; refine ⟨_, rfl, ?_⟩; have n0_ := Aside0.mk (blk_below (g := gb101) (o := .cells #[.slice A0_0 l0_0.length c0_0, .slice A0_1 l0_1.length c0_1] 25 (0, 0)) (by (with_reducible repeat first | refine bN_ ?_ _ | refine bD_ ?_ | refine bA_ ?_ _); exact BK101.out) hb); have n1_ := Aside0.mk (blk_below (g := gb102) (o := .cells #[.slice A1_0 l1_0.length c1_0, .slice A1_1 l1_1.length c1_1] 25 (0, 0)) (by (with_reducible repeat first | refine bN_ ?_ _ | refine bD_ ?_ | refine bA_ ?_ _); exact BK102.out) hb); have n2_ := Aside0.mk (blk_below (g := gb103) (o := .cells #[.slice A2_0 l2_0.length c2_0, .slice A2_1 l2_1.length c2_1] 51 (0, 0)) (by (with_reducible repeat first | refine bN_ ?_ _ | refine bD_ ?_ | refine bA_ ?_ _); exact BK103.out) hb); have n3_ := Aside0.mk (blk_below (g := gb104) (o := .cells #[.slice none 0 0, .slice none 0 0] 27 (0, 0)) (by (with_reducible repeat first | refine bN_ ?_ _ | refine bD_ ?_ | refine bA_ ?_ _); exact BK104.out) hb); have n4_ := Aside0.mk (below_step (by repeat (first | (with_reducible first | exact HB.out | apply lA_ | apply lN_ | apply lD_ | refine below_set ?_ GE101.out | refine below_set ?_ GE102.out | refine below_set ?_ GE103.out | refine below_set ?_ GE104.out) | exact HB.out)) hb); clear BK101; clear BK102; clear BK103; clear BK104; clear HB; have BK101 := n0_; have BK102 := n1_; have BK103 := n2_; have BK104 := n3_; have HB := n4_; clear n0_ n1_ n2_ n3_ n4_; (try clear hb); (try clear hb2); (try clear hk); (try clear hi)))
  have n0_ := Aside0.mk (blk_drew BK101.out); have n1_ := Aside0.mk (blk_drew BK102.out); have n2_ := Aside0.mk (blk_drew BK103.out); have n3_ := Aside0.mk (blk_drew BK104.out); have n4_ := Aside0.mk (below_drew1 HB.out); clear BK101; clear BK102; clear BK103; clear BK104; clear HB; have BK101 := n0_; have BK102 := n1_; have BK103 := n2_; have BK104 := n3_; have HB := n4_; clear n0_ n1_ n2_ n3_ n4_
  refine start_ (n := 11) (S := fun w' => w'.cell? ⟨gb103, 0, none⟩ = some (.slice A2_0 l2_0.length c2_0) ∧ w'.cell? ⟨gb103, 1, none⟩ = some (.slice A2_1 l2_1.length c2_1)) (ds := []) #[false, false, false, false, false, false, false, false, false, false, false] (by kernel_rfl) rfl rfl ⟨(blk_cell BK103.out 0).trans rfl, (blk_cell BK103.out 1).trans rfl⟩ (fun hHeld => ?_); refine with_tabW subgraph_Image.tab4 subgraph_Image.bits4 (fun HT_ HW_ => ?_)
  generalize w23.drew = w24 at BK101 BK102 BK103 BK104 HB hHeld ⊢
  refine pure_ (i := 0) (N := some 17) (v := ?_) (a' := ?_) #[true, false, false, false, false, false, false, false, false, false, false] rfl rfl (any_of HT_.out (by kernel_rfl)) (fun _ _ _ h => h) (Or.inl ⟨by rfl, ?_⟩) ?_ ?_
  rotate_left
  ·intro w'
   go_simp
   with_reducible rfl
  rotate_left
  ·simp only [Act.put, sI_, s0_, sS_, i64_w, i32_w]
   rfl
  refine pure_ (i := 4) (N := some 21) (v := ?_) (a' := ?_) #[true, false, false, false, true, false, false, false, false, false, false] rfl rfl (any_of HT_.out (by kernel_rfl)) (fun _ _ _ h => h) (Or.inl ⟨by rfl, ?_⟩) ?_ ?_
  rotate_left
  ·intro w'
   go_simp
   with_reducible rfl
  rotate_left
  ·simp only [Act.put, sI_, s0_, sS_, i64_w, i32_w]
   rfl
  refine take_ (i := 1) (N := some 18) (v := ?_) (a' := ?_) #[true, true, false, false, true, false, false, false, false, false, false] rfl rfl (take_ofW HT_.out HW_.out (by kernel_rfl)) (fun _ _ _ h => h) (Or.inl ⟨by rfl, ?_⟩) hHeld ?_ ?_
  rotate_left
  ·rintro w' ⟨s0, s1⟩
   go_simp
   with_reducible rfl
  rotate_left
  ·simp only [Act.put, sI_, s0_, sS_, i64_w, i32_w]
   rfl
  refine take_ (i := 5) (N := some 22) (v := ?_) (a' := ?_) #[true, true, false, false, true, true, false, false, false, false, false] rfl rfl (take_ofW HT_.out HW_.out (by kernel_rfl)) (fun _ _ _ h => h) (Or.inl ⟨by rfl, ?_⟩) hHeld ?_ ?_
  rotate_left
  ·rintro w' ⟨s0, s1⟩
   go_simp
   with_reducible rfl
  rotate_left
  ·simp only [Act.put, sI_, s0_, sS_, i64_w, i32_w]
   rfl
  refine one_ (i := 2) (N := some 19) #[true, true, true, false, true, true, false, false, false, false, false] rfl rfl (one_of HT_.out (by kernel_rfl)) (by decide) (fun K hK => ?_)
  refine goes_ Try.func15 (by kernel_rfl) rfl #[.slice A2_0 l2_0.length c2_0] (by rfl) rfl rfl (by (try simp only [List.map_toArray, List.map_cons, List.map_nil]); first | done | rfl | (simp only [List.length_drop, List.length_take]; rfl)) ?_
  with_reducible refine (slices_Clone_int_int.calls _ _ l2_0 t106 _ ?side1 ?side2 A6.out).mono ?_
  (case side1 => repeat (first | exact (Kd.C_below HR2_0.out HB.out) | (with_reducible refine Kd.C_alloc ?_ _) | (with_reducible refine Kd.C_drewN ?_ _) | (with_reducible refine Kd.C_drew ?_)))
  (case side2 => exact HC2_0.out)
  rintro e w25 ⟨v107, rfl, ho0, hb⟩
  refine ⟨_, rfl, ?_⟩
  have n0_ := Aside0.mk (Kd.R_lower ho0 (below_size (by repeat (first | (with_reducible first | exact HB.out | apply lA_ | apply lN_ | apply lD_ | refine below_set ?_ GE101.out | refine below_set ?_ GE102.out | refine below_set ?_ GE103.out | refine below_set ?_ GE104.out) | exact HB.out)))); have n1_ := Aside0.mk (blk_below (g := gb101) (o := .cells #[.slice A0_0 l0_0.length c0_0, .slice A0_1 l0_1.length c0_1] 25 (0, 0)) (by (with_reducible repeat first | refine bN_ ?_ _ | refine bD_ ?_ | refine bA_ ?_ _); exact BK101.out) hb); have n2_ := Aside0.mk (blk_below (g := gb102) (o := .cells #[.slice A1_0 l1_0.length c1_0, .slice A1_1 l1_1.length c1_1] 25 (0, 0)) (by (with_reducible repeat first | refine bN_ ?_ _ | refine bD_ ?_ | refine bA_ ?_ _); exact BK102.out) hb); have n3_ := Aside0.mk (blk_below (g := gb103) (o := .cells #[.slice A2_0 l2_0.length c2_0, .slice A2_1 l2_1.length c2_1] 51 (0, 0)) (by (with_reducible repeat first | refine bN_ ?_ _ | refine bD_ ?_ | refine bA_ ?_ _); exact BK103.out) hb); have n4_ := Aside0.mk (blk_below (g := gb104) (o := .cells #[.slice none 0 0, .slice none 0 0] 27 (0, 0)) (by (with_reducible repeat first | refine bN_ ?_ _ | refine bD_ ?_ | refine bA_ ?_ _); exact BK104.out) hb); have n5_ := Aside0.mk (below_step (by repeat (first | (with_reducible first | exact HB.out | apply lA_ | apply lN_ | apply lD_ | refine below_set ?_ GE101.out | refine below_set ?_ GE102.out | refine below_set ?_ GE103.out | refine below_set ?_ GE104.out) | exact HB.out)) hb); clear BK101; clear BK102; clear BK103; clear BK104; clear HB; have HO108 := n0_; have BK101 := n1_; have BK102 := n2_; have BK103 := n3_; have BK104 := n4_; have HB := n5_; clear n0_ n1_ n2_ n3_ n4_ n5_
  (try clear hb)
  (try clear hb2)
  (try clear hk)
  (try clear hi)
  (try clear ho0)
  obtain ⟨Ao26, co26, eo26⟩ := Kd.R_slice HO108.out
  (first | subst eo26 | (injection eo26 with f1_ f2_ f3_; have f4_ := f1_.symm; have f5_ := f3_.symm; clear f1_ f2_ f3_; subst f4_; subst f5_))
  refine hK.out _ _ ⟨(blk_cell BK103.out 0).trans rfl, (blk_cell BK103.out 1).trans rfl⟩ (fun hHeld => ?_)
  clear hK K
  refine norm_ (a' := ?_) ?_ ?_
  rotate_left
  ·show Act.put _ (some 19) _ = _
   simp only [Act.put, sI_, s0_, sS_, i64_w, i32_w]
   rfl
  refine one_ (i := 3) (N := some 20) #[true, true, true, true, true, true, false, false, false, false, false] rfl rfl (one_of HT_.out (by kernel_rfl)) (by decide) (fun K hK => ?_)
  refine goes_ Try.func57 (by kernel_rfl) rfl #[.slice Ao26 t106.length co26] (by rfl) rfl rfl (by (try simp only [List.map_toArray, List.map_cons, List.map_nil]); first | done | rfl | (simp only [List.length_drop, List.length_take]; rfl)) ?_
  with_reducible refine (subgraph_sorted.calls (fun k_ => some k_ = (.slice Ao26 t106.length co26 : Value).ownBlock) (.slice Ao26 t106.length co26) t106 t109 w _ ?side1 ?side2 A7.out).mono ?_
  (case side1 => repeat (first | (with_reducible first | exact HB.out | apply lA_ | apply lN_ | apply lD_ | refine below_set ?_ GE101.out | refine below_set ?_ GE102.out | refine below_set ?_ GE103.out | refine below_set ?_ GE104.out) | exact HB.out))
  (case side2 => exact Kd.R_tight rfl HO108.out)
  rintro e w27 ⟨v110, rfl, ho0, hb, hkp⟩
  refine ⟨_, rfl, ?_⟩
  have n0_ := Aside0.mk (blk_kept (by (with_reducible repeat first | refine bN_ ?_ _ | refine bD_ ?_ | refine bA_ ?_ _); exact BK101.out) hkp (fun hs_ => (fun e_ => (Kd.R_ne HO108.out BK101.out (by decide)) e_) hs_)); have n1_ := Aside0.mk (blk_kept (by (with_reducible repeat first | refine bN_ ?_ _ | refine bD_ ?_ | refine bA_ ?_ _); exact BK102.out) hkp (fun hs_ => (fun e_ => (Kd.R_ne HO108.out BK102.out (by decide)) e_) hs_)); have n2_ := Aside0.mk (blk_kept (by (with_reducible repeat first | refine bN_ ?_ _ | refine bD_ ?_ | refine bA_ ?_ _); exact BK103.out) hkp (fun hs_ => (fun e_ => (Kd.R_ne HO108.out BK103.out (by decide)) e_) hs_)); have n3_ := Aside0.mk (blk_kept (by (with_reducible repeat first | refine bN_ ?_ _ | refine bD_ ?_ | refine bA_ ?_ _); exact BK104.out) hkp (fun hs_ => (fun e_ => (Kd.R_ne HO108.out BK104.out (by decide)) e_) hs_)); have n4_ := Aside0.mk (Kd.R_mono (ok' := fun k_ => True) ho0 (fun k_ hk_ => trivial)); have n5_ := Aside0.mk (hb); clear BK101; clear BK102; clear BK103; clear BK104; clear HB; clear HO108; have BK101 := n0_; have BK102 := n1_; have BK103 := n2_; have BK104 := n3_; have HO111 := n4_; have HB := n5_; clear n0_ n1_ n2_ n3_ n4_ n5_
  (try clear hb)
  (try clear hkp)
  (try clear ho0)
  refine hK.out _ _ ⟨(blk_cell BK103.out 0).trans rfl, (blk_cell BK103.out 1).trans rfl⟩ (fun hHeld => ?_)
  clear hK K
  refine norm_ (a' := ?_) ?_ ?_
  rotate_left
  ·show Act.put _ (some 20) _ = _
   simp only [Act.put, sI_, s0_, sS_, i64_w, i32_w]
   rfl
  refine one_ (i := 6) (N := some 23) #[true, true, true, true, true, true, true, false, false, false, false] rfl rfl (one_of HT_.out (by kernel_rfl)) (by decide) (fun K hK => ?_)
  refine goes_ Try.func15 (by kernel_rfl) rfl #[.slice A2_1 l2_1.length c2_1] (by rfl) rfl rfl (by (try simp only [List.map_toArray, List.map_cons, List.map_nil]); first | done | rfl | (simp only [List.length_drop, List.length_take]; rfl)) ?_
  with_reducible refine (slices_Clone_int_int.calls _ _ l2_1 t112 _ ?side1 ?side2 A8.out).mono ?_
  (case side1 => repeat (first | exact (Kd.C_below HR2_1.out HB.out) | (with_reducible refine Kd.C_alloc ?_ _) | (with_reducible refine Kd.C_drewN ?_ _) | (with_reducible refine Kd.C_drew ?_)))
  (case side2 => exact HC2_1.out)
  rintro e w28 ⟨v113, rfl, ho0, hb⟩
  refine ⟨_, rfl, ?_⟩
  have n0_ := Aside0.mk (Kd.R_elder' (by (with_reducible repeat (first | apply rA_ | apply rN_ | apply rD_)); exact HO111.out) (Kd.R_base ho0) hb); have n1_ := Aside0.mk (Kd.R_lower (Kd.R_new' ho0 (Kd.R_lt (by (with_reducible repeat (first | apply rA_ | apply rN_ | apply rD_)); exact HO111.out))) (below_size (by repeat (first | (with_reducible first | exact HB.out | apply lA_ | apply lN_ | apply lD_ | refine below_set ?_ GE101.out | refine below_set ?_ GE102.out | refine below_set ?_ GE103.out | refine below_set ?_ GE104.out) | exact HB.out)))); have n2_ := Aside0.mk (blk_below (g := gb101) (o := .cells #[.slice A0_0 l0_0.length c0_0, .slice A0_1 l0_1.length c0_1] 25 (0, 0)) (by (with_reducible repeat first | refine bN_ ?_ _ | refine bD_ ?_ | refine bA_ ?_ _); exact BK101.out) hb); have n3_ := Aside0.mk (blk_below (g := gb102) (o := .cells #[.slice A1_0 l1_0.length c1_0, .slice A1_1 l1_1.length c1_1] 25 (0, 0)) (by (with_reducible repeat first | refine bN_ ?_ _ | refine bD_ ?_ | refine bA_ ?_ _); exact BK102.out) hb); have n4_ := Aside0.mk (blk_below (g := gb103) (o := .cells #[.slice A2_0 l2_0.length c2_0, .slice A2_1 l2_1.length c2_1] 51 (0, 0)) (by (with_reducible repeat first | refine bN_ ?_ _ | refine bD_ ?_ | refine bA_ ?_ _); exact BK103.out) hb); have n5_ := Aside0.mk (blk_below (g := gb104) (o := .cells #[.slice none 0 0, .slice none 0 0] 27 (0, 0)) (by (with_reducible repeat first | refine bN_ ?_ _ | refine bD_ ?_ | refine bA_ ?_ _); exact BK104.out) hb); have n6_ := Aside0.mk (below_step (by repeat (first | (with_reducible first | exact HB.out | apply lA_ | apply lN_ | apply lD_ | refine below_set ?_ GE101.out | refine below_set ?_ GE102.out | refine below_set ?_ GE103.out | refine below_set ?_ GE104.out) | exact HB.out)) hb); clear HO111; clear BK101; clear BK102; clear BK103; clear BK104; clear HB; have HO111 := n0_; have HO114 := n1_; have BK101 := n2_; have BK102 := n3_; have BK103 := n4_; have BK104 := n5_; have HB := n6_; clear n0_ n1_ n2_ n3_ n4_ n5_ n6_
  (try clear hb)
  (try clear hb2)
  (try clear hk)
  (try clear hi)
  (try clear ho0)
  obtain ⟨Ao29, co29, eo29⟩ := Kd.R_slice HO114.out
  (first | subst eo29 | (injection eo29 with f1_ f2_ f3_; have f4_ := f1_.symm; have f5_ := f3_.symm; clear f1_ f2_ f3_; subst f4_; subst f5_))
  refine hK.out _ _ ⟨(blk_cell BK103.out 0).trans rfl, (blk_cell BK103.out 1).trans rfl⟩ (fun hHeld => ?_)
  clear hK K
  refine norm_ (a' := ?_) ?_ ?_
  rotate_left
  ·show Act.put _ (some 23) _ = _
   simp only [Act.put, sI_, s0_, sS_, i64_w, i32_w]
   rfl
  refine one_ (i := 7) (N := some 24) #[true, true, true, true, true, true, true, true, false, false, false] rfl rfl (one_of HT_.out (by kernel_rfl)) (by decide) (fun K hK => ?_)
  refine goes_ Try.func57 (by kernel_rfl) rfl #[.slice Ao29 t112.length co29] (by rfl) rfl rfl (by (try simp only [List.map_toArray, List.map_cons, List.map_nil]); first | done | rfl | (simp only [List.length_drop, List.length_take]; rfl)) ?_
  with_reducible refine (subgraph_sorted.calls (fun k_ => some k_ = (.slice Ao29 t112.length co29 : Value).ownBlock) (.slice Ao29 t112.length co29) t112 t115 w _ ?side1 ?side2 A9.out).mono ?_
  (case side1 => repeat (first | (with_reducible first | exact HB.out | apply lA_ | apply lN_ | apply lD_ | refine below_set ?_ GE101.out | refine below_set ?_ GE102.out | refine below_set ?_ GE103.out | refine below_set ?_ GE104.out) | exact HB.out))
  (case side2 => exact Kd.R_tight rfl HO114.out)
  rintro e w30 ⟨v116, rfl, ho0, hb, hkp⟩
  refine ⟨_, rfl, ?_⟩
  have n0_ := Aside0.mk (blk_kept (by (with_reducible repeat first | refine bN_ ?_ _ | refine bD_ ?_ | refine bA_ ?_ _); exact BK101.out) hkp (fun hs_ => (fun e_ => (Kd.R_ne HO114.out BK101.out (by decide)) e_) hs_)); have n1_ := Aside0.mk (blk_kept (by (with_reducible repeat first | refine bN_ ?_ _ | refine bD_ ?_ | refine bA_ ?_ _); exact BK102.out) hkp (fun hs_ => (fun e_ => (Kd.R_ne HO114.out BK102.out (by decide)) e_) hs_)); have n2_ := Aside0.mk (blk_kept (by (with_reducible repeat first | refine bN_ ?_ _ | refine bD_ ?_ | refine bA_ ?_ _); exact BK103.out) hkp (fun hs_ => (fun e_ => (Kd.R_ne HO114.out BK103.out (by decide)) e_) hs_)); have n3_ := Aside0.mk (blk_kept (by (with_reducible repeat first | refine bN_ ?_ _ | refine bD_ ?_ | refine bA_ ?_ _); exact BK104.out) hkp (fun hs_ => (fun e_ => (Kd.R_ne HO114.out BK104.out (by decide)) e_) hs_)); have n4_ := Aside0.mk (Kd.R_mono (ok' := fun k_ => some k_ ≠ (v116 : Value).ownBlock) (Kd.R_keptB (HO111.out) hkp (fun k_ hk_ hs_ => (hk_.2) hs_)) (fun k_ hk_ => fun e_ => Or.elim (ho0.1 k_ e_.symm) (fun hs_ => hk_.2.1 hs_) (fun hn_ => Nat.not_le.2 hk_.2.2 hn_))); have n5_ := Aside0.mk (Kd.R_mono (ok' := fun k_ => some k_ ≠ (v110 : Value).ownBlock) ho0 (fun k_ hk_ => Or.elim hk_ (fun hs_ => fun e_ => (((HO111.out).1 k_ e_.symm).2) hs_) (fun hn_ => (Kd.fresh' (Kd.R_lt (by (with_reducible repeat (first | apply rA_ | apply rN_ | apply rD_)); exact HO111.out)) k_ hn_)))); have n6_ := Aside0.mk (hb); clear BK101; clear BK102; clear BK103; clear BK104; clear HO111; clear HB; clear HO114; have BK101 := n0_; have BK102 := n1_; have BK103 := n2_; have BK104 := n3_; have HO111 := n4_; have HO117 := n5_; have HB := n6_; clear n0_ n1_ n2_ n3_ n4_ n5_ n6_
  (try clear hb)
  (try clear hkp)
  (try clear ho0)
  obtain ⟨Ao31, co31, eo31⟩ := Kd.R_slice HO117.out
  (first | subst eo31 | (injection eo31 with f1_ f2_ f3_; have f4_ := f1_.symm; have f5_ := f3_.symm; clear f1_ f2_ f3_; subst f4_; subst f5_))
  obtain ⟨Ao32, co32, eo32⟩ := Kd.R_slice HO111.out
  (first | subst eo32 | (injection eo32 with f1_ f2_ f3_; have f4_ := f1_.symm; have f5_ := f3_.symm; clear f1_ f2_ f3_; subst f4_; subst f5_))
  refine hK.out _ _ ⟨(blk_cell BK103.out 0).trans rfl, (blk_cell BK103.out 1).trans rfl⟩ (fun hHeld => ?_)
  clear hK K
  refine norm_ (a' := ?_) ?_ ?_
  rotate_left
  ·show Act.put _ (some 24) _ = _
   simp only [Act.put, sI_, s0_, sS_, i64_w, i32_w]
   rfl
  refine pure_ (i := 8) (N := some 25) (v := ?_) (a' := ?_) #[true, true, true, true, true, true, true, true, true, false, false] rfl rfl (any_of HT_.out (by kernel_rfl)) (fun _ _ _ h => h) (Or.inl ⟨by rfl, ?_⟩) ?_ ?_
  rotate_left
  ·intro w'
   go_simp
   with_reducible rfl
  rotate_left
  ·simp only [Act.put, sI_, s0_, sS_, i64_w, i32_w]
   rfl
  refine one_ (i := 9) (N := none) #[true, true, true, true, true, true, true, true, true, true, false] rfl rfl (one_of HT_.out (by kernel_rfl)) (by decide) (fun K hK => ?_)
  have hs33 : w30.cell? ⟨gb104, 0, none⟩ = some (.slice none 0 0) := (blk_cell BK104.out 0).trans rfl
  have hfs33 := blk_frozen BK104.out 0; have hns33_0 := NB101_104.out; have hns33_1 := NB102_104.out; have hns33_2 := NB103_104.out; have hms33_0 := NB104_101.out; have hms33_1 := NB104_102.out; have hms33_2 := NB104_103.out
  have hs34 : w30.cell? ⟨gb104, 1, none⟩ = some (.slice none 0 0) := (blk_cell BK104.out 1).trans rfl
  have hfs34 := blk_frozen BK104.out 1; have hns34_0 := NB101_104.out; have hns34_1 := NB102_104.out; have hns34_2 := NB103_104.out; have hms34_0 := NB104_101.out; have hms34_1 := NB104_102.out; have hms34_2 := NB104_103.out
  refine skip_ (w1 := ?_) (by rfl) rfl ?_ ?_
  rotate_left
  ·go_simp
   rfl
  refine hK.out _ _ ⟨((cell_far (p := ⟨gb104, _, none⟩) NB103_104.out _).trans (((cell_far (p := ⟨gb104, _, none⟩) NB103_104.out _).trans (hHeld.1)))), ((cell_far (p := ⟨gb104, _, none⟩) NB103_104.out _).trans (((cell_far (p := ⟨gb104, _, none⟩) NB103_104.out _).trans (hHeld.2))))⟩ (fun hHeld => ?_)
  clear hK K
  refine pure_ (i := 10) (N := some 7) (v := ?_) (a' := ?_) #[true, true, true, true, true, true, true, true, true, true, true] rfl rfl (any_of HT_.out (by kernel_rfl)) (fun _ _ _ h => h) (Or.inl ⟨by rfl, ?_⟩) ?_ ?_
  rotate_left
  ·intro w'
   go_simp
   with_reducible rfl
  rotate_left
  ·simp only [Act.put, sI_, s0_, sS_, i64_w, i32_w]
   rfl
  refine done_ (done_of HT_.out (by kernel_rfl)) ?_
  try go_wp2
  refine bodyPost_ret (results_ct rfl _ _ gb104 27 #[.slice Ao32 t109.length co32, .slice Ao31 t115.length co31] (0, 0) _ rfl (by (with_reducible repeat first | refine bN_ ?_ _ | refine bD_ ?_ | refine bA_ ?_ _); refine blk_put (cs := #[.slice Ao32 t109.length co32, .slice none 0 0]) ?_ 1 _ rfl; (with_reducible repeat first | refine bN_ ?_ _ | refine bD_ ?_ | refine bA_ ?_ _); refine blk_put (cs := #[.slice none 0 0, .slice none 0 0]) ?_ 0 _ rfl; (with_reducible repeat first | refine bN_ ?_ _ | refine bD_ ?_ | refine bA_ ?_ _); exact BK104.out) Try.underlying27 rfl (by kernel_rfl)) rfl ?_
  exact ⟨_, _, by first | rfl | (simp [errW_none, errW_some] <;> rfl) | (simp [*, errW_none, errW_some] <;> rfl), by (with_reducible repeat (first | apply rA_ | apply rN_ | apply rD_)); exact Kd.R_mono (Kd.R_far (p := ⟨gb104, 1, none⟩) (Kd.R_far (p := ⟨gb104, 0, none⟩) (Kd.R_types HO111.out BK104.out (by decide)) (fun _ hk => hk.2) (.slice Ao32 t109.length co32)) (fun _ hk => hk.2) (.slice Ao31 t115.length co31)) (fun _ hk => hk.1), by (with_reducible repeat (first | apply rA_ | apply rN_ | apply rD_)); exact Kd.R_mono (Kd.R_far (p := ⟨gb104, 1, none⟩) (Kd.R_far (p := ⟨gb104, 0, none⟩) (Kd.R_types HO117.out BK104.out (by decide)) (fun _ hk => hk.2) (.slice Ao32 t109.length co32)) (fun _ hk => hk.2) (.slice Ao31 t115.length co31)) (fun _ hk => hk.1), by repeat (first | (with_reducible first | exact HB.out | apply lA_ | apply lN_ | apply lD_ | refine below_set ?_ GE101.out | refine below_set ?_ GE102.out | refine below_set ?_ GE103.out | refine below_set ?_ GE104.out) | exact HB.out)⟩
 ·rw [if_neg c5] at H
  have c5b0 : (t105 == 0) = false := beq_eq_false_iff_ne.mpr c5; have c5b1 : (t105 != 0) = true := bne_iff_ne.mpr c5; simp only [Option.some.injEq, Prod.mk.injEq] at H; obtain ⟨rfl, rfl, rfl⟩ := H
  go_enter Try.func40, Try.ntmps40
  go_wp2_with (first | ((with_reducible refine gate_dst (N := 3) rfl ?_); refine box_event ?hg (N := 3) ?hd (cs := #[.slice A0_0 l0_0.length c0_0, .slice A0_1 l0_1.length c0_1]) (t := 25) ?hr ?_; (case hd => rfl); (case hg => rfl); (case hr => first | (go_simp; done) | (go_simp; rfl)); intro gb101 hg w35 hbox hb; have n0_ := Aside0.mk (below_step (by repeat (first | (with_reducible first | exact HB.out | apply lA_ | apply lN_ | apply lD_) | exact HB.out)) hb); have n1_ := Aside0.mk (hbox); have n2_ := Aside0.mk ((by rw [hg]; exact (below_size (by repeat (first | (with_reducible first | exact HB.out | apply lA_ | apply lN_ | apply lD_) | exact HB.out))) : w.heap.size ≤ gb101)); have n3_ := Aside0.mk ((by rw [hg]; exact (below_size (by repeat (first | (with_reducible first | exact HB.out | apply lA_ | apply lN_ | apply lD_) | exact HB.out))) : w.heap.size ≤ gb101)); clear HB; have HB := n0_; have BK101 := n1_; have GW101 := n2_; have GE101 := n3_; clear n0_ n1_ n2_ n3_; clear hb hbox hg) | ((with_reducible refine gate_dst (N := 4) rfl ?_); refine box_event ?hg (N := 4) ?hd (cs := #[.slice A1_0 l1_0.length c1_0, .slice A1_1 l1_1.length c1_1]) (t := 25) ?hr ?_; (case hd => rfl); (case hg => rfl); (case hr => first | (go_simp; done) | (go_simp; rfl)); intro gb102 hg w36 hbox hb; have n0_ := Aside0.mk (blk_below (g := gb101) (o := .cells #[.slice A0_0 l0_0.length c0_0, .slice A0_1 l0_1.length c0_1] 25 (0, 0)) (by (with_reducible repeat first | refine bN_ ?_ _ | refine bD_ ?_ | refine bA_ ?_ _); exact BK101.out) hb); have n1_ := Aside0.mk (below_step (by repeat (first | (with_reducible first | exact HB.out | apply lA_ | apply lN_ | apply lD_ | refine below_set ?_ GE101.out) | exact HB.out)) hb); have n2_ := Aside0.mk (hbox); have n3_ := Aside0.mk ((by rw [hg]; exact (below_size (by repeat (first | (with_reducible first | exact HB.out | apply lA_ | apply lN_ | apply lD_ | refine below_set ?_ GE101.out) | exact HB.out))) : w.heap.size ≤ gb102)); have n4_ := Aside0.mk ((by rw [hg]; exact (below_size (by repeat (first | (with_reducible first | exact HB.out | apply lA_ | apply lN_ | apply lD_ | refine below_set ?_ GE101.out) | exact HB.out))) : w.heap.size ≤ gb102)); have n5_ := Aside0.mk ((by rw [hg]; exact Nat.ne_of_lt (blk_lt (g := gb101) (o := .cells #[.slice A0_0 l0_0.length c0_0, .slice A0_1 l0_1.length c0_1] 25 (0, 0)) (by (with_reducible repeat first | refine bN_ ?_ _ | refine bD_ ?_ | refine bA_ ?_ _); exact BK101.out)) : gb101 ≠ gb102)); have n6_ := Aside0.mk ((by rw [hg]; exact Nat.ne_of_gt (blk_lt (g := gb101) (o := .cells #[.slice A0_0 l0_0.length c0_0, .slice A0_1 l0_1.length c0_1] 25 (0, 0)) (by (with_reducible repeat first | refine bN_ ?_ _ | refine bD_ ?_ | refine bA_ ?_ _); exact BK101.out)) : gb102 ≠ gb101)); clear BK101; clear HB; have BK101 := n0_; have HB := n1_; have BK102 := n2_; have GW102 := n3_; have GE102 := n4_; have NB101_102 := n5_; have NB102_101 := n6_; clear n0_ n1_ n2_ n3_ n4_ n5_ n6_; clear hb hbox hg) | ((with_reducible refine gate_dst (N := 5) rfl ?_); refine box_event ?hg (N := 5) ?hd (cs := #[.slice A2_0 l2_0.length c2_0, .slice A2_1 l2_1.length c2_1]) (t := 51) ?hr ?_; (case hd => rfl); (case hg => rfl); (case hr => first | (go_simp; done) | (go_simp; rfl)); intro gb103 hg w37 hbox hb; have n0_ := Aside0.mk (blk_below (g := gb101) (o := .cells #[.slice A0_0 l0_0.length c0_0, .slice A0_1 l0_1.length c0_1] 25 (0, 0)) (by (with_reducible repeat first | refine bN_ ?_ _ | refine bD_ ?_ | refine bA_ ?_ _); exact BK101.out) hb); have n1_ := Aside0.mk (blk_below (g := gb102) (o := .cells #[.slice A1_0 l1_0.length c1_0, .slice A1_1 l1_1.length c1_1] 25 (0, 0)) (by (with_reducible repeat first | refine bN_ ?_ _ | refine bD_ ?_ | refine bA_ ?_ _); exact BK102.out) hb); have n2_ := Aside0.mk (below_step (by repeat (first | (with_reducible first | exact HB.out | apply lA_ | apply lN_ | apply lD_ | refine below_set ?_ GE101.out | refine below_set ?_ GE102.out) | exact HB.out)) hb); have n3_ := Aside0.mk (hbox); have n4_ := Aside0.mk ((by rw [hg]; exact (below_size (by repeat (first | (with_reducible first | exact HB.out | apply lA_ | apply lN_ | apply lD_ | refine below_set ?_ GE101.out | refine below_set ?_ GE102.out) | exact HB.out))) : w.heap.size ≤ gb103)); have n5_ := Aside0.mk ((by rw [hg]; exact (below_size (by repeat (first | (with_reducible first | exact HB.out | apply lA_ | apply lN_ | apply lD_ | refine below_set ?_ GE101.out | refine below_set ?_ GE102.out) | exact HB.out))) : w.heap.size ≤ gb103)); have n6_ := Aside0.mk ((by rw [hg]; exact Nat.ne_of_lt (blk_lt (g := gb101) (o := .cells #[.slice A0_0 l0_0.length c0_0, .slice A0_1 l0_1.length c0_1] 25 (0, 0)) (by (with_reducible repeat first | refine bN_ ?_ _ | refine bD_ ?_ | refine bA_ ?_ _); exact BK101.out)) : gb101 ≠ gb103)); have n7_ := Aside0.mk ((by rw [hg]; exact Nat.ne_of_gt (blk_lt (g := gb101) (o := .cells #[.slice A0_0 l0_0.length c0_0, .slice A0_1 l0_1.length c0_1] 25 (0, 0)) (by (with_reducible repeat first | refine bN_ ?_ _ | refine bD_ ?_ | refine bA_ ?_ _); exact BK101.out)) : gb103 ≠ gb101)); have n8_ := Aside0.mk ((by rw [hg]; exact Nat.ne_of_lt (blk_lt (g := gb102) (o := .cells #[.slice A1_0 l1_0.length c1_0, .slice A1_1 l1_1.length c1_1] 25 (0, 0)) (by (with_reducible repeat first | refine bN_ ?_ _ | refine bD_ ?_ | refine bA_ ?_ _); exact BK102.out)) : gb102 ≠ gb103)); have n9_ := Aside0.mk ((by rw [hg]; exact Nat.ne_of_gt (blk_lt (g := gb102) (o := .cells #[.slice A1_0 l1_0.length c1_0, .slice A1_1 l1_1.length c1_1] 25 (0, 0)) (by (with_reducible repeat first | refine bN_ ?_ _ | refine bD_ ?_ | refine bA_ ?_ _); exact BK102.out)) : gb103 ≠ gb102)); clear BK101; clear BK102; clear HB; have BK101 := n0_; have BK102 := n1_; have HB := n2_; have BK103 := n3_; have GW103 := n4_; have GE103 := n5_; have NB101_103 := n6_; have NB103_101 := n7_; have NB102_103 := n8_; have NB103_102 := n9_; clear n0_ n1_ n2_ n3_ n4_ n5_ n6_ n7_ n8_ n9_; clear hb hbox hg) | ((with_reducible refine gate_dst (N := 6) rfl ?_); refine box_event ?hg (N := 6) ?hd (cs := #[.slice none 0 0, .slice none 0 0]) (t := 27) ?hr ?_; (case hd => rfl); (case hg => rfl); (case hr => first | (go_simp; done) | (go_simp; rfl)); intro gb104 hg w38 hbox hb; have n0_ := Aside0.mk (blk_below (g := gb101) (o := .cells #[.slice A0_0 l0_0.length c0_0, .slice A0_1 l0_1.length c0_1] 25 (0, 0)) (by (with_reducible repeat first | refine bN_ ?_ _ | refine bD_ ?_ | refine bA_ ?_ _); exact BK101.out) hb); have n1_ := Aside0.mk (blk_below (g := gb102) (o := .cells #[.slice A1_0 l1_0.length c1_0, .slice A1_1 l1_1.length c1_1] 25 (0, 0)) (by (with_reducible repeat first | refine bN_ ?_ _ | refine bD_ ?_ | refine bA_ ?_ _); exact BK102.out) hb); have n2_ := Aside0.mk (blk_below (g := gb103) (o := .cells #[.slice A2_0 l2_0.length c2_0, .slice A2_1 l2_1.length c2_1] 51 (0, 0)) (by (with_reducible repeat first | refine bN_ ?_ _ | refine bD_ ?_ | refine bA_ ?_ _); exact BK103.out) hb); have n3_ := Aside0.mk (below_step (by repeat (first | (with_reducible first | exact HB.out | apply lA_ | apply lN_ | apply lD_ | refine below_set ?_ GE101.out | refine below_set ?_ GE102.out | refine below_set ?_ GE103.out) | exact HB.out)) hb); have n4_ := Aside0.mk (hbox); have n5_ := Aside0.mk ((by rw [hg]; exact (below_size (by repeat (first | (with_reducible first | exact HB.out | apply lA_ | apply lN_ | apply lD_ | refine below_set ?_ GE101.out | refine below_set ?_ GE102.out | refine below_set ?_ GE103.out) | exact HB.out))) : w.heap.size ≤ gb104)); have n6_ := Aside0.mk ((by rw [hg]; exact (below_size (by repeat (first | (with_reducible first | exact HB.out | apply lA_ | apply lN_ | apply lD_ | refine below_set ?_ GE101.out | refine below_set ?_ GE102.out | refine below_set ?_ GE103.out) | exact HB.out))) : w.heap.size ≤ gb104)); have n7_ := Aside0.mk ((by rw [hg]; exact Nat.ne_of_lt (blk_lt (g := gb101) (o := .cells #[.slice A0_0 l0_0.length c0_0, .slice A0_1 l0_1.length c0_1] 25 (0, 0)) (by (with_reducible repeat first | refine bN_ ?_ _ | refine bD_ ?_ | refine bA_ ?_ _); exact BK101.out)) : gb101 ≠ gb104)); have n8_ := Aside0.mk ((by rw [hg]; exact Nat.ne_of_gt (blk_lt (g := gb101) (o := .cells #[.slice A0_0 l0_0.length c0_0, .slice A0_1 l0_1.length c0_1] 25 (0, 0)) (by (with_reducible repeat first | refine bN_ ?_ _ | refine bD_ ?_ | refine bA_ ?_ _); exact BK101.out)) : gb104 ≠ gb101)); have n9_ := Aside0.mk ((by rw [hg]; exact Nat.ne_of_lt (blk_lt (g := gb102) (o := .cells #[.slice A1_0 l1_0.length c1_0, .slice A1_1 l1_1.length c1_1] 25 (0, 0)) (by (with_reducible repeat first | refine bN_ ?_ _ | refine bD_ ?_ | refine bA_ ?_ _); exact BK102.out)) : gb102 ≠ gb104)); have n10_ := Aside0.mk ((by rw [hg]; exact Nat.ne_of_gt (blk_lt (g := gb102) (o := .cells #[.slice A1_0 l1_0.length c1_0, .slice A1_1 l1_1.length c1_1] 25 (0, 0)) (by (with_reducible repeat first | refine bN_ ?_ _ | refine bD_ ?_ | refine bA_ ?_ _); exact BK102.out)) : gb104 ≠ gb102)); have n11_ := Aside0.mk ((by rw [hg]; exact Nat.ne_of_lt (blk_lt (g := gb103) (o := .cells #[.slice A2_0 l2_0.length c2_0, .slice A2_1 l2_1.length c2_1] 51 (0, 0)) (by (with_reducible repeat first | refine bN_ ?_ _ | refine bD_ ?_ | refine bA_ ?_ _); exact BK103.out)) : gb103 ≠ gb104)); have n12_ := Aside0.mk ((by rw [hg]; exact Nat.ne_of_gt (blk_lt (g := gb103) (o := .cells #[.slice A2_0 l2_0.length c2_0, .slice A2_1 l2_1.length c2_1] 51 (0, 0)) (by (with_reducible repeat first | refine bN_ ?_ _ | refine bD_ ?_ | refine bA_ ?_ _); exact BK103.out)) : gb104 ≠ gb103)); clear BK101; clear BK102; clear BK103; clear HB; have BK101 := n0_; have BK102 := n1_; have BK103 := n2_; have HB := n3_; have BK104 := n4_; have GW104 := n5_; have GE104 := n6_; have NB101_104 := n7_; have NB104_101 := n8_; have NB102_104 := n9_; have NB104_102 := n10_; have NB103_104 := n11_; have NB104_103 := n12_; clear n0_ n1_ n2_ n3_ n4_ n5_ n6_ n7_ n8_ n9_ n10_ n11_ n12_; clear hb hbox hg; have hnb39 := NB101_102.out; have hnc39 := NB102_101.out; have hnb40 := NB101_103.out; have hnc40 := NB103_101.out; have hnb41 := NB101_104.out; have hnc41 := NB104_101.out; have hcz42_0 : w38.cell? ⟨gb101, 0, none⟩ = some (.slice A0_0 l0_0.length c0_0) := (blk_cell BK101.out 0).trans rfl; have hcz42_1 : w38.cell? ⟨gb101, 1, none⟩ = some (.slice A0_1 l0_1.length c0_1) := (blk_cell BK101.out 1).trans rfl; have hfz42_0 := blk_frozen BK101.out 0; have hfz42_1 := blk_frozen BK101.out 1; have hnb43 := NB102_103.out; have hnc43 := NB103_102.out; have hnb44 := NB102_104.out; have hnc44 := NB104_102.out; have hcz45_0 : w38.cell? ⟨gb102, 0, none⟩ = some (.slice A1_0 l1_0.length c1_0) := (blk_cell BK102.out 0).trans rfl; have hcz45_1 : w38.cell? ⟨gb102, 1, none⟩ = some (.slice A1_1 l1_1.length c1_1) := (blk_cell BK102.out 1).trans rfl; have hfz45_0 := blk_frozen BK102.out 0; have hfz45_1 := blk_frozen BK102.out 1; have hnb46 := NB103_104.out; have hnc46 := NB104_103.out; have hcz47_0 : w38.cell? ⟨gb103, 0, none⟩ = some (.slice A2_0 l2_0.length c2_0) := (blk_cell BK103.out 0).trans rfl; have hcz47_1 : w38.cell? ⟨gb103, 1, none⟩ = some (.slice A2_1 l2_1.length c2_1) := (blk_cell BK103.out 1).trans rfl; have hfz47_0 := blk_frozen BK103.out 0; have hfz47_1 := blk_frozen BK103.out 1) | ((with_reducible refine gate_callee (f := 80) rfl ?_); refine goesL_ (some 12) rfl rfl Try.func80 (by kernel_rfl) rfl #[.agg #[.slice A0_0 l0_0.length c0_0, .slice A0_1 l0_1.length c0_1], .agg #[.slice A1_0 l1_0.length c1_0, .slice A1_1 l1_1.length c1_1], .agg #[.slice A2_0 l2_0.length c2_0, .slice A2_1 l2_1.length c2_1]] rfl (by (try simp only [List.map_toArray, List.map_cons, List.map_nil]); first | done | rfl | (simp only [List.length_drop, List.length_take]; rfl)) ?_; (with_reducible refine (morphism_Valid.calls _ _ l0_0 _ _ l0_1 _ _ l1_0 _ _ l1_1 _ _ l2_0 _ _ l2_1 t105 _ ?side1 ?side2 ?side3 ?side4 ?side5 ?side6 ?side7 ?side8 ?side9 ?side10 ?side11 ?side12 A4.out).mono ?_); (case side1 => repeat (first | exact (Kd.C_below HR0_0.out HB.out) | (with_reducible refine Kd.C_alloc ?_ _) | (with_reducible refine Kd.C_drewN ?_ _) | (with_reducible refine Kd.C_drew ?_))); (case side2 => exact HC0_0.out); (case side3 => repeat (first | exact (Kd.C_below HR0_1.out HB.out) | (with_reducible refine Kd.C_alloc ?_ _) | (with_reducible refine Kd.C_drewN ?_ _) | (with_reducible refine Kd.C_drew ?_))); (case side4 => exact HC0_1.out); (case side5 => repeat (first | exact (Kd.C_below HR1_0.out HB.out) | (with_reducible refine Kd.C_alloc ?_ _) | (with_reducible refine Kd.C_drewN ?_ _) | (with_reducible refine Kd.C_drew ?_))); (case side6 => exact HC1_0.out); (case side7 => repeat (first | exact (Kd.C_below HR1_1.out HB.out) | (with_reducible refine Kd.C_alloc ?_ _) | (with_reducible refine Kd.C_drewN ?_ _) | (with_reducible refine Kd.C_drew ?_))); (case side8 => exact HC1_1.out); (case side9 => repeat (first | exact (Kd.C_below HR2_0.out HB.out) | (with_reducible refine Kd.C_alloc ?_ _) | (with_reducible refine Kd.C_drewN ?_ _) | (with_reducible refine Kd.C_drew ?_))); (case side10 => exact HC2_0.out); (case side11 => repeat (first | exact (Kd.C_below HR2_1.out HB.out) | (with_reducible refine Kd.C_alloc ?_ _) | (with_reducible refine Kd.C_drewN ?_ _) | (with_reducible refine Kd.C_drew ?_))); (case side12 => exact HC2_1.out); rintro e w48 ⟨rfl, hb⟩; refine ⟨_, rfl, ?_⟩; have n0_ := Aside0.mk (blk_below (g := gb101) (o := .cells #[.slice A0_0 l0_0.length c0_0, .slice A0_1 l0_1.length c0_1] 25 (0, 0)) (by (with_reducible repeat first | refine bN_ ?_ _ | refine bD_ ?_ | refine bA_ ?_ _); exact BK101.out) hb); have n1_ := Aside0.mk (blk_below (g := gb102) (o := .cells #[.slice A1_0 l1_0.length c1_0, .slice A1_1 l1_1.length c1_1] 25 (0, 0)) (by (with_reducible repeat first | refine bN_ ?_ _ | refine bD_ ?_ | refine bA_ ?_ _); exact BK102.out) hb); have n2_ := Aside0.mk (blk_below (g := gb103) (o := .cells #[.slice A2_0 l2_0.length c2_0, .slice A2_1 l2_1.length c2_1] 51 (0, 0)) (by (with_reducible repeat first | refine bN_ ?_ _ | refine bD_ ?_ | refine bA_ ?_ _); exact BK103.out) hb); have n3_ := Aside0.mk (blk_below (g := gb104) (o := .cells #[.slice none 0 0, .slice none 0 0] 27 (0, 0)) (by (with_reducible repeat first | refine bN_ ?_ _ | refine bD_ ?_ | refine bA_ ?_ _); exact BK104.out) hb); have n4_ := Aside0.mk (below_step (by repeat (first | (with_reducible first | exact HB.out | apply lA_ | apply lN_ | apply lD_ | refine below_set ?_ GE101.out | refine below_set ?_ GE102.out | refine below_set ?_ GE103.out | refine below_set ?_ GE104.out) | exact HB.out)) hb); clear BK101; clear BK102; clear BK103; clear BK104; clear HB; have BK101 := n0_; have BK102 := n1_; have BK103 := n2_; have BK104 := n3_; have HB := n4_; clear n0_ n1_ n2_ n3_ n4_; (try clear hb); (try clear hb2); (try clear hk); (try clear hi); have hcz49_0 : w48.cell? ⟨gb104, 0, none⟩ = some (.slice none 0 0) := (blk_cell BK104.out 0).trans rfl; have hcz49_1 : w48.cell? ⟨gb104, 1, none⟩ = some (.slice none 0 0) := (blk_cell BK104.out 1).trans rfl; have hfz49_0 := blk_frozen BK104.out 0; have hfz49_1 := blk_frozen BK104.out 1))
  refine bodyPost_ret (results_ct rfl _ _ gb104 27 #[.slice none 0 0, .slice none 0 0] (0, 0) _ rfl (by (with_reducible repeat first | refine bN_ ?_ _ | refine bD_ ?_ | refine bA_ ?_ _); refine blk_put (cs := #[.slice none 0 0, .slice none 0 0]) ?_ 1 _ rfl; (with_reducible repeat first | refine bN_ ?_ _ | refine bD_ ?_ | refine bA_ ?_ _); refine blk_put (cs := #[.slice none 0 0, .slice none 0 0]) ?_ 0 _ rfl; (with_reducible repeat first | refine bN_ ?_ _ | refine bD_ ?_ | refine bA_ ?_ _); exact BK104.out) Try.underlying27 rfl (by kernel_rfl)) rfl ?_
  exact ⟨_, _, by first | rfl | (simp [errW_none, errW_some] <;> rfl) | (simp [*, errW_none, errW_some] <;> rfl), by first | exact Kd.R_nil _ _ _ _ _ | exact Kd.N_nil _ _ _ _ _ | exact Kd.V_nil _ _ _ _ _ | exact Kd.Q_nil _ _ _ _ _ | exact Kd.S_nil _ _ _ _ _, by first | exact Kd.R_nil _ _ _ _ _ | exact Kd.N_nil _ _ _ _ _ | exact Kd.V_nil _ _ _ _ _ | exact Kd.Q_nil _ _ _ _ _ | exact Kd.S_nil _ _ _ _ _, by repeat (first | (with_reducible first | exact HB.out | apply lA_ | apply lN_ | apply lD_ | refine below_set ?_ GE101.out | refine below_set ?_ GE102.out | refine below_set ?_ GE103.out | refine below_set ?_ GE104.out) | exact HB.out)⟩
end Go.Proofs.Ytonipihlpbaknaa.Print
namespace Go.Proofs.Ytonipihlpbaknaa.Print
open Go.RowKit Go.Proofs.YtonipihlpbaknaaW.PrintWords Go.Proofs.YtonipihlpbaknaaW.PrintLast Go.Proofs.YtonipihlpbaknaaW.PrintMore
attribute [local go_sem] max2_int min2_int max_two min_two max_three min_three max_four min_four   -- for this text's walks alone
set_option linter.unusedVariables false
set_option linter.unusedSimpArgs false
def subgraph_back.l0 : Nat → List Int → List Int → List Int → Int → Int → Option (List Int)
  | 0, _, _, _, _, _ => none
  | k + 1, x1, x5, x8, x9, x10 => if x10 < x9 then (if 0 ≤ x10 then (if x10 < (x8.length : Int) then ((subgraph_has.f k x1 (rd x8 x10)).bind fun t102 => (if t102 = true then (if x5.length < 17592186044416 then (subgraph_back.l0 k x1 (x5 ++ [x10]) x8 x9 (wrap64 (x10 + 1))) else (none)) else (subgraph_back.l0 k x1 x5 x8 x9 (wrap64 (x10 + 1))))) else (none)) else (none)) else (some x5)
def subgraph_back.f (k : Nat) (l0 : List Int) (l1 : List Int) : Option (List Int) := subgraph_back.l0 k l1 ([] : List Int) l0 (l0.length : Int) 0
set_option maxHeartbeats 8000000 in
set_option maxRecDepth 100000 in
theorem subgraph_back.calls (k : Nat) (A0 : Option Addr) (c0 : Nat) (l0 : List Int) (A1 : Option Addr) (c1 : Nat) (l1 : List Int) (r : List Int) (w : World) (hr0 : Kd.C (Kd.int .i64) w A0 l0.length l0) (hc0 : l0.length ≤ c0) (hr1 : Kd.C (Kd.int .i64) w A1 l1.length l1) (hc1 : l1.length ≤ c1) (h : subgraph_back.f k l0 l1 = some r) :
  Calls Try.prog 83 #[.slice A0 l0.length c0, .slice A1 l1.length c1] w fun e w' => ∃ v0_ : Value, e = .returned (v0_) ∧ Kd.R (Kd.int .i64) 3 w' w.heap.size (fun _ => True) v0_ r ∧ Below w.heap.size w w' := by
 have HR0 := Aside0.mk hr0; have HC0 := Aside0.mk hc0; clear hr0 hc0; have HR1 := Aside0.mk hr1; have HC1 := Aside0.mk hc1; clear hr1 hc1; have HB := Aside0.mk (Below.refl w.heap.size w); have H : (subgraph_back.l0 k l1 ([] : List Int) l0 (l0.length : Int) 0) = some r := h; clear h; have H' := Aside0.mk H; clear H
 go_enter Try.func83, Try.ntmps83
 go_wp2
 go_loopg [5, 10] k (fun kq v5 v10 w' => ∃ (x5_1 : List Int) (x10_1 : Int), v10 = .int .i64 x10_1 ∧ Aside0 (subgraph_back.l0 kq l1 x5_1 l0 (l0.length : Int) x10_1 = some r) ∧ Aside0 (kq ≤ k) ∧ Aside0 (Kd.R (Kd.int .i64) 3 w' w.heap.size (fun _ => True) v5 x5_1) ∧ Aside0 (Below w.heap.size w w'))
 case atStart => exact ⟨(([] : List Int)), (0), (by first | rfl | (simp; done) | (simp [*]; done)), H', ⟨Nat.le_refl _⟩, ⟨by first | exact Kd.R_nil _ _ _ _ _ | exact Kd.N_nil _ _ _ _ _ | exact Kd.V_nil _ _ _ _ _ | exact Kd.Q_nil _ _ _ _ _ | exact Kd.S_nil _ _ _ _ _⟩, ⟨by repeat (first | (with_reducible first | exact HB.out | apply lA_ | apply lN_ | apply lD_) | exact HB.out)⟩⟩
 case round =>
  clear H'; (try clear c1); (try clear p2); obtain ⟨x5_1, x10_1, rfl, HA, HK1, HO_5, HB⟩ := hrel
  cases gk with
  | zero => exact absurd HA.out (by simp [subgraph_back.l0])
  | succ k1 =>
   have H := HA.out; clear HA; simp only [subgraph_back.l0] at H
   by_cases c3 : x10_1 < (l0.length : Int)
   ·rw [if_pos c3] at H
    have c3b0 : decide (x10_1 < (l0.length : Int)) = true := decide_eq_true c3; clear c3
    by_cases c4 : 0 ≤ x10_1
    ·rw [if_pos c4] at H
     have c4b0 : decide (0 ≤ x10_1) = true := decide_eq_true c4; clear c4
     by_cases c5 : x10_1 < (l0.length : Int)
     ·rw [if_pos c5] at H
      have c5b0 : decide (x10_1 < (l0.length : Int)) = true := decide_eq_true c5; clear c5; replace H := Option.bind_eq_some_iff.mp H; obtain ⟨t102, A60, H⟩ := H; replace H : (if t102 = true then (if x5_1.length < 17592186044416 then (subgraph_back.l0 k1 l1 (x5_1 ++ [x10_1]) l0 (l0.length : Int) (wrap64 (x10_1 + 1))) else (none)) else (subgraph_back.l0 k1 l1 x5_1 l0 (l0.length : Int) (wrap64 (x10_1 + 1)))) = some r := H; have A6 := Aside0.mk A60; clear A60
      by_cases c7 : t102 = true
      ·subst c7
       have H1 : (if x5_1.length < 17592186044416 then (subgraph_back.l0 k1 l1 (x5_1 ++ [x10_1]) l0 (l0.length : Int) (wrap64 (x10_1 + 1))) else (none)) = some r := by rw [if_pos rfl] at H; exact H
       clear H; have H := H1; clear H1
       by_cases c8 : x5_1.length < 17592186044416
       ·rw [if_pos c8] at H
        have LMc8 := Aside0.mk c8; clear c8
        obtain ⟨y103, hy103⟩ : ∃ y_ : List Int, y_ = (x5_1 ++ [x10_1]) := ⟨_, rfl⟩
        replace H : (subgraph_back.l0 k1 l1 y103 l0 (l0.length : Int) (wrap64 (x10_1 + 1))) = some r := by first | (rw [hy103]; with_reducible exact H) | (have H2_ := (Option.bind_some _ _).symm.trans H; rw [hy103]; with_reducible exact H2_) | (have H2_ := (Option.bind_some _ _).symm.trans H; with_reducible exact H2_) | with_reducible exact H | (rw [hy103]; exact H) | exact H
        have Ny103 := Aside0.mk hy103; clear hy103; have H' := Aside0.mk H; clear H; have p101 : 0 ≤ (x10_1 : Int) := of_decide_eq_true (by first | (with_reducible assumption) | assumption); have q101 : x10_1 < (l0.length : Int) := of_decide_eq_true (by first | (with_reducible assumption) | assumption); obtain ⟨ad101, e101, hx101_0⟩ := Kd.at_int HR0.out x10_1 p101 q101; cases e101; replace hx101_0 := (HB.out.cell (World.block_lt_of_cell? w _ hx101_0)).trans hx101_0; replace p101 := eq_true p101; replace q101 := eq_true q101
        go_wp2_with (first | ((with_reducible refine gate_callee (f := 63) rfl ?_); refine goesL_ (some 17) rfl rfl Try.func63 (by kernel_rfl) rfl #[.slice A1 l1.length c1, .int .i64 (rd l0 x10_1)] rfl (by (try simp only [List.map_toArray, List.map_cons, List.map_nil]); first | done | rfl | (simp only [List.length_drop, List.length_take]; rfl)) ?_; (with_reducible refine (subgraph_has.calls k1 _ _ l1 (rd l0 x10_1) true _ ?side1 ?side2 A6.out).mono ?_); (case side1 => repeat (first | exact (Kd.C_below HR1.out HB.out) | (with_reducible refine Kd.C_alloc ?_ _) | (with_reducible refine Kd.C_drewN ?_ _) | (with_reducible refine Kd.C_drew ?_))); (case side2 => exact HC1.out); rintro e w' ⟨rfl, ⟨nd, rfl⟩⟩; refine ⟨_, rfl, ?_⟩) | ((with_reducible refine gate_builtin (b := .append) (xs := #[.tmp 18, .tmp 20]) rfl ?_); at_builtin; refine Kd.R_append (Kd.int .i64) (w0 := w) w.heap.size rfl (.tmp 18) (.tmp 20) 22 3 (.int .i64 0) 8 rfl Try.underlying22 info3 rfl (by decide) (by omega) u5 x5_1 x10_1 [.int .i64 x10_1] (fun _ => True) (fun _ => False) rfl rfl ?aP (fun _ hk => hk.elim) ?aF ?aO ?aB ?aS ?aL ?_; (case aP => exact rfl); (case aB => exact (by repeat (first | (with_reducible first | exact HB.out | apply lA_ | apply lN_ | apply lD_) | exact HB.out))); (case aF => exact (fun _ _ => trivial)); (case aO => exact (by (with_reducible repeat (first | apply rA_ | apply rN_ | apply rD_)); exact HO_5.out)); (case aS => exact (below_size (by repeat (first | (with_reducible first | exact HB.out | apply lA_ | apply lN_ | apply lD_) | exact HB.out)))); (case aL => have := LMc8.out; omega); intro v104 w9 ho hb hg hat; rw [← Ny103.out] at ho; have n0_ := Aside0.mk (hb); have n1_ := Aside0.mk (ho); clear HB; clear HO_5; have HB := n0_; have HO105 := n1_; clear n0_ n1_; clear ho hb hg hat))
        go_roundg k1
        case measure => have := HK1.out; omega
        case rel => exact ⟨(y103), (wrap64 (x10_1 + 1)), (by first | rfl | (simp; done) | (simp [*]; done)), H', ⟨by have := HK1.out; omega⟩, ⟨by (with_reducible repeat (first | apply rA_ | apply rN_ | apply rD_)); exact HO105.out⟩, ⟨by repeat (first | (with_reducible first | exact HB.out | apply lA_ | apply lN_ | apply lD_) | exact HB.out)⟩⟩
       ·rw [if_neg c8] at H
        exact absurd H (by simp)
      ·replace c7 := Bool.eq_false_iff.mpr c7
       subst c7
       have H1 : (subgraph_back.l0 k1 l1 x5_1 l0 (l0.length : Int) (wrap64 (x10_1 + 1))) = some r := by rw [if_neg (show ¬ (false = true) by decide)] at H; exact H
       clear H; have H := H1; clear H1; have H' := Aside0.mk H; clear H; have p101 : 0 ≤ (x10_1 : Int) := of_decide_eq_true (by first | (with_reducible assumption) | assumption); have q101 : x10_1 < (l0.length : Int) := of_decide_eq_true (by first | (with_reducible assumption) | assumption); obtain ⟨ad101, e101, hx101_0⟩ := Kd.at_int HR0.out x10_1 p101 q101; cases e101; replace hx101_0 := (HB.out.cell (World.block_lt_of_cell? w _ hx101_0)).trans hx101_0; replace p101 := eq_true p101; replace q101 := eq_true q101
       go_wp2_with (first | ((with_reducible refine gate_callee (f := 63) rfl ?_); refine goesL_ (some 17) rfl rfl Try.func63 (by kernel_rfl) rfl #[.slice A1 l1.length c1, .int .i64 (rd l0 x10_1)] rfl (by (try simp only [List.map_toArray, List.map_cons, List.map_nil]); first | done | rfl | (simp only [List.length_drop, List.length_take]; rfl)) ?_; (with_reducible refine (subgraph_has.calls k1 _ _ l1 (rd l0 x10_1) false _ ?side1 ?side2 A6.out).mono ?_); (case side1 => repeat (first | exact (Kd.C_below HR1.out HB.out) | (with_reducible refine Kd.C_alloc ?_ _) | (with_reducible refine Kd.C_drewN ?_ _) | (with_reducible refine Kd.C_drew ?_))); (case side2 => exact HC1.out); rintro e w' ⟨rfl, ⟨nd, rfl⟩⟩; refine ⟨_, rfl, ?_⟩))
       go_roundg k1
       case measure => have := HK1.out; omega
       case rel => exact ⟨(x5_1), (wrap64 (x10_1 + 1)), (by first | rfl | (simp; done) | (simp [*]; done)), H', ⟨by have := HK1.out; omega⟩, ⟨by (with_reducible repeat (first | apply rA_ | apply rN_ | apply rD_)); exact HO_5.out⟩, ⟨by repeat (first | (with_reducible first | exact HB.out | apply lA_ | apply lN_ | apply lD_) | exact HB.out)⟩⟩
     ·rw [if_neg c5] at H
      exact absurd H (by simp)
    ·rw [if_neg c4] at H
     exact absurd H (by simp)
   ·rw [if_neg c3] at H
    have c3b0 : decide (x10_1 < (l0.length : Int)) = false := decide_eq_false c3; clear c3; obtain rfl := Option.some.inj H
    go_wp2
    go_ret
    exact ⟨_, by first | rfl | (simp [errW_none, errW_some] <;> rfl) | (simp [*, errW_none, errW_some] <;> rfl), by (with_reducible repeat (first | apply rA_ | apply rN_ | apply rD_)); exact HO_5.out, by repeat (first | (with_reducible first | exact HB.out | apply lA_ | apply lN_ | apply lD_) | exact HB.out)⟩
end Go.Proofs.Ytonipihlpbaknaa.Print

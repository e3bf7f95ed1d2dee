/- A part of the proof that the law returns true at every input; what the walked functions compute. -/
import Derived.Test.YtonipihlpbaknaaRows
import Derived.WalkKit
import Derived.ProofKit
import Derived.OpenShut
import Derived.ShutString
import Derived.ChangeOld
import Derived.Below
import Derived.SizedLaws
import Derived.Carry
import Derived.Test.YtonipihlpbaknaaZAd0
import Derived.Test.YtonipihlpbaknaaZAd1
import Derived.Test.YtonipihlpbaknaaZAd2
import Derived.Test.YtonipihlpbaknaaZAd3
import Derived.Test.YtonipihlpbaknaaZAd4
import Derived.Test.YtonipihlpbaknaaZAd5
import Derived.Test.YtonipihlpbaknaaZAd6
import Derived.Test.YtonipihlpbaknaaZAd7
import Derived.Test.YtonipihlpbaknaaZAd8
import Derived.Test.YtonipihlpbaknaaZAd9
namespace Go.Proofs.Ytonipihlpbaknaa.Print
set_option linter.unusedVariables false
set_option linter.unusedSimpArgs false
open Go.RowKit Go.Proofs.YtonipihlpbaknaaW.PrintWords Go.Proofs.YtonipihlpbaknaaW.PrintLast Go.Proofs.YtonipihlpbaknaaW.PrintMore
set_option maxHeartbeats 4000000 in
set_option maxRecDepth 100000 in
theorem scarfjointlaw07_SubgraphAdjoint.ok (k : Nat) (A0 : Option Addr) (c0 : Nat) (l0 : List Int) (A1 : Option Addr) (c1 : Nat) (l1 : List S78) (A2 : Option Addr) (c2 : Nat) (l2 : List Int) (A3 : Option Addr) (c3 : Nat) (l3 : List S78) (A4 : Option Addr) (c4 : Nat) (l4 : List Int) (A5 : Option Addr) (c5 : Nat) (l5 : List Int) (p q : Int) (o0 o1 q0 q1 s0 : List Int) (s1 : List S78) (t0 t1 p0 p1 b0 b1 : List Int) (rr : Bool) (w : World)
  (r0 : Kd.C (Kd.int .i64) w A0 l0.length l0) (m0 : l0.length ≤ c0) (r1 : Kd.C (k78) w A1 l1.length l1) (m1 : l1.length ≤ c1) (r2 : Kd.C (Kd.int .i64) w A2 l2.length l2) (m2 : l2.length ≤ c2) (r3 : Kd.C (k78) w A3 l3.length l3) (m3 : l3.length ≤ c3) (r4 : Kd.C (Kd.int .i64) w A4 l4.length l4) (m4 : l4.length ≤ c4) (r5 : Kd.C (Kd.int .i64) w A5 l5.length l5) (m5 : l5.length ≤ c5)
  (hsm : scarfjointlaw07_Arrow_small.f l0 l1 l2 l3 l4 l5 = some true) (hv : scarfjointref06_Valid.f l0 l1 l2 l3 l4 l5 = some 0) (hm1 : scarfjointref07_Made.f k l0 l1 p = some (o0, o1)) (hm2 : scarfjointref07_Made.f k l2 l3 q = some (q0, q1)) (hext : subgraph_Extract.f k l0 l1 o0 o1 = some (s0, s1, o0, o1, 0))
  (hinc : scarfjointref06_Valid.f s0 s1 l0 l1 o0 o1 = some 0) (hth : scarfjointref06_Then.f k o0 o1 l4 l5 = some (t0, t1)) (himg : subgraph_Image.f s0 s1 l2 l3 t0 t1 = some (p0, p1, 0)) (hpre : subgraph_Preimage.f k l0 l1 l2 l3 l4 l5 q0 q1 = some (b0, b1, 0)) (hi1 : scarfjointref07_In.f k p0 p1 q0 q1 = some rr) (hi2 : scarfjointref07_In.f k o0 o1 b0 b1 = some rr) :
  Calls Try.prog 10 #[.agg #[.slice A0 l0.length c0, .slice A1 l1.length c1, .slice A2 l2.length c2, .slice A3 l3.length c3, .slice A4 l4.length c4, .slice A5 l5.length c5], .int .u64 p, .int .u64 q] w fun e w' => e = .returned (.bool true) ∧ Below w.heap.size w w' := by
 have hu25 := Try.underlying25; have hu27 := Try.underlying27; have hu51 := Try.underlying51; have hu63 := Try.underlying63; have R0 := Lib.hid r0; have M0 := Lib.hid m0; have R1 := Lib.hid r1; have M1 := Lib.hid m1; have R2 := Lib.hid r2; have M2 := Lib.hid m2; have R3 := Lib.hid r3; have M3 := Lib.hid m3; have R4 := Lib.hid r4; have M4 := Lib.hid m4; have R5 := Lib.hid r5; have M5 := Lib.hid m5; clear r0 m0 r1 m1 r2 m2 r3 m3 r4 m4 r5 m5
 go_enter Try.func10, Try.ntmps10
 go_upto_region 1 with (first
  | ((with_reducible refine gate_dst (N := 3) rfl ?_); (try (refine gate_guard (by rfl) ?_; dsimp only)); refine box_event ?hg (N := 3) ?hd (cs := #[.slice A0 l0.length c0, .slice A1 l1.length c1, .slice A2 l2.length c2, .slice A3 l3.length c3, .slice A4 l4.length c4, .slice A5 l5.length c5]) (t := 63) ?hr ?_; (case hd => rfl); (case hg => rfl); (case hr => first | (go_simp; done) | (go_simp; rfl)); intro g hg w_ hbox hb; have HG : w.heap.size ≤ g := (hg ▸ Nat.le_refl _); have BG := Lib.hid hbox; have BL := Lib.hid hb; clear hg hbox hb))
 have zBG_0 : World.cell? _ ⟨g, 0, none⟩ = some (.slice A0 l0.length c0) := (blk_cell BG.out 0).trans rfl
 have zBG_1 : World.cell? _ ⟨g, 1, none⟩ = some (.slice A1 l1.length c1) := (blk_cell BG.out 1).trans rfl
 have zBG_2 : World.cell? _ ⟨g, 2, none⟩ = some (.slice A2 l2.length c2) := (blk_cell BG.out 2).trans rfl
 have zBG_3 : World.cell? _ ⟨g, 3, none⟩ = some (.slice A3 l3.length c3) := (blk_cell BG.out 3).trans rfl
 have zBG_4 : World.cell? _ ⟨g, 4, none⟩ = some (.slice A4 l4.length c4) := (blk_cell BG.out 4).trans rfl
 have zBG_5 : World.cell? _ ⟨g, 5, none⟩ = some (.slice A5 l5.length c5) := (blk_cell BG.out 5).trans rfl
 go_upto_region 3 with (first
  | (go_at_call 11; with_reducible refine (scarfjointlaw07_awake.calls true _ rfl).mono ?_; rintro e w_ ⟨rfl, hb⟩; clear zBG_0 zBG_1 zBG_2 zBG_3 zBG_4 zBG_5; replace BG := Lib.hid (blk_below BG.out hb); replace BL := Lib.hid (below_then BL.out BL.out.size hb); clear hb; have zBG_0 : World.cell? _ ⟨g, 0, none⟩ = some (.slice A0 l0.length c0) := (blk_cell BG.out 0).trans rfl; have zBG_1 : World.cell? _ ⟨g, 1, none⟩ = some (.slice A1 l1.length c1) := (blk_cell BG.out 1).trans rfl; have zBG_2 : World.cell? _ ⟨g, 2, none⟩ = some (.slice A2 l2.length c2) := (blk_cell BG.out 2).trans rfl; have zBG_3 : World.cell? _ ⟨g, 3, none⟩ = some (.slice A3 l3.length c3) := (blk_cell BG.out 3).trans rfl; have zBG_4 : World.cell? _ ⟨g, 4, none⟩ = some (.slice A4 l4.length c4) := (blk_cell BG.out 4).trans rfl; have zBG_5 : World.cell? _ ⟨g, 5, none⟩ = some (.slice A5 l5.length c5) := (blk_cell BG.out 5).trans rfl)
  | (go_at_call 42; with_reducible refine (scarfjointlaw07_Arrow_small.calls A0 c0 l0 A1 c1 l1 A2 c2 l2 A3 c3 l3 A4 c4 l4 A5 c5 l5 true _ (Kd.C_below R0.out BL.out) M0.out (Kd.C_below R1.out BL.out) M1.out (Kd.C_below R2.out BL.out) M2.out (Kd.C_below R3.out BL.out) M3.out (Kd.C_below R4.out BL.out) M4.out (Kd.C_below R5.out BL.out) M5.out hsm).mono ?_; rintro e w_ ⟨rfl, hb⟩; clear zBG_0 zBG_1 zBG_2 zBG_3 zBG_4 zBG_5; replace BG := Lib.hid (blk_below BG.out hb); replace BL := Lib.hid (below_then BL.out BL.out.size hb); clear hb; have zBG_0 : World.cell? _ ⟨g, 0, none⟩ = some (.slice A0 l0.length c0) := (blk_cell BG.out 0).trans rfl; have zBG_1 : World.cell? _ ⟨g, 1, none⟩ = some (.slice A1 l1.length c1) := (blk_cell BG.out 1).trans rfl; have zBG_2 : World.cell? _ ⟨g, 2, none⟩ = some (.slice A2 l2.length c2) := (blk_cell BG.out 2).trans rfl; have zBG_3 : World.cell? _ ⟨g, 3, none⟩ = some (.slice A3 l3.length c3) := (blk_cell BG.out 3).trans rfl; have zBG_4 : World.cell? _ ⟨g, 4, none⟩ = some (.slice A4 l4.length c4) := (blk_cell BG.out 4).trans rfl; have zBG_5 : World.cell? _ ⟨g, 5, none⟩ = some (.slice A5 l5.length c5) := (blk_cell BG.out 5).trans rfl)
  | (go_at_call 47; with_reducible refine (scarfjointref06_Valid.calls A0 c0 l0 A1 c1 l1 A2 c2 l2 A3 c3 l3 A4 c4 l4 A5 c5 l5 0 _ (Kd.C_below R0.out BL.out) M0.out (Kd.C_below R1.out BL.out) M1.out (Kd.C_below R2.out BL.out) M2.out (Kd.C_below R3.out BL.out) M3.out (Kd.C_below R4.out BL.out) M4.out (Kd.C_below R5.out BL.out) M5.out hv).mono ?_; rintro e w_ ⟨rfl, hb⟩; clear zBG_0 zBG_1 zBG_2 zBG_3 zBG_4 zBG_5; replace BG := Lib.hid (blk_below BG.out hb); replace BL := Lib.hid (below_then BL.out BL.out.size hb); clear hb; have zBG_0 : World.cell? _ ⟨g, 0, none⟩ = some (.slice A0 l0.length c0) := (blk_cell BG.out 0).trans rfl; have zBG_1 : World.cell? _ ⟨g, 1, none⟩ = some (.slice A1 l1.length c1) := (blk_cell BG.out 1).trans rfl; have zBG_2 : World.cell? _ ⟨g, 2, none⟩ = some (.slice A2 l2.length c2) := (blk_cell BG.out 2).trans rfl; have zBG_3 : World.cell? _ ⟨g, 3, none⟩ = some (.slice A3 l3.length c3) := (blk_cell BG.out 3).trans rfl; have zBG_4 : World.cell? _ ⟨g, 4, none⟩ = some (.slice A4 l4.length c4) := (blk_cell BG.out 4).trans rfl; have zBG_5 : World.cell? _ ⟨g, 5, none⟩ = some (.slice A5 l5.length c5) := (blk_cell BG.out 5).trans rfl))
 clear zBG_0 zBG_1 zBG_2 zBG_3 zBG_4 zBG_5; replace BG := Lib.hid (blk_drew BG.out); replace BL := Lib.hid (below_drew1 BL.out)
 refine start_ (n := 12) (S := fun w' => w'.cell? ⟨g, 0, none⟩ = some (.slice A0 l0.length c0) ∧ w'.cell? ⟨g, 1, none⟩ = some (.slice A1 l1.length c1) ∧ w'.cell? ⟨g, 2, none⟩ = some (.slice A2 l2.length c2) ∧ w'.cell? ⟨g, 3, none⟩ = some (.slice A3 l3.length c3) ∧ w'.cell? ⟨g, 4, none⟩ = some (.slice A4 l4.length c4) ∧ w'.cell? ⟨g, 5, none⟩ = some (.slice A5 l5.length c5)) (ds := []) #[false, false, false, false, false, false, false, false, false, false, false, false] (by kernel_rfl) rfl rfl ⟨(blk_cell BG.out 0).trans rfl, (blk_cell BG.out 1).trans rfl, (blk_cell BG.out 2).trans rfl, (blk_cell BG.out 3).trans rfl, (blk_cell BG.out 4).trans rfl, (blk_cell BG.out 5).trans rfl⟩ (fun hHeld => ?_)
 refine pure_ (i := 0) (N := some 36) (v := ?_) (a' := ?_) #[true, false, false, false, false, false, false, false, false, false, false, false] rfl rfl (by kernel_rfl) (fun _ _ _ h => h) (Or.inl ⟨by rfl, ?_⟩) ?_ ?_
 rotate_left
 ·intro w'
  go_simp
  with_reducible rfl
 rotate_left
 ·simp only [Act.put, sI_, s0_, sS_, i64_w, i32_w]
  rfl
 refine take_ (i := 1) (N := some 37) (v := ?_) (a' := ?_) #[true, true, false, false, false, false, false, false, false, false, false, false] rfl rfl (by kernel_rfl) (fun _ _ _ h => h) (Or.inl ⟨by rfl, ?_⟩) hHeld ?_ ?_
 rotate_left
 ·rintro w' ⟨s0, s1, s2, s3, s4, s5⟩
  go_simp
  with_reducible rfl
 rotate_left
 ·simp only [Act.put, sI_, s0_, sS_, i64_w, i32_w]
  rfl
 refine pure_ (i := 2) (N := some 38) (v := ?_) (a' := ?_) #[true, true, true, false, false, false, false, false, false, false, false, false] rfl rfl (by kernel_rfl) (fun _ _ _ h => h) (Or.inl ⟨by rfl, ?_⟩) ?_ ?_
 rotate_left
 ·intro w'
  go_simp
  with_reducible rfl
 rotate_left
 ·simp only [Act.put, sI_, s0_, sS_, i64_w, i32_w]
  rfl
 refine pure_ (i := 4) (N := some 40) (v := ?_) (a' := ?_) #[true, true, true, false, true, false, false, false, false, false, false, false] rfl rfl (by kernel_rfl) (fun _ _ _ h => h) (Or.inl ⟨by rfl, ?_⟩) ?_ ?_
 rotate_left
 ·intro w'
  go_simp
  with_reducible rfl
 rotate_left
 ·simp only [Act.put, sI_, s0_, sS_, i64_w, i32_w]
  rfl
 refine take_ (i := 5) (N := some 41) (v := ?_) (a' := ?_) #[true, true, true, false, true, true, false, false, false, false, false, false] rfl rfl (by kernel_rfl) (fun _ _ _ h => h) (Or.inl ⟨by rfl, ?_⟩) hHeld ?_ ?_
 rotate_left
 ·rintro w' ⟨s0, s1, s2, s3, s4, s5⟩
  go_simp
  with_reducible rfl
 rotate_left
 ·simp only [Act.put, sI_, s0_, sS_, i64_w, i32_w]
  rfl
 refine pure_ (i := 6) (N := some 42) (v := ?_) (a' := ?_) #[true, true, true, false, true, true, true, false, false, false, false, false] rfl rfl (by kernel_rfl) (fun _ _ _ h => h) (Or.inl ⟨by rfl, ?_⟩) ?_ ?_
 rotate_left
 ·intro w'
  go_simp
  with_reducible rfl
 rotate_left
 ·simp only [Act.put, sI_, s0_, sS_, i64_w, i32_w]
  rfl
 refine join_ (σ := Option Addr × Nat × Option Addr × Nat × Option Addr × Nat × Option Addr × Nat × Nat × Nat) 2 #[true, true, true, true, true, true, true, true, true, true, false, false] (fun s_ => [(39, .agg #[.slice s_.1 o0.length s_.2.1, .slice s_.2.2.1 o1.length s_.2.2.2.1]), (43, .agg #[.slice s_.2.2.2.2.1 q0.length s_.2.2.2.2.2.1, .slice s_.2.2.2.2.2.2.1 q1.length s_.2.2.2.2.2.2.2.1]), (7, .pointer (some ⟨s_.2.2.2.2.2.2.2.2.1, 0, none⟩)), (8, .pointer (some ⟨s_.2.2.2.2.2.2.2.2.2, 0, none⟩))]) (fun s_ w' => (w'.cell? ⟨g, 0, none⟩ = some (.slice A0 l0.length c0) ∧ w'.cell? ⟨g, 1, none⟩ = some (.slice A1 l1.length c1) ∧ w'.cell? ⟨g, 2, none⟩ = some (.slice A2 l2.length c2) ∧ w'.cell? ⟨g, 3, none⟩ = some (.slice A3 l3.length c3) ∧ w'.cell? ⟨g, 4, none⟩ = some (.slice A4 l4.length c4) ∧ w'.cell? ⟨g, 5, none⟩ = some (.slice A5 l5.length c5)) ∧ (g < s_.2.2.2.2.2.2.2.2.1) ∧ (g < s_.2.2.2.2.2.2.2.2.2) ∧ (s_.2.2.2.2.2.2.2.2.1 ≠ s_.2.2.2.2.2.2.2.2.2) ∧ (w'.heap[g]? = some (.cells #[.slice A0 l0.length c0, .slice A1 l1.length c1, .slice A2 l2.length c2, .slice A3 l3.length c3, .slice A4 l4.length c4, .slice A5 l5.length c5] 63 (0, 0))) ∧ (Below w.heap.size w w') ∧ (RI w' s_.1 s_.2.1 o0) ∧ (RI w' s_.2.2.1 s_.2.2.2.1 o1) ∧ (RI w' s_.2.2.2.2.1 s_.2.2.2.2.2.1 q0) ∧ (RI w' s_.2.2.2.2.2.2.1 s_.2.2.2.2.2.2.2.1 q1) ∧ (Bk w' s_.2.2.2.2.2.2.2.2.1 27 nl nl) ∧ (Bk w' s_.2.2.2.2.2.2.2.2.2 27 nl nl)) ?_ ?_
 rotate_left
 ·intro J2_3
  refine join_ (σ := Option Addr × Nat × Option Addr × Nat × Option Addr × Nat × Option Addr × Nat × Nat) 3 #[true, true, true, true, true, true, true, true, false, true, false, false] (fun s_ => [(39, .agg #[.slice s_.1 o0.length s_.2.1, .slice s_.2.2.1 o1.length s_.2.2.2.1]), (43, .agg #[.slice s_.2.2.2.2.1 q0.length s_.2.2.2.2.2.1, .slice s_.2.2.2.2.2.2.1 q1.length s_.2.2.2.2.2.2.2.1]), (8, .pointer (some ⟨s_.2.2.2.2.2.2.2.2, 0, none⟩))]) (fun s_ w' => (w'.cell? ⟨g, 0, none⟩ = some (.slice A0 l0.length c0) ∧ w'.cell? ⟨g, 1, none⟩ = some (.slice A1 l1.length c1) ∧ w'.cell? ⟨g, 2, none⟩ = some (.slice A2 l2.length c2) ∧ w'.cell? ⟨g, 3, none⟩ = some (.slice A3 l3.length c3) ∧ w'.cell? ⟨g, 4, none⟩ = some (.slice A4 l4.length c4) ∧ w'.cell? ⟨g, 5, none⟩ = some (.slice A5 l5.length c5)) ∧ (g < s_.2.2.2.2.2.2.2.2) ∧ (w'.heap[g]? = some (.cells #[.slice A0 l0.length c0, .slice A1 l1.length c1, .slice A2 l2.length c2, .slice A3 l3.length c3, .slice A4 l4.length c4, .slice A5 l5.length c5] 63 (0, 0))) ∧ (Below w.heap.size w w') ∧ (RI w' s_.1 s_.2.1 o0) ∧ (RI w' s_.2.2.1 s_.2.2.2.1 o1) ∧ (RI w' s_.2.2.2.2.1 s_.2.2.2.2.2.1 q0) ∧ (RI w' s_.2.2.2.2.2.2.1 s_.2.2.2.2.2.2.2.1 q1) ∧ (Bk w' s_.2.2.2.2.2.2.2.2 27 nl nl)) ?_ ?_
  rotate_left
  ·intro J2_2
   refine join_ (σ := Option Addr × Nat × Option Addr × Nat × Option Addr × Nat × Option Addr × Nat × Nat) 3 #[true, true, true, true, true, true, true, true, true, false, false, false] (fun s_ => [(39, .agg #[.slice s_.1 o0.length s_.2.1, .slice s_.2.2.1 o1.length s_.2.2.2.1]), (43, .agg #[.slice s_.2.2.2.2.1 q0.length s_.2.2.2.2.2.1, .slice s_.2.2.2.2.2.2.1 q1.length s_.2.2.2.2.2.2.2.1]), (7, .pointer (some ⟨s_.2.2.2.2.2.2.2.2, 0, none⟩))]) (fun s_ w' => (w'.cell? ⟨g, 0, none⟩ = some (.slice A0 l0.length c0) ∧ w'.cell? ⟨g, 1, none⟩ = some (.slice A1 l1.length c1) ∧ w'.cell? ⟨g, 2, none⟩ = some (.slice A2 l2.length c2) ∧ w'.cell? ⟨g, 3, none⟩ = some (.slice A3 l3.length c3) ∧ w'.cell? ⟨g, 4, none⟩ = some (.slice A4 l4.length c4) ∧ w'.cell? ⟨g, 5, none⟩ = some (.slice A5 l5.length c5)) ∧ (g < s_.2.2.2.2.2.2.2.2) ∧ (w'.heap[g]? = some (.cells #[.slice A0 l0.length c0, .slice A1 l1.length c1, .slice A2 l2.length c2, .slice A3 l3.length c3, .slice A4 l4.length c4, .slice A5 l5.length c5] 63 (0, 0))) ∧ (Below w.heap.size w w') ∧ (RI w' s_.1 s_.2.1 o0) ∧ (RI w' s_.2.2.1 s_.2.2.2.1 o1) ∧ (RI w' s_.2.2.2.2.1 s_.2.2.2.2.2.1 q0) ∧ (RI w' s_.2.2.2.2.2.2.1 s_.2.2.2.2.2.2.2.1 q1) ∧ (Bk w' s_.2.2.2.2.2.2.2.2 27 nl nl)) ?_ ?_
   rotate_left
   ·intro J2_1
    refine join_ (σ := Option Addr × Nat × Option Addr × Nat × Option Addr × Nat × Option Addr × Nat) 4 #[true, true, true, true, true, true, true, true, false, false, false, false] (fun s_ => [(39, .agg #[.slice s_.1 o0.length s_.2.1, .slice s_.2.2.1 o1.length s_.2.2.2.1]), (43, .agg #[.slice s_.2.2.2.2.1 q0.length s_.2.2.2.2.2.1, .slice s_.2.2.2.2.2.2.1 q1.length s_.2.2.2.2.2.2.2])]) (fun s_ w' => (w'.cell? ⟨g, 0, none⟩ = some (.slice A0 l0.length c0) ∧ w'.cell? ⟨g, 1, none⟩ = some (.slice A1 l1.length c1) ∧ w'.cell? ⟨g, 2, none⟩ = some (.slice A2 l2.length c2) ∧ w'.cell? ⟨g, 3, none⟩ = some (.slice A3 l3.length c3) ∧ w'.cell? ⟨g, 4, none⟩ = some (.slice A4 l4.length c4) ∧ w'.cell? ⟨g, 5, none⟩ = some (.slice A5 l5.length c5)) ∧ (w'.heap[g]? = some (.cells #[.slice A0 l0.length c0, .slice A1 l1.length c1, .slice A2 l2.length c2, .slice A3 l3.length c3, .slice A4 l4.length c4, .slice A5 l5.length c5] 63 (0, 0))) ∧ (Below w.heap.size w w') ∧ (RI w' s_.1 s_.2.1 o0) ∧ (RI w' s_.2.2.1 s_.2.2.2.1 o1) ∧ (RI w' s_.2.2.2.2.1 s_.2.2.2.2.2.1 q0) ∧ (RI w' s_.2.2.2.2.2.2.1 s_.2.2.2.2.2.2.2 q1)) ?_ ?_
    rotate_left
    ·intro J2_0
     refine join_ (σ := Option Addr × Nat × Option Addr × Nat × Nat × Nat) 3 #[true, true, true, true, true, true, true, false, true, true, false, false] (fun s_ => [(39, .agg #[.slice s_.1 o0.length s_.2.1, .slice s_.2.2.1 o1.length s_.2.2.2.1]), (7, .pointer (some ⟨s_.2.2.2.2.1, 0, none⟩)), (8, .pointer (some ⟨s_.2.2.2.2.2, 0, none⟩))]) (fun s_ w' => (w'.cell? ⟨g, 0, none⟩ = some (.slice A0 l0.length c0) ∧ w'.cell? ⟨g, 1, none⟩ = some (.slice A1 l1.length c1) ∧ w'.cell? ⟨g, 2, none⟩ = some (.slice A2 l2.length c2) ∧ w'.cell? ⟨g, 3, none⟩ = some (.slice A3 l3.length c3) ∧ w'.cell? ⟨g, 4, none⟩ = some (.slice A4 l4.length c4) ∧ w'.cell? ⟨g, 5, none⟩ = some (.slice A5 l5.length c5)) ∧ (g < s_.2.2.2.2.1) ∧ (g < s_.2.2.2.2.2) ∧ (s_.2.2.2.2.1 ≠ s_.2.2.2.2.2) ∧ (w'.heap[g]? = some (.cells #[.slice A0 l0.length c0, .slice A1 l1.length c1, .slice A2 l2.length c2, .slice A3 l3.length c3, .slice A4 l4.length c4, .slice A5 l5.length c5] 63 (0, 0))) ∧ (Below w.heap.size w w') ∧ (RI w' s_.1 s_.2.1 o0) ∧ (RI w' s_.2.2.1 s_.2.2.2.1 o1) ∧ (Bk w' s_.2.2.2.2.1 27 nl nl) ∧ (Bk w' s_.2.2.2.2.2 27 nl nl)) ?_ ?_
     rotate_left
     ·intro J1_3
      refine join_ (σ := Option Addr × Nat × Option Addr × Nat × Nat) 4 #[true, true, true, true, true, true, true, false, false, true, false, false] (fun s_ => [(39, .agg #[.slice s_.1 o0.length s_.2.1, .slice s_.2.2.1 o1.length s_.2.2.2.1]), (8, .pointer (some ⟨s_.2.2.2.2, 0, none⟩))]) (fun s_ w' => (w'.cell? ⟨g, 0, none⟩ = some (.slice A0 l0.length c0) ∧ w'.cell? ⟨g, 1, none⟩ = some (.slice A1 l1.length c1) ∧ w'.cell? ⟨g, 2, none⟩ = some (.slice A2 l2.length c2) ∧ w'.cell? ⟨g, 3, none⟩ = some (.slice A3 l3.length c3) ∧ w'.cell? ⟨g, 4, none⟩ = some (.slice A4 l4.length c4) ∧ w'.cell? ⟨g, 5, none⟩ = some (.slice A5 l5.length c5)) ∧ (g < s_.2.2.2.2) ∧ (w'.heap[g]? = some (.cells #[.slice A0 l0.length c0, .slice A1 l1.length c1, .slice A2 l2.length c2, .slice A3 l3.length c3, .slice A4 l4.length c4, .slice A5 l5.length c5] 63 (0, 0))) ∧ (Below w.heap.size w w') ∧ (RI w' s_.1 s_.2.1 o0) ∧ (RI w' s_.2.2.1 s_.2.2.2.1 o1) ∧ (Bk w' s_.2.2.2.2 27 nl nl)) ?_ ?_
      rotate_left
      ·intro J1_2
       refine join_ (σ := Option Addr × Nat × Option Addr × Nat × Nat) 4 #[true, true, true, true, true, true, true, false, true, false, false, false] (fun s_ => [(39, .agg #[.slice s_.1 o0.length s_.2.1, .slice s_.2.2.1 o1.length s_.2.2.2.1]), (7, .pointer (some ⟨s_.2.2.2.2, 0, none⟩))]) (fun s_ w' => (w'.cell? ⟨g, 0, none⟩ = some (.slice A0 l0.length c0) ∧ w'.cell? ⟨g, 1, none⟩ = some (.slice A1 l1.length c1) ∧ w'.cell? ⟨g, 2, none⟩ = some (.slice A2 l2.length c2) ∧ w'.cell? ⟨g, 3, none⟩ = some (.slice A3 l3.length c3) ∧ w'.cell? ⟨g, 4, none⟩ = some (.slice A4 l4.length c4) ∧ w'.cell? ⟨g, 5, none⟩ = some (.slice A5 l5.length c5)) ∧ (g < s_.2.2.2.2) ∧ (w'.heap[g]? = some (.cells #[.slice A0 l0.length c0, .slice A1 l1.length c1, .slice A2 l2.length c2, .slice A3 l3.length c3, .slice A4 l4.length c4, .slice A5 l5.length c5] 63 (0, 0))) ∧ (Below w.heap.size w w') ∧ (RI w' s_.1 s_.2.1 o0) ∧ (RI w' s_.2.2.1 s_.2.2.2.1 o1) ∧ (Bk w' s_.2.2.2.2 27 nl nl)) ?_ ?_
       rotate_left
       ·intro J1_1
        refine join_ (σ := Option Addr × Nat × Option Addr × Nat) 5 #[true, true, true, true, true, true, true, false, false, false, false, false] (fun s_ => [(39, .agg #[.slice s_.1 o0.length s_.2.1, .slice s_.2.2.1 o1.length s_.2.2.2])]) (fun s_ w' => (w'.cell? ⟨g, 0, none⟩ = some (.slice A0 l0.length c0) ∧ w'.cell? ⟨g, 1, none⟩ = some (.slice A1 l1.length c1) ∧ w'.cell? ⟨g, 2, none⟩ = some (.slice A2 l2.length c2) ∧ w'.cell? ⟨g, 3, none⟩ = some (.slice A3 l3.length c3) ∧ w'.cell? ⟨g, 4, none⟩ = some (.slice A4 l4.length c4) ∧ w'.cell? ⟨g, 5, none⟩ = some (.slice A5 l5.length c5)) ∧ (w'.heap[g]? = some (.cells #[.slice A0 l0.length c0, .slice A1 l1.length c1, .slice A2 l2.length c2, .slice A3 l3.length c3, .slice A4 l4.length c4, .slice A5 l5.length c5] 63 (0, 0))) ∧ (Below w.heap.size w w') ∧ (RI w' s_.1 s_.2.1 o0) ∧ (RI w' s_.2.2.1 s_.2.2.2 o1)) ?_ ?_
        rotate_left
        ·intro J1_0
         refine join_ (σ := Nat × Nat) 4 #[true, true, true, false, true, true, true, false, true, true, false, false] (fun s_ => [(7, .pointer (some ⟨s_.1, 0, none⟩)), (8, .pointer (some ⟨s_.2, 0, none⟩))]) (fun s_ w' => (w'.cell? ⟨g, 0, none⟩ = some (.slice A0 l0.length c0) ∧ w'.cell? ⟨g, 1, none⟩ = some (.slice A1 l1.length c1) ∧ w'.cell? ⟨g, 2, none⟩ = some (.slice A2 l2.length c2) ∧ w'.cell? ⟨g, 3, none⟩ = some (.slice A3 l3.length c3) ∧ w'.cell? ⟨g, 4, none⟩ = some (.slice A4 l4.length c4) ∧ w'.cell? ⟨g, 5, none⟩ = some (.slice A5 l5.length c5)) ∧ (g < s_.1) ∧ (g < s_.2) ∧ (s_.1 ≠ s_.2) ∧ (w'.heap[g]? = some (.cells #[.slice A0 l0.length c0, .slice A1 l1.length c1, .slice A2 l2.length c2, .slice A3 l3.length c3, .slice A4 l4.length c4, .slice A5 l5.length c5] 63 (0, 0))) ∧ (Below w.heap.size w w') ∧ (Bk w' s_.1 27 nl nl) ∧ (Bk w' s_.2 27 nl nl)) ?_ ?_
         rotate_left
         ·intro J0_3
          refine join_ (σ := Nat) 5 #[true, true, true, false, true, true, true, false, false, true, false, false] (fun s_ => [(8, .pointer (some ⟨s_, 0, none⟩))]) (fun s_ w' => (w'.cell? ⟨g, 0, none⟩ = some (.slice A0 l0.length c0) ∧ w'.cell? ⟨g, 1, none⟩ = some (.slice A1 l1.length c1) ∧ w'.cell? ⟨g, 2, none⟩ = some (.slice A2 l2.length c2) ∧ w'.cell? ⟨g, 3, none⟩ = some (.slice A3 l3.length c3) ∧ w'.cell? ⟨g, 4, none⟩ = some (.slice A4 l4.length c4) ∧ w'.cell? ⟨g, 5, none⟩ = some (.slice A5 l5.length c5)) ∧ (g < s_) ∧ (w'.heap[g]? = some (.cells #[.slice A0 l0.length c0, .slice A1 l1.length c1, .slice A2 l2.length c2, .slice A3 l3.length c3, .slice A4 l4.length c4, .slice A5 l5.length c5] 63 (0, 0))) ∧ (Below w.heap.size w w') ∧ (Bk w' s_ 27 nl nl)) ?_ ?_
          rotate_left
          ·intro J0_2
           refine join_ (σ := Nat) 5 #[true, true, true, false, true, true, true, false, true, false, false, false] (fun s_ => [(7, .pointer (some ⟨s_, 0, none⟩))]) (fun s_ w' => (w'.cell? ⟨g, 0, none⟩ = some (.slice A0 l0.length c0) ∧ w'.cell? ⟨g, 1, none⟩ = some (.slice A1 l1.length c1) ∧ w'.cell? ⟨g, 2, none⟩ = some (.slice A2 l2.length c2) ∧ w'.cell? ⟨g, 3, none⟩ = some (.slice A3 l3.length c3) ∧ w'.cell? ⟨g, 4, none⟩ = some (.slice A4 l4.length c4) ∧ w'.cell? ⟨g, 5, none⟩ = some (.slice A5 l5.length c5)) ∧ (g < s_) ∧ (w'.heap[g]? = some (.cells #[.slice A0 l0.length c0, .slice A1 l1.length c1, .slice A2 l2.length c2, .slice A3 l3.length c3, .slice A4 l4.length c4, .slice A5 l5.length c5] 63 (0, 0))) ∧ (Below w.heap.size w w') ∧ (Bk w' s_ 27 nl nl)) ?_ ?_
           rotate_left
           ·intro J0_1
            refine three_ (i := 3) (j := 8) (k := 9) (Ni := some 39) (Nj := some 7) (Nk := some 8) #[true, true, true, true, true, true, true, false, false, false, false, false] #[true, true, true, false, true, true, true, false, true, false, false, false] #[true, true, true, false, true, true, true, false, false, true, false, false] rfl rfl rfl rfl rfl rfl (by kernel_rfl) (by decide) (by decide) (by decide) (fun K hK => ?_) (fun K hK => ?_) (fun K hK => ?_)
            ·skip
             refine goes_ Try.func18 (by kernel_rfl) rfl #[.agg #[.slice A0 l0.length c0, .slice A1 l1.length c1], .int .u64 p] (by rfl) rfl rfl (by (try simp only [List.map_toArray, List.map_cons, List.map_nil]); first | done | rfl) ?_
             with_reducible refine (scarfjointref07_Made.calls k A0 c0 l0 A1 c1 l1 p o0 o1 _ (Kd.C_below R0.out BL.out) M0.out (Kd.C_below R1.out BL.out) M1.out hm1).mono ?_
             rintro e w_ ⟨v0, v1, rfl, ho0, ho1, hb⟩
             refine ⟨_, rfl, ?_⟩
             obtain ⟨A6, c6, rfl⟩ := Kd.R_slice ho0; obtain ⟨A7, c7, rfl⟩ := Kd.R_slice ho1; replace BG := Lib.hid (blk_below BG.out hb); replace BL := Lib.hid (below_then BL.out BL.out.size hb); have R6 := Lib.hid (toR ho0); have R7 := Lib.hid (toR ho1); clear ho0 ho1 hb
             refine hK.out _ _ ⟨(blk_cell BG.out 0).trans rfl, (blk_cell BG.out 1).trans rfl, (blk_cell BG.out 2).trans rfl, (blk_cell BG.out 3).trans rfl, (blk_cell BG.out 4).trans rfl, (blk_cell BG.out 5).trans rfl⟩ (fun hHeld => ?_)
             clear hK K
             refine norm_ (a' := ?_) ?_ ?_
             rotate_left
             ·show Act.put _ (some 39) _ = _
              simp only [Act.put, sI_, s0_, sS_, i64_w, i32_w]
              rfl
             exact norm_ (by first | (simp only [putAll, Act.put, sI_, s0_, sS_]; done) | (simp only [putAll, Act.put, sI_, s0_, sS_]; rfl)) (J1_0 (A6, c6, A7, c7) _ ⟨hHeld, BG.out, BL.out, R6.out, R7.out⟩)
            ·skip
             refine box_step ?hg (N := 7) ?hd (cs := #[.slice none 0 0, .slice none 0 0]) (t := 27) ?hr ?_; (case hd => rfl); (case hg => rfl); (case hr => first | (go_simp; done) | (go_simp; rfl))
             intro x hg w_ hbox hb
             have Hx : g < x := by rw [hg]; exact blk_lt BG.out
             replace BG := Lib.hid (blk_below BG.out hb); replace BL := Lib.hid (below_then BL.out BL.out.size hb); have BX := Lib.hid hbox; clear hg hbox hb
             refine hK.out _ _ ⟨(blk_cell BG.out 0).trans rfl, (blk_cell BG.out 1).trans rfl, (blk_cell BG.out 2).trans rfl, (blk_cell BG.out 3).trans rfl, (blk_cell BG.out 4).trans rfl, (blk_cell BG.out 5).trans rfl⟩ (fun hHeld => ?_)
             clear hK K
             refine norm_ (a' := ?_) ?_ ?_
             rotate_left
             ·show Act.put _ (some 7) _ = _
              simp only [Act.put, sI_, s0_, sS_, i64_w, i32_w]
              rfl
             exact norm_ (by first | (simp only [putAll, Act.put, sI_, s0_, sS_]; done) | (simp only [putAll, Act.put, sI_, s0_, sS_]; rfl)) (J0_1 x _ ⟨hHeld, Hx, BG.out, BL.out, BX.out⟩)
            ·skip
             refine box_step ?hg (N := 8) ?hd (cs := #[.slice none 0 0, .slice none 0 0]) (t := 27) ?hr ?_; (case hd => rfl); (case hg => rfl); (case hr => first | (go_simp; done) | (go_simp; rfl))
             intro y hg w_ hbox hb
             have Hy : g < y := by rw [hg]; exact blk_lt BG.out
             replace BG := Lib.hid (blk_below BG.out hb); replace BL := Lib.hid (below_then BL.out BL.out.size hb); have BY := Lib.hid hbox; clear hg hbox hb
             refine hK.out _ _ ⟨(blk_cell BG.out 0).trans rfl, (blk_cell BG.out 1).trans rfl, (blk_cell BG.out 2).trans rfl, (blk_cell BG.out 3).trans rfl, (blk_cell BG.out 4).trans rfl, (blk_cell BG.out 5).trans rfl⟩ (fun hHeld => ?_)
             clear hK K
             refine norm_ (a' := ?_) ?_ ?_
             rotate_left
             ·show Act.put _ (some 8) _ = _
              simp only [Act.put, sI_, s0_, sS_, i64_w, i32_w]
              rfl
             exact norm_ (by first | (simp only [putAll, Act.put, sI_, s0_, sS_]; done) | (simp only [putAll, Act.put, sI_, s0_, sS_]; rfl)) (J0_2 y _ ⟨hHeld, Hy, BG.out, BL.out, BY.out⟩)
           rintro x w_ ⟨hHeld, Hx, qBG, qBL, qBX⟩; replace Hx : g < x := Hx
           replace BG : Hid (w_.heap[g]? = some (.cells #[.slice A0 l0.length c0, .slice A1 l1.length c1, .slice A2 l2.length c2, .slice A3 l3.length c3, .slice A4 l4.length c4, .slice A5 l5.length c5] 63 (0, 0))) := Lib.hid qBG; clear qBG
           replace BL : Hid (Below w.heap.size w w_) := Lib.hid qBL; clear qBL
           have BX : Hid (Bk w_ x 27 nl nl) := Lib.hid qBX; clear qBX
           refine norm_ (a' := ?_) ?_ ?_
           rotate_left
           ·simp only [putAll, Act.put, sI_, s0_, sS_]
            rfl
           refine two_ (i := 3) (j := 9) (Ni := some 39) (Nj := some 8) #[true, true, true, true, true, true, true, false, true, false, false, false] #[true, true, true, false, true, true, true, false, true, true, false, false] rfl rfl rfl rfl (by kernel_rfl) (by decide) (by decide) (fun K hK => ?_) (fun K hK => ?_)
           ·skip
            refine goes_ Try.func18 (by kernel_rfl) rfl #[.agg #[.slice A0 l0.length c0, .slice A1 l1.length c1], .int .u64 p] (by rfl) rfl rfl (by (try simp only [List.map_toArray, List.map_cons, List.map_nil]); first | done | rfl) ?_
            with_reducible refine (scarfjointref07_Made.calls k A0 c0 l0 A1 c1 l1 p o0 o1 _ (Kd.C_below R0.out BL.out) M0.out (Kd.C_below R1.out BL.out) M1.out hm1).mono ?_
            rintro e w_ ⟨v0, v1, rfl, ho0, ho1, hb⟩
            refine ⟨_, rfl, ?_⟩
            obtain ⟨A6, c6, rfl⟩ := Kd.R_slice ho0; obtain ⟨A7, c7, rfl⟩ := Kd.R_slice ho1; replace BG := Lib.hid (blk_below BG.out hb); replace BL := Lib.hid (below_then BL.out BL.out.size hb); replace BX := Lib.hid (blk_below BX.out hb); have R6 := Lib.hid (toR ho0); have R7 := Lib.hid (toR ho1); clear ho0 ho1 hb
            refine hK.out _ _ ⟨(blk_cell BG.out 0).trans rfl, (blk_cell BG.out 1).trans rfl, (blk_cell BG.out 2).trans rfl, (blk_cell BG.out 3).trans rfl, (blk_cell BG.out 4).trans rfl, (blk_cell BG.out 5).trans rfl⟩ (fun hHeld => ?_)
            clear hK K
            refine norm_ (a' := ?_) ?_ ?_
            rotate_left
            ·show Act.put _ (some 39) _ = _
             simp only [Act.put, sI_, s0_, sS_, i64_w, i32_w]
             rfl
            exact norm_ (by first | (simp only [putAll, Act.put, sI_, s0_, sS_]; done) | (simp only [putAll, Act.put, sI_, s0_, sS_]; rfl)) (J1_1 (A6, c6, A7, c7, x) _ ⟨hHeld, Hx, BG.out, BL.out, R6.out, R7.out, BX.out⟩)
           ·skip
            refine box_step ?hg (N := 8) ?hd (cs := #[.slice none 0 0, .slice none 0 0]) (t := 27) ?hr ?_; (case hd => rfl); (case hg => rfl); (case hr => first | (go_simp; done) | (go_simp; rfl))
            intro y hg w_ hbox hb
            have Hy : g < y := by rw [hg]; exact blk_lt BG.out
            have Hxy : x ≠ y := by have q_ := blk_lt BX.out; rw [← hg] at q_; omega
            replace BG := Lib.hid (blk_below BG.out hb); replace BL := Lib.hid (below_then BL.out BL.out.size hb); replace BX := Lib.hid (blk_below BX.out hb); have BY := Lib.hid hbox; clear hg hbox hb
            refine hK.out _ _ ⟨(blk_cell BG.out 0).trans rfl, (blk_cell BG.out 1).trans rfl, (blk_cell BG.out 2).trans rfl, (blk_cell BG.out 3).trans rfl, (blk_cell BG.out 4).trans rfl, (blk_cell BG.out 5).trans rfl⟩ (fun hHeld => ?_)
            clear hK K
            refine norm_ (a' := ?_) ?_ ?_
            rotate_left
            ·show Act.put _ (some 8) _ = _
             simp only [Act.put, sI_, s0_, sS_, i64_w, i32_w]
             rfl
            exact norm_ (by first | (simp only [putAll, Act.put, sI_, s0_, sS_]; done) | (simp only [putAll, Act.put, sI_, s0_, sS_]; rfl)) (J0_3 (x, y) _ ⟨hHeld, Hx, Hy, Hxy, BG.out, BL.out, BX.out, BY.out⟩)
          rintro y w_ ⟨hHeld, Hy, qBG, qBL, qBY⟩; replace Hy : g < y := Hy
          replace BG : Hid (w_.heap[g]? = some (.cells #[.slice A0 l0.length c0, .slice A1 l1.length c1, .slice A2 l2.length c2, .slice A3 l3.length c3, .slice A4 l4.length c4, .slice A5 l5.length c5] 63 (0, 0))) := Lib.hid qBG; clear qBG
          replace BL : Hid (Below w.heap.size w w_) := Lib.hid qBL; clear qBL
          have BY : Hid (Bk w_ y 27 nl nl) := Lib.hid qBY; clear qBY
          refine norm_ (a' := ?_) ?_ ?_
          rotate_left
          ·simp only [putAll, Act.put, sI_, s0_, sS_]
           rfl
          refine two_ (i := 3) (j := 8) (Ni := some 39) (Nj := some 7) #[true, true, true, true, true, true, true, false, false, true, false, false] #[true, true, true, false, true, true, true, false, true, true, false, false] rfl rfl rfl rfl (by kernel_rfl) (by decide) (by decide) (fun K hK => ?_) (fun K hK => ?_)
          ·skip
           refine goes_ Try.func18 (by kernel_rfl) rfl #[.agg #[.slice A0 l0.length c0, .slice A1 l1.length c1], .int .u64 p] (by rfl) rfl rfl (by (try simp only [List.map_toArray, List.map_cons, List.map_nil]); first | done | rfl) ?_
           with_reducible refine (scarfjointref07_Made.calls k A0 c0 l0 A1 c1 l1 p o0 o1 _ (Kd.C_below R0.out BL.out) M0.out (Kd.C_below R1.out BL.out) M1.out hm1).mono ?_
           rintro e w_ ⟨v0, v1, rfl, ho0, ho1, hb⟩
           refine ⟨_, rfl, ?_⟩
           obtain ⟨A6, c6, rfl⟩ := Kd.R_slice ho0; obtain ⟨A7, c7, rfl⟩ := Kd.R_slice ho1; replace BG := Lib.hid (blk_below BG.out hb); replace BL := Lib.hid (below_then BL.out BL.out.size hb); replace BY := Lib.hid (blk_below BY.out hb); have R6 := Lib.hid (toR ho0); have R7 := Lib.hid (toR ho1); clear ho0 ho1 hb
           refine hK.out _ _ ⟨(blk_cell BG.out 0).trans rfl, (blk_cell BG.out 1).trans rfl, (blk_cell BG.out 2).trans rfl, (blk_cell BG.out 3).trans rfl, (blk_cell BG.out 4).trans rfl, (blk_cell BG.out 5).trans rfl⟩ (fun hHeld => ?_)
           clear hK K
           refine norm_ (a' := ?_) ?_ ?_
           rotate_left
           ·show Act.put _ (some 39) _ = _
            simp only [Act.put, sI_, s0_, sS_, i64_w, i32_w]
            rfl
           exact norm_ (by first | (simp only [putAll, Act.put, sI_, s0_, sS_]; done) | (simp only [putAll, Act.put, sI_, s0_, sS_]; rfl)) (J1_2 (A6, c6, A7, c7, y) _ ⟨hHeld, Hy, BG.out, BL.out, R6.out, R7.out, BY.out⟩)
          ·skip
           refine box_step ?hg (N := 7) ?hd (cs := #[.slice none 0 0, .slice none 0 0]) (t := 27) ?hr ?_; (case hd => rfl); (case hg => rfl); (case hr => first | (go_simp; done) | (go_simp; rfl))
           intro x hg w_ hbox hb
           have Hx : g < x := by rw [hg]; exact blk_lt BG.out
           have Hxy : x ≠ y := by have q_ := blk_lt BY.out; rw [← hg] at q_; omega
           replace BG := Lib.hid (blk_below BG.out hb); replace BL := Lib.hid (below_then BL.out BL.out.size hb); replace BY := Lib.hid (blk_below BY.out hb); have BX := Lib.hid hbox; clear hg hbox hb
           refine hK.out _ _ ⟨(blk_cell BG.out 0).trans rfl, (blk_cell BG.out 1).trans rfl, (blk_cell BG.out 2).trans rfl, (blk_cell BG.out 3).trans rfl, (blk_cell BG.out 4).trans rfl, (blk_cell BG.out 5).trans rfl⟩ (fun hHeld => ?_)
           clear hK K
           refine norm_ (a' := ?_) ?_ ?_
           rotate_left
           ·show Act.put _ (some 7) _ = _
            simp only [Act.put, sI_, s0_, sS_, i64_w, i32_w]
            rfl
           exact norm_ (by first | (simp only [putAll, Act.put, sI_, s0_, sS_]; done) | (simp only [putAll, Act.put, sI_, s0_, sS_]; rfl)) (J0_3 (x, y) _ ⟨hHeld, Hx, Hy, Hxy, BG.out, BL.out, BX.out, BY.out⟩)
         rintro ⟨x, y⟩ w_ ⟨hHeld, Hx, Hy, Hxy, qBG, qBL, qBX, qBY⟩; replace Hx : g < x := Hx; replace Hy : g < y := Hy; replace Hxy : x ≠ y := Hxy
         replace BG : Hid (w_.heap[g]? = some (.cells #[.slice A0 l0.length c0, .slice A1 l1.length c1, .slice A2 l2.length c2, .slice A3 l3.length c3, .slice A4 l4.length c4, .slice A5 l5.length c5] 63 (0, 0))) := Lib.hid qBG; clear qBG
         replace BL : Hid (Below w.heap.size w w_) := Lib.hid qBL; clear qBL
         have BX : Hid (Bk w_ x 27 nl nl) := Lib.hid qBX; clear qBX
         have BY : Hid (Bk w_ y 27 nl nl) := Lib.hid qBY; clear qBY
         refine norm_ (a' := ?_) ?_ ?_
         rotate_left
         ·simp only [putAll, Act.put, sI_, s0_, sS_]
          rfl
         refine one_ (i := 3) (N := some 39) #[true, true, true, true, true, true, true, false, true, true, false, false] rfl rfl (by kernel_rfl) (by decide) (fun K hK => ?_)
         refine goes_ Try.func18 (by kernel_rfl) rfl #[.agg #[.slice A0 l0.length c0, .slice A1 l1.length c1], .int .u64 p] (by rfl) rfl rfl (by (try simp only [List.map_toArray, List.map_cons, List.map_nil]); first | done | rfl) ?_
         with_reducible refine (scarfjointref07_Made.calls k A0 c0 l0 A1 c1 l1 p o0 o1 _ (Kd.C_below R0.out BL.out) M0.out (Kd.C_below R1.out BL.out) M1.out hm1).mono ?_
         rintro e w_ ⟨v0, v1, rfl, ho0, ho1, hb⟩
         refine ⟨_, rfl, ?_⟩
         obtain ⟨A6, c6, rfl⟩ := Kd.R_slice ho0; obtain ⟨A7, c7, rfl⟩ := Kd.R_slice ho1; replace BG := Lib.hid (blk_below BG.out hb); replace BL := Lib.hid (below_then BL.out BL.out.size hb); replace BX := Lib.hid (blk_below BX.out hb); replace BY := Lib.hid (blk_below BY.out hb); have R6 := Lib.hid (toR ho0); have R7 := Lib.hid (toR ho1); clear ho0 ho1 hb
         refine hK.out _ _ ⟨(blk_cell BG.out 0).trans rfl, (blk_cell BG.out 1).trans rfl, (blk_cell BG.out 2).trans rfl, (blk_cell BG.out 3).trans rfl, (blk_cell BG.out 4).trans rfl, (blk_cell BG.out 5).trans rfl⟩ (fun hHeld => ?_)
         clear hK K
         refine norm_ (a' := ?_) ?_ ?_
         rotate_left
         ·show Act.put _ (some 39) _ = _
          simp only [Act.put, sI_, s0_, sS_, i64_w, i32_w]
          rfl
         exact norm_ (by first | (simp only [putAll, Act.put, sI_, s0_, sS_]; done) | (simp only [putAll, Act.put, sI_, s0_, sS_]; rfl)) (J1_3 (A6, c6, A7, c7, x, y) _ ⟨hHeld, Hx, Hy, Hxy, BG.out, BL.out, R6.out, R7.out, BX.out, BY.out⟩)
        rintro ⟨A6, c6, A7, c7⟩ w_ ⟨hHeld, qBG, qBL, qR6, qR7⟩
        replace BG : Hid (w_.heap[g]? = some (.cells #[.slice A0 l0.length c0, .slice A1 l1.length c1, .slice A2 l2.length c2, .slice A3 l3.length c3, .slice A4 l4.length c4, .slice A5 l5.length c5] 63 (0, 0))) := Lib.hid qBG; clear qBG
        replace BL : Hid (Below w.heap.size w w_) := Lib.hid qBL; clear qBL
        have R6 : Hid (RI w_ A6 c6 o0) := Lib.hid qR6; clear qR6
        have R7 : Hid (RI w_ A7 c7 o1) := Lib.hid qR7; clear qR7
        refine norm_ (a' := ?_) ?_ ?_
        rotate_left
        ·simp only [putAll, Act.put, sI_, s0_, sS_]
         rfl
        refine three_ (i := 7) (j := 8) (k := 9) (Ni := some 43) (Nj := some 7) (Nk := some 8) #[true, true, true, true, true, true, true, true, false, false, false, false] #[true, true, true, true, true, true, true, false, true, false, false, false] #[true, true, true, true, true, true, true, false, false, true, false, false] rfl rfl rfl rfl rfl rfl (by kernel_rfl) (by decide) (by decide) (by decide) (fun K hK => ?_) (fun K hK => ?_) (fun K hK => ?_)
        ·skip
         refine goes_ Try.func18 (by kernel_rfl) rfl #[.agg #[.slice A2 l2.length c2, .slice A3 l3.length c3], .int .u64 q] (by rfl) rfl rfl (by (try simp only [List.map_toArray, List.map_cons, List.map_nil]); first | done | rfl) ?_
         with_reducible refine (scarfjointref07_Made.calls k A2 c2 l2 A3 c3 l3 q q0 q1 _ (Kd.C_below R2.out BL.out) M2.out (Kd.C_below R3.out BL.out) M3.out hm2).mono ?_
         rintro e w_ ⟨v0, v1, rfl, ho0, ho1, hb⟩
         refine ⟨_, rfl, ?_⟩
         obtain ⟨A8, c8, rfl⟩ := Kd.R_slice ho0; obtain ⟨A9, c9, rfl⟩ := Kd.R_slice ho1; replace BG := Lib.hid (blk_below BG.out hb); replace BL := Lib.hid (below_then BL.out BL.out.size hb); replace R6 := Lib.hid (Kd.R_below R6.out hb); replace R7 := Lib.hid (Kd.R_below R7.out hb); have R8 := Lib.hid (toR ho0); have R9 := Lib.hid (toR ho1); clear ho0 ho1 hb
         refine hK.out _ _ ⟨(blk_cell BG.out 0).trans rfl, (blk_cell BG.out 1).trans rfl, (blk_cell BG.out 2).trans rfl, (blk_cell BG.out 3).trans rfl, (blk_cell BG.out 4).trans rfl, (blk_cell BG.out 5).trans rfl⟩ (fun hHeld => ?_)
         clear hK K
         refine norm_ (a' := ?_) ?_ ?_
         rotate_left
         ·show Act.put _ (some 43) _ = _
          simp only [Act.put, sI_, s0_, sS_, i64_w, i32_w]
          rfl
         exact norm_ (by first | (simp only [putAll, Act.put, sI_, s0_, sS_]; done) | (simp only [putAll, Act.put, sI_, s0_, sS_]; rfl)) (J2_0 (A6, c6, A7, c7, A8, c8, A9, c9) _ ⟨hHeld, BG.out, BL.out, R6.out, R7.out, R8.out, R9.out⟩)
        ·skip
         refine box_step ?hg (N := 7) ?hd (cs := #[.slice none 0 0, .slice none 0 0]) (t := 27) ?hr ?_; (case hd => rfl); (case hg => rfl); (case hr => first | (go_simp; done) | (go_simp; rfl))
         intro x hg w_ hbox hb
         have Hx : g < x := by rw [hg]; exact blk_lt BG.out
         replace BG := Lib.hid (blk_below BG.out hb); replace BL := Lib.hid (below_then BL.out BL.out.size hb); replace R6 := Lib.hid (Kd.R_below R6.out hb); replace R7 := Lib.hid (Kd.R_below R7.out hb); have BX := Lib.hid hbox; clear hg hbox hb
         refine hK.out _ _ ⟨(blk_cell BG.out 0).trans rfl, (blk_cell BG.out 1).trans rfl, (blk_cell BG.out 2).trans rfl, (blk_cell BG.out 3).trans rfl, (blk_cell BG.out 4).trans rfl, (blk_cell BG.out 5).trans rfl⟩ (fun hHeld => ?_)
         clear hK K
         refine norm_ (a' := ?_) ?_ ?_
         rotate_left
         ·show Act.put _ (some 7) _ = _
          simp only [Act.put, sI_, s0_, sS_, i64_w, i32_w]
          rfl
         exact norm_ (by first | (simp only [putAll, Act.put, sI_, s0_, sS_]; done) | (simp only [putAll, Act.put, sI_, s0_, sS_]; rfl)) (J1_1 (A6, c6, A7, c7, x) _ ⟨hHeld, Hx, BG.out, BL.out, R6.out, R7.out, BX.out⟩)
        ·skip
         refine box_step ?hg (N := 8) ?hd (cs := #[.slice none 0 0, .slice none 0 0]) (t := 27) ?hr ?_; (case hd => rfl); (case hg => rfl); (case hr => first | (go_simp; done) | (go_simp; rfl))
         intro y hg w_ hbox hb
         have Hy : g < y := by rw [hg]; exact blk_lt BG.out
         replace BG := Lib.hid (blk_below BG.out hb); replace BL := Lib.hid (below_then BL.out BL.out.size hb); replace R6 := Lib.hid (Kd.R_below R6.out hb); replace R7 := Lib.hid (Kd.R_below R7.out hb); have BY := Lib.hid hbox; clear hg hbox hb
         refine hK.out _ _ ⟨(blk_cell BG.out 0).trans rfl, (blk_cell BG.out 1).trans rfl, (blk_cell BG.out 2).trans rfl, (blk_cell BG.out 3).trans rfl, (blk_cell BG.out 4).trans rfl, (blk_cell BG.out 5).trans rfl⟩ (fun hHeld => ?_)
         clear hK K
         refine norm_ (a' := ?_) ?_ ?_
         rotate_left
         ·show Act.put _ (some 8) _ = _
          simp only [Act.put, sI_, s0_, sS_, i64_w, i32_w]
          rfl
         exact norm_ (by first | (simp only [putAll, Act.put, sI_, s0_, sS_]; done) | (simp only [putAll, Act.put, sI_, s0_, sS_]; rfl)) (J1_2 (A6, c6, A7, c7, y) _ ⟨hHeld, Hy, BG.out, BL.out, R6.out, R7.out, BY.out⟩)
       rintro ⟨A6, c6, A7, c7, x⟩ w_ ⟨hHeld, Hx, qBG, qBL, qR6, qR7, qBX⟩; replace Hx : g < x := Hx
       replace BG : Hid (w_.heap[g]? = some (.cells #[.slice A0 l0.length c0, .slice A1 l1.length c1, .slice A2 l2.length c2, .slice A3 l3.length c3, .slice A4 l4.length c4, .slice A5 l5.length c5] 63 (0, 0))) := Lib.hid qBG; clear qBG
       replace BL : Hid (Below w.heap.size w w_) := Lib.hid qBL; clear qBL
       have R6 : Hid (RI w_ A6 c6 o0) := Lib.hid qR6; clear qR6
       have R7 : Hid (RI w_ A7 c7 o1) := Lib.hid qR7; clear qR7
       have BX : Hid (Bk w_ x 27 nl nl) := Lib.hid qBX; clear qBX
       refine norm_ (a' := ?_) ?_ ?_
       rotate_left
       ·simp only [putAll, Act.put, sI_, s0_, sS_]
        rfl
       refine two_ (i := 7) (j := 9) (Ni := some 43) (Nj := some 8) #[true, true, true, true, true, true, true, true, true, false, false, false] #[true, true, true, true, true, true, true, false, true, true, false, false] rfl rfl rfl rfl (by kernel_rfl) (by decide) (by decide) (fun K hK => ?_) (fun K hK => ?_)
       ·skip
        refine goes_ Try.func18 (by kernel_rfl) rfl #[.agg #[.slice A2 l2.length c2, .slice A3 l3.length c3], .int .u64 q] (by rfl) rfl rfl (by (try simp only [List.map_toArray, List.map_cons, List.map_nil]); first | done | rfl) ?_
        with_reducible refine (scarfjointref07_Made.calls k A2 c2 l2 A3 c3 l3 q q0 q1 _ (Kd.C_below R2.out BL.out) M2.out (Kd.C_below R3.out BL.out) M3.out hm2).mono ?_
        rintro e w_ ⟨v0, v1, rfl, ho0, ho1, hb⟩
        refine ⟨_, rfl, ?_⟩
        obtain ⟨A8, c8, rfl⟩ := Kd.R_slice ho0; obtain ⟨A9, c9, rfl⟩ := Kd.R_slice ho1; replace BG := Lib.hid (blk_below BG.out hb); replace BL := Lib.hid (below_then BL.out BL.out.size hb); replace R6 := Lib.hid (Kd.R_below R6.out hb); replace R7 := Lib.hid (Kd.R_below R7.out hb); replace BX := Lib.hid (blk_below BX.out hb); have R8 := Lib.hid (toR ho0); have R9 := Lib.hid (toR ho1); clear ho0 ho1 hb
        refine hK.out _ _ ⟨(blk_cell BG.out 0).trans rfl, (blk_cell BG.out 1).trans rfl, (blk_cell BG.out 2).trans rfl, (blk_cell BG.out 3).trans rfl, (blk_cell BG.out 4).trans rfl, (blk_cell BG.out 5).trans rfl⟩ (fun hHeld => ?_)
        clear hK K
        refine norm_ (a' := ?_) ?_ ?_
        rotate_left
        ·show Act.put _ (some 43) _ = _
         simp only [Act.put, sI_, s0_, sS_, i64_w, i32_w]
         rfl
        exact norm_ (by first | (simp only [putAll, Act.put, sI_, s0_, sS_]; done) | (simp only [putAll, Act.put, sI_, s0_, sS_]; rfl)) (J2_1 (A6, c6, A7, c7, A8, c8, A9, c9, x) _ ⟨hHeld, Hx, BG.out, BL.out, R6.out, R7.out, R8.out, R9.out, BX.out⟩)
       ·skip
        refine box_step ?hg (N := 8) ?hd (cs := #[.slice none 0 0, .slice none 0 0]) (t := 27) ?hr ?_; (case hd => rfl); (case hg => rfl); (case hr => first | (go_simp; done) | (go_simp; rfl))
        intro y hg w_ hbox hb
        have Hy : g < y := by rw [hg]; exact blk_lt BG.out
        have Hxy : x ≠ y := by have q_ := blk_lt BX.out; rw [← hg] at q_; omega
        replace BG := Lib.hid (blk_below BG.out hb); replace BL := Lib.hid (below_then BL.out BL.out.size hb); replace R6 := Lib.hid (Kd.R_below R6.out hb); replace R7 := Lib.hid (Kd.R_below R7.out hb); replace BX := Lib.hid (blk_below BX.out hb); have BY := Lib.hid hbox; clear hg hbox hb
        refine hK.out _ _ ⟨(blk_cell BG.out 0).trans rfl, (blk_cell BG.out 1).trans rfl, (blk_cell BG.out 2).trans rfl, (blk_cell BG.out 3).trans rfl, (blk_cell BG.out 4).trans rfl, (blk_cell BG.out 5).trans rfl⟩ (fun hHeld => ?_)
        clear hK K
        refine norm_ (a' := ?_) ?_ ?_
        rotate_left
        ·show Act.put _ (some 8) _ = _
         simp only [Act.put, sI_, s0_, sS_, i64_w, i32_w]
         rfl
        exact norm_ (by first | (simp only [putAll, Act.put, sI_, s0_, sS_]; done) | (simp only [putAll, Act.put, sI_, s0_, sS_]; rfl)) (J1_3 (A6, c6, A7, c7, x, y) _ ⟨hHeld, Hx, Hy, Hxy, BG.out, BL.out, R6.out, R7.out, BX.out, BY.out⟩)
      rintro ⟨A6, c6, A7, c7, y⟩ w_ ⟨hHeld, Hy, qBG, qBL, qR6, qR7, qBY⟩; replace Hy : g < y := Hy
      replace BG : Hid (w_.heap[g]? = some (.cells #[.slice A0 l0.length c0, .slice A1 l1.length c1, .slice A2 l2.length c2, .slice A3 l3.length c3, .slice A4 l4.length c4, .slice A5 l5.length c5] 63 (0, 0))) := Lib.hid qBG; clear qBG
      replace BL : Hid (Below w.heap.size w w_) := Lib.hid qBL; clear qBL
      have R6 : Hid (RI w_ A6 c6 o0) := Lib.hid qR6; clear qR6
      have R7 : Hid (RI w_ A7 c7 o1) := Lib.hid qR7; clear qR7
      have BY : Hid (Bk w_ y 27 nl nl) := Lib.hid qBY; clear qBY
      refine norm_ (a' := ?_) ?_ ?_
      rotate_left
      ·simp only [putAll, Act.put, sI_, s0_, sS_]
       rfl
      refine two_ (i := 7) (j := 8) (Ni := some 43) (Nj := some 7) #[true, true, true, true, true, true, true, true, false, true, false, false] #[true, true, true, true, true, true, true, false, true, true, false, false] rfl rfl rfl rfl (by kernel_rfl) (by decide) (by decide) (fun K hK => ?_) (fun K hK => ?_)
      ·skip
       refine goes_ Try.func18 (by kernel_rfl) rfl #[.agg #[.slice A2 l2.length c2, .slice A3 l3.length c3], .int .u64 q] (by rfl) rfl rfl (by (try simp only [List.map_toArray, List.map_cons, List.map_nil]); first | done | rfl) ?_
       with_reducible refine (scarfjointref07_Made.calls k A2 c2 l2 A3 c3 l3 q q0 q1 _ (Kd.C_below R2.out BL.out) M2.out (Kd.C_below R3.out BL.out) M3.out hm2).mono ?_
       rintro e w_ ⟨v0, v1, rfl, ho0, ho1, hb⟩
       refine ⟨_, rfl, ?_⟩
       obtain ⟨A8, c8, rfl⟩ := Kd.R_slice ho0; obtain ⟨A9, c9, rfl⟩ := Kd.R_slice ho1; replace BG := Lib.hid (blk_below BG.out hb); replace BL := Lib.hid (below_then BL.out BL.out.size hb); replace R6 := Lib.hid (Kd.R_below R6.out hb); replace R7 := Lib.hid (Kd.R_below R7.out hb); replace BY := Lib.hid (blk_below BY.out hb); have R8 := Lib.hid (toR ho0); have R9 := Lib.hid (toR ho1); clear ho0 ho1 hb
       refine hK.out _ _ ⟨(blk_cell BG.out 0).trans rfl, (blk_cell BG.out 1).trans rfl, (blk_cell BG.out 2).trans rfl, (blk_cell BG.out 3).trans rfl, (blk_cell BG.out 4).trans rfl, (blk_cell BG.out 5).trans rfl⟩ (fun hHeld => ?_)
       clear hK K
       refine norm_ (a' := ?_) ?_ ?_
       rotate_left
       ·show Act.put _ (some 43) _ = _
        simp only [Act.put, sI_, s0_, sS_, i64_w, i32_w]
        rfl
       exact norm_ (by first | (simp only [putAll, Act.put, sI_, s0_, sS_]; done) | (simp only [putAll, Act.put, sI_, s0_, sS_]; rfl)) (J2_2 (A6, c6, A7, c7, A8, c8, A9, c9, y) _ ⟨hHeld, Hy, BG.out, BL.out, R6.out, R7.out, R8.out, R9.out, BY.out⟩)
      ·skip
       refine box_step ?hg (N := 7) ?hd (cs := #[.slice none 0 0, .slice none 0 0]) (t := 27) ?hr ?_; (case hd => rfl); (case hg => rfl); (case hr => first | (go_simp; done) | (go_simp; rfl))
       intro x hg w_ hbox hb
       have Hx : g < x := by rw [hg]; exact blk_lt BG.out
       have Hxy : x ≠ y := by have q_ := blk_lt BY.out; rw [← hg] at q_; omega
       replace BG := Lib.hid (blk_below BG.out hb); replace BL := Lib.hid (below_then BL.out BL.out.size hb); replace R6 := Lib.hid (Kd.R_below R6.out hb); replace R7 := Lib.hid (Kd.R_below R7.out hb); replace BY := Lib.hid (blk_below BY.out hb); have BX := Lib.hid hbox; clear hg hbox hb
       refine hK.out _ _ ⟨(blk_cell BG.out 0).trans rfl, (blk_cell BG.out 1).trans rfl, (blk_cell BG.out 2).trans rfl, (blk_cell BG.out 3).trans rfl, (blk_cell BG.out 4).trans rfl, (blk_cell BG.out 5).trans rfl⟩ (fun hHeld => ?_)
       clear hK K
       refine norm_ (a' := ?_) ?_ ?_
       rotate_left
       ·show Act.put _ (some 7) _ = _
        simp only [Act.put, sI_, s0_, sS_, i64_w, i32_w]
        rfl
       exact norm_ (by first | (simp only [putAll, Act.put, sI_, s0_, sS_]; done) | (simp only [putAll, Act.put, sI_, s0_, sS_]; rfl)) (J1_3 (A6, c6, A7, c7, x, y) _ ⟨hHeld, Hx, Hy, Hxy, BG.out, BL.out, R6.out, R7.out, BX.out, BY.out⟩)
     rintro ⟨A6, c6, A7, c7, x, y⟩ w_ ⟨hHeld, Hx, Hy, Hxy, qBG, qBL, qR6, qR7, qBX, qBY⟩; replace Hx : g < x := Hx; replace Hy : g < y := Hy; replace Hxy : x ≠ y := Hxy
     replace BG : Hid (w_.heap[g]? = some (.cells #[.slice A0 l0.length c0, .slice A1 l1.length c1, .slice A2 l2.length c2, .slice A3 l3.length c3, .slice A4 l4.length c4, .slice A5 l5.length c5] 63 (0, 0))) := Lib.hid qBG; clear qBG
     replace BL : Hid (Below w.heap.size w w_) := Lib.hid qBL; clear qBL
     have R6 : Hid (RI w_ A6 c6 o0) := Lib.hid qR6; clear qR6
     have R7 : Hid (RI w_ A7 c7 o1) := Lib.hid qR7; clear qR7
     have BX : Hid (Bk w_ x 27 nl nl) := Lib.hid qBX; clear qBX
     have BY : Hid (Bk w_ y 27 nl nl) := Lib.hid qBY; clear qBY
     refine norm_ (a' := ?_) ?_ ?_
     rotate_left
     ·simp only [putAll, Act.put, sI_, s0_, sS_]
      rfl
     refine one_ (i := 7) (N := some 43) #[true, true, true, true, true, true, true, true, true, true, false, false] rfl rfl (by kernel_rfl) (by decide) (fun K hK => ?_)
     refine goes_ Try.func18 (by kernel_rfl) rfl #[.agg #[.slice A2 l2.length c2, .slice A3 l3.length c3], .int .u64 q] (by rfl) rfl rfl (by (try simp only [List.map_toArray, List.map_cons, List.map_nil]); first | done | rfl) ?_
     with_reducible refine (scarfjointref07_Made.calls k A2 c2 l2 A3 c3 l3 q q0 q1 _ (Kd.C_below R2.out BL.out) M2.out (Kd.C_below R3.out BL.out) M3.out hm2).mono ?_
     rintro e w_ ⟨v0, v1, rfl, ho0, ho1, hb⟩
     refine ⟨_, rfl, ?_⟩
     obtain ⟨A8, c8, rfl⟩ := Kd.R_slice ho0; obtain ⟨A9, c9, rfl⟩ := Kd.R_slice ho1; replace BG := Lib.hid (blk_below BG.out hb); replace BL := Lib.hid (below_then BL.out BL.out.size hb); replace R6 := Lib.hid (Kd.R_below R6.out hb); replace R7 := Lib.hid (Kd.R_below R7.out hb); replace BX := Lib.hid (blk_below BX.out hb); replace BY := Lib.hid (blk_below BY.out hb); have R8 := Lib.hid (toR ho0); have R9 := Lib.hid (toR ho1); clear ho0 ho1 hb
     refine hK.out _ _ ⟨(blk_cell BG.out 0).trans rfl, (blk_cell BG.out 1).trans rfl, (blk_cell BG.out 2).trans rfl, (blk_cell BG.out 3).trans rfl, (blk_cell BG.out 4).trans rfl, (blk_cell BG.out 5).trans rfl⟩ (fun hHeld => ?_)
     clear hK K
     refine norm_ (a' := ?_) ?_ ?_
     rotate_left
     ·show Act.put _ (some 43) _ = _
      simp only [Act.put, sI_, s0_, sS_, i64_w, i32_w]
      rfl
     exact norm_ (by first | (simp only [putAll, Act.put, sI_, s0_, sS_]; done) | (simp only [putAll, Act.put, sI_, s0_, sS_]; rfl)) (J2_3 (A6, c6, A7, c7, A8, c8, A9, c9, x, y) _ ⟨hHeld, Hx, Hy, Hxy, BG.out, BL.out, R6.out, R7.out, R8.out, R9.out, BX.out, BY.out⟩)
    rintro ⟨A6, c6, A7, c7, A8, c8, A9, c9⟩ w_ ⟨hHeld, qBG, qBL, qR6, qR7, qR8, qR9⟩
    replace BG : Hid (w_.heap[g]? = some (.cells #[.slice A0 l0.length c0, .slice A1 l1.length c1, .slice A2 l2.length c2, .slice A3 l3.length c3, .slice A4 l4.length c4, .slice A5 l5.length c5] 63 (0, 0))) := Lib.hid qBG; clear qBG
    replace BL : Hid (Below w.heap.size w w_) := Lib.hid qBL; clear qBL
    have R6 : Hid (RI w_ A6 c6 o0) := Lib.hid qR6; clear qR6
    have R7 : Hid (RI w_ A7 c7 o1) := Lib.hid qR7; clear qR7
    have R8 : Hid (RI w_ A8 c8 q0) := Lib.hid qR8; clear qR8
    have R9 : Hid (RI w_ A9 c9 q1) := Lib.hid qR9; clear qR9
    refine norm_ (a' := ?_) ?_ ?_
    rotate_left
    ·simp only [putAll, Act.put, sI_, s0_, sS_]
     rfl
    refine two_ (i := 8) (j := 9) (Ni := some 7) (Nj := some 8) #[true, true, true, true, true, true, true, true, true, false, false, false] #[true, true, true, true, true, true, true, true, false, true, false, false] rfl rfl rfl rfl (by kernel_rfl) (by decide) (by decide) (fun K hK => ?_) (fun K hK => ?_)
    ·skip
     refine box_step ?hg (N := 7) ?hd (cs := #[.slice none 0 0, .slice none 0 0]) (t := 27) ?hr ?_; (case hd => rfl); (case hg => rfl); (case hr => first | (go_simp; done) | (go_simp; rfl))
     intro x hg w_ hbox hb
     have Hx : g < x := by rw [hg]; exact blk_lt BG.out
     replace BG := Lib.hid (blk_below BG.out hb); replace BL := Lib.hid (below_then BL.out BL.out.size hb); replace R6 := Lib.hid (Kd.R_below R6.out hb); replace R7 := Lib.hid (Kd.R_below R7.out hb); replace R8 := Lib.hid (Kd.R_below R8.out hb); replace R9 := Lib.hid (Kd.R_below R9.out hb); have BX := Lib.hid hbox; clear hg hbox hb
     refine hK.out _ _ ⟨(blk_cell BG.out 0).trans rfl, (blk_cell BG.out 1).trans rfl, (blk_cell BG.out 2).trans rfl, (blk_cell BG.out 3).trans rfl, (blk_cell BG.out 4).trans rfl, (blk_cell BG.out 5).trans rfl⟩ (fun hHeld => ?_)
     clear hK K
     refine norm_ (a' := ?_) ?_ ?_
     rotate_left
     ·show Act.put _ (some 7) _ = _
      simp only [Act.put, sI_, s0_, sS_, i64_w, i32_w]
      rfl
     exact norm_ (by first | (simp only [putAll, Act.put, sI_, s0_, sS_]; done) | (simp only [putAll, Act.put, sI_, s0_, sS_]; rfl)) (J2_1 (A6, c6, A7, c7, A8, c8, A9, c9, x) _ ⟨hHeld, Hx, BG.out, BL.out, R6.out, R7.out, R8.out, R9.out, BX.out⟩)
    ·skip
     refine box_step ?hg (N := 8) ?hd (cs := #[.slice none 0 0, .slice none 0 0]) (t := 27) ?hr ?_; (case hd => rfl); (case hg => rfl); (case hr => first | (go_simp; done) | (go_simp; rfl))
     intro y hg w_ hbox hb
     have Hy : g < y := by rw [hg]; exact blk_lt BG.out
     replace BG := Lib.hid (blk_below BG.out hb); replace BL := Lib.hid (below_then BL.out BL.out.size hb); replace R6 := Lib.hid (Kd.R_below R6.out hb); replace R7 := Lib.hid (Kd.R_below R7.out hb); replace R8 := Lib.hid (Kd.R_below R8.out hb); replace R9 := Lib.hid (Kd.R_below R9.out hb); have BY := Lib.hid hbox; clear hg hbox hb
     refine hK.out _ _ ⟨(blk_cell BG.out 0).trans rfl, (blk_cell BG.out 1).trans rfl, (blk_cell BG.out 2).trans rfl, (blk_cell BG.out 3).trans rfl, (blk_cell BG.out 4).trans rfl, (blk_cell BG.out 5).trans rfl⟩ (fun hHeld => ?_)
     clear hK K
     refine norm_ (a' := ?_) ?_ ?_
     rotate_left
     ·show Act.put _ (some 8) _ = _
      simp only [Act.put, sI_, s0_, sS_, i64_w, i32_w]
      rfl
     exact norm_ (by first | (simp only [putAll, Act.put, sI_, s0_, sS_]; done) | (simp only [putAll, Act.put, sI_, s0_, sS_]; rfl)) (J2_2 (A6, c6, A7, c7, A8, c8, A9, c9, y) _ ⟨hHeld, Hy, BG.out, BL.out, R6.out, R7.out, R8.out, R9.out, BY.out⟩)
   rintro ⟨A6, c6, A7, c7, A8, c8, A9, c9, x⟩ w_ ⟨hHeld, Hx, qBG, qBL, qR6, qR7, qR8, qR9, qBX⟩; replace Hx : g < x := Hx
   replace BG : Hid (w_.heap[g]? = some (.cells #[.slice A0 l0.length c0, .slice A1 l1.length c1, .slice A2 l2.length c2, .slice A3 l3.length c3, .slice A4 l4.length c4, .slice A5 l5.length c5] 63 (0, 0))) := Lib.hid qBG; clear qBG
   replace BL : Hid (Below w.heap.size w w_) := Lib.hid qBL; clear qBL
   have R6 : Hid (RI w_ A6 c6 o0) := Lib.hid qR6; clear qR6
   have R7 : Hid (RI w_ A7 c7 o1) := Lib.hid qR7; clear qR7
   have R8 : Hid (RI w_ A8 c8 q0) := Lib.hid qR8; clear qR8
   have R9 : Hid (RI w_ A9 c9 q1) := Lib.hid qR9; clear qR9
   have BX : Hid (Bk w_ x 27 nl nl) := Lib.hid qBX; clear qBX
   refine norm_ (a' := ?_) ?_ ?_
   rotate_left
   ·simp only [putAll, Act.put, sI_, s0_, sS_]
    rfl
   refine one_ (i := 9) (N := some 8) #[true, true, true, true, true, true, true, true, true, true, false, false] rfl rfl (by kernel_rfl) (by decide) (fun K hK => ?_)
   refine box_step ?hg (N := 8) ?hd (cs := #[.slice none 0 0, .slice none 0 0]) (t := 27) ?hr ?_; (case hd => rfl); (case hg => rfl); (case hr => first | (go_simp; done) | (go_simp; rfl))
   intro y hg w_ hbox hb
   have Hy : g < y := by rw [hg]; exact blk_lt BG.out
   have Hxy : x ≠ y := by have q_ := blk_lt BX.out; rw [← hg] at q_; omega
   replace BG := Lib.hid (blk_below BG.out hb); replace BL := Lib.hid (below_then BL.out BL.out.size hb); replace R6 := Lib.hid (Kd.R_below R6.out hb); replace R7 := Lib.hid (Kd.R_below R7.out hb); replace R8 := Lib.hid (Kd.R_below R8.out hb); replace R9 := Lib.hid (Kd.R_below R9.out hb); replace BX := Lib.hid (blk_below BX.out hb); have BY := Lib.hid hbox; clear hg hbox hb
   refine hK.out _ _ ⟨(blk_cell BG.out 0).trans rfl, (blk_cell BG.out 1).trans rfl, (blk_cell BG.out 2).trans rfl, (blk_cell BG.out 3).trans rfl, (blk_cell BG.out 4).trans rfl, (blk_cell BG.out 5).trans rfl⟩ (fun hHeld => ?_)
   clear hK K
   refine norm_ (a' := ?_) ?_ ?_
   rotate_left
   ·show Act.put _ (some 8) _ = _
    simp only [Act.put, sI_, s0_, sS_, i64_w, i32_w]
    rfl
   exact norm_ (by first | (simp only [putAll, Act.put, sI_, s0_, sS_]; done) | (simp only [putAll, Act.put, sI_, s0_, sS_]; rfl)) (J2_3 (A6, c6, A7, c7, A8, c8, A9, c9, x, y) _ ⟨hHeld, Hx, Hy, Hxy, BG.out, BL.out, R6.out, R7.out, R8.out, R9.out, BX.out, BY.out⟩)
  rintro ⟨A6, c6, A7, c7, A8, c8, A9, c9, y⟩ w_ ⟨hHeld, Hy, qBG, qBL, qR6, qR7, qR8, qR9, qBY⟩; replace Hy : g < y := Hy
  replace BG : Hid (w_.heap[g]? = some (.cells #[.slice A0 l0.length c0, .slice A1 l1.length c1, .slice A2 l2.length c2, .slice A3 l3.length c3, .slice A4 l4.length c4, .slice A5 l5.length c5] 63 (0, 0))) := Lib.hid qBG; clear qBG
  replace BL : Hid (Below w.heap.size w w_) := Lib.hid qBL; clear qBL
  have R6 : Hid (RI w_ A6 c6 o0) := Lib.hid qR6; clear qR6
  have R7 : Hid (RI w_ A7 c7 o1) := Lib.hid qR7; clear qR7
  have R8 : Hid (RI w_ A8 c8 q0) := Lib.hid qR8; clear qR8
  have R9 : Hid (RI w_ A9 c9 q1) := Lib.hid qR9; clear qR9
  have BY : Hid (Bk w_ y 27 nl nl) := Lib.hid qBY; clear qBY
  refine norm_ (a' := ?_) ?_ ?_
  rotate_left
  ·simp only [putAll, Act.put, sI_, s0_, sS_]
   rfl
  refine one_ (i := 8) (N := some 7) #[true, true, true, true, true, true, true, true, true, true, false, false] rfl rfl (by kernel_rfl) (by decide) (fun K hK => ?_)
  refine box_step ?hg (N := 7) ?hd (cs := #[.slice none 0 0, .slice none 0 0]) (t := 27) ?hr ?_; (case hd => rfl); (case hg => rfl); (case hr => first | (go_simp; done) | (go_simp; rfl))
  intro x hg w_ hbox hb
  have Hx : g < x := by rw [hg]; exact blk_lt BG.out
  have Hxy : x ≠ y := by have q_ := blk_lt BY.out; rw [← hg] at q_; omega
  replace BG := Lib.hid (blk_below BG.out hb); replace BL := Lib.hid (below_then BL.out BL.out.size hb); replace R6 := Lib.hid (Kd.R_below R6.out hb); replace R7 := Lib.hid (Kd.R_below R7.out hb); replace R8 := Lib.hid (Kd.R_below R8.out hb); replace R9 := Lib.hid (Kd.R_below R9.out hb); replace BY := Lib.hid (blk_below BY.out hb); have BX := Lib.hid hbox; clear hg hbox hb
  refine hK.out _ _ ⟨(blk_cell BG.out 0).trans rfl, (blk_cell BG.out 1).trans rfl, (blk_cell BG.out 2).trans rfl, (blk_cell BG.out 3).trans rfl, (blk_cell BG.out 4).trans rfl, (blk_cell BG.out 5).trans rfl⟩ (fun hHeld => ?_)
  clear hK K
  refine norm_ (a' := ?_) ?_ ?_
  rotate_left
  ·show Act.put _ (some 7) _ = _
   simp only [Act.put, sI_, s0_, sS_, i64_w, i32_w]
   rfl
  exact norm_ (by first | (simp only [putAll, Act.put, sI_, s0_, sS_]; done) | (simp only [putAll, Act.put, sI_, s0_, sS_]; rfl)) (J2_3 (A6, c6, A7, c7, A8, c8, A9, c9, x, y) _ ⟨hHeld, Hx, Hy, Hxy, BG.out, BL.out, R6.out, R7.out, R8.out, R9.out, BX.out, BY.out⟩)
 rintro ⟨A6, c6, A7, c7, A8, c8, A9, c9, x, y⟩ w_ ⟨hHeld, Hx, Hy, Hxy, qBG, qBL, qR6, qR7, qR8, qR9, qBX, qBY⟩; replace Hx : g < x := Hx; replace Hy : g < y := Hy; replace Hxy : x ≠ y := Hxy
 replace BG : Hid (w_.heap[g]? = some (.cells #[.slice A0 l0.length c0, .slice A1 l1.length c1, .slice A2 l2.length c2, .slice A3 l3.length c3, .slice A4 l4.length c4, .slice A5 l5.length c5] 63 (0, 0))) := Lib.hid qBG; clear qBG
 replace BL : Hid (Below w.heap.size w w_) := Lib.hid qBL; clear qBL
 have R6 : Hid (RI w_ A6 c6 o0) := Lib.hid qR6; clear qR6
 have R7 : Hid (RI w_ A7 c7 o1) := Lib.hid qR7; clear qR7
 have R8 : Hid (RI w_ A8 c8 q0) := Lib.hid qR8; clear qR8
 have R9 : Hid (RI w_ A9 c9 q1) := Lib.hid qR9; clear qR9
 have BX : Hid (Bk w_ x 27 nl nl) := Lib.hid qBX; clear qBX
 have BY : Hid (Bk w_ y 27 nl nl) := Lib.hid qBY; clear qBY
 refine norm_ (a' := ?_) ?_ ?_
 rotate_left
 ·simp only [putAll, Act.put, sI_, s0_, sS_]
  rfl
 refine one_ (i := 10) (N := none) #[true, true, true, true, true, true, true, true, true, true, true, false] rfl rfl (by kernel_rfl) (by decide) (fun K hK => ?_)
 obtain ⟨y0_, y1_⟩ := cell2 BX.out; have f0_ := blk_frozen BX.out 0; have f1_ := blk_frozen BX.out 1
 refine skip_ (w1 := ?_) (by rfl) rfl ?_ ?_
 rotate_left
 ·go_simp
  rfl
 clear y0_ y1_ f0_ f1_; replace BG := Lib.hid (blk_far BG.out (p := ⟨x, 0, none⟩) (by show g ≠ x; omega) (.slice A6 o0.length c6)); replace BL := Lib.hid (below_set (g := x) (j := 0) (v := .slice A6 o0.length c6) BL.out (by omega)); replace R6 := Lib.hid (Kd.R_set R6.out BX.out int_ne27 0 (.slice A6 o0.length c6)); replace R7 := Lib.hid (Kd.R_set R7.out BX.out int_ne27 0 (.slice A6 o0.length c6)); replace R8 := Lib.hid (Kd.R_set R8.out BX.out int_ne27 0 (.slice A6 o0.length c6)); replace R9 := Lib.hid (Kd.R_set R9.out BX.out int_ne27 0 (.slice A6 o0.length c6)); replace BY := Lib.hid (blk_far BY.out (p := ⟨x, 0, none⟩) (by show y ≠ x; omega) (.slice A6 o0.length c6)); replace BX := Lib.hid (blk_put (cs' := #[.slice A6 o0.length c6, .slice none 0 0]) BX.out 0 (.slice A6 o0.length c6) rfl); replace BG := Lib.hid (blk_far BG.out (p := ⟨x, 1, none⟩) (by show g ≠ x; omega) (.slice A7 o1.length c7)); replace BL := Lib.hid (below_set (g := x) (j := 1) (v := .slice A7 o1.length c7) BL.out (by omega)); replace R6 := Lib.hid (Kd.R_set R6.out BX.out int_ne27 1 (.slice A7 o1.length c7)); replace R7 := Lib.hid (Kd.R_set R7.out BX.out int_ne27 1 (.slice A7 o1.length c7)); replace R8 := Lib.hid (Kd.R_set R8.out BX.out int_ne27 1 (.slice A7 o1.length c7)); replace R9 := Lib.hid (Kd.R_set R9.out BX.out int_ne27 1 (.slice A7 o1.length c7)); replace BY := Lib.hid (blk_far BY.out (p := ⟨x, 1, none⟩) (by show y ≠ x; omega) (.slice A7 o1.length c7)); replace BX := Lib.hid (blk_put (cs' := #[.slice A6 o0.length c6, .slice A7 o1.length c7]) BX.out 1 (.slice A7 o1.length c7) rfl)
 refine hK.out _ _ ⟨(blk_cell BG.out 0).trans rfl, (blk_cell BG.out 1).trans rfl, (blk_cell BG.out 2).trans rfl, (blk_cell BG.out 3).trans rfl, (blk_cell BG.out 4).trans rfl, (blk_cell BG.out 5).trans rfl⟩ (fun hHeld => ?_)
 clear hK K
 refine one_ (i := 11) (N := none) #[true, true, true, true, true, true, true, true, true, true, true, true] rfl rfl (by kernel_rfl) (by decide) (fun K hK => ?_)
 obtain ⟨y0_, y1_⟩ := cell2 BY.out; have f0_ := blk_frozen BY.out 0; have f1_ := blk_frozen BY.out 1
 refine skip_ (w1 := ?_) (by rfl) rfl ?_ ?_
 rotate_left
 ·go_simp
  rfl
 clear y0_ y1_ f0_ f1_; replace BG := Lib.hid (blk_far BG.out (p := ⟨y, 0, none⟩) (by show g ≠ y; omega) (.slice A8 q0.length c8)); replace BL := Lib.hid (below_set (g := y) (j := 0) (v := .slice A8 q0.length c8) BL.out (by omega)); replace R6 := Lib.hid (Kd.R_set R6.out BY.out int_ne27 0 (.slice A8 q0.length c8)); replace R7 := Lib.hid (Kd.R_set R7.out BY.out int_ne27 0 (.slice A8 q0.length c8)); replace R8 := Lib.hid (Kd.R_set R8.out BY.out int_ne27 0 (.slice A8 q0.length c8)); replace R9 := Lib.hid (Kd.R_set R9.out BY.out int_ne27 0 (.slice A8 q0.length c8)); replace BX := Lib.hid (blk_far BX.out (p := ⟨y, 0, none⟩) (by show x ≠ y; omega) (.slice A8 q0.length c8)); replace BY := Lib.hid (blk_put (cs' := #[.slice A8 q0.length c8, .slice none 0 0]) BY.out 0 (.slice A8 q0.length c8) rfl); replace BG := Lib.hid (blk_far BG.out (p := ⟨y, 1, none⟩) (by show g ≠ y; omega) (.slice A9 q1.length c9)); replace BL := Lib.hid (below_set (g := y) (j := 1) (v := .slice A9 q1.length c9) BL.out (by omega)); replace R6 := Lib.hid (Kd.R_set R6.out BY.out int_ne27 1 (.slice A9 q1.length c9)); replace R7 := Lib.hid (Kd.R_set R7.out BY.out int_ne27 1 (.slice A9 q1.length c9)); replace R8 := Lib.hid (Kd.R_set R8.out BY.out int_ne27 1 (.slice A9 q1.length c9)); replace R9 := Lib.hid (Kd.R_set R9.out BY.out int_ne27 1 (.slice A9 q1.length c9)); replace BX := Lib.hid (blk_far BX.out (p := ⟨y, 1, none⟩) (by show x ≠ y; omega) (.slice A9 q1.length c9)); replace BY := Lib.hid (blk_put (cs' := #[.slice A8 q0.length c8, .slice A9 q1.length c9]) BY.out 1 (.slice A9 q1.length c9) rfl)
 refine hK.out _ _ ⟨(blk_cell BG.out 0).trans rfl, (blk_cell BG.out 1).trans rfl, (blk_cell BG.out 2).trans rfl, (blk_cell BG.out 3).trans rfl, (blk_cell BG.out 4).trans rfl, (blk_cell BG.out 5).trans rfl⟩ (fun hHeld => ?_)
 clear hK K
 refine done_ (by kernel_rfl) ?_
 generalize hq_ : World.setCell _ _ _ = w6_; replace BG := Lib.hid (at_blk hq_ BG.out); replace BL := Lib.hid (at_bel hq_ BL.out); replace R6 := Lib.hid (at_R hq_ R6.out); replace R7 := Lib.hid (at_R hq_ R7.out); replace R8 := Lib.hid (at_R hq_ R8.out); replace R9 := Lib.hid (at_R hq_ R9.out); replace BX := Lib.hid (at_blk hq_ BX.out); replace BY := Lib.hid (at_blk hq_ BY.out); clear hq_
 have zBG_0 : World.cell? _ ⟨g, 0, none⟩ = some (.slice A0 l0.length c0) := (blk_cell BG.out 0).trans rfl
 have zBG_1 : World.cell? _ ⟨g, 1, none⟩ = some (.slice A1 l1.length c1) := (blk_cell BG.out 1).trans rfl
 have zBG_2 : World.cell? _ ⟨g, 2, none⟩ = some (.slice A2 l2.length c2) := (blk_cell BG.out 2).trans rfl
 have zBG_3 : World.cell? _ ⟨g, 3, none⟩ = some (.slice A3 l3.length c3) := (blk_cell BG.out 3).trans rfl
 have zBG_4 : World.cell? _ ⟨g, 4, none⟩ = some (.slice A4 l4.length c4) := (blk_cell BG.out 4).trans rfl
 have zBG_5 : World.cell? _ ⟨g, 5, none⟩ = some (.slice A5 l5.length c5) := (blk_cell BG.out 5).trans rfl
 obtain ⟨zBX_0, zBX_1⟩ := cell2 BX.out
 go_upto_region 5 with (first
  | (go_at_call 29; with_reducible refine (subgraph_Extract.calls k A0 c0 l0 A1 c1 l1 A6 c6 o0 A7 c7 o1 s0 s1 o0 o1 0 _ (Kd.C_below R0.out BL.out) M0.out (Kd.C_below R1.out BL.out) M1.out (Kd.R_reads' R6.out).2.2 (Kd.R_reads' R6.out).2.1 (Kd.R_reads' R7.out).2.2 (Kd.R_reads' R7.out).2.1 hext).mono ?_; rintro e w_ ⟨v0, v1, v2, v3, rfl, ho0, ho1, ho2, ho3, hb⟩; clear zBG_0 zBG_1 zBG_2 zBG_3 zBG_4 zBG_5 zBX_0 zBX_1; obtain ⟨A10, c10, rfl⟩ := Kd.R_slice ho0; obtain ⟨A11, c11, rfl⟩ := Kd.R_slice ho1; obtain ⟨A12, c12, rfl⟩ := Kd.R_slice ho2; obtain ⟨A13, c13, rfl⟩ := Kd.R_slice ho3; replace BG := Lib.hid (blk_below BG.out hb); replace BL := Lib.hid (below_then BL.out BL.out.size hb); replace R6 := Lib.hid (Kd.R_below R6.out hb); replace R7 := Lib.hid (Kd.R_below R7.out hb); replace R8 := Lib.hid (Kd.R_below R8.out hb); replace R9 := Lib.hid (Kd.R_below R9.out hb); replace BX := Lib.hid (blk_below BX.out hb); replace BY := Lib.hid (blk_below BY.out hb); have R10 := Lib.hid (toR (ho0)); have R11 := Lib.hid (toR (ho1)); have R12 := Lib.hid (toR (ho2)); have R13 := Lib.hid (toR (ho3)); clear ho0 ho1 ho2 ho3 hb; have zBG_0 : World.cell? _ ⟨g, 0, none⟩ = some (.slice A0 l0.length c0) := (blk_cell BG.out 0).trans rfl; have zBG_1 : World.cell? _ ⟨g, 1, none⟩ = some (.slice A1 l1.length c1) := (blk_cell BG.out 1).trans rfl; have zBG_2 : World.cell? _ ⟨g, 2, none⟩ = some (.slice A2 l2.length c2) := (blk_cell BG.out 2).trans rfl; have zBG_3 : World.cell? _ ⟨g, 3, none⟩ = some (.slice A3 l3.length c3) := (blk_cell BG.out 3).trans rfl; have zBG_4 : World.cell? _ ⟨g, 4, none⟩ = some (.slice A4 l4.length c4) := (blk_cell BG.out 4).trans rfl; have zBG_5 : World.cell? _ ⟨g, 5, none⟩ = some (.slice A5 l5.length c5) := (blk_cell BG.out 5).trans rfl; obtain ⟨zBX_0, zBX_1⟩ := cell2 BX.out)
  | ((with_reducible refine gate_dst (N := 9) rfl ?_); (try (refine gate_guard (by rfl) ?_; dsimp only)); refine box_event ?hg (N := 9) ?hd (cs := #[.slice none 0 0, .slice none 0 0]) (t := 25) ?hr ?_; (case hd => rfl); (case hg => rfl); (case hr => first | (go_simp; done) | (go_simp; rfl)); intro z hg w_ hbox hb; clear zBG_0 zBG_1 zBG_2 zBG_3 zBG_4 zBG_5 zBX_0 zBX_1; have Hz : y < z := (hg ▸ blk_lt BY.out); have Hxz : x < z := (hg ▸ blk_lt BX.out); replace BG := Lib.hid (blk_below BG.out hb); replace BL := Lib.hid (below_then BL.out BL.out.size hb); replace R6 := Lib.hid (Kd.R_below R6.out hb); replace R7 := Lib.hid (Kd.R_below R7.out hb); replace R8 := Lib.hid (Kd.R_below R8.out hb); replace R9 := Lib.hid (Kd.R_below R9.out hb); replace BX := Lib.hid (blk_below BX.out hb); replace BY := Lib.hid (blk_below BY.out hb); replace R10 := Lib.hid (Kd.R_below R10.out hb); replace R11 := Lib.hid (Kd.R_below R11.out hb); replace R12 := Lib.hid (Kd.R_below R12.out hb); replace R13 := Lib.hid (Kd.R_below R13.out hb); have BZ := Lib.hid (hbox); clear hg hbox hb; have zBG_0 : World.cell? _ ⟨g, 0, none⟩ = some (.slice A0 l0.length c0) := (blk_cell BG.out 0).trans rfl; have zBG_1 : World.cell? _ ⟨g, 1, none⟩ = some (.slice A1 l1.length c1) := (blk_cell BG.out 1).trans rfl; have zBG_2 : World.cell? _ ⟨g, 2, none⟩ = some (.slice A2 l2.length c2) := (blk_cell BG.out 2).trans rfl; have zBG_3 : World.cell? _ ⟨g, 3, none⟩ = some (.slice A3 l3.length c3) := (blk_cell BG.out 3).trans rfl; have zBG_4 : World.cell? _ ⟨g, 4, none⟩ = some (.slice A4 l4.length c4) := (blk_cell BG.out 4).trans rfl; have zBG_5 : World.cell? _ ⟨g, 5, none⟩ = some (.slice A5 l5.length c5) := (blk_cell BG.out 5).trans rfl; obtain ⟨zBX_0, zBX_1⟩ := cell2 BX.out)
  | ((with_reducible refine gate_dst (N := 10) rfl ?_); (try (refine gate_guard (by rfl) ?_; dsimp only)); refine box_event ?hg (N := 10) ?hd (cs := #[.slice none 0 0, .slice none 0 0]) (t := 51) ?hr ?_; (case hd => rfl); (case hg => rfl); (case hr => first | (go_simp; done) | (go_simp; rfl)); intro t hg w_ hbox hb; clear zBG_0 zBG_1 zBG_2 zBG_3 zBG_4 zBG_5 zBX_0 zBX_1; have Ht : z < t := (hg ▸ blk_lt BZ.out); replace BG := Lib.hid (blk_below BG.out hb); replace BL := Lib.hid (below_then BL.out BL.out.size hb); replace R6 := Lib.hid (Kd.R_below R6.out hb); replace R7 := Lib.hid (Kd.R_below R7.out hb); replace R8 := Lib.hid (Kd.R_below R8.out hb); replace R9 := Lib.hid (Kd.R_below R9.out hb); replace BX := Lib.hid (blk_below BX.out hb); replace BY := Lib.hid (blk_below BY.out hb); replace R10 := Lib.hid (Kd.R_below R10.out hb); replace R11 := Lib.hid (Kd.R_below R11.out hb); replace R12 := Lib.hid (Kd.R_below R12.out hb); replace R13 := Lib.hid (Kd.R_below R13.out hb); replace BZ := Lib.hid (blk_below BZ.out hb); have BT := Lib.hid (hbox); clear hg hbox hb; obtain ⟨y0_, y1_⟩ := cell2 BZ.out; have f0_ := blk_frozen BZ.out 0; have f1_ := blk_frozen BZ.out 1)
  | ((with_reducible refine gate_store (t := 25) (p := 9) rfl ?_); refine store_event (t := 25) (p := 9) (v := ?vo) (w1 := ?w1) ?hg ?ho ?hn ?hr ?_; (case ho => rfl); (case hg => rfl); (case hn => rfl); (case hr => first | (go_simp; done) | (go_simp; rfl)); intro w_ hw; subst hw; clear y0_ y1_ f0_ f1_; replace BG := Lib.hid (blk_far BG.out (p := ⟨z, 0, none⟩) (by show g ≠ z; omega) (.slice A10 s0.length c10)); replace BL := Lib.hid (below_set (g := z) (j := 0) (v := .slice A10 s0.length c10) BL.out (by omega)); replace R6 := Lib.hid (Kd.R_set R6.out BZ.out int_ne25 0 (.slice A10 s0.length c10)); replace R7 := Lib.hid (Kd.R_set R7.out BZ.out int_ne25 0 (.slice A10 s0.length c10)); replace R8 := Lib.hid (Kd.R_set R8.out BZ.out int_ne25 0 (.slice A10 s0.length c10)); replace R9 := Lib.hid (Kd.R_set R9.out BZ.out int_ne25 0 (.slice A10 s0.length c10)); replace BX := Lib.hid (blk_far BX.out (p := ⟨z, 0, none⟩) (by show x ≠ z; omega) (.slice A10 s0.length c10)); replace BY := Lib.hid (blk_far BY.out (p := ⟨z, 0, none⟩) (by show y ≠ z; omega) (.slice A10 s0.length c10)); replace R10 := Lib.hid (Kd.R_set R10.out BZ.out int_ne25 0 (.slice A10 s0.length c10)); replace R11 := Lib.hid (Kd.R_set R11.out BZ.out k78_ne25 0 (.slice A10 s0.length c10)); replace R12 := Lib.hid (Kd.R_set R12.out BZ.out int_ne25 0 (.slice A10 s0.length c10)); replace R13 := Lib.hid (Kd.R_set R13.out BZ.out int_ne25 0 (.slice A10 s0.length c10)); replace BT := Lib.hid (blk_far BT.out (p := ⟨z, 0, none⟩) (by show t ≠ z; omega) (.slice A10 s0.length c10)); replace BZ := Lib.hid (blk_put (cs' := #[.slice A10 s0.length c10, .slice none 0 0]) BZ.out 0 (.slice A10 s0.length c10) rfl); replace BG := Lib.hid (blk_far BG.out (p := ⟨z, 1, none⟩) (by show g ≠ z; omega) (.slice A11 s1.length c11)); replace BL := Lib.hid (below_set (g := z) (j := 1) (v := .slice A11 s1.length c11) BL.out (by omega)); replace R6 := Lib.hid (Kd.R_set R6.out BZ.out int_ne25 1 (.slice A11 s1.length c11)); replace R7 := Lib.hid (Kd.R_set R7.out BZ.out int_ne25 1 (.slice A11 s1.length c11)); replace R8 := Lib.hid (Kd.R_set R8.out BZ.out int_ne25 1 (.slice A11 s1.length c11)); replace R9 := Lib.hid (Kd.R_set R9.out BZ.out int_ne25 1 (.slice A11 s1.length c11)); replace BX := Lib.hid (blk_far BX.out (p := ⟨z, 1, none⟩) (by show x ≠ z; omega) (.slice A11 s1.length c11)); replace BY := Lib.hid (blk_far BY.out (p := ⟨z, 1, none⟩) (by show y ≠ z; omega) (.slice A11 s1.length c11)); replace R10 := Lib.hid (Kd.R_set R10.out BZ.out int_ne25 1 (.slice A11 s1.length c11)); replace R11 := Lib.hid (Kd.R_set R11.out BZ.out k78_ne25 1 (.slice A11 s1.length c11)); replace R12 := Lib.hid (Kd.R_set R12.out BZ.out int_ne25 1 (.slice A11 s1.length c11)); replace R13 := Lib.hid (Kd.R_set R13.out BZ.out int_ne25 1 (.slice A11 s1.length c11)); replace BT := Lib.hid (blk_far BT.out (p := ⟨z, 1, none⟩) (by show t ≠ z; omega) (.slice A11 s1.length c11)); replace BZ := Lib.hid (blk_put (cs' := #[.slice A10 s0.length c10, .slice A11 s1.length c11]) BZ.out 1 (.slice A11 s1.length c11) rfl); obtain ⟨y0_, y1_⟩ := cell2 BT.out; have f0_ := blk_frozen BT.out 0; have f1_ := blk_frozen BT.out 1))
 clear y0_ y1_ f0_ f1_; replace BG := Lib.hid (blk_far BG.out (p := ⟨t, 0, none⟩) (by show g ≠ t; omega) (.slice A12 o0.length c12)); replace BL := Lib.hid (below_set (g := t) (j := 0) (v := .slice A12 o0.length c12) BL.out (by omega)); replace R6 := Lib.hid (Kd.R_set R6.out BT.out int_ne51 0 (.slice A12 o0.length c12)); replace R7 := Lib.hid (Kd.R_set R7.out BT.out int_ne51 0 (.slice A12 o0.length c12)); replace R8 := Lib.hid (Kd.R_set R8.out BT.out int_ne51 0 (.slice A12 o0.length c12)); replace R9 := Lib.hid (Kd.R_set R9.out BT.out int_ne51 0 (.slice A12 o0.length c12)); replace BX := Lib.hid (blk_far BX.out (p := ⟨t, 0, none⟩) (by show x ≠ t; omega) (.slice A12 o0.length c12)); replace BY := Lib.hid (blk_far BY.out (p := ⟨t, 0, none⟩) (by show y ≠ t; omega) (.slice A12 o0.length c12)); replace R10 := Lib.hid (Kd.R_set R10.out BT.out int_ne51 0 (.slice A12 o0.length c12)); replace R11 := Lib.hid (Kd.R_set R11.out BT.out k78_ne51 0 (.slice A12 o0.length c12)); replace R12 := Lib.hid (Kd.R_set R12.out BT.out int_ne51 0 (.slice A12 o0.length c12)); replace R13 := Lib.hid (Kd.R_set R13.out BT.out int_ne51 0 (.slice A12 o0.length c12)); replace BZ := Lib.hid (blk_far BZ.out (p := ⟨t, 0, none⟩) (by show z ≠ t; omega) (.slice A12 o0.length c12)); replace BT := Lib.hid (blk_put (cs' := #[.slice A12 o0.length c12, .slice none 0 0]) BT.out 0 (.slice A12 o0.length c12) rfl); replace BG := Lib.hid (blk_far BG.out (p := ⟨t, 1, none⟩) (by show g ≠ t; omega) (.slice A13 o1.length c13)); replace BL := Lib.hid (below_set (g := t) (j := 1) (v := .slice A13 o1.length c13) BL.out (by omega)); replace R6 := Lib.hid (Kd.R_set R6.out BT.out int_ne51 1 (.slice A13 o1.length c13)); replace R7 := Lib.hid (Kd.R_set R7.out BT.out int_ne51 1 (.slice A13 o1.length c13)); replace R8 := Lib.hid (Kd.R_set R8.out BT.out int_ne51 1 (.slice A13 o1.length c13)); replace R9 := Lib.hid (Kd.R_set R9.out BT.out int_ne51 1 (.slice A13 o1.length c13)); replace BX := Lib.hid (blk_far BX.out (p := ⟨t, 1, none⟩) (by show x ≠ t; omega) (.slice A13 o1.length c13)); replace BY := Lib.hid (blk_far BY.out (p := ⟨t, 1, none⟩) (by show y ≠ t; omega) (.slice A13 o1.length c13)); replace R10 := Lib.hid (Kd.R_set R10.out BT.out int_ne51 1 (.slice A13 o1.length c13)); replace R11 := Lib.hid (Kd.R_set R11.out BT.out k78_ne51 1 (.slice A13 o1.length c13)); replace R12 := Lib.hid (Kd.R_set R12.out BT.out int_ne51 1 (.slice A13 o1.length c13)); replace R13 := Lib.hid (Kd.R_set R13.out BT.out int_ne51 1 (.slice A13 o1.length c13)); replace BZ := Lib.hid (blk_far BZ.out (p := ⟨t, 1, none⟩) (by show z ≠ t; omega) (.slice A13 o1.length c13)); replace BT := Lib.hid (blk_put (cs' := #[.slice A12 o0.length c12, .slice A13 o1.length c13]) BT.out 1 (.slice A13 o1.length c13) rfl); generalize hq_ : World.setCell _ _ _ = w5_; replace BG := Lib.hid (at_blk hq_ BG.out); replace BL := Lib.hid (at_bel hq_ BL.out); replace R6 := Lib.hid (at_R hq_ R6.out); replace R7 := Lib.hid (at_R hq_ R7.out); replace R8 := Lib.hid (at_R hq_ R8.out); replace R9 := Lib.hid (at_R hq_ R9.out); replace BX := Lib.hid (at_blk hq_ BX.out); replace BY := Lib.hid (at_blk hq_ BY.out); replace R10 := Lib.hid (at_R hq_ R10.out); replace R11 := Lib.hid (at_R hq_ R11.out); replace R12 := Lib.hid (at_R hq_ R12.out); replace R13 := Lib.hid (at_R hq_ R13.out); replace BZ := Lib.hid (at_blk hq_ BZ.out); replace BT := Lib.hid (at_blk hq_ BT.out); clear hq_
 have zBG_0 : World.cell? _ ⟨g, 0, none⟩ = some (.slice A0 l0.length c0) := (blk_cell BG.out 0).trans rfl
 have zBG_1 : World.cell? _ ⟨g, 1, none⟩ = some (.slice A1 l1.length c1) := (blk_cell BG.out 1).trans rfl
 have zBG_2 : World.cell? _ ⟨g, 2, none⟩ = some (.slice A2 l2.length c2) := (blk_cell BG.out 2).trans rfl
 have zBG_3 : World.cell? _ ⟨g, 3, none⟩ = some (.slice A3 l3.length c3) := (blk_cell BG.out 3).trans rfl
 have zBG_4 : World.cell? _ ⟨g, 4, none⟩ = some (.slice A4 l4.length c4) := (blk_cell BG.out 4).trans rfl
 have zBG_5 : World.cell? _ ⟨g, 5, none⟩ = some (.slice A5 l5.length c5) := (blk_cell BG.out 5).trans rfl
 obtain ⟨zBZ_0, zBZ_1⟩ := cell2 BZ.out; obtain ⟨zBT_0, zBT_1⟩ := cell2 BT.out
 go_upto_region 8 with (first
  | (go_at_call 48; with_reducible refine (compose_ok k A10 c10 s0 A11 c11 s1 A0 c0 l0 A1 c1 l1 A2 c2 l2 A3 c3 l3 A12 c12 o0 A13 c13 o1 A4 c4 l4 A5 c5 l5 t0 t1 _ (Kd.R_reads' R10.out).2.2 (Kd.R_reads' R10.out).2.1 (Kd.R_reads' R11.out).2.2 (Kd.R_reads' R11.out).2.1 (Kd.C_below R0.out BL.out) M0.out (Kd.C_below R1.out BL.out) M1.out (Kd.C_below R2.out BL.out) M2.out (Kd.C_below R3.out BL.out) M3.out (Kd.R_reads' R12.out).2.2 (Kd.R_reads' R12.out).2.1 (Kd.R_reads' R13.out).2.2 (Kd.R_reads' R13.out).2.1 (Kd.C_below R4.out BL.out) M4.out (Kd.C_below R5.out BL.out) M5.out hinc hv hth).mono ?_; rintro e w_ ⟨v0, v1, rfl, ho0, ho1, hb⟩; clear zBG_0 zBG_1 zBG_2 zBG_3 zBG_4 zBG_5 zBZ_0 zBZ_1 zBT_0 zBT_1; obtain ⟨A14, c14, rfl⟩ := Kd.R_slice ho0; obtain ⟨A15, c15, rfl⟩ := Kd.R_slice ho1; replace BG := Lib.hid (blk_below BG.out hb); replace BL := Lib.hid (below_then BL.out BL.out.size hb); replace R6 := Lib.hid (Kd.R_below R6.out hb); replace R7 := Lib.hid (Kd.R_below R7.out hb); replace R8 := Lib.hid (Kd.R_below R8.out hb); replace R9 := Lib.hid (Kd.R_below R9.out hb); replace BX := Lib.hid (blk_below BX.out hb); replace BY := Lib.hid (blk_below BY.out hb); replace R10 := Lib.hid (Kd.R_below R10.out hb); replace R11 := Lib.hid (Kd.R_below R11.out hb); replace R12 := Lib.hid (Kd.R_below R12.out hb); replace R13 := Lib.hid (Kd.R_below R13.out hb); replace BZ := Lib.hid (blk_below BZ.out hb); replace BT := Lib.hid (blk_below BT.out hb); have R14 := Lib.hid (toR (ho0)); have R15 := Lib.hid (toR (ho1)); clear ho0 ho1 hb; have zBG_0 : World.cell? _ ⟨g, 0, none⟩ = some (.slice A0 l0.length c0) := (blk_cell BG.out 0).trans rfl; have zBG_1 : World.cell? _ ⟨g, 1, none⟩ = some (.slice A1 l1.length c1) := (blk_cell BG.out 1).trans rfl; have zBG_2 : World.cell? _ ⟨g, 2, none⟩ = some (.slice A2 l2.length c2) := (blk_cell BG.out 2).trans rfl; have zBG_3 : World.cell? _ ⟨g, 3, none⟩ = some (.slice A3 l3.length c3) := (blk_cell BG.out 3).trans rfl; have zBG_4 : World.cell? _ ⟨g, 4, none⟩ = some (.slice A4 l4.length c4) := (blk_cell BG.out 4).trans rfl; have zBG_5 : World.cell? _ ⟨g, 5, none⟩ = some (.slice A5 l5.length c5) := (blk_cell BG.out 5).trans rfl; obtain ⟨zBZ_0, zBZ_1⟩ := cell2 BZ.out; obtain ⟨zBT_0, zBT_1⟩ := cell2 BT.out)
  | ((with_reducible refine gate_dst (N := 12) rfl ?_); (try (refine gate_guard (by rfl) ?_; dsimp only)); refine box_event ?hg (N := 12) ?hd (cs := #[.slice none 0 0, .slice none 0 0]) (t := 51) ?hr ?_; (case hd => rfl); (case hg => rfl); (case hr => first | (go_simp; done) | (go_simp; rfl)); intro u hg w_ hbox hb; clear zBG_0 zBG_1 zBG_2 zBG_3 zBG_4 zBG_5 zBZ_0 zBZ_1 zBT_0 zBT_1; have Hu : t < u := (hg ▸ blk_lt BT.out); replace BG := Lib.hid (blk_below BG.out hb); replace BL := Lib.hid (below_then BL.out BL.out.size hb); replace R6 := Lib.hid (Kd.R_below R6.out hb); replace R7 := Lib.hid (Kd.R_below R7.out hb); replace R8 := Lib.hid (Kd.R_below R8.out hb); replace R9 := Lib.hid (Kd.R_below R9.out hb); replace BX := Lib.hid (blk_below BX.out hb); replace BY := Lib.hid (blk_below BY.out hb); replace R10 := Lib.hid (Kd.R_below R10.out hb); replace R11 := Lib.hid (Kd.R_below R11.out hb); replace R12 := Lib.hid (Kd.R_below R12.out hb); replace R13 := Lib.hid (Kd.R_below R13.out hb); replace BZ := Lib.hid (blk_below BZ.out hb); replace BT := Lib.hid (blk_below BT.out hb); replace R14 := Lib.hid (Kd.R_below R14.out hb); replace R15 := Lib.hid (Kd.R_below R15.out hb); have BU := Lib.hid (hbox); clear hg hbox hb; obtain ⟨y0_, y1_⟩ := cell2 BU.out; have f0_ := blk_frozen BU.out 0; have f1_ := blk_frozen BU.out 1))
 clear y0_ y1_ f0_ f1_; replace BG := Lib.hid (blk_far BG.out (p := ⟨u, 0, none⟩) (by show g ≠ u; omega) (.slice A14 t0.length c14)); replace BL := Lib.hid (below_set (g := u) (j := 0) (v := .slice A14 t0.length c14) BL.out (by omega)); replace R6 := Lib.hid (Kd.R_set R6.out BU.out int_ne51 0 (.slice A14 t0.length c14)); replace R7 := Lib.hid (Kd.R_set R7.out BU.out int_ne51 0 (.slice A14 t0.length c14)); replace R8 := Lib.hid (Kd.R_set R8.out BU.out int_ne51 0 (.slice A14 t0.length c14)); replace R9 := Lib.hid (Kd.R_set R9.out BU.out int_ne51 0 (.slice A14 t0.length c14)); replace BX := Lib.hid (blk_far BX.out (p := ⟨u, 0, none⟩) (by show x ≠ u; omega) (.slice A14 t0.length c14)); replace BY := Lib.hid (blk_far BY.out (p := ⟨u, 0, none⟩) (by show y ≠ u; omega) (.slice A14 t0.length c14)); replace R10 := Lib.hid (Kd.R_set R10.out BU.out int_ne51 0 (.slice A14 t0.length c14)); replace R11 := Lib.hid (Kd.R_set R11.out BU.out k78_ne51 0 (.slice A14 t0.length c14)); replace R12 := Lib.hid (Kd.R_set R12.out BU.out int_ne51 0 (.slice A14 t0.length c14)); replace R13 := Lib.hid (Kd.R_set R13.out BU.out int_ne51 0 (.slice A14 t0.length c14)); replace BZ := Lib.hid (blk_far BZ.out (p := ⟨u, 0, none⟩) (by show z ≠ u; omega) (.slice A14 t0.length c14)); replace BT := Lib.hid (blk_far BT.out (p := ⟨u, 0, none⟩) (by show t ≠ u; omega) (.slice A14 t0.length c14)); replace R14 := Lib.hid (Kd.R_set R14.out BU.out int_ne51 0 (.slice A14 t0.length c14)); replace R15 := Lib.hid (Kd.R_set R15.out BU.out int_ne51 0 (.slice A14 t0.length c14)); replace BU := Lib.hid (blk_put (cs' := #[.slice A14 t0.length c14, .slice none 0 0]) BU.out 0 (.slice A14 t0.length c14) rfl); replace BG := Lib.hid (blk_far BG.out (p := ⟨u, 1, none⟩) (by show g ≠ u; omega) (.slice A15 t1.length c15)); replace BL := Lib.hid (below_set (g := u) (j := 1) (v := .slice A15 t1.length c15) BL.out (by omega)); replace R6 := Lib.hid (Kd.R_set R6.out BU.out int_ne51 1 (.slice A15 t1.length c15)); replace R7 := Lib.hid (Kd.R_set R7.out BU.out int_ne51 1 (.slice A15 t1.length c15)); replace R8 := Lib.hid (Kd.R_set R8.out BU.out int_ne51 1 (.slice A15 t1.length c15)); replace R9 := Lib.hid (Kd.R_set R9.out BU.out int_ne51 1 (.slice A15 t1.length c15)); replace BX := Lib.hid (blk_far BX.out (p := ⟨u, 1, none⟩) (by show x ≠ u; omega) (.slice A15 t1.length c15)); replace BY := Lib.hid (blk_far BY.out (p := ⟨u, 1, none⟩) (by show y ≠ u; omega) (.slice A15 t1.length c15)); replace R10 := Lib.hid (Kd.R_set R10.out BU.out int_ne51 1 (.slice A15 t1.length c15)); replace R11 := Lib.hid (Kd.R_set R11.out BU.out k78_ne51 1 (.slice A15 t1.length c15)); replace R12 := Lib.hid (Kd.R_set R12.out BU.out int_ne51 1 (.slice A15 t1.length c15)); replace R13 := Lib.hid (Kd.R_set R13.out BU.out int_ne51 1 (.slice A15 t1.length c15)); replace BZ := Lib.hid (blk_far BZ.out (p := ⟨u, 1, none⟩) (by show z ≠ u; omega) (.slice A15 t1.length c15)); replace BT := Lib.hid (blk_far BT.out (p := ⟨u, 1, none⟩) (by show t ≠ u; omega) (.slice A15 t1.length c15)); replace R14 := Lib.hid (Kd.R_set R14.out BU.out int_ne51 1 (.slice A15 t1.length c15)); replace R15 := Lib.hid (Kd.R_set R15.out BU.out int_ne51 1 (.slice A15 t1.length c15)); replace BU := Lib.hid (blk_put (cs' := #[.slice A14 t0.length c14, .slice A15 t1.length c15]) BU.out 1 (.slice A15 t1.length c15) rfl); generalize hq_ : World.setCell _ _ _ = w5_; replace BG := Lib.hid (at_blk hq_ BG.out); replace BL := Lib.hid (at_bel hq_ BL.out); replace R6 := Lib.hid (at_R hq_ R6.out); replace R7 := Lib.hid (at_R hq_ R7.out); replace R8 := Lib.hid (at_R hq_ R8.out); replace R9 := Lib.hid (at_R hq_ R9.out); replace BX := Lib.hid (at_blk hq_ BX.out); replace BY := Lib.hid (at_blk hq_ BY.out); replace R10 := Lib.hid (at_R hq_ R10.out); replace R11 := Lib.hid (at_R hq_ R11.out); replace R12 := Lib.hid (at_R hq_ R12.out); replace R13 := Lib.hid (at_R hq_ R13.out); replace BZ := Lib.hid (at_blk hq_ BZ.out); replace BT := Lib.hid (at_blk hq_ BT.out); replace R14 := Lib.hid (at_R hq_ R14.out); replace R15 := Lib.hid (at_R hq_ R15.out); replace BU := Lib.hid (at_blk hq_ BU.out); clear hq_
 have zBG_0 : World.cell? _ ⟨g, 0, none⟩ = some (.slice A0 l0.length c0) := (blk_cell BG.out 0).trans rfl
 have zBG_1 : World.cell? _ ⟨g, 1, none⟩ = some (.slice A1 l1.length c1) := (blk_cell BG.out 1).trans rfl
 have zBG_2 : World.cell? _ ⟨g, 2, none⟩ = some (.slice A2 l2.length c2) := (blk_cell BG.out 2).trans rfl
 have zBG_3 : World.cell? _ ⟨g, 3, none⟩ = some (.slice A3 l3.length c3) := (blk_cell BG.out 3).trans rfl
 have zBG_4 : World.cell? _ ⟨g, 4, none⟩ = some (.slice A4 l4.length c4) := (blk_cell BG.out 4).trans rfl
 have zBG_5 : World.cell? _ ⟨g, 5, none⟩ = some (.slice A5 l5.length c5) := (blk_cell BG.out 5).trans rfl
 obtain ⟨zBZ_0, zBZ_1⟩ := cell2 BZ.out; obtain ⟨zBU_0, zBU_1⟩ := cell2 BU.out
 go_upto_region 9 with (first
  | (go_at_call 40; with_reducible refine (subgraph_Image.calls A10 c10 s0 A11 c11 s1 A2 c2 l2 A3 c3 l3 A14 c14 t0 A15 c15 t1 p0 p1 0 _ (Kd.R_reads' R10.out).2.2 (Kd.R_reads' R10.out).2.1 (Kd.R_reads' R11.out).2.2 (Kd.R_reads' R11.out).2.1 (Kd.C_below R2.out BL.out) M2.out (Kd.C_below R3.out BL.out) M3.out (Kd.R_reads' R14.out).2.2 (Kd.R_reads' R14.out).2.1 (Kd.R_reads' R15.out).2.2 (Kd.R_reads' R15.out).2.1 himg).mono ?_; rintro e w_ ⟨v0, v1, rfl, ho0, ho1, hb⟩; clear zBG_0 zBG_1 zBG_2 zBG_3 zBG_4 zBG_5 zBZ_0 zBZ_1 zBU_0 zBU_1; obtain ⟨A16, c16, rfl⟩ := Kd.R_slice ho0; obtain ⟨A17, c17, rfl⟩ := Kd.R_slice ho1; replace BG := Lib.hid (blk_below BG.out hb); replace BL := Lib.hid (below_then BL.out BL.out.size hb); replace R6 := Lib.hid (Kd.R_below R6.out hb); replace R7 := Lib.hid (Kd.R_below R7.out hb); replace R8 := Lib.hid (Kd.R_below R8.out hb); replace R9 := Lib.hid (Kd.R_below R9.out hb); replace BX := Lib.hid (blk_below BX.out hb); replace BY := Lib.hid (blk_below BY.out hb); replace R10 := Lib.hid (Kd.R_below R10.out hb); replace R11 := Lib.hid (Kd.R_below R11.out hb); replace R12 := Lib.hid (Kd.R_below R12.out hb); replace R13 := Lib.hid (Kd.R_below R13.out hb); replace BZ := Lib.hid (blk_below BZ.out hb); replace BT := Lib.hid (blk_below BT.out hb); replace R14 := Lib.hid (Kd.R_below R14.out hb); replace R15 := Lib.hid (Kd.R_below R15.out hb); replace BU := Lib.hid (blk_below BU.out hb); have R16 := Lib.hid (toR (ho0)); have R17 := Lib.hid (toR (ho1)); clear ho0 ho1 hb; have zBG_0 : World.cell? _ ⟨g, 0, none⟩ = some (.slice A0 l0.length c0) := (blk_cell BG.out 0).trans rfl; have zBG_1 : World.cell? _ ⟨g, 1, none⟩ = some (.slice A1 l1.length c1) := (blk_cell BG.out 1).trans rfl; have zBG_2 : World.cell? _ ⟨g, 2, none⟩ = some (.slice A2 l2.length c2) := (blk_cell BG.out 2).trans rfl; have zBG_3 : World.cell? _ ⟨g, 3, none⟩ = some (.slice A3 l3.length c3) := (blk_cell BG.out 3).trans rfl; have zBG_4 : World.cell? _ ⟨g, 4, none⟩ = some (.slice A4 l4.length c4) := (blk_cell BG.out 4).trans rfl; have zBG_5 : World.cell? _ ⟨g, 5, none⟩ = some (.slice A5 l5.length c5) := (blk_cell BG.out 5).trans rfl; obtain ⟨zBZ_0, zBZ_1⟩ := cell2 BZ.out; obtain ⟨zBU_0, zBU_1⟩ := cell2 BU.out)
  | ((with_reducible refine gate_dst (N := 14) rfl ?_); (try (refine gate_guard (by rfl) ?_; dsimp only)); refine box_event ?hg (N := 14) ?hd (cs := #[.slice none 0 0, .slice none 0 0]) (t := 27) ?hr ?_; (case hd => rfl); (case hg => rfl); (case hr => first | (go_simp; done) | (go_simp; rfl)); intro v hg w_ hbox hb; clear zBG_0 zBG_1 zBG_2 zBG_3 zBG_4 zBG_5 zBZ_0 zBZ_1 zBU_0 zBU_1; have Hv : u < v := (hg ▸ blk_lt BU.out); replace BG := Lib.hid (blk_below BG.out hb); replace BL := Lib.hid (below_then BL.out BL.out.size hb); replace R6 := Lib.hid (Kd.R_below R6.out hb); replace R7 := Lib.hid (Kd.R_below R7.out hb); replace R8 := Lib.hid (Kd.R_below R8.out hb); replace R9 := Lib.hid (Kd.R_below R9.out hb); replace BX := Lib.hid (blk_below BX.out hb); replace BY := Lib.hid (blk_below BY.out hb); replace R10 := Lib.hid (Kd.R_below R10.out hb); replace R11 := Lib.hid (Kd.R_below R11.out hb); replace R12 := Lib.hid (Kd.R_below R12.out hb); replace R13 := Lib.hid (Kd.R_below R13.out hb); replace BZ := Lib.hid (blk_below BZ.out hb); replace BT := Lib.hid (blk_below BT.out hb); replace R14 := Lib.hid (Kd.R_below R14.out hb); replace R15 := Lib.hid (Kd.R_below R15.out hb); replace BU := Lib.hid (blk_below BU.out hb); replace R16 := Lib.hid (Kd.R_below R16.out hb); replace R17 := Lib.hid (Kd.R_below R17.out hb); have BV := Lib.hid (hbox); clear hg hbox hb; obtain ⟨y0_, y1_⟩ := cell2 BV.out; have f0_ := blk_frozen BV.out 0; have f1_ := blk_frozen BV.out 1))
 clear y0_ y1_ f0_ f1_; replace BG := Lib.hid (blk_far BG.out (p := ⟨v, 0, none⟩) (by show g ≠ v; omega) (.slice A16 p0.length c16)); replace BL := Lib.hid (below_set (g := v) (j := 0) (v := .slice A16 p0.length c16) BL.out (by omega)); replace R6 := Lib.hid (Kd.R_set R6.out BV.out int_ne27 0 (.slice A16 p0.length c16)); replace R7 := Lib.hid (Kd.R_set R7.out BV.out int_ne27 0 (.slice A16 p0.length c16)); replace R8 := Lib.hid (Kd.R_set R8.out BV.out int_ne27 0 (.slice A16 p0.length c16)); replace R9 := Lib.hid (Kd.R_set R9.out BV.out int_ne27 0 (.slice A16 p0.length c16)); replace BX := Lib.hid (blk_far BX.out (p := ⟨v, 0, none⟩) (by show x ≠ v; omega) (.slice A16 p0.length c16)); replace BY := Lib.hid (blk_far BY.out (p := ⟨v, 0, none⟩) (by show y ≠ v; omega) (.slice A16 p0.length c16)); replace R10 := Lib.hid (Kd.R_set R10.out BV.out int_ne27 0 (.slice A16 p0.length c16)); replace R11 := Lib.hid (Kd.R_set R11.out BV.out k78_ne27 0 (.slice A16 p0.length c16)); replace R12 := Lib.hid (Kd.R_set R12.out BV.out int_ne27 0 (.slice A16 p0.length c16)); replace R13 := Lib.hid (Kd.R_set R13.out BV.out int_ne27 0 (.slice A16 p0.length c16)); replace BZ := Lib.hid (blk_far BZ.out (p := ⟨v, 0, none⟩) (by show z ≠ v; omega) (.slice A16 p0.length c16)); replace BT := Lib.hid (blk_far BT.out (p := ⟨v, 0, none⟩) (by show t ≠ v; omega) (.slice A16 p0.length c16)); replace R14 := Lib.hid (Kd.R_set R14.out BV.out int_ne27 0 (.slice A16 p0.length c16)); replace R15 := Lib.hid (Kd.R_set R15.out BV.out int_ne27 0 (.slice A16 p0.length c16)); replace BU := Lib.hid (blk_far BU.out (p := ⟨v, 0, none⟩) (by show u ≠ v; omega) (.slice A16 p0.length c16)); replace R16 := Lib.hid (Kd.R_set R16.out BV.out int_ne27 0 (.slice A16 p0.length c16)); replace R17 := Lib.hid (Kd.R_set R17.out BV.out int_ne27 0 (.slice A16 p0.length c16)); replace BV := Lib.hid (blk_put (cs' := #[.slice A16 p0.length c16, .slice none 0 0]) BV.out 0 (.slice A16 p0.length c16) rfl); replace BG := Lib.hid (blk_far BG.out (p := ⟨v, 1, none⟩) (by show g ≠ v; omega) (.slice A17 p1.length c17)); replace BL := Lib.hid (below_set (g := v) (j := 1) (v := .slice A17 p1.length c17) BL.out (by omega)); replace R6 := Lib.hid (Kd.R_set R6.out BV.out int_ne27 1 (.slice A17 p1.length c17)); replace R7 := Lib.hid (Kd.R_set R7.out BV.out int_ne27 1 (.slice A17 p1.length c17)); replace R8 := Lib.hid (Kd.R_set R8.out BV.out int_ne27 1 (.slice A17 p1.length c17)); replace R9 := Lib.hid (Kd.R_set R9.out BV.out int_ne27 1 (.slice A17 p1.length c17)); replace BX := Lib.hid (blk_far BX.out (p := ⟨v, 1, none⟩) (by show x ≠ v; omega) (.slice A17 p1.length c17)); replace BY := Lib.hid (blk_far BY.out (p := ⟨v, 1, none⟩) (by show y ≠ v; omega) (.slice A17 p1.length c17)); replace R10 := Lib.hid (Kd.R_set R10.out BV.out int_ne27 1 (.slice A17 p1.length c17)); replace R11 := Lib.hid (Kd.R_set R11.out BV.out k78_ne27 1 (.slice A17 p1.length c17)); replace R12 := Lib.hid (Kd.R_set R12.out BV.out int_ne27 1 (.slice A17 p1.length c17)); replace R13 := Lib.hid (Kd.R_set R13.out BV.out int_ne27 1 (.slice A17 p1.length c17)); replace BZ := Lib.hid (blk_far BZ.out (p := ⟨v, 1, none⟩) (by show z ≠ v; omega) (.slice A17 p1.length c17)); replace BT := Lib.hid (blk_far BT.out (p := ⟨v, 1, none⟩) (by show t ≠ v; omega) (.slice A17 p1.length c17)); replace R14 := Lib.hid (Kd.R_set R14.out BV.out int_ne27 1 (.slice A17 p1.length c17)); replace R15 := Lib.hid (Kd.R_set R15.out BV.out int_ne27 1 (.slice A17 p1.length c17)); replace BU := Lib.hid (blk_far BU.out (p := ⟨v, 1, none⟩) (by show u ≠ v; omega) (.slice A17 p1.length c17)); replace R16 := Lib.hid (Kd.R_set R16.out BV.out int_ne27 1 (.slice A17 p1.length c17)); replace R17 := Lib.hid (Kd.R_set R17.out BV.out int_ne27 1 (.slice A17 p1.length c17)); replace BV := Lib.hid (blk_put (cs' := #[.slice A16 p0.length c16, .slice A17 p1.length c17]) BV.out 1 (.slice A17 p1.length c17) rfl); generalize hq_ : World.setCell _ _ _ = w5_; replace BG := Lib.hid (at_blk hq_ BG.out); replace BL := Lib.hid (at_bel hq_ BL.out); replace R6 := Lib.hid (at_R hq_ R6.out); replace R7 := Lib.hid (at_R hq_ R7.out); replace R8 := Lib.hid (at_R hq_ R8.out); replace R9 := Lib.hid (at_R hq_ R9.out); replace BX := Lib.hid (at_blk hq_ BX.out); replace BY := Lib.hid (at_blk hq_ BY.out); replace R10 := Lib.hid (at_R hq_ R10.out); replace R11 := Lib.hid (at_R hq_ R11.out); replace R12 := Lib.hid (at_R hq_ R12.out); replace R13 := Lib.hid (at_R hq_ R13.out); replace BZ := Lib.hid (at_blk hq_ BZ.out); replace BT := Lib.hid (at_blk hq_ BT.out); replace R14 := Lib.hid (at_R hq_ R14.out); replace R15 := Lib.hid (at_R hq_ R15.out); replace BU := Lib.hid (at_blk hq_ BU.out); replace R16 := Lib.hid (at_R hq_ R16.out); replace R17 := Lib.hid (at_R hq_ R17.out); replace BV := Lib.hid (at_blk hq_ BV.out); clear hq_
 have zBG_0 : World.cell? _ ⟨g, 0, none⟩ = some (.slice A0 l0.length c0) := (blk_cell BG.out 0).trans rfl
 have zBG_1 : World.cell? _ ⟨g, 1, none⟩ = some (.slice A1 l1.length c1) := (blk_cell BG.out 1).trans rfl
 have zBG_2 : World.cell? _ ⟨g, 2, none⟩ = some (.slice A2 l2.length c2) := (blk_cell BG.out 2).trans rfl
 have zBG_3 : World.cell? _ ⟨g, 3, none⟩ = some (.slice A3 l3.length c3) := (blk_cell BG.out 3).trans rfl
 have zBG_4 : World.cell? _ ⟨g, 4, none⟩ = some (.slice A4 l4.length c4) := (blk_cell BG.out 4).trans rfl
 have zBG_5 : World.cell? _ ⟨g, 5, none⟩ = some (.slice A5 l5.length c5) := (blk_cell BG.out 5).trans rfl
 obtain ⟨zBY_0, zBY_1⟩ := cell2 BY.out
 go_upto_region 10 with (first
  | (go_at_call 45; with_reducible refine (subgraph_Preimage.calls k A0 c0 l0 A1 c1 l1 A2 c2 l2 A3 c3 l3 A4 c4 l4 A5 c5 l5 A8 c8 q0 A9 c9 q1 b0 b1 0 _ (Kd.C_below R0.out BL.out) M0.out (Kd.C_below R1.out BL.out) M1.out (Kd.C_below R2.out BL.out) M2.out (Kd.C_below R3.out BL.out) M3.out (Kd.C_below R4.out BL.out) M4.out (Kd.C_below R5.out BL.out) M5.out (Kd.R_reads' R8.out).2.2 (Kd.R_reads' R8.out).2.1 (Kd.R_reads' R9.out).2.2 (Kd.R_reads' R9.out).2.1 hpre).mono ?_; rintro e w_ ⟨v0, v1, rfl, ho0, ho1, hb⟩; clear zBG_0 zBG_1 zBG_2 zBG_3 zBG_4 zBG_5 zBY_0 zBY_1; obtain ⟨A18, c18, rfl⟩ := Kd.R_slice ho0; obtain ⟨A19, c19, rfl⟩ := Kd.R_slice ho1; replace BG := Lib.hid (blk_below BG.out hb); replace BL := Lib.hid (below_then BL.out BL.out.size hb); replace R6 := Lib.hid (Kd.R_below R6.out hb); replace R7 := Lib.hid (Kd.R_below R7.out hb); replace R8 := Lib.hid (Kd.R_below R8.out hb); replace R9 := Lib.hid (Kd.R_below R9.out hb); replace BX := Lib.hid (blk_below BX.out hb); replace BY := Lib.hid (blk_below BY.out hb); replace R10 := Lib.hid (Kd.R_below R10.out hb); replace R11 := Lib.hid (Kd.R_below R11.out hb); replace R12 := Lib.hid (Kd.R_below R12.out hb); replace R13 := Lib.hid (Kd.R_below R13.out hb); replace BZ := Lib.hid (blk_below BZ.out hb); replace BT := Lib.hid (blk_below BT.out hb); replace R14 := Lib.hid (Kd.R_below R14.out hb); replace R15 := Lib.hid (Kd.R_below R15.out hb); replace BU := Lib.hid (blk_below BU.out hb); replace R16 := Lib.hid (Kd.R_below R16.out hb); replace R17 := Lib.hid (Kd.R_below R17.out hb); replace BV := Lib.hid (blk_below BV.out hb); have R18 := Lib.hid (toR (ho0)); have R19 := Lib.hid (toR (ho1)); clear ho0 ho1 hb; have zBG_0 : World.cell? _ ⟨g, 0, none⟩ = some (.slice A0 l0.length c0) := (blk_cell BG.out 0).trans rfl; have zBG_1 : World.cell? _ ⟨g, 1, none⟩ = some (.slice A1 l1.length c1) := (blk_cell BG.out 1).trans rfl; have zBG_2 : World.cell? _ ⟨g, 2, none⟩ = some (.slice A2 l2.length c2) := (blk_cell BG.out 2).trans rfl; have zBG_3 : World.cell? _ ⟨g, 3, none⟩ = some (.slice A3 l3.length c3) := (blk_cell BG.out 3).trans rfl; have zBG_4 : World.cell? _ ⟨g, 4, none⟩ = some (.slice A4 l4.length c4) := (blk_cell BG.out 4).trans rfl; have zBG_5 : World.cell? _ ⟨g, 5, none⟩ = some (.slice A5 l5.length c5) := (blk_cell BG.out 5).trans rfl; obtain ⟨zBY_0, zBY_1⟩ := cell2 BY.out)
  | ((with_reducible refine gate_dst (N := 16) rfl ?_); (try (refine gate_guard (by rfl) ?_; dsimp only)); refine box_event ?hg (N := 16) ?hd (cs := #[.slice none 0 0, .slice none 0 0]) (t := 27) ?hr ?_; (case hd => rfl); (case hg => rfl); (case hr => first | (go_simp; done) | (go_simp; rfl)); intro s hg w_ hbox hb; clear zBG_0 zBG_1 zBG_2 zBG_3 zBG_4 zBG_5 zBY_0 zBY_1; have Hs : v < s := (hg ▸ blk_lt BV.out); replace BG := Lib.hid (blk_below BG.out hb); replace BL := Lib.hid (below_then BL.out BL.out.size hb); replace R6 := Lib.hid (Kd.R_below R6.out hb); replace R7 := Lib.hid (Kd.R_below R7.out hb); replace R8 := Lib.hid (Kd.R_below R8.out hb); replace R9 := Lib.hid (Kd.R_below R9.out hb); replace BX := Lib.hid (blk_below BX.out hb); replace BY := Lib.hid (blk_below BY.out hb); replace R10 := Lib.hid (Kd.R_below R10.out hb); replace R11 := Lib.hid (Kd.R_below R11.out hb); replace R12 := Lib.hid (Kd.R_below R12.out hb); replace R13 := Lib.hid (Kd.R_below R13.out hb); replace BZ := Lib.hid (blk_below BZ.out hb); replace BT := Lib.hid (blk_below BT.out hb); replace R14 := Lib.hid (Kd.R_below R14.out hb); replace R15 := Lib.hid (Kd.R_below R15.out hb); replace BU := Lib.hid (blk_below BU.out hb); replace R16 := Lib.hid (Kd.R_below R16.out hb); replace R17 := Lib.hid (Kd.R_below R17.out hb); replace BV := Lib.hid (blk_below BV.out hb); replace R18 := Lib.hid (Kd.R_below R18.out hb); replace R19 := Lib.hid (Kd.R_below R19.out hb); have BS := Lib.hid (hbox); clear hg hbox hb; obtain ⟨y0_, y1_⟩ := cell2 BS.out; have f0_ := blk_frozen BS.out 0; have f1_ := blk_frozen BS.out 1))
 clear y0_ y1_ f0_ f1_; replace BG := Lib.hid (blk_far BG.out (p := ⟨s, 0, none⟩) (by show g ≠ s; omega) (.slice A18 b0.length c18)); replace BL := Lib.hid (below_set (g := s) (j := 0) (v := .slice A18 b0.length c18) BL.out (by omega)); replace R6 := Lib.hid (Kd.R_set R6.out BS.out int_ne27 0 (.slice A18 b0.length c18)); replace R7 := Lib.hid (Kd.R_set R7.out BS.out int_ne27 0 (.slice A18 b0.length c18)); replace R8 := Lib.hid (Kd.R_set R8.out BS.out int_ne27 0 (.slice A18 b0.length c18)); replace R9 := Lib.hid (Kd.R_set R9.out BS.out int_ne27 0 (.slice A18 b0.length c18)); replace BX := Lib.hid (blk_far BX.out (p := ⟨s, 0, none⟩) (by show x ≠ s; omega) (.slice A18 b0.length c18)); replace BY := Lib.hid (blk_far BY.out (p := ⟨s, 0, none⟩) (by show y ≠ s; omega) (.slice A18 b0.length c18)); replace R10 := Lib.hid (Kd.R_set R10.out BS.out int_ne27 0 (.slice A18 b0.length c18)); replace R11 := Lib.hid (Kd.R_set R11.out BS.out k78_ne27 0 (.slice A18 b0.length c18)); replace R12 := Lib.hid (Kd.R_set R12.out BS.out int_ne27 0 (.slice A18 b0.length c18)); replace R13 := Lib.hid (Kd.R_set R13.out BS.out int_ne27 0 (.slice A18 b0.length c18)); replace BZ := Lib.hid (blk_far BZ.out (p := ⟨s, 0, none⟩) (by show z ≠ s; omega) (.slice A18 b0.length c18)); replace BT := Lib.hid (blk_far BT.out (p := ⟨s, 0, none⟩) (by show t ≠ s; omega) (.slice A18 b0.length c18)); replace R14 := Lib.hid (Kd.R_set R14.out BS.out int_ne27 0 (.slice A18 b0.length c18)); replace R15 := Lib.hid (Kd.R_set R15.out BS.out int_ne27 0 (.slice A18 b0.length c18)); replace BU := Lib.hid (blk_far BU.out (p := ⟨s, 0, none⟩) (by show u ≠ s; omega) (.slice A18 b0.length c18)); replace R16 := Lib.hid (Kd.R_set R16.out BS.out int_ne27 0 (.slice A18 b0.length c18)); replace R17 := Lib.hid (Kd.R_set R17.out BS.out int_ne27 0 (.slice A18 b0.length c18)); replace BV := Lib.hid (blk_far BV.out (p := ⟨s, 0, none⟩) (by show v ≠ s; omega) (.slice A18 b0.length c18)); replace R18 := Lib.hid (Kd.R_set R18.out BS.out int_ne27 0 (.slice A18 b0.length c18)); replace R19 := Lib.hid (Kd.R_set R19.out BS.out int_ne27 0 (.slice A18 b0.length c18)); replace BS := Lib.hid (blk_put (cs' := #[.slice A18 b0.length c18, .slice none 0 0]) BS.out 0 (.slice A18 b0.length c18) rfl); replace BG := Lib.hid (blk_far BG.out (p := ⟨s, 1, none⟩) (by show g ≠ s; omega) (.slice A19 b1.length c19)); replace BL := Lib.hid (below_set (g := s) (j := 1) (v := .slice A19 b1.length c19) BL.out (by omega)); replace R6 := Lib.hid (Kd.R_set R6.out BS.out int_ne27 1 (.slice A19 b1.length c19)); replace R7 := Lib.hid (Kd.R_set R7.out BS.out int_ne27 1 (.slice A19 b1.length c19)); replace R8 := Lib.hid (Kd.R_set R8.out BS.out int_ne27 1 (.slice A19 b1.length c19)); replace R9 := Lib.hid (Kd.R_set R9.out BS.out int_ne27 1 (.slice A19 b1.length c19)); replace BX := Lib.hid (blk_far BX.out (p := ⟨s, 1, none⟩) (by show x ≠ s; omega) (.slice A19 b1.length c19)); replace BY := Lib.hid (blk_far BY.out (p := ⟨s, 1, none⟩) (by show y ≠ s; omega) (.slice A19 b1.length c19)); replace R10 := Lib.hid (Kd.R_set R10.out BS.out int_ne27 1 (.slice A19 b1.length c19)); replace R11 := Lib.hid (Kd.R_set R11.out BS.out k78_ne27 1 (.slice A19 b1.length c19)); replace R12 := Lib.hid (Kd.R_set R12.out BS.out int_ne27 1 (.slice A19 b1.length c19)); replace R13 := Lib.hid (Kd.R_set R13.out BS.out int_ne27 1 (.slice A19 b1.length c19)); replace BZ := Lib.hid (blk_far BZ.out (p := ⟨s, 1, none⟩) (by show z ≠ s; omega) (.slice A19 b1.length c19)); replace BT := Lib.hid (blk_far BT.out (p := ⟨s, 1, none⟩) (by show t ≠ s; omega) (.slice A19 b1.length c19)); replace R14 := Lib.hid (Kd.R_set R14.out BS.out int_ne27 1 (.slice A19 b1.length c19)); replace R15 := Lib.hid (Kd.R_set R15.out BS.out int_ne27 1 (.slice A19 b1.length c19)); replace BU := Lib.hid (blk_far BU.out (p := ⟨s, 1, none⟩) (by show u ≠ s; omega) (.slice A19 b1.length c19)); replace R16 := Lib.hid (Kd.R_set R16.out BS.out int_ne27 1 (.slice A19 b1.length c19)); replace R17 := Lib.hid (Kd.R_set R17.out BS.out int_ne27 1 (.slice A19 b1.length c19)); replace BV := Lib.hid (blk_far BV.out (p := ⟨s, 1, none⟩) (by show v ≠ s; omega) (.slice A19 b1.length c19)); replace R18 := Lib.hid (Kd.R_set R18.out BS.out int_ne27 1 (.slice A19 b1.length c19)); replace R19 := Lib.hid (Kd.R_set R19.out BS.out int_ne27 1 (.slice A19 b1.length c19)); replace BS := Lib.hid (blk_put (cs' := #[.slice A18 b0.length c18, .slice A19 b1.length c19]) BS.out 1 (.slice A19 b1.length c19) rfl); generalize hq_ : World.setCell _ _ _ = w5_; replace BG := Lib.hid (at_blk hq_ BG.out); replace BL := Lib.hid (at_bel hq_ BL.out); replace R6 := Lib.hid (at_R hq_ R6.out); replace R7 := Lib.hid (at_R hq_ R7.out); replace R8 := Lib.hid (at_R hq_ R8.out); replace R9 := Lib.hid (at_R hq_ R9.out); replace BX := Lib.hid (at_blk hq_ BX.out); replace BY := Lib.hid (at_blk hq_ BY.out); replace R10 := Lib.hid (at_R hq_ R10.out); replace R11 := Lib.hid (at_R hq_ R11.out); replace R12 := Lib.hid (at_R hq_ R12.out); replace R13 := Lib.hid (at_R hq_ R13.out); replace BZ := Lib.hid (at_blk hq_ BZ.out); replace BT := Lib.hid (at_blk hq_ BT.out); replace R14 := Lib.hid (at_R hq_ R14.out); replace R15 := Lib.hid (at_R hq_ R15.out); replace BU := Lib.hid (at_blk hq_ BU.out); replace R16 := Lib.hid (at_R hq_ R16.out); replace R17 := Lib.hid (at_R hq_ R17.out); replace BV := Lib.hid (at_blk hq_ BV.out); replace R18 := Lib.hid (at_R hq_ R18.out); replace R19 := Lib.hid (at_R hq_ R19.out); replace BS := Lib.hid (at_blk hq_ BS.out); clear hq_; replace BG := Lib.hid (blk_drew BG.out); replace BL := Lib.hid (below_drew1 BL.out); replace R6 := Lib.hid (Kd.R_drew R6.out); replace R7 := Lib.hid (Kd.R_drew R7.out); replace R8 := Lib.hid (Kd.R_drew R8.out); replace R9 := Lib.hid (Kd.R_drew R9.out); replace BX := Lib.hid (blk_drew BX.out); replace BY := Lib.hid (blk_drew BY.out); replace R10 := Lib.hid (Kd.R_drew R10.out); replace R11 := Lib.hid (Kd.R_drew R11.out); replace R12 := Lib.hid (Kd.R_drew R12.out); replace R13 := Lib.hid (Kd.R_drew R13.out); replace BZ := Lib.hid (blk_drew BZ.out); replace BT := Lib.hid (blk_drew BT.out); replace R14 := Lib.hid (Kd.R_drew R14.out); replace R15 := Lib.hid (Kd.R_drew R15.out); replace BU := Lib.hid (blk_drew BU.out); replace R16 := Lib.hid (Kd.R_drew R16.out); replace R17 := Lib.hid (Kd.R_drew R17.out); replace BV := Lib.hid (blk_drew BV.out); replace R18 := Lib.hid (Kd.R_drew R18.out); replace R19 := Lib.hid (Kd.R_drew R19.out); replace BS := Lib.hid (blk_drew BS.out)
 refine start_ (n := 20) (S := fun w' => C2 w' v (.slice A16 p0.length c16) (.slice A17 p1.length c17) ∧ C2 w' y (.slice A8 q0.length c8) (.slice A9 q1.length c9) ∧ C2 w' x (.slice A6 o0.length c6) (.slice A7 o1.length c7) ∧ C2 w' s (.slice A18 b0.length c18) (.slice A19 b1.length c19)) (ds := []) #[false, false, false, false, false, false, false, false, false, false, false, false, false, false, false, false, false, false, false, false] (by kernel_rfl) rfl rfl ⟨cell2 BV.out, cell2 BY.out, cell2 BX.out, cell2 BS.out⟩ (fun hHeld => ?_)
 refine pure_ (i := 0) (N := some 85) (v := ?_) (a' := ?_) #[true, false, false, false, false, false, false, false, false, false, false, false, false, false, false, false, false, false, false, false] rfl rfl (by kernel_rfl) (fun _ _ _ h => h) (Or.inl ⟨by rfl, ?_⟩) ?_ ?_
 rotate_left
 ·intro w'
  go_simp
  with_reducible rfl
 rotate_left
 ·simp only [Act.put, sI_, s0_, sS_, i64_w, i32_w]
  rfl
 refine pure_ (i := 1) (N := some 86) (v := ?_) (a' := ?_) #[true, true, false, false, false, false, false, false, false, false, false, false, false, false, false, false, false, false, false, false] rfl rfl (by kernel_rfl) (fun _ _ _ h => h) (Or.inl ⟨by rfl, ?_⟩) ?_ ?_
 rotate_left
 ·intro w'
  go_simp
  with_reducible rfl
 rotate_left
 ·simp only [Act.put, sI_, s0_, sS_, i64_w, i32_w]
  rfl
 refine pure_ (i := 2) (N := some 87) (v := ?_) (a' := ?_) #[true, true, true, false, false, false, false, false, false, false, false, false, false, false, false, false, false, false, false, false] rfl rfl (by kernel_rfl) (fun _ _ _ h => h) (Or.inl ⟨by rfl, ?_⟩) ?_ ?_
 rotate_left
 ·intro w'
  go_simp
  with_reducible rfl
 rotate_left
 ·simp only [Act.put, sI_, s0_, sS_, i64_w, i32_w]
  rfl
 refine pure_ (i := 3) (N := some 88) (v := ?_) (a' := ?_) #[true, true, true, true, false, false, false, false, false, false, false, false, false, false, false, false, false, false, false, false] rfl rfl (by kernel_rfl) (fun _ _ _ h => h) (Or.inl ⟨by rfl, ?_⟩) ?_ ?_
 rotate_left
 ·intro w'
  go_simp
  with_reducible rfl
 rotate_left
 ·simp only [Act.put, sI_, s0_, sS_, i64_w, i32_w]
  rfl
 refine pure_ (i := 4) (N := some 89) (v := ?_) (a' := ?_) #[true, true, true, true, true, false, false, false, false, false, false, false, false, false, false, false, false, false, false, false] rfl rfl (by kernel_rfl) (fun _ _ _ h => h) (Or.inl ⟨by rfl, ?_⟩) ?_ ?_
 rotate_left
 ·intro w'
  go_simp
  with_reducible rfl
 rotate_left
 ·simp only [Act.put, sI_, s0_, sS_, i64_w, i32_w]
  rfl
 refine pure_ (i := 5) (N := some 90) (v := ?_) (a' := ?_) #[true, true, true, true, true, true, false, false, false, false, false, false, false, false, false, false, false, false, false, false] rfl rfl (by kernel_rfl) (fun _ _ _ h => h) (Or.inl ⟨by rfl, ?_⟩) ?_ ?_
 rotate_left
 ·intro w'
  go_simp
  with_reducible rfl
 rotate_left
 ·simp only [Act.put, sI_, s0_, sS_, i64_w, i32_w]
  rfl
 refine pure_ (i := 6) (N := some 91) (v := ?_) (a' := ?_) #[true, true, true, true, true, true, true, false, false, false, false, false, false, false, false, false, false, false, false, false] rfl rfl (by kernel_rfl) (fun _ _ _ h => h) (Or.inl ⟨by rfl, ?_⟩) ?_ ?_
 rotate_left
 ·intro w'
  go_simp
  with_reducible rfl
 rotate_left
 ·simp only [Act.put, sI_, s0_, sS_, i64_w, i32_w]
  rfl
 refine pure_ (i := 7) (N := some 92) (v := ?_) (a' := ?_) #[true, true, true, true, true, true, true, true, false, false, false, false, false, false, false, false, false, false, false, false] rfl rfl (by kernel_rfl) (fun _ _ _ h => h) (Or.inl ⟨by rfl, ?_⟩) ?_ ?_
 rotate_left
 ·intro w'
  go_simp
  with_reducible rfl
 rotate_left
 ·simp only [Act.put, sI_, s0_, sS_, i64_w, i32_w]
  rfl
 refine pure_ (i := 8) (N := some 93) (v := ?_) (a' := ?_) #[true, true, true, true, true, true, true, true, true, false, false, false, false, false, false, false, false, false, false, false] rfl rfl (by kernel_rfl) (fun _ _ _ h => h) (Or.inl ⟨by rfl, ?_⟩) ?_ ?_
 rotate_left
 ·intro w'
  go_simp
  with_reducible rfl
 rotate_left
 ·simp only [Act.put, sI_, s0_, sS_, i64_w, i32_w]
  rfl
 refine pure_ (i := 9) (N := some 94) (v := ?_) (a' := ?_) #[true, true, true, true, true, true, true, true, true, true, false, false, false, false, false, false, false, false, false, false] rfl rfl (by kernel_rfl) (fun _ _ _ h => h) (Or.inl ⟨by rfl, ?_⟩) ?_ ?_
 rotate_left
 ·intro w'
  go_simp
  with_reducible rfl
 rotate_left
 ·simp only [Act.put, sI_, s0_, sS_, i64_w, i32_w]
  rfl
 refine pure_ (i := 10) (N := some 95) (v := ?_) (a' := ?_) #[true, true, true, true, true, true, true, true, true, true, true, false, false, false, false, false, false, false, false, false] rfl rfl (by kernel_rfl) (fun _ _ _ h => h) (Or.inl ⟨by rfl, ?_⟩) ?_ ?_
 rotate_left
 ·intro w'
  go_simp
  with_reducible rfl
 rotate_left
 ·simp only [Act.put, sI_, s0_, sS_, i64_w, i32_w]
  rfl
 refine take_ (i := 11) (N := some 96) (v := ?_) (a' := ?_) #[true, true, true, true, true, true, true, true, true, true, true, true, false, false, false, false, false, false, false, false] rfl rfl (by kernel_rfl) (fun _ _ _ h => h) (Or.inl ⟨by rfl, ?_⟩) hHeld ?_ ?_
 rotate_left
 ·rintro w' ⟨⟨s0, s1⟩, ⟨s2, s3⟩, ⟨s4, s5⟩, ⟨s6, s7⟩⟩
  go_simp
  with_reducible rfl
 rotate_left
 ·simp only [Act.put, sI_, s0_, sS_, i64_w, i32_w]
  rfl
 refine take_ (i := 12) (N := some 97) (v := ?_) (a' := ?_) #[true, true, true, true, true, true, true, true, true, true, true, true, true, false, false, false, false, false, false, false] rfl rfl (by kernel_rfl) (fun _ _ _ h => h) (Or.inl ⟨by rfl, ?_⟩) hHeld ?_ ?_
 rotate_left
 ·rintro w' ⟨⟨s0, s1⟩, ⟨s2, s3⟩, ⟨s4, s5⟩, ⟨s6, s7⟩⟩
  go_simp
  with_reducible rfl
 rotate_left
 ·simp only [Act.put, sI_, s0_, sS_, i64_w, i32_w]
  rfl
 refine take_ (i := 14) (N := some 99) (v := ?_) (a' := ?_) #[true, true, true, true, true, true, true, true, true, true, true, true, true, false, true, false, false, false, false, false] rfl rfl (by kernel_rfl) (fun _ _ _ h => h) (Or.inl ⟨by rfl, ?_⟩) hHeld ?_ ?_
 rotate_left
 ·rintro w' ⟨⟨s0, s1⟩, ⟨s2, s3⟩, ⟨s4, s5⟩, ⟨s6, s7⟩⟩
  go_simp
  with_reducible rfl
 rotate_left
 ·simp only [Act.put, sI_, s0_, sS_, i64_w, i32_w]
  rfl
 refine take_ (i := 15) (N := some 100) (v := ?_) (a' := ?_) #[true, true, true, true, true, true, true, true, true, true, true, true, true, false, true, true, false, false, false, false] rfl rfl (by kernel_rfl) (fun _ _ _ h => h) (Or.inl ⟨by rfl, ?_⟩) hHeld ?_ ?_
 rotate_left
 ·rintro w' ⟨⟨s0, s1⟩, ⟨s2, s3⟩, ⟨s4, s5⟩, ⟨s6, s7⟩⟩
  go_simp
  with_reducible rfl
 rotate_left
 ·simp only [Act.put, sI_, s0_, sS_, i64_w, i32_w]
  rfl
 refine one_ (i := 13) (N := some 98) #[true, true, true, true, true, true, true, true, true, true, true, true, true, true, true, true, false, false, false, false] rfl rfl (by kernel_rfl) (by decide) (fun K hK => ?_)
 refine goes_ Try.func19 (by kernel_rfl) rfl #[.agg #[.slice A16 p0.length c16, .slice A17 p1.length c17], .agg #[.slice A8 q0.length c8, .slice A9 q1.length c9]] (by rfl) rfl rfl (by (try simp only [List.map_toArray, List.map_cons, List.map_nil]); first | done | rfl) ?_
 with_reducible refine (scarfjointref07_In.calls k A16 c16 p0 A17 c17 p1 A8 c8 q0 A9 c9 q1 rr _ (Kd.R_reads' R16.out).2.2 (Kd.R_reads' R16.out).2.1 (Kd.R_reads' R17.out).2.2 (Kd.R_reads' R17.out).2.1 (Kd.R_reads' R8.out).2.2 (Kd.R_reads' R8.out).2.1 (Kd.R_reads' R9.out).2.2 (Kd.R_reads' R9.out).2.1 hi1).mono ?_
 rintro e w_ ⟨rfl, hb⟩
 refine ⟨_, rfl, ?_⟩
 replace BG := Lib.hid (blk_below BG.out hb); replace BL := Lib.hid (below_then BL.out BL.out.size hb); replace R6 := Lib.hid (Kd.R_below R6.out hb); replace R7 := Lib.hid (Kd.R_below R7.out hb); replace R8 := Lib.hid (Kd.R_below R8.out hb); replace R9 := Lib.hid (Kd.R_below R9.out hb); replace BX := Lib.hid (blk_below BX.out hb); replace BY := Lib.hid (blk_below BY.out hb); replace R10 := Lib.hid (Kd.R_below R10.out hb); replace R11 := Lib.hid (Kd.R_below R11.out hb); replace R12 := Lib.hid (Kd.R_below R12.out hb); replace R13 := Lib.hid (Kd.R_below R13.out hb); replace BZ := Lib.hid (blk_below BZ.out hb); replace BT := Lib.hid (blk_below BT.out hb); replace R14 := Lib.hid (Kd.R_below R14.out hb); replace R15 := Lib.hid (Kd.R_below R15.out hb); replace BU := Lib.hid (blk_below BU.out hb); replace R16 := Lib.hid (Kd.R_below R16.out hb); replace R17 := Lib.hid (Kd.R_below R17.out hb); replace BV := Lib.hid (blk_below BV.out hb); replace R18 := Lib.hid (Kd.R_below R18.out hb); replace R19 := Lib.hid (Kd.R_below R19.out hb); replace BS := Lib.hid (blk_below BS.out hb); clear hb
 refine hK.out _ _ ⟨cell2 BV.out, cell2 BY.out, cell2 BX.out, cell2 BS.out⟩ (fun hHeld => ?_)
 clear hK K
 refine norm_ (a' := ?_) ?_ ?_
 rotate_left
 ·show Act.put _ (some 98) _ = _
  simp only [Act.put, sI_, s0_, sS_, i64_w, i32_w]
  rfl
 refine one_ (i := 16) (N := some 101) #[true, true, true, true, true, true, true, true, true, true, true, true, true, true, true, true, true, false, false, false] rfl rfl (by kernel_rfl) (by decide) (fun K hK => ?_)
 refine goes_ Try.func19 (by kernel_rfl) rfl #[.agg #[.slice A6 o0.length c6, .slice A7 o1.length c7], .agg #[.slice A18 b0.length c18, .slice A19 b1.length c19]] (by rfl) rfl rfl (by (try simp only [List.map_toArray, List.map_cons, List.map_nil]); first | done | rfl) ?_
 with_reducible refine (scarfjointref07_In.calls k A6 c6 o0 A7 c7 o1 A18 c18 b0 A19 c19 b1 rr _ (Kd.R_reads' R6.out).2.2 (Kd.R_reads' R6.out).2.1 (Kd.R_reads' R7.out).2.2 (Kd.R_reads' R7.out).2.1 (Kd.R_reads' R18.out).2.2 (Kd.R_reads' R18.out).2.1 (Kd.R_reads' R19.out).2.2 (Kd.R_reads' R19.out).2.1 hi2).mono ?_
 rintro e w_ ⟨rfl, hb⟩
 refine ⟨_, rfl, ?_⟩
 replace BG := Lib.hid (blk_below BG.out hb); replace BL := Lib.hid (below_then BL.out BL.out.size hb); replace R6 := Lib.hid (Kd.R_below R6.out hb); replace R7 := Lib.hid (Kd.R_below R7.out hb); replace R8 := Lib.hid (Kd.R_below R8.out hb); replace R9 := Lib.hid (Kd.R_below R9.out hb); replace BX := Lib.hid (blk_below BX.out hb); replace BY := Lib.hid (blk_below BY.out hb); replace R10 := Lib.hid (Kd.R_below R10.out hb); replace R11 := Lib.hid (Kd.R_below R11.out hb); replace R12 := Lib.hid (Kd.R_below R12.out hb); replace R13 := Lib.hid (Kd.R_below R13.out hb); replace BZ := Lib.hid (blk_below BZ.out hb); replace BT := Lib.hid (blk_below BT.out hb); replace R14 := Lib.hid (Kd.R_below R14.out hb); replace R15 := Lib.hid (Kd.R_below R15.out hb); replace BU := Lib.hid (blk_below BU.out hb); replace R16 := Lib.hid (Kd.R_below R16.out hb); replace R17 := Lib.hid (Kd.R_below R17.out hb); replace BV := Lib.hid (blk_below BV.out hb); replace R18 := Lib.hid (Kd.R_below R18.out hb); replace R19 := Lib.hid (Kd.R_below R19.out hb); replace BS := Lib.hid (blk_below BS.out hb); clear hb
 refine hK.out _ _ ⟨cell2 BV.out, cell2 BY.out, cell2 BX.out, cell2 BS.out⟩ (fun hHeld => ?_)
 clear hK K
 refine norm_ (a' := ?_) ?_ ?_
 rotate_left
 ·show Act.put _ (some 101) _ = _
  simp only [Act.put, sI_, s0_, sS_, i64_w, i32_w]
  rfl
 refine pure_ (i := 17) (N := some 102) (v := ?_) (a' := ?_) #[true, true, true, true, true, true, true, true, true, true, true, true, true, true, true, true, true, true, false, false] rfl rfl (by kernel_rfl) (fun _ _ _ h => h) (Or.inl ⟨by rfl, ?_⟩) ?_ ?_
 rotate_left
 ·intro w'
  go_simp
  with_reducible rfl
 rotate_left
 ·simp only [Act.put, sI_, s0_, sS_, i64_w, i32_w]
  rfl
 refine pure_ (i := 18) (N := some 103) (v := ?_) (a' := ?_) #[true, true, true, true, true, true, true, true, true, true, true, true, true, true, true, true, true, true, true, false] rfl rfl (by kernel_rfl) (fun _ _ _ h => h) (Or.inl ⟨by rfl, ?_⟩) ?_ ?_
 rotate_left
 ·intro w'
  go_simp
  with_reducible rfl
 rotate_left
 ·simp only [Act.put, sI_, s0_, sS_, i64_w, i32_w]
  rfl
 refine pure_ (i := 19) (N := some 6) (v := ?_) (a' := ?_) #[true, true, true, true, true, true, true, true, true, true, true, true, true, true, true, true, true, true, true, true] rfl rfl (by kernel_rfl) (fun _ _ _ h => h) (Or.inl ⟨by rfl, ?_⟩) ?_ ?_
 rotate_left
 ·intro w'
  go_simp
  with_reducible rfl
 rotate_left
 ·simp only [Act.put, sI_, s0_, sS_, i64_w, i32_w]
  rfl
 refine done_ (by kernel_rfl) ?_
 go_wp2
 exact bodyPost_ret (v := .bool true) (by simp [results, Try.f10, go_sem]) rfl ⟨rfl, BL.out⟩
set_option maxHeartbeats 4000000 in
set_option maxRecDepth 100000 in
theorem scarfjointlaw07_SubgraphAdjoint.big (A0 : Option Addr) (c0 : Nat) (l0 : List Int) (A1 : Option Addr) (c1 : Nat) (l1 : List S78) (A2 : Option Addr) (c2 : Nat) (l2 : List Int) (A3 : Option Addr) (c3 : Nat) (l3 : List S78) (A4 : Option Addr) (c4 : Nat) (l4 : List Int) (A5 : Option Addr) (c5 : Nat) (l5 : List Int) (p q er : Int) (w : World)
  (r0 : Kd.C (Kd.int .i64) w A0 l0.length l0) (m0 : l0.length ≤ c0) (r1 : Kd.C (k78) w A1 l1.length l1) (m1 : l1.length ≤ c1) (r2 : Kd.C (Kd.int .i64) w A2 l2.length l2) (m2 : l2.length ≤ c2) (r3 : Kd.C (k78) w A3 l3.length l3) (m3 : l3.length ≤ c3) (r4 : Kd.C (Kd.int .i64) w A4 l4.length l4) (m4 : l4.length ≤ c4) (r5 : Kd.C (Kd.int .i64) w A5 l5.length l5) (m5 : l5.length ≤ c5)
  (hbad : scarfjointlaw07_Arrow_small.f l0 l1 l2 l3 l4 l5 = some false ∨ (scarfjointlaw07_Arrow_small.f l0 l1 l2 l3 l4 l5 = some true ∧ scarfjointref06_Valid.f l0 l1 l2 l3 l4 l5 = some er ∧ er ≠ 0)) :
  Calls Try.prog 10 #[.agg #[.slice A0 l0.length c0, .slice A1 l1.length c1, .slice A2 l2.length c2, .slice A3 l3.length c3, .slice A4 l4.length c4, .slice A5 l5.length c5], .int .u64 p, .int .u64 q] w fun e w' => e = .returned (.bool true) ∧ Below w.heap.size w w' := by
 have hu25 := Try.underlying25; have hu27 := Try.underlying27; have hu51 := Try.underlying51; have hu63 := Try.underlying63; have R0 := Lib.hid r0; have M0 := Lib.hid m0; have R1 := Lib.hid r1; have M1 := Lib.hid m1; have R2 := Lib.hid r2; have M2 := Lib.hid m2; have R3 := Lib.hid r3; have M3 := Lib.hid m3; have R4 := Lib.hid r4; have M4 := Lib.hid m4; have R5 := Lib.hid r5; have M5 := Lib.hid m5; clear r0 m0 r1 m1 r2 m2 r3 m3 r4 m4 r5 m5
 go_enter Try.func10, Try.ntmps10
 go_upto_region 1 with (first
  | ((with_reducible refine gate_dst (N := 3) rfl ?_); (try (refine gate_guard (by rfl) ?_; dsimp only)); refine box_event ?hg (N := 3) ?hd (cs := #[.slice A0 l0.length c0, .slice A1 l1.length c1, .slice A2 l2.length c2, .slice A3 l3.length c3, .slice A4 l4.length c4, .slice A5 l5.length c5]) (t := 63) ?hr ?_; (case hd => rfl); (case hg => rfl); (case hr => first | (go_simp; done) | (go_simp; rfl)); intro g hg w_ hbox hb; have HG : w.heap.size ≤ g := (hg ▸ Nat.le_refl _); have BG := Lib.hid hbox; have BL := Lib.hid hb; clear hg hbox hb))
 have zBG_0 : World.cell? _ ⟨g, 0, none⟩ = some (.slice A0 l0.length c0) := (blk_cell BG.out 0).trans rfl
 have zBG_1 : World.cell? _ ⟨g, 1, none⟩ = some (.slice A1 l1.length c1) := (blk_cell BG.out 1).trans rfl
 have zBG_2 : World.cell? _ ⟨g, 2, none⟩ = some (.slice A2 l2.length c2) := (blk_cell BG.out 2).trans rfl
 have zBG_3 : World.cell? _ ⟨g, 3, none⟩ = some (.slice A3 l3.length c3) := (blk_cell BG.out 3).trans rfl
 have zBG_4 : World.cell? _ ⟨g, 4, none⟩ = some (.slice A4 l4.length c4) := (blk_cell BG.out 4).trans rfl
 have zBG_5 : World.cell? _ ⟨g, 5, none⟩ = some (.slice A5 l5.length c5) := (blk_cell BG.out 5).trans rfl
 rcases hbad with hsm | ⟨hsm, hv, hne⟩
 ·skip
  go_wp2_with (first
   | (go_at_call 11; with_reducible refine (scarfjointlaw07_awake.calls true _ rfl).mono ?_; rintro e w_ ⟨rfl, hb⟩; clear zBG_0 zBG_1 zBG_2 zBG_3 zBG_4 zBG_5; replace BG := Lib.hid (blk_below BG.out hb); replace BL := Lib.hid (below_then BL.out BL.out.size hb); clear hb; have zBG_0 : World.cell? _ ⟨g, 0, none⟩ = some (.slice A0 l0.length c0) := (blk_cell BG.out 0).trans rfl; have zBG_1 : World.cell? _ ⟨g, 1, none⟩ = some (.slice A1 l1.length c1) := (blk_cell BG.out 1).trans rfl; have zBG_2 : World.cell? _ ⟨g, 2, none⟩ = some (.slice A2 l2.length c2) := (blk_cell BG.out 2).trans rfl; have zBG_3 : World.cell? _ ⟨g, 3, none⟩ = some (.slice A3 l3.length c3) := (blk_cell BG.out 3).trans rfl; have zBG_4 : World.cell? _ ⟨g, 4, none⟩ = some (.slice A4 l4.length c4) := (blk_cell BG.out 4).trans rfl; have zBG_5 : World.cell? _ ⟨g, 5, none⟩ = some (.slice A5 l5.length c5) := (blk_cell BG.out 5).trans rfl)
   | (go_at_call 42; with_reducible refine (scarfjointlaw07_Arrow_small.calls A0 c0 l0 A1 c1 l1 A2 c2 l2 A3 c3 l3 A4 c4 l4 A5 c5 l5 false _ (Kd.C_below R0.out BL.out) M0.out (Kd.C_below R1.out BL.out) M1.out (Kd.C_below R2.out BL.out) M2.out (Kd.C_below R3.out BL.out) M3.out (Kd.C_below R4.out BL.out) M4.out (Kd.C_below R5.out BL.out) M5.out hsm).mono ?_; rintro e w_ ⟨rfl, hb⟩; clear zBG_0 zBG_1 zBG_2 zBG_3 zBG_4 zBG_5; replace BG := Lib.hid (blk_below BG.out hb); replace BL := Lib.hid (below_then BL.out BL.out.size hb); clear hb; have zBG_0 : World.cell? _ ⟨g, 0, none⟩ = some (.slice A0 l0.length c0) := (blk_cell BG.out 0).trans rfl; have zBG_1 : World.cell? _ ⟨g, 1, none⟩ = some (.slice A1 l1.length c1) := (blk_cell BG.out 1).trans rfl; have zBG_2 : World.cell? _ ⟨g, 2, none⟩ = some (.slice A2 l2.length c2) := (blk_cell BG.out 2).trans rfl; have zBG_3 : World.cell? _ ⟨g, 3, none⟩ = some (.slice A3 l3.length c3) := (blk_cell BG.out 3).trans rfl; have zBG_4 : World.cell? _ ⟨g, 4, none⟩ = some (.slice A4 l4.length c4) := (blk_cell BG.out 4).trans rfl; have zBG_5 : World.cell? _ ⟨g, 5, none⟩ = some (.slice A5 l5.length c5) := (blk_cell BG.out 5).trans rfl))
  exact bodyPost_ret (v := .bool true) (by simp [results, Try.f10, go_sem]) rfl ⟨rfl, BL.out⟩
 ·skip
  have e1 : (er != 0) = true := by simpa using hne
  have e2 : decide (er = 0) = false := decide_eq_false hne
  go_wp2_with (first
   | (go_at_call 11; with_reducible refine (scarfjointlaw07_awake.calls true _ rfl).mono ?_; rintro e w_ ⟨rfl, hb⟩; clear zBG_0 zBG_1 zBG_2 zBG_3 zBG_4 zBG_5; replace BG := Lib.hid (blk_below BG.out hb); replace BL := Lib.hid (below_then BL.out BL.out.size hb); clear hb; have zBG_0 : World.cell? _ ⟨g, 0, none⟩ = some (.slice A0 l0.length c0) := (blk_cell BG.out 0).trans rfl; have zBG_1 : World.cell? _ ⟨g, 1, none⟩ = some (.slice A1 l1.length c1) := (blk_cell BG.out 1).trans rfl; have zBG_2 : World.cell? _ ⟨g, 2, none⟩ = some (.slice A2 l2.length c2) := (blk_cell BG.out 2).trans rfl; have zBG_3 : World.cell? _ ⟨g, 3, none⟩ = some (.slice A3 l3.length c3) := (blk_cell BG.out 3).trans rfl; have zBG_4 : World.cell? _ ⟨g, 4, none⟩ = some (.slice A4 l4.length c4) := (blk_cell BG.out 4).trans rfl; have zBG_5 : World.cell? _ ⟨g, 5, none⟩ = some (.slice A5 l5.length c5) := (blk_cell BG.out 5).trans rfl)
   | (go_at_call 42; with_reducible refine (scarfjointlaw07_Arrow_small.calls A0 c0 l0 A1 c1 l1 A2 c2 l2 A3 c3 l3 A4 c4 l4 A5 c5 l5 true _ (Kd.C_below R0.out BL.out) M0.out (Kd.C_below R1.out BL.out) M1.out (Kd.C_below R2.out BL.out) M2.out (Kd.C_below R3.out BL.out) M3.out (Kd.C_below R4.out BL.out) M4.out (Kd.C_below R5.out BL.out) M5.out hsm).mono ?_; rintro e w_ ⟨rfl, hb⟩; clear zBG_0 zBG_1 zBG_2 zBG_3 zBG_4 zBG_5; replace BG := Lib.hid (blk_below BG.out hb); replace BL := Lib.hid (below_then BL.out BL.out.size hb); clear hb; have zBG_0 : World.cell? _ ⟨g, 0, none⟩ = some (.slice A0 l0.length c0) := (blk_cell BG.out 0).trans rfl; have zBG_1 : World.cell? _ ⟨g, 1, none⟩ = some (.slice A1 l1.length c1) := (blk_cell BG.out 1).trans rfl; have zBG_2 : World.cell? _ ⟨g, 2, none⟩ = some (.slice A2 l2.length c2) := (blk_cell BG.out 2).trans rfl; have zBG_3 : World.cell? _ ⟨g, 3, none⟩ = some (.slice A3 l3.length c3) := (blk_cell BG.out 3).trans rfl; have zBG_4 : World.cell? _ ⟨g, 4, none⟩ = some (.slice A4 l4.length c4) := (blk_cell BG.out 4).trans rfl; have zBG_5 : World.cell? _ ⟨g, 5, none⟩ = some (.slice A5 l5.length c5) := (blk_cell BG.out 5).trans rfl)
   | (go_at_call 47; with_reducible refine (scarfjointref06_Valid.calls A0 c0 l0 A1 c1 l1 A2 c2 l2 A3 c3 l3 A4 c4 l4 A5 c5 l5 er _ (Kd.C_below R0.out BL.out) M0.out (Kd.C_below R1.out BL.out) M1.out (Kd.C_below R2.out BL.out) M2.out (Kd.C_below R3.out BL.out) M3.out (Kd.C_below R4.out BL.out) M4.out (Kd.C_below R5.out BL.out) M5.out hv).mono ?_; rintro e w_ ⟨rfl, hb⟩; clear zBG_0 zBG_1 zBG_2 zBG_3 zBG_4 zBG_5; replace BG := Lib.hid (blk_below BG.out hb); replace BL := Lib.hid (below_then BL.out BL.out.size hb); clear hb; have zBG_0 : World.cell? _ ⟨g, 0, none⟩ = some (.slice A0 l0.length c0) := (blk_cell BG.out 0).trans rfl; have zBG_1 : World.cell? _ ⟨g, 1, none⟩ = some (.slice A1 l1.length c1) := (blk_cell BG.out 1).trans rfl; have zBG_2 : World.cell? _ ⟨g, 2, none⟩ = some (.slice A2 l2.length c2) := (blk_cell BG.out 2).trans rfl; have zBG_3 : World.cell? _ ⟨g, 3, none⟩ = some (.slice A3 l3.length c3) := (blk_cell BG.out 3).trans rfl; have zBG_4 : World.cell? _ ⟨g, 4, none⟩ = some (.slice A4 l4.length c4) := (blk_cell BG.out 4).trans rfl; have zBG_5 : World.cell? _ ⟨g, 5, none⟩ = some (.slice A5 l5.length c5) := (blk_cell BG.out 5).trans rfl))
  exact bodyPost_ret (v := .bool true) (by simp [results, Try.f10, go_sem]) rfl ⟨rfl, BL.out⟩
end Go.Proofs.Ytonipihlpbaknaa.Print
namespace Go.Proofs.Ytonipihlpbaknaa.Print
set_option linter.unusedVariables false
set_option linter.unusedSimpArgs false
open Go.RowKit Go.Proofs.YtonipihlpbaknaaW.PrintWords Go.Proofs.YtonipihlpbaknaaW.PrintLast Go.Proofs.YtonipihlpbaknaaW.PrintMore
theorem through_l (x0 x1 : List Int) (hn : x0.length < 17592186044416) (hr : ∀ x ∈ x0, 0 ≤ x ∧ x < x1.length) : ∀ (d k i : Nat) (x5 : List Int), i + d = x0.length → d < k → x5.length ≤ i →
    scarfjointref06_Through.l0 k x0 x1 x5 i = some (x5 ++ (x0.drop i).map (rd x1)) := by
  intro d
  induction d with
  | zero =>
    intro k i x5 hi hk hx
    obtain ⟨k, rfl⟩ : ∃ m, k = m + 1 := ⟨k - 1, by omega⟩
    rw [scarfjointref06_Through.l0, if_neg (by omega), List.drop_of_length_le (by omega), List.map_nil, List.append_nil]
  | succ d ih =>
    intro k i x5 hi hk hx
    obtain ⟨k, rfl⟩ : ∃ m, k = m + 1 := ⟨k - 1, by omega⟩
    have hlt : i < x0.length := by omega
    have q := hr _ (List.getElem_mem hlt); rw [scarfjointref06_Through.l0, if_pos (by omega), if_pos (by omega), rd_get x0 i hlt, if_pos q.1, if_pos q.2, if_pos (by omega), succ_ok i (by omega), ih k (i + 1) (x5 ++ [rd x1 x0[i]]) (by omega) (by omega) (by simp; omega), List.drop_eq_getElem_cons hlt, List.map_cons, List.append_assoc]
    rfl
theorem through_ok (x0 x1 : List Int) (hn : x0.length < 17592186044416) (hr : ∀ x ∈ x0, 0 ≤ x ∧ x < x1.length) (k : Nat) (hk : x0.length < k) : scarfjointref06_Through.f k x0 x1 = some (x0.map (rd x1)) := by
  have := through_l x0 x1 hn hr x0.length k 0 [] (by omega) (by omega) (by simp)
  simpa [scarfjointref06_Through.f] using this
theorem rd_toNat {l : List Int} {x : Int} (h0 : 0 ≤ x) (h1 : x < l.length) : rd l x = l[x.toNat]'(by omega) := by
  have := rd_get l x.toNat (by omega)
  rwa [Int.toNat_of_nonneg h0] at this
/-- The inclusion of a part, followed by a morphism, is a morphism. -/
theorem comp_valid {l0 : List Int} {l1 : List S78} {l2 : List Int} {l3 : List S78} {l4 l5 ns es : List Int} (h : morphE l0 l1 l2 l3 l4 l5 = 0) (hp : partE l0 l1 ns es = 0) :
    morphE (ns.map (rd l0)) (es.map (cutE l1 ns)) l2 l3 (ns.map (rd l4)) (es.map (rd l5)) = 0 := by
  obtain ⟨v0, v1, s0, s1, hn, he⟩ := morph_facts h; obtain ⟨f1, f2, f3, f4, f5⟩ := partE_facts l0 l1 ns es hp; have hc := cut_valid v0 hp
  have gn : nodesE (ns.map (rd l0)) l2 0 (ns.map (rd l4)) = 0 := (nodesE_iff _ _ _ _).2 fun j hj => by
    have hj' : j < ns.length := by simpa using hj
    have q := f1 _ (List.getElem_mem hj'); have p := hn ns[j].toNat (by omega); rw [Int.toNat_of_nonneg q.1] at p; rw [Nat.zero_add, rd_map _ _ _ hj', List.getElem_map, rd_toNat q.1 (by omega)]; exact p
  have ge : edgesE (es.map (cutE l1 ns)) l3 (ns.map (rd l4)) 0 (es.map (rd l5)) = 0 := (edgesE_iff _ _ _ _ _).2 fun j hj => by
    have hj' : j < es.length := by simpa using hj
    have q := f3 _ (List.getElem_mem hj'); have p := he es[j].toNat (by omega); rw [Int.toNat_of_nonneg q.1] at p; obtain ⟨g1, g2⟩ := f5 _ (List.getElem_mem hj'); obtain ⟨a1, b1⟩ := low_get f2 g1; obtain ⟨a2, b2⟩ := low_get f2 g2; rw [rd_get _ _ a1] at b1; rw [rd_get _ _ a2] at b2; rw [Nat.zero_add, rdT_map _ _ _ hj', List.getElem_map, rd_toNat q.1 (by omega)]
    refine ⟨p.1, p.2.1, p.2.2.1, ?_, ?_⟩
    · show rd (ns.map (rd l4)) (lowB ns (rd_T78 l1 es[j]).f1 : Int) = _
      rw [rd_map _ _ _ a1, b1]; exact p.2.2.2.1
    · show rd (ns.map (rd l4)) (lowB ns (rd_T78 l1 es[j]).f2 : Int) = _
      rw [rd_map _ _ _ a2, b2]; exact p.2.2.2.2
  unfold morphE; rw [if_neg (by simp [hc]), if_neg (by simp [v1]), if_pos (by simp), if_pos gn, ge]
theorem adj_iff {ns l q : List Int} {n : Nat} (hr : ∀ x ∈ ns, 0 ≤ x ∧ x < l.length) : (∀ x ∈ Lib.compact (sortI (ns.map (rd l))), x ∈ q) ↔ ∀ x ∈ ns, x ∈ posL q 0 l := by
  constructor
  · intro h x hx
    have r := hr x hx
    refine mem_posL.2 ⟨x.toNat, by omega, by omega, ?_⟩
    rw [← rd_toNat r.1 r.2]; exact h _ (mem_comp.2 (List.mem_map.2 ⟨x, hx, rfl⟩))
  · intro h y hy
    obtain ⟨x, hx, rfl⟩ := List.mem_map.1 (mem_comp.1 hy); have r := hr x hx; obtain ⟨j, hj, e, hm⟩ := mem_posL.1 (h x hx); rw [Nat.zero_add] at e; subst e
    rwa [rd_get l j hj]
theorem small_some (l0 : List Int) (l1 : List S78) (l2 : List Int) (l3 : List S78) (l4 l5 : List Int) : ∃ b, scarfjointlaw07_Arrow_small.f l0 l1 l2 l3 l4 l5 = some b := by
  unfold scarfjointlaw07_Arrow_small.f scarfjointref05_Few.f scarfjointref06_Few.f
  repeat' (first | split | exact ⟨_, rfl⟩ | simp only [Option.bind_some])
theorem scarfjointlaw07_SubgraphAdjoint.whole (A0 : Option Addr) (c0 : Nat) (l0 : List Int) (A1 : Option Addr) (c1 : Nat) (l1 : List S78) (A2 : Option Addr) (c2 : Nat) (l2 : List Int) (A3 : Option Addr) (c3 : Nat) (l3 : List S78) (A4 : Option Addr) (c4 : Nat) (l4 : List Int) (A5 : Option Addr) (c5 : Nat) (l5 : List Int) (p q : Int) (w : World)
  (r0 : Kd.C (Kd.int .i64) w A0 l0.length l0) (m0 : l0.length ≤ c0) (r1 : Kd.C k78 w A1 l1.length l1) (m1 : l1.length ≤ c1) (r2 : Kd.C (Kd.int .i64) w A2 l2.length l2) (m2 : l2.length ≤ c2) (r3 : Kd.C k78 w A3 l3.length l3) (m3 : l3.length ≤ c3) (r4 : Kd.C (Kd.int .i64) w A4 l4.length l4) (m4 : l4.length ≤ c4) (r5 : Kd.C (Kd.int .i64) w A5 l5.length l5) (m5 : l5.length ≤ c5) :
  Calls Try.prog 10 #[.agg #[.slice A0 l0.length c0, .slice A1 l1.length c1, .slice A2 l2.length c2, .slice A3 l3.length c3, .slice A4 l4.length c4, .slice A5 l5.length c5], .int .u64 p, .int .u64 q] w fun e w' => e = .returned (.bool true) ∧ Below w.heap.size w w' := by
 obtain ⟨b, hb⟩ := small_some l0 l1 l2 l3 l4 l5
 cases b with
 | false => exact scarfjointlaw07_SubgraphAdjoint.big A0 c0 l0 A1 c1 l1 A2 c2 l2 A3 c3 l3 A4 c4 l4 A5 c5 l5 p q 0 w r0 m0 r1 m1 r2 m2 r3 m3 r4 m4 r5 m5 (.inl hb)
 | true =>
  by_cases hv : morphE l0 l1 l2 l3 l4 l5 = 0
  ·obtain ⟨v0, v1, s0, s1, hn, he⟩ := morph_facts hv
   obtain ⟨z0, z1, _, _⟩ := validB_facts v0; obtain ⟨z2, z3, _, _⟩ := validB_facts v1; obtain ⟨bs, es, h1, h2, h3, h4⟩ := made_ok l0 l1 p 99999 v0 (by omega); have hp := made_part h2 h3 h4 (ends_ok v0); obtain ⟨bs', es', h1', h2', h3', h4'⟩ := made_ok l2 l3 q 99999 v1 (by omega); have hp' := made_part h2' h3' h4' (ends_ok v1); have b1 := markedL_len bs; have b2 := markedL_len es; have b3 := markedL_len bs'; have b4 := markedL_len es'; obtain ⟨f1, f2, f3, f4, f5⟩ := partE_facts l0 l1 _ _ hp; have hi := incl_valid v0 hp; have hc := comp_valid hv hp; have q0 := Lib.compact_length_le (sortI ((markedL bs).map (rd l4))); have q1 := Lib.compact_length_le (sortI ((markedL es).map (rd l5)))
   have q2 : (sortI ((markedL bs).map (rd l4))).length = (markedL bs).length := by rw [show (sortI ((markedL bs).map (rd l4))).length = ((markedL bs).map (rd l4)).length from List.length_mergeSort _, List.length_map]
   have q3 : (sortI ((markedL es).map (rd l5))).length = (markedL es).length := by rw [show (sortI ((markedL es).map (rd l5))).length = ((markedL es).map (rd l5)).length from List.length_mergeSort _, List.length_map]
   have q4 := posL_len (markedL bs') l4 0; have q5 := posL_len (markedL es') l5 0
   refine scarfjointlaw07_SubgraphAdjoint.ok 99999 A0 c0 l0 A1 c1 l1 A2 c2 l2 A3 c3 l3 A4 c4 l4 A5 c5 l5 p q (markedL bs) (markedL es) (markedL bs') (markedL es') ((markedL bs).map (rd l0)) ((markedL es).map (cutE l1 (markedL bs))) ((markedL bs).map (rd l4)) ((markedL es).map (rd l5))
    (Lib.compact (sortI ((markedL bs).map (rd l4)))) (Lib.compact (sortI ((markedL es).map (rd l5)))) (posL (markedL bs') 0 l4) (posL (markedL es') 0 l5) (decide ((∀ x ∈ markedL bs, x ∈ posL (markedL bs') 0 l4) ∧ (∀ x ∈ markedL es, x ∈ posL (markedL es') 0 l5)))
    w r0 m0 r1 m1 r2 m2 r3 m3 r4 m4 r5 m5 hb (by rw [scarfjointref06_Valid.f, hv]) h1 h1' ?_ ?_ ?_ ?_ ?_ ?_ ?_
   ·rw [ext_ok l0 l1 _ _ (by omega) (by omega) 99999 (by omega)]
    unfold extR; rw [if_pos (show valE l0 l1 (markedL bs) (markedL es) = 0 by unfold valE; rw [if_pos v0, hp])]
   ·rw [scarfjointref06_Valid.f, hi]
   ·unfold scarfjointref06_Then.f
    rw [through_ok _ _ (by omega) (fun x hx => ⟨(f1 x hx).1, by have := (f1 x hx).2; omega⟩) _ (by omega), Option.bind_some, through_ok _ _ (by omega) (fun x hx => ⟨(f3 x hx).1, by have := (f3 x hx).2; omega⟩) _ (by omega), Option.bind_some]
   ·rw [img_ok _ _ _ _ _ _ (by simp; omega) (by simp; omega), if_pos hc]
   ·rw [pre_ok _ _ _ _ _ _ _ _ (by omega) (by omega) _ (by omega)]
    unfold preR; rw [if_pos hv, if_pos hp']
   ·rw [in_ok _ _ _ _ _ (by omega) (by omega) (by omega) (by omega) (by omega)]
    congr 1
    rw [decide_eq_decide, adj_iff (n := 0) (fun x hx => ⟨(f1 x hx).1, by have := (f1 x hx).2; omega⟩), adj_iff (n := 0) (fun x hx => ⟨(f3 x hx).1, by have := (f3 x hx).2; omega⟩)]
   ·rw [in_ok _ _ _ _ _ (by omega) (by omega) (by omega) (by omega) (by omega)]
  ·exact scarfjointlaw07_SubgraphAdjoint.big A0 c0 l0 A1 c1 l1 A2 c2 l2 A3 c3 l3 A4 c4 l4 A5 c5 l5 p q _ w r0 m0 r1 m1 r2 m2 r3 m3 r4 m4 r5 m5 (.inr ⟨hb, rfl, hv⟩)
end Go.Proofs.Ytonipihlpbaknaa.Print
namespace Go.Proofs.Ytonipihlpbaknaa.subgraphAdjoint
open Go.ChangeShapes Go.WideShapes Go.ChangeAt Go.RowKit Go.Proofs.Ytonipihlpbaknaa.Print
set_option linter.unusedVariables false
theorem own : ownKnob Try.prog.godebug = none := by kernel_rfl
theorem laidOut : laidOutB Try.prog = true := by kernel_rfl
set_option maxRecDepth 100000 in
theorem lifted (os : Os) (started : os.Started) (H : Type) (enc : TypeId × Value → H) :
  ReturnsInHanded {} Try.checked os 10 .any (Rows.subgraphAdjointSpec.pre6 enc Try.prog Try.f10 Rows.subgraphAdjointRow.domain false) (Rows.subgraphAdjointSpec.post enc Try.prog Try.f10 false true false false) := by
 refine returnsInHanded_of_change_sized (C := Try.checked) own started (by kernel_rfl) Try.func10
  (ChangeSpec.witness6 (enc := enc) (C := Try.checked) false ⟨#[], #[.agg #[.slice none 0 0, .slice none 0 0, .slice none 0 0, .slice none 0 0, .slice none 0 0, .slice none 0 0], .int .u64 0, .int .u64 0], []⟩ 8 (by kernel_rfl) (by kernel_rfl) (by kernel_rfl) (by kernel_rfl)) ?_
 intro W base args ds gs before hval0 hW hcnd hsz0 _
 have hval : ∀ (j : Nat) t v, Try.f10.params[j]? = some t → args[j]? = some v → Value.okWide Try.prog W .any base t v := hval0
 have hW' := hW; obtain ⟨p, q, hA0, hV, rfl, hfz, hnd⟩ := hW; have hA : DataW.TrodAll enc Try.prog W 0 (fun _ => true) true Try.f10.params.toList args.toList ds p := hA0; rw [Try.params10] at hA hval; obtain ⟨v0, vs0, d0, ds0, p0, q0, hargs, rfl, rfl, h0, r0⟩ := trodAll_cons hA; obtain ⟨v1, vs1, d1, ds1, p1, q1, rfl, rfl, rfl, h1, r1⟩ := trodAll_cons r0; obtain ⟨v2, vs2, d2, ds2, p2, q2, rfl, rfl, rfl, h2, r2⟩ := trodAll_cons r1; obtain ⟨rfl, rfl, rfl⟩ := trodAll_nil r2
 obtain rfl : args = #[v0, v1, v2] := by cases args; simp_all
 obtain ⟨rfl, rfl⟩ := trodVars_none hV; have k0 := h0
 have lt0 : ∀ x ∈ p0, x.block < W.heap.size := by obtain ⟨m, hm⟩ := k0; exact DataW.trod_lt m _ _ _ hm
 obtain ⟨A0a, c0a, l0a, A0b, c0b, l0b, A0c, c0c, l0c, A0d, c0d, l0d, A0e, c0e, l0e, A0f, c0f, l0f, rfl, ra0, ma0, rb0, mb0, rc0, mc0, rd0, md0, re0, me0, rf0, mf0⟩ := open_arrow (hval 0 63 v0 rfl rfl) h0; obtain ⟨a1, rfl, rfl, rfl, w1⟩ := open_int Try.underlying28 (hval 1 28 v1 rfl rfl) h1; obtain ⟨a2, rfl, rfl, rfl, w2⟩ := open_int Try.underlying28 (hval 2 28 v2 rfl rfl) h2; clear hA0 hval0 hsz0
 refine (scarfjointlaw07_SubgraphAdjoint.whole A0a c0a l0a A0b c0b l0b A0c c0c l0c A0d c0d l0d A0e c0e l0e A0f c0f l0f a1 a2 W ra0 ma0 rb0 mb0 rc0 mc0 rd0 md0 re0 me0 rf0 mf0).mono fun e W' ⟨he, bel⟩ => ?_
 subst he; exact ⟨_, rfl, _, _, _, [], _, [], hW', trodAll_mk1 (shut_bool Try.underlying4 _), (trodAll_cons_mk (Below.trod laidOut (by kernel_rfl) (of_decide_eq_true (by kernel_rfl)) k0 bel lt0) (trodAll_cons_mk (shut_int Try.underlying28 w1) (trodAll_cons_mk (shut_int Try.underlying28 w2) trodAll_mk0))), rfl, bel.frame _, fun h => by cases h⟩
theorem over : Rows.subgraphAdjointRow.holds Try.pinned (OpenSpec.ofChange Rows.subgraphAdjointSpec) :=
  OpenClaim.holds_of_wide 10 Try.f10 rfl rfl rfl rfl rfl rfl rfl ⟨rfl, rfl, rfl, rfl, rfl⟩ rfl rfl rfl rfl rfl (by kernel_rfl) Try.func10 (by kernel_rfl)
    (of_decide_eq_true (by kernel_rfl)) (by unfold Func.isWrapper; first | (rw [if_pos (by decide +kernel)]; kernel_rfl) | (rw [if_neg (by decide +kernel)]; exact ⟨rfl, rfl⟩))
    (fun os started H enc _ => lifted os started H enc)
theorem proved : Rows.SubgraphAdjointSaid := over
#print axioms proved
end Go.Proofs.Ytonipihlpbaknaa.subgraphAdjoint
namespace Go.Proofs.Ytonipihlpbaknaa
/-- The row, under a short name, for the claim. -/
theorem subgraphAdjoint_holds : Rows.SubgraphAdjointSaid := subgraphAdjoint.proved
end Go.Proofs.Ytonipihlpbaknaa

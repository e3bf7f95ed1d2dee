/- A part of the proof that the law returns true at every input; what the walked functions compute. -/
import Derived.Test.YtonipihlpbaknaaZVl0
import Derived.Test.YtonipihlpbaknaaZVl1
import Derived.Test.YtonipihlpbaknaaZVl2
import Derived.Test.YtonipihlpbaknaaZVl3
import Derived.Test.YtonipihlpbaknaaZVl4
import Derived.Test.YtonipihlpbaknaaZVl5
import Derived.Test.YtonipihlpbaknaaZVl6
import Derived.Test.YtonipihlpbaknaaZVl7
import Derived.Test.YtonipihlpbaknaaZVl8
import Derived.Test.YtonipihlpbaknaaZVl9
namespace Go.Proofs.Ytonipihlpbaknaa.Print
set_option linter.unusedVariables false
set_option linter.unusedSimpArgs false
open Go.RowKit Go.Proofs.YtonipihlpbaknaaW.PrintWords Go.Proofs.YtonipihlpbaknaaW.PrintLast Go.Proofs.YtonipihlpbaknaaW.PrintMore
set_option maxHeartbeats 4000000 in
set_option maxRecDepth 100000 in
theorem scarfjointlaw07_SubgraphValid.ok (k : Nat) (A0 : Option Addr) (c0 : Nat) (l0 : List Int) (A1 : Option Addr) (c1 : Nat) (l1 : List S78) (A2 : Option Addr) (c2 : Nat) (l2 : List Int) (A3 : Option Addr) (c3 : Nat) (l3 : List Int) (a0 : List Int) (a1 : List S78) (n0 n1 bd : List Int) (er eb ev : Int) (w : World)
  (r0 : Kd.C (Kd.int .i64) w A0 l0.length l0) (m0 : l0.length ≤ c0) (r1 : Kd.C k78 w A1 l1.length l1) (m1 : l1.length ≤ c1) (r2 : Kd.C (Kd.int .i64) w A2 l2.length l2) (m2 : l2.length ≤ c2) (r3 : Kd.C (Kd.int .i64) w A3 l3.length l3) (m3 : l3.length ≤ c3)
  (hsm : scarfjointlaw07_small.f l0 l1 [⟨l2, l3⟩] = some true) (hcp : scarfjointref05_Copied.f l0 l1 = some (l0, l1)) (hown : scarfjointlaw07_own.f l2 l3 = some (l2, l3))
  (h1 : subgraph_Extract.f k l0 l1 l2 l3 = some (a0, a1, n0, n1, er)) (h2 : scarfjointref07_Extract.f k l0 l1 l2 l3 = some (a0, a1, n0, n1, er))
  (h3 : subgraph_Boundary.f k l0 l1 l2 l3 = some (bd, eb)) (h4 : scarfjointref07_Boundary.f k l0 l1 l2 l3 = some (bd, eb)) (h5 : subgraph_Valid.f k l0 l1 l2 l3 = some ev) (h6 : scarfjointref07_Valid.f k l0 l1 l2 l3 = some ev)
  (h7 : scarfjointref05_Same.f k a0 a1 a0 a1 = some true) (h8 : scarfjointref06_Same.f k n0 n1 n0 n1 = some true) (h9 : slices_Equal_int_int.f k bd bd = some true) :
  Calls Try.prog 6 #[.agg #[.slice A0 l0.length c0, .slice A1 l1.length c1], .agg #[.slice A2 l2.length c2, .slice A3 l3.length c3]] w fun e w' => e = .returned (.bool true) ∧ Below w.heap.size w w' := by
 have hu25 := Try.underlying25; have hu27 := Try.underlying27; have hu51 := Try.underlying51; have R0 := Lib.hid r0; have R1 := Lib.hid r1; have R2 := Lib.hid r2; have R3 := Lib.hid r3; have M0 := Lib.hid m0; have M1 := Lib.hid m1; have M2 := Lib.hid m2; have M3 := Lib.hid m3; clear r0 r1 r2 r3 m0 m1 m2 m3
 go_enter Try.func6, Try.ntmps6
 go_upto_region 1 with (first
  | ((with_reducible refine gate_dst (N := 2) rfl ?_); (try (refine gate_guard (by rfl) ?_; dsimp only)); refine box_event ?hg (N := 2) ?hd (cs := #[.slice A0 l0.length c0, .slice A1 l1.length c1]) (t := 25) ?hr ?_; (case hd => rfl); (case hg => rfl); (case hr => first | (go_simp; done) | (go_simp; rfl)); intro g hg w_ hbox hb; have HG : w.heap.size ≤ g := (hg ▸ Nat.le_refl _); have BG := Lib.hid hbox; have BL := Lib.hid hb; clear hg hbox hb)
  | ((with_reducible refine gate_dst (N := 3) rfl ?_); (try (refine gate_guard (by rfl) ?_; dsimp only)); refine box_event ?hg (N := 3) ?hd (cs := #[.slice A2 l2.length c2, .slice A3 l3.length c3]) (t := 27) ?hr ?_; (case hd => rfl); (case hg => rfl); (case hr => first | (go_simp; done) | (go_simp; rfl)); intro h hg w_ hbox hb; have HH : g < h := (hg ▸ blk_lt BG.out); replace BG := Lib.hid (blk_below BG.out hb); replace BL := Lib.hid (below_then BL.out BL.out.size hb); have BE := Lib.hid hbox; clear hg hbox hb))
 obtain ⟨zBG_0, zBG_1⟩ := cell2 BG.out; obtain ⟨zBE_0, zBE_1⟩ := cell2 BE.out
 go_upto_region 3 with (first
  | (go_at_call 11; with_reducible refine (scarfjointlaw07_awake.calls true _ rfl).mono ?_; rintro e w_ ⟨rfl, hb⟩; clear zBG_0 zBG_1 zBE_0 zBE_1; replace BG := Lib.hid (blk_below BG.out hb); replace BL := Lib.hid (below_then BL.out BL.out.size hb); replace BE := Lib.hid (blk_below BE.out hb); clear hb; obtain ⟨zBG_0, zBG_1⟩ := cell2 BG.out; obtain ⟨zBE_0, zBE_1⟩ := cell2 BE.out)
  | ((with_reducible refine gate_dst (N := 20) rfl ?_); (try (refine gate_guard (by rfl) ?_; dsimp only)); refine lit_event ?hg (N := 20) ?hd (cs := #[.slice A2 l2.length c2, .slice A3 l3.length c3]) (t := 27) (m := 1) ?hr ?_; (case hd => rfl); (case hg => rfl); (case hr => first | (go_simp; done) | (go_simp; rfl)); intro b_ hg w_ hbox hb; clear zBG_0 zBG_1 zBE_0 zBE_1; replace BG := Lib.hid (blk_below BG.out hb); replace BL := Lib.hid (below_then BL.out BL.out.size hb); replace BE := Lib.hid (blk_below BE.out hb); have BK := Lib.hid hbox; clear hg hbox hb; obtain ⟨zBG_0, zBG_1⟩ := cell2 BG.out; obtain ⟨zBE_0, zBE_1⟩ := cell2 BE.out)
  | (go_at_call 12; refine (scarfjointlaw07_small.calls A0 c0 l0 A1 c1 l1 (some ⟨b_, 0, none⟩) 1 [⟨l2, l3⟩] true _ (Kd.C_below R0.out BL.out) M0.out (Kd.C_below R1.out BL.out) M1.out (part_row BK.out (Kd.C_below R2.out BL.out) M2.out (Kd.C_below R3.out BL.out) M3.out) (Nat.le_refl _) hsm).mono ?_; rintro e w_ ⟨rfl, hb⟩; clear zBG_0 zBG_1 zBE_0 zBE_1; replace BG := Lib.hid (blk_below BG.out hb); replace BL := Lib.hid (below_then BL.out BL.out.size hb); replace BE := Lib.hid (blk_below BE.out hb); clear hb BK; obtain ⟨zBG_0, zBG_1⟩ := cell2 BG.out; obtain ⟨zBE_0, zBE_1⟩ := cell2 BE.out))
 clear zBG_0 zBG_1 zBE_0 zBE_1; replace BG := Lib.hid (blk_drew BG.out); replace BL := Lib.hid (below_drew1 BL.out); replace BE := Lib.hid (blk_drew BE.out)
 refine start_ (n := 14) (S := fun w' => C2 w' g (.slice A0 l0.length c0) (.slice A1 l1.length c1) ∧ C2 w' h (.slice A2 l2.length c2) (.slice A3 l3.length c3)) (ds := []) #[false, false, false, false, false, false, false, false, false, false, false, false, false, false] (by kernel_rfl) rfl rfl ⟨cell2 BG.out, cell2 BE.out⟩ (fun hHeld => ?_)
 refine take_ (i := 0) (N := some 26) (v := ?_) (a' := ?_) #[true, false, false, false, false, false, false, false, false, false, false, false, false, false] rfl rfl (by kernel_rfl) (fun _ _ _ h => h) (Or.inl ⟨by rfl, ?_⟩) hHeld ?_ ?_
 rotate_left
 ·rintro w' ⟨⟨s0, s1⟩, ⟨s2, s3⟩⟩
  go_simp
  with_reducible rfl
 rotate_left
 ·simp only [Act.put, sI_, s0_, sS_, i64_w, i32_w]
  rfl
 refine take_ (i := 2) (N := some 28) (v := ?_) (a' := ?_) #[true, false, true, false, false, false, false, false, false, false, false, false, false, false] rfl rfl (by kernel_rfl) (fun _ _ _ h => h) (Or.inl ⟨by rfl, ?_⟩) hHeld ?_ ?_
 rotate_left
 ·rintro w' ⟨⟨s0, s1⟩, ⟨s2, s3⟩⟩
  go_simp
  with_reducible rfl
 rotate_left
 ·simp only [Act.put, sI_, s0_, sS_, i64_w, i32_w]
  rfl
 refine join_ (σ := Option Addr × Nat × Option Addr × Nat × Option Addr × Nat × Option Addr × Nat × Option Addr × Nat × Option Addr × Nat × Option Addr × Nat × Option Addr × Nat × Nat × Nat) 3 #[true, true, true, true, true, true, true, true, true, true, true, false, false, false] (fun s_ => [(27, .agg #[.slice s_.1 l0.length s_.2.1, .slice s_.2.2.1 l1.length s_.2.2.2.1]), (29, .agg #[.slice s_.2.2.2.2.1 l2.length s_.2.2.2.2.2.1, .slice s_.2.2.2.2.2.2.1 l3.length s_.2.2.2.2.2.2.2.1]), (30, .tuple #[.agg #[.slice s_.2.2.2.2.2.2.2.2.1 a0.length s_.2.2.2.2.2.2.2.2.2.1, .slice s_.2.2.2.2.2.2.2.2.2.2.1 a1.length s_.2.2.2.2.2.2.2.2.2.2.2.1], .agg #[.slice s_.2.2.2.2.2.2.2.2.2.2.2.2.1 n0.length s_.2.2.2.2.2.2.2.2.2.2.2.2.2.1, .slice s_.2.2.2.2.2.2.2.2.2.2.2.2.2.2.1 n1.length s_.2.2.2.2.2.2.2.2.2.2.2.2.2.2.2.1], .int .i64 er]), (25, .tuple #[.agg #[.slice s_.2.2.2.2.2.2.2.2.1 a0.length s_.2.2.2.2.2.2.2.2.2.1, .slice s_.2.2.2.2.2.2.2.2.2.2.1 a1.length s_.2.2.2.2.2.2.2.2.2.2.2.1], .agg #[.slice s_.2.2.2.2.2.2.2.2.2.2.2.2.1 n0.length s_.2.2.2.2.2.2.2.2.2.2.2.2.2.1, .slice s_.2.2.2.2.2.2.2.2.2.2.2.2.2.2.1 n1.length s_.2.2.2.2.2.2.2.2.2.2.2.2.2.2.2.1], .int .i64 er]), (31, .agg #[.slice s_.2.2.2.2.2.2.2.2.1 a0.length s_.2.2.2.2.2.2.2.2.2.1, .slice s_.2.2.2.2.2.2.2.2.2.2.1 a1.length s_.2.2.2.2.2.2.2.2.2.2.2.1]), (32, .agg #[.slice s_.2.2.2.2.2.2.2.2.2.2.2.2.1 n0.length s_.2.2.2.2.2.2.2.2.2.2.2.2.2.1, .slice s_.2.2.2.2.2.2.2.2.2.2.2.2.2.2.1 n1.length s_.2.2.2.2.2.2.2.2.2.2.2.2.2.2.2.1]), (33, .int .i64 er), (5, .pointer (some ⟨s_.2.2.2.2.2.2.2.2.2.2.2.2.2.2.2.2.1, 0, none⟩)), (6, .pointer (some ⟨s_.2.2.2.2.2.2.2.2.2.2.2.2.2.2.2.2.2, 0, none⟩))]) (fun s_ w' => (C2 w' g (.slice A0 l0.length c0) (.slice A1 l1.length c1) ∧ C2 w' h (.slice A2 l2.length c2) (.slice A3 l3.length c3)) ∧ (h < s_.2.2.2.2.2.2.2.2.2.2.2.2.2.2.2.2.1) ∧ (h < s_.2.2.2.2.2.2.2.2.2.2.2.2.2.2.2.2.2) ∧ (s_.2.2.2.2.2.2.2.2.2.2.2.2.2.2.2.2.1 ≠ s_.2.2.2.2.2.2.2.2.2.2.2.2.2.2.2.2.2) ∧ (w'.heap[g]? = some (.cells #[.slice A0 l0.length c0, .slice A1 l1.length c1] 25 (0, 0))) ∧ (Below w.heap.size w w') ∧ (w'.heap[h]? = some (.cells #[.slice A2 l2.length c2, .slice A3 l3.length c3] 27 (0, 0))) ∧ (RI w' s_.1 s_.2.1 l0) ∧ (RE w' s_.2.2.1 s_.2.2.2.1 l1) ∧ (RI w' s_.2.2.2.2.1 s_.2.2.2.2.2.1 l2) ∧ (RI w' s_.2.2.2.2.2.2.1 s_.2.2.2.2.2.2.2.1 l3) ∧ (RI w' s_.2.2.2.2.2.2.2.2.1 s_.2.2.2.2.2.2.2.2.2.1 a0) ∧ (RE w' s_.2.2.2.2.2.2.2.2.2.2.1 s_.2.2.2.2.2.2.2.2.2.2.2.1 a1) ∧ (RI w' s_.2.2.2.2.2.2.2.2.2.2.2.2.1 s_.2.2.2.2.2.2.2.2.2.2.2.2.2.1 n0) ∧ (RI w' s_.2.2.2.2.2.2.2.2.2.2.2.2.2.2.1 s_.2.2.2.2.2.2.2.2.2.2.2.2.2.2.2.1 n1) ∧ (Bk w' s_.2.2.2.2.2.2.2.2.2.2.2.2.2.2.2.2.1 25 nl nl) ∧ (Bk w' s_.2.2.2.2.2.2.2.2.2.2.2.2.2.2.2.2.2 51 nl nl)) ?_ ?_
 rotate_left
 ·intro J3_3
  refine join_ (σ := Option Addr × Nat × Option Addr × Nat × Option Addr × Nat × Option Addr × Nat × Option Addr × Nat × Option Addr × Nat × Option Addr × Nat × Option Addr × Nat × Nat) 4 #[true, true, true, true, true, true, true, true, true, false, true, false, false, false] (fun s_ => [(27, .agg #[.slice s_.1 l0.length s_.2.1, .slice s_.2.2.1 l1.length s_.2.2.2.1]), (29, .agg #[.slice s_.2.2.2.2.1 l2.length s_.2.2.2.2.2.1, .slice s_.2.2.2.2.2.2.1 l3.length s_.2.2.2.2.2.2.2.1]), (30, .tuple #[.agg #[.slice s_.2.2.2.2.2.2.2.2.1 a0.length s_.2.2.2.2.2.2.2.2.2.1, .slice s_.2.2.2.2.2.2.2.2.2.2.1 a1.length s_.2.2.2.2.2.2.2.2.2.2.2.1], .agg #[.slice s_.2.2.2.2.2.2.2.2.2.2.2.2.1 n0.length s_.2.2.2.2.2.2.2.2.2.2.2.2.2.1, .slice s_.2.2.2.2.2.2.2.2.2.2.2.2.2.2.1 n1.length s_.2.2.2.2.2.2.2.2.2.2.2.2.2.2.2.1], .int .i64 er]), (25, .tuple #[.agg #[.slice s_.2.2.2.2.2.2.2.2.1 a0.length s_.2.2.2.2.2.2.2.2.2.1, .slice s_.2.2.2.2.2.2.2.2.2.2.1 a1.length s_.2.2.2.2.2.2.2.2.2.2.2.1], .agg #[.slice s_.2.2.2.2.2.2.2.2.2.2.2.2.1 n0.length s_.2.2.2.2.2.2.2.2.2.2.2.2.2.1, .slice s_.2.2.2.2.2.2.2.2.2.2.2.2.2.2.1 n1.length s_.2.2.2.2.2.2.2.2.2.2.2.2.2.2.2.1], .int .i64 er]), (31, .agg #[.slice s_.2.2.2.2.2.2.2.2.1 a0.length s_.2.2.2.2.2.2.2.2.2.1, .slice s_.2.2.2.2.2.2.2.2.2.2.1 a1.length s_.2.2.2.2.2.2.2.2.2.2.2.1]), (32, .agg #[.slice s_.2.2.2.2.2.2.2.2.2.2.2.2.1 n0.length s_.2.2.2.2.2.2.2.2.2.2.2.2.2.1, .slice s_.2.2.2.2.2.2.2.2.2.2.2.2.2.2.1 n1.length s_.2.2.2.2.2.2.2.2.2.2.2.2.2.2.2.1]), (33, .int .i64 er), (6, .pointer (some ⟨s_.2.2.2.2.2.2.2.2.2.2.2.2.2.2.2.2, 0, none⟩))]) (fun s_ w' => (C2 w' g (.slice A0 l0.length c0) (.slice A1 l1.length c1) ∧ C2 w' h (.slice A2 l2.length c2) (.slice A3 l3.length c3)) ∧ (h < s_.2.2.2.2.2.2.2.2.2.2.2.2.2.2.2.2) ∧ (w'.heap[g]? = some (.cells #[.slice A0 l0.length c0, .slice A1 l1.length c1] 25 (0, 0))) ∧ (Below w.heap.size w w') ∧ (w'.heap[h]? = some (.cells #[.slice A2 l2.length c2, .slice A3 l3.length c3] 27 (0, 0))) ∧ (RI w' s_.1 s_.2.1 l0) ∧ (RE w' s_.2.2.1 s_.2.2.2.1 l1) ∧ (RI w' s_.2.2.2.2.1 s_.2.2.2.2.2.1 l2) ∧ (RI w' s_.2.2.2.2.2.2.1 s_.2.2.2.2.2.2.2.1 l3) ∧ (RI w' s_.2.2.2.2.2.2.2.2.1 s_.2.2.2.2.2.2.2.2.2.1 a0) ∧ (RE w' s_.2.2.2.2.2.2.2.2.2.2.1 s_.2.2.2.2.2.2.2.2.2.2.2.1 a1) ∧ (RI w' s_.2.2.2.2.2.2.2.2.2.2.2.2.1 s_.2.2.2.2.2.2.2.2.2.2.2.2.2.1 n0) ∧ (RI w' s_.2.2.2.2.2.2.2.2.2.2.2.2.2.2.1 s_.2.2.2.2.2.2.2.2.2.2.2.2.2.2.2.1 n1) ∧ (Bk w' s_.2.2.2.2.2.2.2.2.2.2.2.2.2.2.2.2 51 nl nl)) ?_ ?_
  rotate_left
  ·intro J3_2
   refine join_ (σ := Option Addr × Nat × Option Addr × Nat × Option Addr × Nat × Option Addr × Nat × Option Addr × Nat × Option Addr × Nat × Option Addr × Nat × Option Addr × Nat × Nat) 4 #[true, true, true, true, true, true, true, true, true, true, false, false, false, false] (fun s_ => [(27, .agg #[.slice s_.1 l0.length s_.2.1, .slice s_.2.2.1 l1.length s_.2.2.2.1]), (29, .agg #[.slice s_.2.2.2.2.1 l2.length s_.2.2.2.2.2.1, .slice s_.2.2.2.2.2.2.1 l3.length s_.2.2.2.2.2.2.2.1]), (30, .tuple #[.agg #[.slice s_.2.2.2.2.2.2.2.2.1 a0.length s_.2.2.2.2.2.2.2.2.2.1, .slice s_.2.2.2.2.2.2.2.2.2.2.1 a1.length s_.2.2.2.2.2.2.2.2.2.2.2.1], .agg #[.slice s_.2.2.2.2.2.2.2.2.2.2.2.2.1 n0.length s_.2.2.2.2.2.2.2.2.2.2.2.2.2.1, .slice s_.2.2.2.2.2.2.2.2.2.2.2.2.2.2.1 n1.length s_.2.2.2.2.2.2.2.2.2.2.2.2.2.2.2.1], .int .i64 er]), (25, .tuple #[.agg #[.slice s_.2.2.2.2.2.2.2.2.1 a0.length s_.2.2.2.2.2.2.2.2.2.1, .slice s_.2.2.2.2.2.2.2.2.2.2.1 a1.length s_.2.2.2.2.2.2.2.2.2.2.2.1], .agg #[.slice s_.2.2.2.2.2.2.2.2.2.2.2.2.1 n0.length s_.2.2.2.2.2.2.2.2.2.2.2.2.2.1, .slice s_.2.2.2.2.2.2.2.2.2.2.2.2.2.2.1 n1.length s_.2.2.2.2.2.2.2.2.2.2.2.2.2.2.2.1], .int .i64 er]), (31, .agg #[.slice s_.2.2.2.2.2.2.2.2.1 a0.length s_.2.2.2.2.2.2.2.2.2.1, .slice s_.2.2.2.2.2.2.2.2.2.2.1 a1.length s_.2.2.2.2.2.2.2.2.2.2.2.1]), (32, .agg #[.slice s_.2.2.2.2.2.2.2.2.2.2.2.2.1 n0.length s_.2.2.2.2.2.2.2.2.2.2.2.2.2.1, .slice s_.2.2.2.2.2.2.2.2.2.2.2.2.2.2.1 n1.length s_.2.2.2.2.2.2.2.2.2.2.2.2.2.2.2.1]), (33, .int .i64 er), (5, .pointer (some ⟨s_.2.2.2.2.2.2.2.2.2.2.2.2.2.2.2.2, 0, none⟩))]) (fun s_ w' => (C2 w' g (.slice A0 l0.length c0) (.slice A1 l1.length c1) ∧ C2 w' h (.slice A2 l2.length c2) (.slice A3 l3.length c3)) ∧ (h < s_.2.2.2.2.2.2.2.2.2.2.2.2.2.2.2.2) ∧ (w'.heap[g]? = some (.cells #[.slice A0 l0.length c0, .slice A1 l1.length c1] 25 (0, 0))) ∧ (Below w.heap.size w w') ∧ (w'.heap[h]? = some (.cells #[.slice A2 l2.length c2, .slice A3 l3.length c3] 27 (0, 0))) ∧ (RI w' s_.1 s_.2.1 l0) ∧ (RE w' s_.2.2.1 s_.2.2.2.1 l1) ∧ (RI w' s_.2.2.2.2.1 s_.2.2.2.2.2.1 l2) ∧ (RI w' s_.2.2.2.2.2.2.1 s_.2.2.2.2.2.2.2.1 l3) ∧ (RI w' s_.2.2.2.2.2.2.2.2.1 s_.2.2.2.2.2.2.2.2.2.1 a0) ∧ (RE w' s_.2.2.2.2.2.2.2.2.2.2.1 s_.2.2.2.2.2.2.2.2.2.2.2.1 a1) ∧ (RI w' s_.2.2.2.2.2.2.2.2.2.2.2.2.1 s_.2.2.2.2.2.2.2.2.2.2.2.2.2.1 n0) ∧ (RI w' s_.2.2.2.2.2.2.2.2.2.2.2.2.2.2.1 s_.2.2.2.2.2.2.2.2.2.2.2.2.2.2.2.1 n1) ∧ (Bk w' s_.2.2.2.2.2.2.2.2.2.2.2.2.2.2.2.2 25 nl nl)) ?_ ?_
   rotate_left
   ·intro J3_1
    refine join_ (σ := Option Addr × Nat × Option Addr × Nat × Option Addr × Nat × Option Addr × Nat × Option Addr × Nat × Option Addr × Nat × Option Addr × Nat × Option Addr × Nat) 5 #[true, true, true, true, true, true, true, true, true, false, false, false, false, false] (fun s_ => [(27, .agg #[.slice s_.1 l0.length s_.2.1, .slice s_.2.2.1 l1.length s_.2.2.2.1]), (29, .agg #[.slice s_.2.2.2.2.1 l2.length s_.2.2.2.2.2.1, .slice s_.2.2.2.2.2.2.1 l3.length s_.2.2.2.2.2.2.2.1]), (30, .tuple #[.agg #[.slice s_.2.2.2.2.2.2.2.2.1 a0.length s_.2.2.2.2.2.2.2.2.2.1, .slice s_.2.2.2.2.2.2.2.2.2.2.1 a1.length s_.2.2.2.2.2.2.2.2.2.2.2.1], .agg #[.slice s_.2.2.2.2.2.2.2.2.2.2.2.2.1 n0.length s_.2.2.2.2.2.2.2.2.2.2.2.2.2.1, .slice s_.2.2.2.2.2.2.2.2.2.2.2.2.2.2.1 n1.length s_.2.2.2.2.2.2.2.2.2.2.2.2.2.2.2], .int .i64 er]), (25, .tuple #[.agg #[.slice s_.2.2.2.2.2.2.2.2.1 a0.length s_.2.2.2.2.2.2.2.2.2.1, .slice s_.2.2.2.2.2.2.2.2.2.2.1 a1.length s_.2.2.2.2.2.2.2.2.2.2.2.1], .agg #[.slice s_.2.2.2.2.2.2.2.2.2.2.2.2.1 n0.length s_.2.2.2.2.2.2.2.2.2.2.2.2.2.1, .slice s_.2.2.2.2.2.2.2.2.2.2.2.2.2.2.1 n1.length s_.2.2.2.2.2.2.2.2.2.2.2.2.2.2.2], .int .i64 er]), (31, .agg #[.slice s_.2.2.2.2.2.2.2.2.1 a0.length s_.2.2.2.2.2.2.2.2.2.1, .slice s_.2.2.2.2.2.2.2.2.2.2.1 a1.length s_.2.2.2.2.2.2.2.2.2.2.2.1]), (32, .agg #[.slice s_.2.2.2.2.2.2.2.2.2.2.2.2.1 n0.length s_.2.2.2.2.2.2.2.2.2.2.2.2.2.1, .slice s_.2.2.2.2.2.2.2.2.2.2.2.2.2.2.1 n1.length s_.2.2.2.2.2.2.2.2.2.2.2.2.2.2.2]), (33, .int .i64 er)]) (fun s_ w' => (C2 w' g (.slice A0 l0.length c0) (.slice A1 l1.length c1) ∧ C2 w' h (.slice A2 l2.length c2) (.slice A3 l3.length c3)) ∧ (w'.heap[g]? = some (.cells #[.slice A0 l0.length c0, .slice A1 l1.length c1] 25 (0, 0))) ∧ (Below w.heap.size w w') ∧ (w'.heap[h]? = some (.cells #[.slice A2 l2.length c2, .slice A3 l3.length c3] 27 (0, 0))) ∧ (RI w' s_.1 s_.2.1 l0) ∧ (RE w' s_.2.2.1 s_.2.2.2.1 l1) ∧ (RI w' s_.2.2.2.2.1 s_.2.2.2.2.2.1 l2) ∧ (RI w' s_.2.2.2.2.2.2.1 s_.2.2.2.2.2.2.2.1 l3) ∧ (RI w' s_.2.2.2.2.2.2.2.2.1 s_.2.2.2.2.2.2.2.2.2.1 a0) ∧ (RE w' s_.2.2.2.2.2.2.2.2.2.2.1 s_.2.2.2.2.2.2.2.2.2.2.2.1 a1) ∧ (RI w' s_.2.2.2.2.2.2.2.2.2.2.2.2.1 s_.2.2.2.2.2.2.2.2.2.2.2.2.2.1 n0) ∧ (RI w' s_.2.2.2.2.2.2.2.2.2.2.2.2.2.2.1 s_.2.2.2.2.2.2.2.2.2.2.2.2.2.2.2 n1)) ?_ ?_
    rotate_left
    ·intro J3_0
     refine join_ (σ := Option Addr × Nat × Option Addr × Nat × Option Addr × Nat × Option Addr × Nat × Nat × Nat) 8 #[true, true, true, true, false, false, false, false, false, true, true, false, false, false] (fun s_ => [(27, .agg #[.slice s_.1 l0.length s_.2.1, .slice s_.2.2.1 l1.length s_.2.2.2.1]), (29, .agg #[.slice s_.2.2.2.2.1 l2.length s_.2.2.2.2.2.1, .slice s_.2.2.2.2.2.2.1 l3.length s_.2.2.2.2.2.2.2.1]), (5, .pointer (some ⟨s_.2.2.2.2.2.2.2.2.1, 0, none⟩)), (6, .pointer (some ⟨s_.2.2.2.2.2.2.2.2.2, 0, none⟩))]) (fun s_ w' => (C2 w' g (.slice A0 l0.length c0) (.slice A1 l1.length c1) ∧ C2 w' h (.slice A2 l2.length c2) (.slice A3 l3.length c3)) ∧ (h < s_.2.2.2.2.2.2.2.2.1) ∧ (h < s_.2.2.2.2.2.2.2.2.2) ∧ (s_.2.2.2.2.2.2.2.2.1 ≠ s_.2.2.2.2.2.2.2.2.2) ∧ (w'.heap[g]? = some (.cells #[.slice A0 l0.length c0, .slice A1 l1.length c1] 25 (0, 0))) ∧ (Below w.heap.size w w') ∧ (w'.heap[h]? = some (.cells #[.slice A2 l2.length c2, .slice A3 l3.length c3] 27 (0, 0))) ∧ (RI w' s_.1 s_.2.1 l0) ∧ (RE w' s_.2.2.1 s_.2.2.2.1 l1) ∧ (RI w' s_.2.2.2.2.1 s_.2.2.2.2.2.1 l2) ∧ (RI w' s_.2.2.2.2.2.2.1 s_.2.2.2.2.2.2.2.1 l3) ∧ (Bk w' s_.2.2.2.2.2.2.2.2.1 25 nl nl) ∧ (Bk w' s_.2.2.2.2.2.2.2.2.2 51 nl nl)) ?_ ?_
     rotate_left
     ·intro J2_3
      refine join_ (σ := Option Addr × Nat × Option Addr × Nat × Option Addr × Nat × Option Addr × Nat × Nat) 9 #[true, true, true, true, false, false, false, false, false, false, true, false, false, false] (fun s_ => [(27, .agg #[.slice s_.1 l0.length s_.2.1, .slice s_.2.2.1 l1.length s_.2.2.2.1]), (29, .agg #[.slice s_.2.2.2.2.1 l2.length s_.2.2.2.2.2.1, .slice s_.2.2.2.2.2.2.1 l3.length s_.2.2.2.2.2.2.2.1]), (6, .pointer (some ⟨s_.2.2.2.2.2.2.2.2, 0, none⟩))]) (fun s_ w' => (C2 w' g (.slice A0 l0.length c0) (.slice A1 l1.length c1) ∧ C2 w' h (.slice A2 l2.length c2) (.slice A3 l3.length c3)) ∧ (h < s_.2.2.2.2.2.2.2.2) ∧ (w'.heap[g]? = some (.cells #[.slice A0 l0.length c0, .slice A1 l1.length c1] 25 (0, 0))) ∧ (Below w.heap.size w w') ∧ (w'.heap[h]? = some (.cells #[.slice A2 l2.length c2, .slice A3 l3.length c3] 27 (0, 0))) ∧ (RI w' s_.1 s_.2.1 l0) ∧ (RE w' s_.2.2.1 s_.2.2.2.1 l1) ∧ (RI w' s_.2.2.2.2.1 s_.2.2.2.2.2.1 l2) ∧ (RI w' s_.2.2.2.2.2.2.1 s_.2.2.2.2.2.2.2.1 l3) ∧ (Bk w' s_.2.2.2.2.2.2.2.2 51 nl nl)) ?_ ?_
      rotate_left
      ·intro J2_2
       refine join_ (σ := Option Addr × Nat × Option Addr × Nat × Option Addr × Nat × Option Addr × Nat × Nat) 9 #[true, true, true, true, false, false, false, false, false, true, false, false, false, false] (fun s_ => [(27, .agg #[.slice s_.1 l0.length s_.2.1, .slice s_.2.2.1 l1.length s_.2.2.2.1]), (29, .agg #[.slice s_.2.2.2.2.1 l2.length s_.2.2.2.2.2.1, .slice s_.2.2.2.2.2.2.1 l3.length s_.2.2.2.2.2.2.2.1]), (5, .pointer (some ⟨s_.2.2.2.2.2.2.2.2, 0, none⟩))]) (fun s_ w' => (C2 w' g (.slice A0 l0.length c0) (.slice A1 l1.length c1) ∧ C2 w' h (.slice A2 l2.length c2) (.slice A3 l3.length c3)) ∧ (h < s_.2.2.2.2.2.2.2.2) ∧ (w'.heap[g]? = some (.cells #[.slice A0 l0.length c0, .slice A1 l1.length c1] 25 (0, 0))) ∧ (Below w.heap.size w w') ∧ (w'.heap[h]? = some (.cells #[.slice A2 l2.length c2, .slice A3 l3.length c3] 27 (0, 0))) ∧ (RI w' s_.1 s_.2.1 l0) ∧ (RE w' s_.2.2.1 s_.2.2.2.1 l1) ∧ (RI w' s_.2.2.2.2.1 s_.2.2.2.2.2.1 l2) ∧ (RI w' s_.2.2.2.2.2.2.1 s_.2.2.2.2.2.2.2.1 l3) ∧ (Bk w' s_.2.2.2.2.2.2.2.2 25 nl nl)) ?_ ?_
       rotate_left
       ·intro J2_1
        refine join_ (σ := Option Addr × Nat × Option Addr × Nat × Option Addr × Nat × Option Addr × Nat) 10 #[true, true, true, true, false, false, false, false, false, false, false, false, false, false] (fun s_ => [(27, .agg #[.slice s_.1 l0.length s_.2.1, .slice s_.2.2.1 l1.length s_.2.2.2.1]), (29, .agg #[.slice s_.2.2.2.2.1 l2.length s_.2.2.2.2.2.1, .slice s_.2.2.2.2.2.2.1 l3.length s_.2.2.2.2.2.2.2])]) (fun s_ w' => (C2 w' g (.slice A0 l0.length c0) (.slice A1 l1.length c1) ∧ C2 w' h (.slice A2 l2.length c2) (.slice A3 l3.length c3)) ∧ (w'.heap[g]? = some (.cells #[.slice A0 l0.length c0, .slice A1 l1.length c1] 25 (0, 0))) ∧ (Below w.heap.size w w') ∧ (w'.heap[h]? = some (.cells #[.slice A2 l2.length c2, .slice A3 l3.length c3] 27 (0, 0))) ∧ (RI w' s_.1 s_.2.1 l0) ∧ (RE w' s_.2.2.1 s_.2.2.2.1 l1) ∧ (RI w' s_.2.2.2.2.1 s_.2.2.2.2.2.1 l2) ∧ (RI w' s_.2.2.2.2.2.2.1 s_.2.2.2.2.2.2.2 l3)) ?_ ?_
        rotate_left
        ·intro J2_0
         refine join_ (σ := Option Addr × Nat × Option Addr × Nat × Nat × Nat) 9 #[true, true, true, false, false, false, false, false, false, true, true, false, false, false] (fun s_ => [(27, .agg #[.slice s_.1 l0.length s_.2.1, .slice s_.2.2.1 l1.length s_.2.2.2.1]), (5, .pointer (some ⟨s_.2.2.2.2.1, 0, none⟩)), (6, .pointer (some ⟨s_.2.2.2.2.2, 0, none⟩))]) (fun s_ w' => (C2 w' g (.slice A0 l0.length c0) (.slice A1 l1.length c1) ∧ C2 w' h (.slice A2 l2.length c2) (.slice A3 l3.length c3)) ∧ (h < s_.2.2.2.2.1) ∧ (h < s_.2.2.2.2.2) ∧ (s_.2.2.2.2.1 ≠ s_.2.2.2.2.2) ∧ (w'.heap[g]? = some (.cells #[.slice A0 l0.length c0, .slice A1 l1.length c1] 25 (0, 0))) ∧ (Below w.heap.size w w') ∧ (w'.heap[h]? = some (.cells #[.slice A2 l2.length c2, .slice A3 l3.length c3] 27 (0, 0))) ∧ (RI w' s_.1 s_.2.1 l0) ∧ (RE w' s_.2.2.1 s_.2.2.2.1 l1) ∧ (Bk w' s_.2.2.2.2.1 25 nl nl) ∧ (Bk w' s_.2.2.2.2.2 51 nl nl)) ?_ ?_
         rotate_left
         ·intro J1_3
          refine join_ (σ := Option Addr × Nat × Option Addr × Nat × Nat) 10 #[true, true, true, false, false, false, false, false, false, false, true, false, false, false] (fun s_ => [(27, .agg #[.slice s_.1 l0.length s_.2.1, .slice s_.2.2.1 l1.length s_.2.2.2.1]), (6, .pointer (some ⟨s_.2.2.2.2, 0, none⟩))]) (fun s_ w' => (C2 w' g (.slice A0 l0.length c0) (.slice A1 l1.length c1) ∧ C2 w' h (.slice A2 l2.length c2) (.slice A3 l3.length c3)) ∧ (h < s_.2.2.2.2) ∧ (w'.heap[g]? = some (.cells #[.slice A0 l0.length c0, .slice A1 l1.length c1] 25 (0, 0))) ∧ (Below w.heap.size w w') ∧ (w'.heap[h]? = some (.cells #[.slice A2 l2.length c2, .slice A3 l3.length c3] 27 (0, 0))) ∧ (RI w' s_.1 s_.2.1 l0) ∧ (RE w' s_.2.2.1 s_.2.2.2.1 l1) ∧ (Bk w' s_.2.2.2.2 51 nl nl)) ?_ ?_
          rotate_left
          ·intro J1_2
           refine join_ (σ := Option Addr × Nat × Option Addr × Nat × Nat) 10 #[true, true, true, false, false, false, false, false, false, true, false, false, false, false] (fun s_ => [(27, .agg #[.slice s_.1 l0.length s_.2.1, .slice s_.2.2.1 l1.length s_.2.2.2.1]), (5, .pointer (some ⟨s_.2.2.2.2, 0, none⟩))]) (fun s_ w' => (C2 w' g (.slice A0 l0.length c0) (.slice A1 l1.length c1) ∧ C2 w' h (.slice A2 l2.length c2) (.slice A3 l3.length c3)) ∧ (h < s_.2.2.2.2) ∧ (w'.heap[g]? = some (.cells #[.slice A0 l0.length c0, .slice A1 l1.length c1] 25 (0, 0))) ∧ (Below w.heap.size w w') ∧ (w'.heap[h]? = some (.cells #[.slice A2 l2.length c2, .slice A3 l3.length c3] 27 (0, 0))) ∧ (RI w' s_.1 s_.2.1 l0) ∧ (RE w' s_.2.2.1 s_.2.2.2.1 l1) ∧ (Bk w' s_.2.2.2.2 25 nl nl)) ?_ ?_
           rotate_left
           ·intro J1_1
            refine join_ (σ := Option Addr × Nat × Option Addr × Nat) 11 #[true, true, true, false, false, false, false, false, false, false, false, false, false, false] (fun s_ => [(27, .agg #[.slice s_.1 l0.length s_.2.1, .slice s_.2.2.1 l1.length s_.2.2.2])]) (fun s_ w' => (C2 w' g (.slice A0 l0.length c0) (.slice A1 l1.length c1) ∧ C2 w' h (.slice A2 l2.length c2) (.slice A3 l3.length c3)) ∧ (w'.heap[g]? = some (.cells #[.slice A0 l0.length c0, .slice A1 l1.length c1] 25 (0, 0))) ∧ (Below w.heap.size w w') ∧ (w'.heap[h]? = some (.cells #[.slice A2 l2.length c2, .slice A3 l3.length c3] 27 (0, 0))) ∧ (RI w' s_.1 s_.2.1 l0) ∧ (RE w' s_.2.2.1 s_.2.2.2 l1)) ?_ ?_
            rotate_left
            ·intro J1_0
             refine join_ (σ := Nat × Nat) 10 #[true, false, true, false, false, false, false, false, false, true, true, false, false, false] (fun s_ => [(5, .pointer (some ⟨s_.1, 0, none⟩)), (6, .pointer (some ⟨s_.2, 0, none⟩))]) (fun s_ w' => (C2 w' g (.slice A0 l0.length c0) (.slice A1 l1.length c1) ∧ C2 w' h (.slice A2 l2.length c2) (.slice A3 l3.length c3)) ∧ (h < s_.1) ∧ (h < s_.2) ∧ (s_.1 ≠ s_.2) ∧ (w'.heap[g]? = some (.cells #[.slice A0 l0.length c0, .slice A1 l1.length c1] 25 (0, 0))) ∧ (Below w.heap.size w w') ∧ (w'.heap[h]? = some (.cells #[.slice A2 l2.length c2, .slice A3 l3.length c3] 27 (0, 0))) ∧ (Bk w' s_.1 25 nl nl) ∧ (Bk w' s_.2 51 nl nl)) ?_ ?_
             rotate_left
             ·intro J0_3
              refine join_ (σ := Nat) 11 #[true, false, true, false, false, false, false, false, false, false, true, false, false, false] (fun s_ => [(6, .pointer (some ⟨s_, 0, none⟩))]) (fun s_ w' => (C2 w' g (.slice A0 l0.length c0) (.slice A1 l1.length c1) ∧ C2 w' h (.slice A2 l2.length c2) (.slice A3 l3.length c3)) ∧ (h < s_) ∧ (w'.heap[g]? = some (.cells #[.slice A0 l0.length c0, .slice A1 l1.length c1] 25 (0, 0))) ∧ (Below w.heap.size w w') ∧ (w'.heap[h]? = some (.cells #[.slice A2 l2.length c2, .slice A3 l3.length c3] 27 (0, 0))) ∧ (Bk w' s_ 51 nl nl)) ?_ ?_
              rotate_left
              ·intro J0_2
               refine join_ (σ := Nat) 11 #[true, false, true, false, false, false, false, false, false, true, false, false, false, false] (fun s_ => [(5, .pointer (some ⟨s_, 0, none⟩))]) (fun s_ w' => (C2 w' g (.slice A0 l0.length c0) (.slice A1 l1.length c1) ∧ C2 w' h (.slice A2 l2.length c2) (.slice A3 l3.length c3)) ∧ (h < s_) ∧ (w'.heap[g]? = some (.cells #[.slice A0 l0.length c0, .slice A1 l1.length c1] 25 (0, 0))) ∧ (Below w.heap.size w w') ∧ (w'.heap[h]? = some (.cells #[.slice A2 l2.length c2, .slice A3 l3.length c3] 27 (0, 0))) ∧ (Bk w' s_ 25 nl nl)) ?_ ?_
               rotate_left
               ·intro J0_1
                refine three_ (i := 1) (j := 9) (k := 10) (Ni := some 27) (Nj := some 5) (Nk := some 6) #[true, true, true, false, false, false, false, false, false, false, false, false, false, false] #[true, false, true, false, false, false, false, false, false, true, false, false, false, false] #[true, false, true, false, false, false, false, false, false, false, true, false, false, false] rfl rfl rfl rfl rfl rfl (by kernel_rfl) (by decide) (by decide) (by decide) (fun K hK => ?_) (fun K hK => ?_) (fun K hK => ?_)
                ·skip
                 refine goes_ Try.func14 (by kernel_rfl) rfl #[.agg #[.slice A0 l0.length c0, .slice A1 l1.length c1]] (by rfl) rfl rfl (by (try simp only [List.map_toArray, List.map_cons, List.map_nil]); first | done | rfl) ?_
                 with_reducible refine (scarfjointref05_Copied.calls A0 c0 l0 A1 c1 l1 l0 l1 _ (Kd.C_below R0.out BL.out) M0.out (Kd.C_below R1.out BL.out) M1.out hcp).mono ?_
                 rintro e w_ ⟨v0, v1, rfl, ho0, ho1, hb⟩
                 refine ⟨_, rfl, ?_⟩
                 obtain ⟨A4, c4, rfl⟩ := Kd.R_slice ho0; obtain ⟨A5, c5, rfl⟩ := Kd.R_slice ho1; replace BG := Lib.hid (blk_below BG.out hb); replace BL := Lib.hid (below_then BL.out BL.out.size hb); replace BE := Lib.hid (blk_below BE.out hb); have R4 := Lib.hid (toR ho0); have R5 := Lib.hid (toR ho1); clear ho0 ho1 hb
                 refine hK.out _ _ ⟨cell2 BG.out, cell2 BE.out⟩ (fun hHeld => ?_)
                 clear hK K
                 refine norm_ (a' := ?_) ?_ ?_
                 rotate_left
                 ·show Act.put _ (some 27) _ = _
                  simp only [Act.put, sI_, s0_, sS_, i64_w, i32_w]
                  rfl
                 exact norm_ (by first | (simp only [putAll, Act.put, sI_, s0_, sS_]; done) | (simp only [putAll, Act.put, sI_, s0_, sS_]; rfl)) (J1_0 (A4, c4, A5, c5) _ ⟨hHeld, BG.out, BL.out, BE.out, R4.out, R5.out⟩)
                ·skip
                 refine box_step ?hg (N := 5) ?hd (cs := #[.slice none 0 0, .slice none 0 0]) (t := 25) ?hr ?_; (case hd => rfl); (case hg => rfl); (case hr => first | (go_simp; done) | (go_simp; rfl))
                 intro x hg w_ hbox hb
                 have Hx : h < x := by rw [hg]; exact blk_lt BE.out
                 replace BG := Lib.hid (blk_below BG.out hb); replace BL := Lib.hid (below_then BL.out BL.out.size hb); replace BE := Lib.hid (blk_below BE.out hb); have BX := Lib.hid hbox; clear hg hbox hb
                 refine hK.out _ _ ⟨cell2 BG.out, cell2 BE.out⟩ (fun hHeld => ?_)
                 clear hK K
                 refine norm_ (a' := ?_) ?_ ?_
                 rotate_left
                 ·show Act.put _ (some 5) _ = _
                  simp only [Act.put, sI_, s0_, sS_, i64_w, i32_w]
                  rfl
                 exact norm_ (by first | (simp only [putAll, Act.put, sI_, s0_, sS_]; done) | (simp only [putAll, Act.put, sI_, s0_, sS_]; rfl)) (J0_1 x _ ⟨hHeld, Hx, BG.out, BL.out, BE.out, BX.out⟩)
                ·skip
                 refine box_step ?hg (N := 6) ?hd (cs := #[.slice none 0 0, .slice none 0 0]) (t := 51) ?hr ?_; (case hd => rfl); (case hg => rfl); (case hr => first | (go_simp; done) | (go_simp; rfl))
                 intro y hg w_ hbox hb
                 have Hy : h < y := by rw [hg]; exact blk_lt BE.out
                 replace BG := Lib.hid (blk_below BG.out hb); replace BL := Lib.hid (below_then BL.out BL.out.size hb); replace BE := Lib.hid (blk_below BE.out hb); have BY := Lib.hid hbox; clear hg hbox hb
                 refine hK.out _ _ ⟨cell2 BG.out, cell2 BE.out⟩ (fun hHeld => ?_)
                 clear hK K
                 refine norm_ (a' := ?_) ?_ ?_
                 rotate_left
                 ·show Act.put _ (some 6) _ = _
                  simp only [Act.put, sI_, s0_, sS_, i64_w, i32_w]
                  rfl
                 exact norm_ (by first | (simp only [putAll, Act.put, sI_, s0_, sS_]; done) | (simp only [putAll, Act.put, sI_, s0_, sS_]; rfl)) (J0_2 y _ ⟨hHeld, Hy, BG.out, BL.out, BE.out, BY.out⟩)
               rintro x w_ ⟨hHeld, Hx, qBG, qBL, qBE, qBX⟩; replace Hx : h < x := Hx
               replace BG : Hid (w_.heap[g]? = some (.cells #[.slice A0 l0.length c0, .slice A1 l1.length c1] 25 (0, 0))) := Lib.hid qBG; clear qBG
               replace BL : Hid (Below w.heap.size w w_) := Lib.hid qBL; clear qBL
               replace BE : Hid (w_.heap[h]? = some (.cells #[.slice A2 l2.length c2, .slice A3 l3.length c3] 27 (0, 0))) := Lib.hid qBE; clear qBE
               have BX : Hid (Bk w_ x 25 nl nl) := Lib.hid qBX; clear qBX
               refine norm_ (a' := ?_) ?_ ?_
               rotate_left
               ·simp only [putAll, Act.put, sI_, s0_, sS_]
                rfl
               refine two_ (i := 1) (j := 10) (Ni := some 27) (Nj := some 6) #[true, true, true, false, false, false, false, false, false, true, false, false, false, false] #[true, false, true, false, false, false, false, false, false, true, true, false, false, false] rfl rfl rfl rfl (by kernel_rfl) (by decide) (by decide) (fun K hK => ?_) (fun K hK => ?_)
               ·skip
                refine goes_ Try.func14 (by kernel_rfl) rfl #[.agg #[.slice A0 l0.length c0, .slice A1 l1.length c1]] (by rfl) rfl rfl (by (try simp only [List.map_toArray, List.map_cons, List.map_nil]); first | done | rfl) ?_
                with_reducible refine (scarfjointref05_Copied.calls A0 c0 l0 A1 c1 l1 l0 l1 _ (Kd.C_below R0.out BL.out) M0.out (Kd.C_below R1.out BL.out) M1.out hcp).mono ?_
                rintro e w_ ⟨v0, v1, rfl, ho0, ho1, hb⟩
                refine ⟨_, rfl, ?_⟩
                obtain ⟨A4, c4, rfl⟩ := Kd.R_slice ho0; obtain ⟨A5, c5, rfl⟩ := Kd.R_slice ho1; replace BG := Lib.hid (blk_below BG.out hb); replace BL := Lib.hid (below_then BL.out BL.out.size hb); replace BE := Lib.hid (blk_below BE.out hb); replace BX := Lib.hid (blk_below BX.out hb); have R4 := Lib.hid (toR ho0); have R5 := Lib.hid (toR ho1); clear ho0 ho1 hb
                refine hK.out _ _ ⟨cell2 BG.out, cell2 BE.out⟩ (fun hHeld => ?_)
                clear hK K
                refine norm_ (a' := ?_) ?_ ?_
                rotate_left
                ·show Act.put _ (some 27) _ = _
                 simp only [Act.put, sI_, s0_, sS_, i64_w, i32_w]
                 rfl
                exact norm_ (by first | (simp only [putAll, Act.put, sI_, s0_, sS_]; done) | (simp only [putAll, Act.put, sI_, s0_, sS_]; rfl)) (J1_1 (A4, c4, A5, c5, x) _ ⟨hHeld, Hx, BG.out, BL.out, BE.out, R4.out, R5.out, BX.out⟩)
               ·skip
                refine box_step ?hg (N := 6) ?hd (cs := #[.slice none 0 0, .slice none 0 0]) (t := 51) ?hr ?_; (case hd => rfl); (case hg => rfl); (case hr => first | (go_simp; done) | (go_simp; rfl))
                intro y hg w_ hbox hb
                have Hy : h < y := by rw [hg]; exact blk_lt BE.out
                have Hxy : x ≠ y := by have q_ := blk_lt BX.out; rw [← hg] at q_; omega
                replace BG := Lib.hid (blk_below BG.out hb); replace BL := Lib.hid (below_then BL.out BL.out.size hb); replace BE := Lib.hid (blk_below BE.out hb); replace BX := Lib.hid (blk_below BX.out hb); have BY := Lib.hid hbox; clear hg hbox hb
                refine hK.out _ _ ⟨cell2 BG.out, cell2 BE.out⟩ (fun hHeld => ?_)
                clear hK K
                refine norm_ (a' := ?_) ?_ ?_
                rotate_left
                ·show Act.put _ (some 6) _ = _
                 simp only [Act.put, sI_, s0_, sS_, i64_w, i32_w]
                 rfl
                exact norm_ (by first | (simp only [putAll, Act.put, sI_, s0_, sS_]; done) | (simp only [putAll, Act.put, sI_, s0_, sS_]; rfl)) (J0_3 (x, y) _ ⟨hHeld, Hx, Hy, Hxy, BG.out, BL.out, BE.out, BX.out, BY.out⟩)
              rintro y w_ ⟨hHeld, Hy, qBG, qBL, qBE, qBY⟩; replace Hy : h < y := Hy
              replace BG : Hid (w_.heap[g]? = some (.cells #[.slice A0 l0.length c0, .slice A1 l1.length c1] 25 (0, 0))) := Lib.hid qBG; clear qBG
              replace BL : Hid (Below w.heap.size w w_) := Lib.hid qBL; clear qBL
              replace BE : Hid (w_.heap[h]? = some (.cells #[.slice A2 l2.length c2, .slice A3 l3.length c3] 27 (0, 0))) := Lib.hid qBE; clear qBE
              have BY : Hid (Bk w_ y 51 nl nl) := Lib.hid qBY; clear qBY
              refine norm_ (a' := ?_) ?_ ?_
              rotate_left
              ·simp only [putAll, Act.put, sI_, s0_, sS_]
               rfl
              refine two_ (i := 1) (j := 9) (Ni := some 27) (Nj := some 5) #[true, true, true, false, false, false, false, false, false, false, true, false, false, false] #[true, false, true, false, false, false, false, false, false, true, true, false, false, false] rfl rfl rfl rfl (by kernel_rfl) (by decide) (by decide) (fun K hK => ?_) (fun K hK => ?_)
              ·skip
               refine goes_ Try.func14 (by kernel_rfl) rfl #[.agg #[.slice A0 l0.length c0, .slice A1 l1.length c1]] (by rfl) rfl rfl (by (try simp only [List.map_toArray, List.map_cons, List.map_nil]); first | done | rfl) ?_
               with_reducible refine (scarfjointref05_Copied.calls A0 c0 l0 A1 c1 l1 l0 l1 _ (Kd.C_below R0.out BL.out) M0.out (Kd.C_below R1.out BL.out) M1.out hcp).mono ?_
               rintro e w_ ⟨v0, v1, rfl, ho0, ho1, hb⟩
               refine ⟨_, rfl, ?_⟩
               obtain ⟨A4, c4, rfl⟩ := Kd.R_slice ho0; obtain ⟨A5, c5, rfl⟩ := Kd.R_slice ho1; replace BG := Lib.hid (blk_below BG.out hb); replace BL := Lib.hid (below_then BL.out BL.out.size hb); replace BE := Lib.hid (blk_below BE.out hb); replace BY := Lib.hid (blk_below BY.out hb); have R4 := Lib.hid (toR ho0); have R5 := Lib.hid (toR ho1); clear ho0 ho1 hb
               refine hK.out _ _ ⟨cell2 BG.out, cell2 BE.out⟩ (fun hHeld => ?_)
               clear hK K
               refine norm_ (a' := ?_) ?_ ?_
               rotate_left
               ·show Act.put _ (some 27) _ = _
                simp only [Act.put, sI_, s0_, sS_, i64_w, i32_w]
                rfl
               exact norm_ (by first | (simp only [putAll, Act.put, sI_, s0_, sS_]; done) | (simp only [putAll, Act.put, sI_, s0_, sS_]; rfl)) (J1_2 (A4, c4, A5, c5, y) _ ⟨hHeld, Hy, BG.out, BL.out, BE.out, R4.out, R5.out, BY.out⟩)
              ·skip
               refine box_step ?hg (N := 5) ?hd (cs := #[.slice none 0 0, .slice none 0 0]) (t := 25) ?hr ?_; (case hd => rfl); (case hg => rfl); (case hr => first | (go_simp; done) | (go_simp; rfl))
               intro x hg w_ hbox hb
               have Hx : h < x := by rw [hg]; exact blk_lt BE.out
               have Hxy : x ≠ y := by have q_ := blk_lt BY.out; rw [← hg] at q_; omega
               replace BG := Lib.hid (blk_below BG.out hb); replace BL := Lib.hid (below_then BL.out BL.out.size hb); replace BE := Lib.hid (blk_below BE.out hb); replace BY := Lib.hid (blk_below BY.out hb); have BX := Lib.hid hbox; clear hg hbox hb
               refine hK.out _ _ ⟨cell2 BG.out, cell2 BE.out⟩ (fun hHeld => ?_)
               clear hK K
               refine norm_ (a' := ?_) ?_ ?_
               rotate_left
               ·show Act.put _ (some 5) _ = _
                simp only [Act.put, sI_, s0_, sS_, i64_w, i32_w]
                rfl
               exact norm_ (by first | (simp only [putAll, Act.put, sI_, s0_, sS_]; done) | (simp only [putAll, Act.put, sI_, s0_, sS_]; rfl)) (J0_3 (x, y) _ ⟨hHeld, Hx, Hy, Hxy, BG.out, BL.out, BE.out, BX.out, BY.out⟩)
             rintro ⟨x, y⟩ w_ ⟨hHeld, Hx, Hy, Hxy, qBG, qBL, qBE, qBX, qBY⟩; replace Hx : h < x := Hx; replace Hy : h < y := Hy; replace Hxy : x ≠ y := Hxy
             replace BG : Hid (w_.heap[g]? = some (.cells #[.slice A0 l0.length c0, .slice A1 l1.length c1] 25 (0, 0))) := Lib.hid qBG; clear qBG
             replace BL : Hid (Below w.heap.size w w_) := Lib.hid qBL; clear qBL
             replace BE : Hid (w_.heap[h]? = some (.cells #[.slice A2 l2.length c2, .slice A3 l3.length c3] 27 (0, 0))) := Lib.hid qBE; clear qBE
             have BX : Hid (Bk w_ x 25 nl nl) := Lib.hid qBX; clear qBX
             have BY : Hid (Bk w_ y 51 nl nl) := Lib.hid qBY; clear qBY
             refine norm_ (a' := ?_) ?_ ?_
             rotate_left
             ·simp only [putAll, Act.put, sI_, s0_, sS_]
              rfl
             refine one_ (i := 1) (N := some 27) #[true, true, true, false, false, false, false, false, false, true, true, false, false, false] rfl rfl (by kernel_rfl) (by decide) (fun K hK => ?_)
             refine goes_ Try.func14 (by kernel_rfl) rfl #[.agg #[.slice A0 l0.length c0, .slice A1 l1.length c1]] (by rfl) rfl rfl (by (try simp only [List.map_toArray, List.map_cons, List.map_nil]); first | done | rfl) ?_
             with_reducible refine (scarfjointref05_Copied.calls A0 c0 l0 A1 c1 l1 l0 l1 _ (Kd.C_below R0.out BL.out) M0.out (Kd.C_below R1.out BL.out) M1.out hcp).mono ?_
             rintro e w_ ⟨v0, v1, rfl, ho0, ho1, hb⟩
             refine ⟨_, rfl, ?_⟩
             obtain ⟨A4, c4, rfl⟩ := Kd.R_slice ho0; obtain ⟨A5, c5, rfl⟩ := Kd.R_slice ho1; replace BG := Lib.hid (blk_below BG.out hb); replace BL := Lib.hid (below_then BL.out BL.out.size hb); replace BE := Lib.hid (blk_below BE.out hb); replace BX := Lib.hid (blk_below BX.out hb); replace BY := Lib.hid (blk_below BY.out hb); have R4 := Lib.hid (toR ho0); have R5 := Lib.hid (toR ho1); clear ho0 ho1 hb
             refine hK.out _ _ ⟨cell2 BG.out, cell2 BE.out⟩ (fun hHeld => ?_)
             clear hK K
             refine norm_ (a' := ?_) ?_ ?_
             rotate_left
             ·show Act.put _ (some 27) _ = _
              simp only [Act.put, sI_, s0_, sS_, i64_w, i32_w]
              rfl
             exact norm_ (by first | (simp only [putAll, Act.put, sI_, s0_, sS_]; done) | (simp only [putAll, Act.put, sI_, s0_, sS_]; rfl)) (J1_3 (A4, c4, A5, c5, x, y) _ ⟨hHeld, Hx, Hy, Hxy, BG.out, BL.out, BE.out, R4.out, R5.out, BX.out, BY.out⟩)
            rintro ⟨A4, c4, A5, c5⟩ w_ ⟨hHeld, qBG, qBL, qBE, qR4, qR5⟩
            replace BG : Hid (w_.heap[g]? = some (.cells #[.slice A0 l0.length c0, .slice A1 l1.length c1] 25 (0, 0))) := Lib.hid qBG; clear qBG
            replace BL : Hid (Below w.heap.size w w_) := Lib.hid qBL; clear qBL
            replace BE : Hid (w_.heap[h]? = some (.cells #[.slice A2 l2.length c2, .slice A3 l3.length c3] 27 (0, 0))) := Lib.hid qBE; clear qBE
            have R4 : Hid (RI w_ A4 c4 l0) := Lib.hid qR4; clear qR4
            have R5 : Hid (RE w_ A5 c5 l1) := Lib.hid qR5; clear qR5
            refine norm_ (a' := ?_) ?_ ?_
            rotate_left
            ·simp only [putAll, Act.put, sI_, s0_, sS_]
             rfl
            refine three_ (i := 3) (j := 9) (k := 10) (Ni := some 29) (Nj := some 5) (Nk := some 6) #[true, true, true, true, false, false, false, false, false, false, false, false, false, false] #[true, true, true, false, false, false, false, false, false, true, false, false, false, false] #[true, true, true, false, false, false, false, false, false, false, true, false, false, false] rfl rfl rfl rfl rfl rfl (by kernel_rfl) (by decide) (by decide) (by decide) (fun K hK => ?_) (fun K hK => ?_) (fun K hK => ?_)
            ·skip
             refine goes_ Try.func30 (by kernel_rfl) rfl #[.agg #[.slice A2 l2.length c2, .slice A3 l3.length c3]] (by rfl) rfl rfl (by (try simp only [List.map_toArray, List.map_cons, List.map_nil]); first | done | rfl) ?_
             with_reducible refine (scarfjointlaw07_own.calls A2 c2 l2 A3 c3 l3 l2 l3 _ (Kd.C_below R2.out BL.out) M2.out (Kd.C_below R3.out BL.out) M3.out hown).mono ?_
             rintro e w_ ⟨v0, v1, rfl, ho0, ho1, hb⟩
             refine ⟨_, rfl, ?_⟩
             obtain ⟨A6, c6, rfl⟩ := Kd.R_slice ho0; obtain ⟨A7, c7, rfl⟩ := Kd.R_slice ho1; replace BG := Lib.hid (blk_below BG.out hb); replace BL := Lib.hid (below_then BL.out BL.out.size hb); replace BE := Lib.hid (blk_below BE.out hb); replace R4 := Lib.hid (Kd.R_below R4.out hb); replace R5 := Lib.hid (Kd.R_below R5.out hb); have R6 := Lib.hid (toR ho0); have R7 := Lib.hid (toR ho1); clear ho0 ho1 hb
             refine hK.out _ _ ⟨cell2 BG.out, cell2 BE.out⟩ (fun hHeld => ?_)
             clear hK K
             refine norm_ (a' := ?_) ?_ ?_
             rotate_left
             ·show Act.put _ (some 29) _ = _
              simp only [Act.put, sI_, s0_, sS_, i64_w, i32_w]
              rfl
             exact norm_ (by first | (simp only [putAll, Act.put, sI_, s0_, sS_]; done) | (simp only [putAll, Act.put, sI_, s0_, sS_]; rfl)) (J2_0 (A4, c4, A5, c5, A6, c6, A7, c7) _ ⟨hHeld, BG.out, BL.out, BE.out, R4.out, R5.out, R6.out, R7.out⟩)
            ·skip
             refine box_step ?hg (N := 5) ?hd (cs := #[.slice none 0 0, .slice none 0 0]) (t := 25) ?hr ?_; (case hd => rfl); (case hg => rfl); (case hr => first | (go_simp; done) | (go_simp; rfl))
             intro x hg w_ hbox hb
             have Hx : h < x := by rw [hg]; exact blk_lt BE.out
             replace BG := Lib.hid (blk_below BG.out hb); replace BL := Lib.hid (below_then BL.out BL.out.size hb); replace BE := Lib.hid (blk_below BE.out hb); replace R4 := Lib.hid (Kd.R_below R4.out hb); replace R5 := Lib.hid (Kd.R_below R5.out hb); have BX := Lib.hid hbox; clear hg hbox hb
             refine hK.out _ _ ⟨cell2 BG.out, cell2 BE.out⟩ (fun hHeld => ?_)
             clear hK K
             refine norm_ (a' := ?_) ?_ ?_
             rotate_left
             ·show Act.put _ (some 5) _ = _
              simp only [Act.put, sI_, s0_, sS_, i64_w, i32_w]
              rfl
             exact norm_ (by first | (simp only [putAll, Act.put, sI_, s0_, sS_]; done) | (simp only [putAll, Act.put, sI_, s0_, sS_]; rfl)) (J1_1 (A4, c4, A5, c5, x) _ ⟨hHeld, Hx, BG.out, BL.out, BE.out, R4.out, R5.out, BX.out⟩)
            ·skip
             refine box_step ?hg (N := 6) ?hd (cs := #[.slice none 0 0, .slice none 0 0]) (t := 51) ?hr ?_; (case hd => rfl); (case hg => rfl); (case hr => first | (go_simp; done) | (go_simp; rfl))
             intro y hg w_ hbox hb
             have Hy : h < y := by rw [hg]; exact blk_lt BE.out
             replace BG := Lib.hid (blk_below BG.out hb); replace BL := Lib.hid (below_then BL.out BL.out.size hb); replace BE := Lib.hid (blk_below BE.out hb); replace R4 := Lib.hid (Kd.R_below R4.out hb); replace R5 := Lib.hid (Kd.R_below R5.out hb); have BY := Lib.hid hbox; clear hg hbox hb
             refine hK.out _ _ ⟨cell2 BG.out, cell2 BE.out⟩ (fun hHeld => ?_)
             clear hK K
             refine norm_ (a' := ?_) ?_ ?_
             rotate_left
             ·show Act.put _ (some 6) _ = _
              simp only [Act.put, sI_, s0_, sS_, i64_w, i32_w]
              rfl
             exact norm_ (by first | (simp only [putAll, Act.put, sI_, s0_, sS_]; done) | (simp only [putAll, Act.put, sI_, s0_, sS_]; rfl)) (J1_2 (A4, c4, A5, c5, y) _ ⟨hHeld, Hy, BG.out, BL.out, BE.out, R4.out, R5.out, BY.out⟩)
           rintro ⟨A4, c4, A5, c5, x⟩ w_ ⟨hHeld, Hx, qBG, qBL, qBE, qR4, qR5, qBX⟩; replace Hx : h < x := Hx
           replace BG : Hid (w_.heap[g]? = some (.cells #[.slice A0 l0.length c0, .slice A1 l1.length c1] 25 (0, 0))) := Lib.hid qBG; clear qBG
           replace BL : Hid (Below w.heap.size w w_) := Lib.hid qBL; clear qBL
           replace BE : Hid (w_.heap[h]? = some (.cells #[.slice A2 l2.length c2, .slice A3 l3.length c3] 27 (0, 0))) := Lib.hid qBE; clear qBE
           have R4 : Hid (RI w_ A4 c4 l0) := Lib.hid qR4; clear qR4
           have R5 : Hid (RE w_ A5 c5 l1) := Lib.hid qR5; clear qR5
           have BX : Hid (Bk w_ x 25 nl nl) := Lib.hid qBX; clear qBX
           refine norm_ (a' := ?_) ?_ ?_
           rotate_left
           ·simp only [putAll, Act.put, sI_, s0_, sS_]
            rfl
           refine two_ (i := 3) (j := 10) (Ni := some 29) (Nj := some 6) #[true, true, true, true, false, false, false, false, false, true, false, false, false, false] #[true, true, true, false, false, false, false, false, false, true, true, false, false, false] rfl rfl rfl rfl (by kernel_rfl) (by decide) (by decide) (fun K hK => ?_) (fun K hK => ?_)
           ·skip
            refine goes_ Try.func30 (by kernel_rfl) rfl #[.agg #[.slice A2 l2.length c2, .slice A3 l3.length c3]] (by rfl) rfl rfl (by (try simp only [List.map_toArray, List.map_cons, List.map_nil]); first | done | rfl) ?_
            with_reducible refine (scarfjointlaw07_own.calls A2 c2 l2 A3 c3 l3 l2 l3 _ (Kd.C_below R2.out BL.out) M2.out (Kd.C_below R3.out BL.out) M3.out hown).mono ?_
            rintro e w_ ⟨v0, v1, rfl, ho0, ho1, hb⟩
            refine ⟨_, rfl, ?_⟩
            obtain ⟨A6, c6, rfl⟩ := Kd.R_slice ho0; obtain ⟨A7, c7, rfl⟩ := Kd.R_slice ho1; replace BG := Lib.hid (blk_below BG.out hb); replace BL := Lib.hid (below_then BL.out BL.out.size hb); replace BE := Lib.hid (blk_below BE.out hb); replace R4 := Lib.hid (Kd.R_below R4.out hb); replace R5 := Lib.hid (Kd.R_below R5.out hb); replace BX := Lib.hid (blk_below BX.out hb); have R6 := Lib.hid (toR ho0); have R7 := Lib.hid (toR ho1); clear ho0 ho1 hb
            refine hK.out _ _ ⟨cell2 BG.out, cell2 BE.out⟩ (fun hHeld => ?_)
            clear hK K
            refine norm_ (a' := ?_) ?_ ?_
            rotate_left
            ·show Act.put _ (some 29) _ = _
             simp only [Act.put, sI_, s0_, sS_, i64_w, i32_w]
             rfl
            exact norm_ (by first | (simp only [putAll, Act.put, sI_, s0_, sS_]; done) | (simp only [putAll, Act.put, sI_, s0_, sS_]; rfl)) (J2_1 (A4, c4, A5, c5, A6, c6, A7, c7, x) _ ⟨hHeld, Hx, BG.out, BL.out, BE.out, R4.out, R5.out, R6.out, R7.out, BX.out⟩)
           ·skip
            refine box_step ?hg (N := 6) ?hd (cs := #[.slice none 0 0, .slice none 0 0]) (t := 51) ?hr ?_; (case hd => rfl); (case hg => rfl); (case hr => first | (go_simp; done) | (go_simp; rfl))
            intro y hg w_ hbox hb
            have Hy : h < y := by rw [hg]; exact blk_lt BE.out
            have Hxy : x ≠ y := by have q_ := blk_lt BX.out; rw [← hg] at q_; omega
            replace BG := Lib.hid (blk_below BG.out hb); replace BL := Lib.hid (below_then BL.out BL.out.size hb); replace BE := Lib.hid (blk_below BE.out hb); replace R4 := Lib.hid (Kd.R_below R4.out hb); replace R5 := Lib.hid (Kd.R_below R5.out hb); replace BX := Lib.hid (blk_below BX.out hb); have BY := Lib.hid hbox; clear hg hbox hb
            refine hK.out _ _ ⟨cell2 BG.out, cell2 BE.out⟩ (fun hHeld => ?_)
            clear hK K
            refine norm_ (a' := ?_) ?_ ?_
            rotate_left
            ·show Act.put _ (some 6) _ = _
             simp only [Act.put, sI_, s0_, sS_, i64_w, i32_w]
             rfl
            exact norm_ (by first | (simp only [putAll, Act.put, sI_, s0_, sS_]; done) | (simp only [putAll, Act.put, sI_, s0_, sS_]; rfl)) (J1_3 (A4, c4, A5, c5, x, y) _ ⟨hHeld, Hx, Hy, Hxy, BG.out, BL.out, BE.out, R4.out, R5.out, BX.out, BY.out⟩)
          rintro ⟨A4, c4, A5, c5, y⟩ w_ ⟨hHeld, Hy, qBG, qBL, qBE, qR4, qR5, qBY⟩; replace Hy : h < y := Hy
          replace BG : Hid (w_.heap[g]? = some (.cells #[.slice A0 l0.length c0, .slice A1 l1.length c1] 25 (0, 0))) := Lib.hid qBG; clear qBG
          replace BL : Hid (Below w.heap.size w w_) := Lib.hid qBL; clear qBL
          replace BE : Hid (w_.heap[h]? = some (.cells #[.slice A2 l2.length c2, .slice A3 l3.length c3] 27 (0, 0))) := Lib.hid qBE; clear qBE
          have R4 : Hid (RI w_ A4 c4 l0) := Lib.hid qR4; clear qR4
          have R5 : Hid (RE w_ A5 c5 l1) := Lib.hid qR5; clear qR5
          have BY : Hid (Bk w_ y 51 nl nl) := Lib.hid qBY; clear qBY
          refine norm_ (a' := ?_) ?_ ?_
          rotate_left
          ·simp only [putAll, Act.put, sI_, s0_, sS_]
           rfl
          refine two_ (i := 3) (j := 9) (Ni := some 29) (Nj := some 5) #[true, true, true, true, false, false, false, false, false, false, true, false, false, false] #[true, true, true, false, false, false, false, false, false, true, true, false, false, false] rfl rfl rfl rfl (by kernel_rfl) (by decide) (by decide) (fun K hK => ?_) (fun K hK => ?_)
          ·skip
           refine goes_ Try.func30 (by kernel_rfl) rfl #[.agg #[.slice A2 l2.length c2, .slice A3 l3.length c3]] (by rfl) rfl rfl (by (try simp only [List.map_toArray, List.map_cons, List.map_nil]); first | done | rfl) ?_
           with_reducible refine (scarfjointlaw07_own.calls A2 c2 l2 A3 c3 l3 l2 l3 _ (Kd.C_below R2.out BL.out) M2.out (Kd.C_below R3.out BL.out) M3.out hown).mono ?_
           rintro e w_ ⟨v0, v1, rfl, ho0, ho1, hb⟩
           refine ⟨_, rfl, ?_⟩
           obtain ⟨A6, c6, rfl⟩ := Kd.R_slice ho0; obtain ⟨A7, c7, rfl⟩ := Kd.R_slice ho1; replace BG := Lib.hid (blk_below BG.out hb); replace BL := Lib.hid (below_then BL.out BL.out.size hb); replace BE := Lib.hid (blk_below BE.out hb); replace R4 := Lib.hid (Kd.R_below R4.out hb); replace R5 := Lib.hid (Kd.R_below R5.out hb); replace BY := Lib.hid (blk_below BY.out hb); have R6 := Lib.hid (toR ho0); have R7 := Lib.hid (toR ho1); clear ho0 ho1 hb
           refine hK.out _ _ ⟨cell2 BG.out, cell2 BE.out⟩ (fun hHeld => ?_)
           clear hK K
           refine norm_ (a' := ?_) ?_ ?_
           rotate_left
           ·show Act.put _ (some 29) _ = _
            simp only [Act.put, sI_, s0_, sS_, i64_w, i32_w]
            rfl
           exact norm_ (by first | (simp only [putAll, Act.put, sI_, s0_, sS_]; done) | (simp only [putAll, Act.put, sI_, s0_, sS_]; rfl)) (J2_2 (A4, c4, A5, c5, A6, c6, A7, c7, y) _ ⟨hHeld, Hy, BG.out, BL.out, BE.out, R4.out, R5.out, R6.out, R7.out, BY.out⟩)
          ·skip
           refine box_step ?hg (N := 5) ?hd (cs := #[.slice none 0 0, .slice none 0 0]) (t := 25) ?hr ?_; (case hd => rfl); (case hg => rfl); (case hr => first | (go_simp; done) | (go_simp; rfl))
           intro x hg w_ hbox hb
           have Hx : h < x := by rw [hg]; exact blk_lt BE.out
           have Hxy : x ≠ y := by have q_ := blk_lt BY.out; rw [← hg] at q_; omega
           replace BG := Lib.hid (blk_below BG.out hb); replace BL := Lib.hid (below_then BL.out BL.out.size hb); replace BE := Lib.hid (blk_below BE.out hb); replace R4 := Lib.hid (Kd.R_below R4.out hb); replace R5 := Lib.hid (Kd.R_below R5.out hb); replace BY := Lib.hid (blk_below BY.out hb); have BX := Lib.hid hbox; clear hg hbox hb
           refine hK.out _ _ ⟨cell2 BG.out, cell2 BE.out⟩ (fun hHeld => ?_)
           clear hK K
           refine norm_ (a' := ?_) ?_ ?_
           rotate_left
           ·show Act.put _ (some 5) _ = _
            simp only [Act.put, sI_, s0_, sS_, i64_w, i32_w]
            rfl
           exact norm_ (by first | (simp only [putAll, Act.put, sI_, s0_, sS_]; done) | (simp only [putAll, Act.put, sI_, s0_, sS_]; rfl)) (J1_3 (A4, c4, A5, c5, x, y) _ ⟨hHeld, Hx, Hy, Hxy, BG.out, BL.out, BE.out, R4.out, R5.out, BX.out, BY.out⟩)
         rintro ⟨A4, c4, A5, c5, x, y⟩ w_ ⟨hHeld, Hx, Hy, Hxy, qBG, qBL, qBE, qR4, qR5, qBX, qBY⟩; replace Hx : h < x := Hx; replace Hy : h < y := Hy; replace Hxy : x ≠ y := Hxy
         replace BG : Hid (w_.heap[g]? = some (.cells #[.slice A0 l0.length c0, .slice A1 l1.length c1] 25 (0, 0))) := Lib.hid qBG; clear qBG
         replace BL : Hid (Below w.heap.size w w_) := Lib.hid qBL; clear qBL
         replace BE : Hid (w_.heap[h]? = some (.cells #[.slice A2 l2.length c2, .slice A3 l3.length c3] 27 (0, 0))) := Lib.hid qBE; clear qBE
         have R4 : Hid (RI w_ A4 c4 l0) := Lib.hid qR4; clear qR4
         have R5 : Hid (RE w_ A5 c5 l1) := Lib.hid qR5; clear qR5
         have BX : Hid (Bk w_ x 25 nl nl) := Lib.hid qBX; clear qBX
         have BY : Hid (Bk w_ y 51 nl nl) := Lib.hid qBY; clear qBY
         refine norm_ (a' := ?_) ?_ ?_
         rotate_left
         ·simp only [putAll, Act.put, sI_, s0_, sS_]
          rfl
         refine one_ (i := 3) (N := some 29) #[true, true, true, true, false, false, false, false, false, true, true, false, false, false] rfl rfl (by kernel_rfl) (by decide) (fun K hK => ?_)
         refine goes_ Try.func30 (by kernel_rfl) rfl #[.agg #[.slice A2 l2.length c2, .slice A3 l3.length c3]] (by rfl) rfl rfl (by (try simp only [List.map_toArray, List.map_cons, List.map_nil]); first | done | rfl) ?_
         with_reducible refine (scarfjointlaw07_own.calls A2 c2 l2 A3 c3 l3 l2 l3 _ (Kd.C_below R2.out BL.out) M2.out (Kd.C_below R3.out BL.out) M3.out hown).mono ?_
         rintro e w_ ⟨v0, v1, rfl, ho0, ho1, hb⟩
         refine ⟨_, rfl, ?_⟩
         obtain ⟨A6, c6, rfl⟩ := Kd.R_slice ho0; obtain ⟨A7, c7, rfl⟩ := Kd.R_slice ho1; replace BG := Lib.hid (blk_below BG.out hb); replace BL := Lib.hid (below_then BL.out BL.out.size hb); replace BE := Lib.hid (blk_below BE.out hb); replace R4 := Lib.hid (Kd.R_below R4.out hb); replace R5 := Lib.hid (Kd.R_below R5.out hb); replace BX := Lib.hid (blk_below BX.out hb); replace BY := Lib.hid (blk_below BY.out hb); have R6 := Lib.hid (toR ho0); have R7 := Lib.hid (toR ho1); clear ho0 ho1 hb
         refine hK.out _ _ ⟨cell2 BG.out, cell2 BE.out⟩ (fun hHeld => ?_)
         clear hK K
         refine norm_ (a' := ?_) ?_ ?_
         rotate_left
         ·show Act.put _ (some 29) _ = _
          simp only [Act.put, sI_, s0_, sS_, i64_w, i32_w]
          rfl
         exact norm_ (by first | (simp only [putAll, Act.put, sI_, s0_, sS_]; done) | (simp only [putAll, Act.put, sI_, s0_, sS_]; rfl)) (J2_3 (A4, c4, A5, c5, A6, c6, A7, c7, x, y) _ ⟨hHeld, Hx, Hy, Hxy, BG.out, BL.out, BE.out, R4.out, R5.out, R6.out, R7.out, BX.out, BY.out⟩)
        rintro ⟨A4, c4, A5, c5, A6, c6, A7, c7⟩ w_ ⟨hHeld, qBG, qBL, qBE, qR4, qR5, qR6, qR7⟩
        replace BG : Hid (w_.heap[g]? = some (.cells #[.slice A0 l0.length c0, .slice A1 l1.length c1] 25 (0, 0))) := Lib.hid qBG; clear qBG
        replace BL : Hid (Below w.heap.size w w_) := Lib.hid qBL; clear qBL
        replace BE : Hid (w_.heap[h]? = some (.cells #[.slice A2 l2.length c2, .slice A3 l3.length c3] 27 (0, 0))) := Lib.hid qBE; clear qBE
        have R4 : Hid (RI w_ A4 c4 l0) := Lib.hid qR4; clear qR4
        have R5 : Hid (RE w_ A5 c5 l1) := Lib.hid qR5; clear qR5
        have R6 : Hid (RI w_ A6 c6 l2) := Lib.hid qR6; clear qR6
        have R7 : Hid (RI w_ A7 c7 l3) := Lib.hid qR7; clear qR7
        refine norm_ (a' := ?_) ?_ ?_
        rotate_left
        ·simp only [putAll, Act.put, sI_, s0_, sS_]
         rfl
        refine three_ (i := 4) (j := 9) (k := 10) (Ni := some 30) (Nj := some 5) (Nk := some 6) #[true, true, true, true, true, false, false, false, false, false, false, false, false, false] #[true, true, true, true, false, false, false, false, false, true, false, false, false, false] #[true, true, true, true, false, false, false, false, false, false, true, false, false, false] rfl rfl rfl rfl rfl rfl (by kernel_rfl) (by decide) (by decide) (by decide) (fun K hK => ?_) (fun K hK => ?_) (fun K hK => ?_)
        ·skip
         refine goes_ Try.func29 (by kernel_rfl) rfl #[.agg #[.slice A4 l0.length c4, .slice A5 l1.length c5], .agg #[.slice A6 l2.length c6, .slice A7 l3.length c7]] (by rfl) rfl rfl (by (try simp only [List.map_toArray, List.map_cons, List.map_nil]); first | done | rfl) ?_
         with_reducible refine (subgraph_Extract.calls k A4 c4 l0 A5 c5 l1 A6 c6 l2 A7 c7 l3 a0 a1 n0 n1 er _ (Kd.R_reads' R4.out).2.2 (Kd.R_reads' R4.out).2.1 (Kd.R_reads' R5.out).2.2 (Kd.R_reads' R5.out).2.1 (Kd.R_reads' R6.out).2.2 (Kd.R_reads' R6.out).2.1 (Kd.R_reads' R7.out).2.2 (Kd.R_reads' R7.out).2.1 h1).mono ?_
         rintro e w_ ⟨v0, v1, v2, v3, rfl, ho0, ho1, ho2, ho3, hb⟩
         refine ⟨_, rfl, ?_⟩
         obtain ⟨A8, c8, rfl⟩ := Kd.R_slice ho0; obtain ⟨A9, c9, rfl⟩ := Kd.R_slice ho1; obtain ⟨A10, c10, rfl⟩ := Kd.R_slice ho2; obtain ⟨A11, c11, rfl⟩ := Kd.R_slice ho3; replace BG := Lib.hid (blk_below BG.out hb); replace BL := Lib.hid (below_then BL.out BL.out.size hb); replace BE := Lib.hid (blk_below BE.out hb); replace R4 := Lib.hid (Kd.R_below R4.out hb); replace R5 := Lib.hid (Kd.R_below R5.out hb); replace R6 := Lib.hid (Kd.R_below R6.out hb); replace R7 := Lib.hid (Kd.R_below R7.out hb); have R8 := Lib.hid (toR ho0); have R9 := Lib.hid (toR ho1); have R10 := Lib.hid (toR ho2); have R11 := Lib.hid (toR ho3); clear ho0 ho1 ho2 ho3 hb
         refine hK.out _ _ ⟨cell2 BG.out, cell2 BE.out⟩ (fun hHeld => ?_)
         clear hK K
         refine norm_ (a' := ?_) ?_ ?_
         rotate_left
         ·show Act.put _ (some 30) _ = _
          simp only [Act.put, sI_, s0_, sS_, i64_w, i32_w]
          rfl
         refine pure_ (i := 5) (N := some 25) (v := ?_) (a' := ?_) #[true, true, true, true, true, true, false, false, false, false, false, false, false, false] rfl rfl (by kernel_rfl) (fun _ _ _ h => h) (Or.inl ⟨by rfl, ?_⟩) ?_ ?_
         rotate_left
         ·intro w'
          go_simp
          with_reducible rfl
         rotate_left
         ·simp only [Act.put, sI_, s0_, sS_, i64_w, i32_w]
          rfl
         refine pure_ (i := 6) (N := some 31) (v := ?_) (a' := ?_) #[true, true, true, true, true, true, true, false, false, false, false, false, false, false] rfl rfl (by kernel_rfl) (fun _ _ _ h => h) (Or.inl ⟨by rfl, ?_⟩) ?_ ?_
         rotate_left
         ·intro w'
          go_simp
          with_reducible rfl
         rotate_left
         ·simp only [Act.put, sI_, s0_, sS_, i64_w, i32_w]
          rfl
         refine pure_ (i := 7) (N := some 32) (v := ?_) (a' := ?_) #[true, true, true, true, true, true, true, true, false, false, false, false, false, false] rfl rfl (by kernel_rfl) (fun _ _ _ h => h) (Or.inl ⟨by rfl, ?_⟩) ?_ ?_
         rotate_left
         ·intro w'
          go_simp
          with_reducible rfl
         rotate_left
         ·simp only [Act.put, sI_, s0_, sS_, i64_w, i32_w]
          rfl
         refine pure_ (i := 8) (N := some 33) (v := ?_) (a' := ?_) #[true, true, true, true, true, true, true, true, true, false, false, false, false, false] rfl rfl (by kernel_rfl) (fun _ _ _ h => h) (Or.inl ⟨by rfl, ?_⟩) ?_ ?_
         rotate_left
         ·intro w'
          go_simp
          with_reducible rfl
         rotate_left
         ·simp only [Act.put, sI_, s0_, sS_, i64_w, i32_w]
          rfl
         exact norm_ (by first | (simp only [putAll, Act.put, sI_, s0_, sS_]; done) | (simp only [putAll, Act.put, sI_, s0_, sS_]; rfl)) (J3_0 (A4, c4, A5, c5, A6, c6, A7, c7, A8, c8, A9, c9, A10, c10, A11, c11) _ ⟨hHeld, BG.out, BL.out, BE.out, R4.out, R5.out, R6.out, R7.out, R8.out, R9.out, R10.out, R11.out⟩)
        ·skip
         refine box_step ?hg (N := 5) ?hd (cs := #[.slice none 0 0, .slice none 0 0]) (t := 25) ?hr ?_; (case hd => rfl); (case hg => rfl); (case hr => first | (go_simp; done) | (go_simp; rfl))
         intro x hg w_ hbox hb
         have Hx : h < x := by rw [hg]; exact blk_lt BE.out
         replace BG := Lib.hid (blk_below BG.out hb); replace BL := Lib.hid (below_then BL.out BL.out.size hb); replace BE := Lib.hid (blk_below BE.out hb); replace R4 := Lib.hid (Kd.R_below R4.out hb); replace R5 := Lib.hid (Kd.R_below R5.out hb); replace R6 := Lib.hid (Kd.R_below R6.out hb); replace R7 := Lib.hid (Kd.R_below R7.out hb); have BX := Lib.hid hbox; clear hg hbox hb
         refine hK.out _ _ ⟨cell2 BG.out, cell2 BE.out⟩ (fun hHeld => ?_)
         clear hK K
         refine norm_ (a' := ?_) ?_ ?_
         rotate_left
         ·show Act.put _ (some 5) _ = _
          simp only [Act.put, sI_, s0_, sS_, i64_w, i32_w]
          rfl
         exact norm_ (by first | (simp only [putAll, Act.put, sI_, s0_, sS_]; done) | (simp only [putAll, Act.put, sI_, s0_, sS_]; rfl)) (J2_1 (A4, c4, A5, c5, A6, c6, A7, c7, x) _ ⟨hHeld, Hx, BG.out, BL.out, BE.out, R4.out, R5.out, R6.out, R7.out, BX.out⟩)
        ·skip
         refine box_step ?hg (N := 6) ?hd (cs := #[.slice none 0 0, .slice none 0 0]) (t := 51) ?hr ?_; (case hd => rfl); (case hg => rfl); (case hr => first | (go_simp; done) | (go_simp; rfl))
         intro y hg w_ hbox hb
         have Hy : h < y := by rw [hg]; exact blk_lt BE.out
         replace BG := Lib.hid (blk_below BG.out hb); replace BL := Lib.hid (below_then BL.out BL.out.size hb); replace BE := Lib.hid (blk_below BE.out hb); replace R4 := Lib.hid (Kd.R_below R4.out hb); replace R5 := Lib.hid (Kd.R_below R5.out hb); replace R6 := Lib.hid (Kd.R_below R6.out hb); replace R7 := Lib.hid (Kd.R_below R7.out hb); have BY := Lib.hid hbox; clear hg hbox hb
         refine hK.out _ _ ⟨cell2 BG.out, cell2 BE.out⟩ (fun hHeld => ?_)
         clear hK K
         refine norm_ (a' := ?_) ?_ ?_
         rotate_left
         ·show Act.put _ (some 6) _ = _
          simp only [Act.put, sI_, s0_, sS_, i64_w, i32_w]
          rfl
         exact norm_ (by first | (simp only [putAll, Act.put, sI_, s0_, sS_]; done) | (simp only [putAll, Act.put, sI_, s0_, sS_]; rfl)) (J2_2 (A4, c4, A5, c5, A6, c6, A7, c7, y) _ ⟨hHeld, Hy, BG.out, BL.out, BE.out, R4.out, R5.out, R6.out, R7.out, BY.out⟩)
       rintro ⟨A4, c4, A5, c5, A6, c6, A7, c7, x⟩ w_ ⟨hHeld, Hx, qBG, qBL, qBE, qR4, qR5, qR6, qR7, qBX⟩; replace Hx : h < x := Hx
       replace BG : Hid (w_.heap[g]? = some (.cells #[.slice A0 l0.length c0, .slice A1 l1.length c1] 25 (0, 0))) := Lib.hid qBG; clear qBG
       replace BL : Hid (Below w.heap.size w w_) := Lib.hid qBL; clear qBL
       replace BE : Hid (w_.heap[h]? = some (.cells #[.slice A2 l2.length c2, .slice A3 l3.length c3] 27 (0, 0))) := Lib.hid qBE; clear qBE
       have R4 : Hid (RI w_ A4 c4 l0) := Lib.hid qR4; clear qR4
       have R5 : Hid (RE w_ A5 c5 l1) := Lib.hid qR5; clear qR5
       have R6 : Hid (RI w_ A6 c6 l2) := Lib.hid qR6; clear qR6
       have R7 : Hid (RI w_ A7 c7 l3) := Lib.hid qR7; clear qR7
       have BX : Hid (Bk w_ x 25 nl nl) := Lib.hid qBX; clear qBX
       refine norm_ (a' := ?_) ?_ ?_
       rotate_left
       ·simp only [putAll, Act.put, sI_, s0_, sS_]
        rfl
       refine two_ (i := 4) (j := 10) (Ni := some 30) (Nj := some 6) #[true, true, true, true, true, false, false, false, false, true, false, false, false, false] #[true, true, true, true, false, false, false, false, false, true, true, false, false, false] rfl rfl rfl rfl (by kernel_rfl) (by decide) (by decide) (fun K hK => ?_) (fun K hK => ?_)
       ·skip
        refine goes_ Try.func29 (by kernel_rfl) rfl #[.agg #[.slice A4 l0.length c4, .slice A5 l1.length c5], .agg #[.slice A6 l2.length c6, .slice A7 l3.length c7]] (by rfl) rfl rfl (by (try simp only [List.map_toArray, List.map_cons, List.map_nil]); first | done | rfl) ?_
        with_reducible refine (subgraph_Extract.calls k A4 c4 l0 A5 c5 l1 A6 c6 l2 A7 c7 l3 a0 a1 n0 n1 er _ (Kd.R_reads' R4.out).2.2 (Kd.R_reads' R4.out).2.1 (Kd.R_reads' R5.out).2.2 (Kd.R_reads' R5.out).2.1 (Kd.R_reads' R6.out).2.2 (Kd.R_reads' R6.out).2.1 (Kd.R_reads' R7.out).2.2 (Kd.R_reads' R7.out).2.1 h1).mono ?_
        rintro e w_ ⟨v0, v1, v2, v3, rfl, ho0, ho1, ho2, ho3, hb⟩
        refine ⟨_, rfl, ?_⟩
        obtain ⟨A8, c8, rfl⟩ := Kd.R_slice ho0; obtain ⟨A9, c9, rfl⟩ := Kd.R_slice ho1; obtain ⟨A10, c10, rfl⟩ := Kd.R_slice ho2; obtain ⟨A11, c11, rfl⟩ := Kd.R_slice ho3; replace BG := Lib.hid (blk_below BG.out hb); replace BL := Lib.hid (below_then BL.out BL.out.size hb); replace BE := Lib.hid (blk_below BE.out hb); replace R4 := Lib.hid (Kd.R_below R4.out hb); replace R5 := Lib.hid (Kd.R_below R5.out hb); replace R6 := Lib.hid (Kd.R_below R6.out hb); replace R7 := Lib.hid (Kd.R_below R7.out hb); replace BX := Lib.hid (blk_below BX.out hb); have R8 := Lib.hid (toR ho0); have R9 := Lib.hid (toR ho1); have R10 := Lib.hid (toR ho2); have R11 := Lib.hid (toR ho3); clear ho0 ho1 ho2 ho3 hb
        refine hK.out _ _ ⟨cell2 BG.out, cell2 BE.out⟩ (fun hHeld => ?_)
        clear hK K
        refine norm_ (a' := ?_) ?_ ?_
        rotate_left
        ·show Act.put _ (some 30) _ = _
         simp only [Act.put, sI_, s0_, sS_, i64_w, i32_w]
         rfl
        refine pure_ (i := 5) (N := some 25) (v := ?_) (a' := ?_) #[true, true, true, true, true, true, false, false, false, true, false, false, false, false] rfl rfl (by kernel_rfl) (fun _ _ _ h => h) (Or.inl ⟨by rfl, ?_⟩) ?_ ?_
        rotate_left
        ·intro w'
         go_simp
         with_reducible rfl
        rotate_left
        ·simp only [Act.put, sI_, s0_, sS_, i64_w, i32_w]
         rfl
        refine pure_ (i := 6) (N := some 31) (v := ?_) (a' := ?_) #[true, true, true, true, true, true, true, false, false, true, false, false, false, false] rfl rfl (by kernel_rfl) (fun _ _ _ h => h) (Or.inl ⟨by rfl, ?_⟩) ?_ ?_
        rotate_left
        ·intro w'
         go_simp
         with_reducible rfl
        rotate_left
        ·simp only [Act.put, sI_, s0_, sS_, i64_w, i32_w]
         rfl
        refine pure_ (i := 7) (N := some 32) (v := ?_) (a' := ?_) #[true, true, true, true, true, true, true, true, false, true, false, false, false, false] rfl rfl (by kernel_rfl) (fun _ _ _ h => h) (Or.inl ⟨by rfl, ?_⟩) ?_ ?_
        rotate_left
        ·intro w'
         go_simp
         with_reducible rfl
        rotate_left
        ·simp only [Act.put, sI_, s0_, sS_, i64_w, i32_w]
         rfl
        refine pure_ (i := 8) (N := some 33) (v := ?_) (a' := ?_) #[true, true, true, true, true, true, true, true, true, true, false, false, false, false] rfl rfl (by kernel_rfl) (fun _ _ _ h => h) (Or.inl ⟨by rfl, ?_⟩) ?_ ?_
        rotate_left
        ·intro w'
         go_simp
         with_reducible rfl
        rotate_left
        ·simp only [Act.put, sI_, s0_, sS_, i64_w, i32_w]
         rfl
        exact norm_ (by first | (simp only [putAll, Act.put, sI_, s0_, sS_]; done) | (simp only [putAll, Act.put, sI_, s0_, sS_]; rfl)) (J3_1 (A4, c4, A5, c5, A6, c6, A7, c7, A8, c8, A9, c9, A10, c10, A11, c11, x) _ ⟨hHeld, Hx, BG.out, BL.out, BE.out, R4.out, R5.out, R6.out, R7.out, R8.out, R9.out, R10.out, R11.out, BX.out⟩)
       ·skip
        refine box_step ?hg (N := 6) ?hd (cs := #[.slice none 0 0, .slice none 0 0]) (t := 51) ?hr ?_; (case hd => rfl); (case hg => rfl); (case hr => first | (go_simp; done) | (go_simp; rfl))
        intro y hg w_ hbox hb
        have Hy : h < y := by rw [hg]; exact blk_lt BE.out
        have Hxy : x ≠ y := by have q_ := blk_lt BX.out; rw [← hg] at q_; omega
        replace BG := Lib.hid (blk_below BG.out hb); replace BL := Lib.hid (below_then BL.out BL.out.size hb); replace BE := Lib.hid (blk_below BE.out hb); replace R4 := Lib.hid (Kd.R_below R4.out hb); replace R5 := Lib.hid (Kd.R_below R5.out hb); replace R6 := Lib.hid (Kd.R_below R6.out hb); replace R7 := Lib.hid (Kd.R_below R7.out hb); replace BX := Lib.hid (blk_below BX.out hb); have BY := Lib.hid hbox; clear hg hbox hb
        refine hK.out _ _ ⟨cell2 BG.out, cell2 BE.out⟩ (fun hHeld => ?_)
        clear hK K
        refine norm_ (a' := ?_) ?_ ?_
        rotate_left
        ·show Act.put _ (some 6) _ = _
         simp only [Act.put, sI_, s0_, sS_, i64_w, i32_w]
         rfl
        exact norm_ (by first | (simp only [putAll, Act.put, sI_, s0_, sS_]; done) | (simp only [putAll, Act.put, sI_, s0_, sS_]; rfl)) (J2_3 (A4, c4, A5, c5, A6, c6, A7, c7, x, y) _ ⟨hHeld, Hx, Hy, Hxy, BG.out, BL.out, BE.out, R4.out, R5.out, R6.out, R7.out, BX.out, BY.out⟩)
      rintro ⟨A4, c4, A5, c5, A6, c6, A7, c7, y⟩ w_ ⟨hHeld, Hy, qBG, qBL, qBE, qR4, qR5, qR6, qR7, qBY⟩; replace Hy : h < y := Hy
      replace BG : Hid (w_.heap[g]? = some (.cells #[.slice A0 l0.length c0, .slice A1 l1.length c1] 25 (0, 0))) := Lib.hid qBG; clear qBG
      replace BL : Hid (Below w.heap.size w w_) := Lib.hid qBL; clear qBL
      replace BE : Hid (w_.heap[h]? = some (.cells #[.slice A2 l2.length c2, .slice A3 l3.length c3] 27 (0, 0))) := Lib.hid qBE; clear qBE
      have R4 : Hid (RI w_ A4 c4 l0) := Lib.hid qR4; clear qR4
      have R5 : Hid (RE w_ A5 c5 l1) := Lib.hid qR5; clear qR5
      have R6 : Hid (RI w_ A6 c6 l2) := Lib.hid qR6; clear qR6
      have R7 : Hid (RI w_ A7 c7 l3) := Lib.hid qR7; clear qR7
      have BY : Hid (Bk w_ y 51 nl nl) := Lib.hid qBY; clear qBY
      refine norm_ (a' := ?_) ?_ ?_
      rotate_left
      ·simp only [putAll, Act.put, sI_, s0_, sS_]
       rfl
      refine two_ (i := 4) (j := 9) (Ni := some 30) (Nj := some 5) #[true, true, true, true, true, false, false, false, false, false, true, false, false, false] #[true, true, true, true, false, false, false, false, false, true, true, false, false, false] rfl rfl rfl rfl (by kernel_rfl) (by decide) (by decide) (fun K hK => ?_) (fun K hK => ?_)
      ·skip
       refine goes_ Try.func29 (by kernel_rfl) rfl #[.agg #[.slice A4 l0.length c4, .slice A5 l1.length c5], .agg #[.slice A6 l2.length c6, .slice A7 l3.length c7]] (by rfl) rfl rfl (by (try simp only [List.map_toArray, List.map_cons, List.map_nil]); first | done | rfl) ?_
       with_reducible refine (subgraph_Extract.calls k A4 c4 l0 A5 c5 l1 A6 c6 l2 A7 c7 l3 a0 a1 n0 n1 er _ (Kd.R_reads' R4.out).2.2 (Kd.R_reads' R4.out).2.1 (Kd.R_reads' R5.out).2.2 (Kd.R_reads' R5.out).2.1 (Kd.R_reads' R6.out).2.2 (Kd.R_reads' R6.out).2.1 (Kd.R_reads' R7.out).2.2 (Kd.R_reads' R7.out).2.1 h1).mono ?_
       rintro e w_ ⟨v0, v1, v2, v3, rfl, ho0, ho1, ho2, ho3, hb⟩
       refine ⟨_, rfl, ?_⟩
       obtain ⟨A8, c8, rfl⟩ := Kd.R_slice ho0; obtain ⟨A9, c9, rfl⟩ := Kd.R_slice ho1; obtain ⟨A10, c10, rfl⟩ := Kd.R_slice ho2; obtain ⟨A11, c11, rfl⟩ := Kd.R_slice ho3; replace BG := Lib.hid (blk_below BG.out hb); replace BL := Lib.hid (below_then BL.out BL.out.size hb); replace BE := Lib.hid (blk_below BE.out hb); replace R4 := Lib.hid (Kd.R_below R4.out hb); replace R5 := Lib.hid (Kd.R_below R5.out hb); replace R6 := Lib.hid (Kd.R_below R6.out hb); replace R7 := Lib.hid (Kd.R_below R7.out hb); replace BY := Lib.hid (blk_below BY.out hb); have R8 := Lib.hid (toR ho0); have R9 := Lib.hid (toR ho1); have R10 := Lib.hid (toR ho2); have R11 := Lib.hid (toR ho3); clear ho0 ho1 ho2 ho3 hb
       refine hK.out _ _ ⟨cell2 BG.out, cell2 BE.out⟩ (fun hHeld => ?_)
       clear hK K
       refine norm_ (a' := ?_) ?_ ?_
       rotate_left
       ·show Act.put _ (some 30) _ = _
        simp only [Act.put, sI_, s0_, sS_, i64_w, i32_w]
        rfl
       refine pure_ (i := 5) (N := some 25) (v := ?_) (a' := ?_) #[true, true, true, true, true, true, false, false, false, false, true, false, false, false] rfl rfl (by kernel_rfl) (fun _ _ _ h => h) (Or.inl ⟨by rfl, ?_⟩) ?_ ?_
       rotate_left
       ·intro w'
        go_simp
        with_reducible rfl
       rotate_left
       ·simp only [Act.put, sI_, s0_, sS_, i64_w, i32_w]
        rfl
       refine pure_ (i := 6) (N := some 31) (v := ?_) (a' := ?_) #[true, true, true, true, true, true, true, false, false, false, true, false, false, false] rfl rfl (by kernel_rfl) (fun _ _ _ h => h) (Or.inl ⟨by rfl, ?_⟩) ?_ ?_
       rotate_left
       ·intro w'
        go_simp
        with_reducible rfl
       rotate_left
       ·simp only [Act.put, sI_, s0_, sS_, i64_w, i32_w]
        rfl
       refine pure_ (i := 7) (N := some 32) (v := ?_) (a' := ?_) #[true, true, true, true, true, true, true, true, false, false, true, false, false, false] rfl rfl (by kernel_rfl) (fun _ _ _ h => h) (Or.inl ⟨by rfl, ?_⟩) ?_ ?_
       rotate_left
       ·intro w'
        go_simp
        with_reducible rfl
       rotate_left
       ·simp only [Act.put, sI_, s0_, sS_, i64_w, i32_w]
        rfl
       refine pure_ (i := 8) (N := some 33) (v := ?_) (a' := ?_) #[true, true, true, true, true, true, true, true, true, false, true, false, false, false] rfl rfl (by kernel_rfl) (fun _ _ _ h => h) (Or.inl ⟨by rfl, ?_⟩) ?_ ?_
       rotate_left
       ·intro w'
        go_simp
        with_reducible rfl
       rotate_left
       ·simp only [Act.put, sI_, s0_, sS_, i64_w, i32_w]
        rfl
       exact norm_ (by first | (simp only [putAll, Act.put, sI_, s0_, sS_]; done) | (simp only [putAll, Act.put, sI_, s0_, sS_]; rfl)) (J3_2 (A4, c4, A5, c5, A6, c6, A7, c7, A8, c8, A9, c9, A10, c10, A11, c11, y) _ ⟨hHeld, Hy, BG.out, BL.out, BE.out, R4.out, R5.out, R6.out, R7.out, R8.out, R9.out, R10.out, R11.out, BY.out⟩)
      ·skip
       refine box_step ?hg (N := 5) ?hd (cs := #[.slice none 0 0, .slice none 0 0]) (t := 25) ?hr ?_; (case hd => rfl); (case hg => rfl); (case hr => first | (go_simp; done) | (go_simp; rfl))
       intro x hg w_ hbox hb
       have Hx : h < x := by rw [hg]; exact blk_lt BE.out
       have Hxy : x ≠ y := by have q_ := blk_lt BY.out; rw [← hg] at q_; omega
       replace BG := Lib.hid (blk_below BG.out hb); replace BL := Lib.hid (below_then BL.out BL.out.size hb); replace BE := Lib.hid (blk_below BE.out hb); replace R4 := Lib.hid (Kd.R_below R4.out hb); replace R5 := Lib.hid (Kd.R_below R5.out hb); replace R6 := Lib.hid (Kd.R_below R6.out hb); replace R7 := Lib.hid (Kd.R_below R7.out hb); replace BY := Lib.hid (blk_below BY.out hb); have BX := Lib.hid hbox; clear hg hbox hb
       refine hK.out _ _ ⟨cell2 BG.out, cell2 BE.out⟩ (fun hHeld => ?_)
       clear hK K
       refine norm_ (a' := ?_) ?_ ?_
       rotate_left
       ·show Act.put _ (some 5) _ = _
        simp only [Act.put, sI_, s0_, sS_, i64_w, i32_w]
        rfl
       exact norm_ (by first | (simp only [putAll, Act.put, sI_, s0_, sS_]; done) | (simp only [putAll, Act.put, sI_, s0_, sS_]; rfl)) (J2_3 (A4, c4, A5, c5, A6, c6, A7, c7, x, y) _ ⟨hHeld, Hx, Hy, Hxy, BG.out, BL.out, BE.out, R4.out, R5.out, R6.out, R7.out, BX.out, BY.out⟩)
     rintro ⟨A4, c4, A5, c5, A6, c6, A7, c7, x, y⟩ w_ ⟨hHeld, Hx, Hy, Hxy, qBG, qBL, qBE, qR4, qR5, qR6, qR7, qBX, qBY⟩; replace Hx : h < x := Hx; replace Hy : h < y := Hy; replace Hxy : x ≠ y := Hxy
     replace BG : Hid (w_.heap[g]? = some (.cells #[.slice A0 l0.length c0, .slice A1 l1.length c1] 25 (0, 0))) := Lib.hid qBG; clear qBG
     replace BL : Hid (Below w.heap.size w w_) := Lib.hid qBL; clear qBL
     replace BE : Hid (w_.heap[h]? = some (.cells #[.slice A2 l2.length c2, .slice A3 l3.length c3] 27 (0, 0))) := Lib.hid qBE; clear qBE
     have R4 : Hid (RI w_ A4 c4 l0) := Lib.hid qR4; clear qR4
     have R5 : Hid (RE w_ A5 c5 l1) := Lib.hid qR5; clear qR5
     have R6 : Hid (RI w_ A6 c6 l2) := Lib.hid qR6; clear qR6
     have R7 : Hid (RI w_ A7 c7 l3) := Lib.hid qR7; clear qR7
     have BX : Hid (Bk w_ x 25 nl nl) := Lib.hid qBX; clear qBX
     have BY : Hid (Bk w_ y 51 nl nl) := Lib.hid qBY; clear qBY
     refine norm_ (a' := ?_) ?_ ?_
     rotate_left
     ·simp only [putAll, Act.put, sI_, s0_, sS_]
      rfl
     refine one_ (i := 4) (N := some 30) #[true, true, true, true, true, false, false, false, false, true, true, false, false, false] rfl rfl (by kernel_rfl) (by decide) (fun K hK => ?_)
     refine goes_ Try.func29 (by kernel_rfl) rfl #[.agg #[.slice A4 l0.length c4, .slice A5 l1.length c5], .agg #[.slice A6 l2.length c6, .slice A7 l3.length c7]] (by rfl) rfl rfl (by (try simp only [List.map_toArray, List.map_cons, List.map_nil]); first | done | rfl) ?_
     with_reducible refine (subgraph_Extract.calls k A4 c4 l0 A5 c5 l1 A6 c6 l2 A7 c7 l3 a0 a1 n0 n1 er _ (Kd.R_reads' R4.out).2.2 (Kd.R_reads' R4.out).2.1 (Kd.R_reads' R5.out).2.2 (Kd.R_reads' R5.out).2.1 (Kd.R_reads' R6.out).2.2 (Kd.R_reads' R6.out).2.1 (Kd.R_reads' R7.out).2.2 (Kd.R_reads' R7.out).2.1 h1).mono ?_
     rintro e w_ ⟨v0, v1, v2, v3, rfl, ho0, ho1, ho2, ho3, hb⟩
     refine ⟨_, rfl, ?_⟩
     obtain ⟨A8, c8, rfl⟩ := Kd.R_slice ho0; obtain ⟨A9, c9, rfl⟩ := Kd.R_slice ho1; obtain ⟨A10, c10, rfl⟩ := Kd.R_slice ho2; obtain ⟨A11, c11, rfl⟩ := Kd.R_slice ho3; replace BG := Lib.hid (blk_below BG.out hb); replace BL := Lib.hid (below_then BL.out BL.out.size hb); replace BE := Lib.hid (blk_below BE.out hb); replace R4 := Lib.hid (Kd.R_below R4.out hb); replace R5 := Lib.hid (Kd.R_below R5.out hb); replace R6 := Lib.hid (Kd.R_below R6.out hb); replace R7 := Lib.hid (Kd.R_below R7.out hb); replace BX := Lib.hid (blk_below BX.out hb); replace BY := Lib.hid (blk_below BY.out hb); have R8 := Lib.hid (toR ho0); have R9 := Lib.hid (toR ho1); have R10 := Lib.hid (toR ho2); have R11 := Lib.hid (toR ho3); clear ho0 ho1 ho2 ho3 hb
     refine hK.out _ _ ⟨cell2 BG.out, cell2 BE.out⟩ (fun hHeld => ?_)
     clear hK K
     refine norm_ (a' := ?_) ?_ ?_
     rotate_left
     ·show Act.put _ (some 30) _ = _
      simp only [Act.put, sI_, s0_, sS_, i64_w, i32_w]
      rfl
     refine pure_ (i := 5) (N := some 25) (v := ?_) (a' := ?_) #[true, true, true, true, true, true, false, false, false, true, true, false, false, false] rfl rfl (by kernel_rfl) (fun _ _ _ h => h) (Or.inl ⟨by rfl, ?_⟩) ?_ ?_
     rotate_left
     ·intro w'
      go_simp
      with_reducible rfl
     rotate_left
     ·simp only [Act.put, sI_, s0_, sS_, i64_w, i32_w]
      rfl
     refine pure_ (i := 6) (N := some 31) (v := ?_) (a' := ?_) #[true, true, true, true, true, true, true, false, false, true, true, false, false, false] rfl rfl (by kernel_rfl) (fun _ _ _ h => h) (Or.inl ⟨by rfl, ?_⟩) ?_ ?_
     rotate_left
     ·intro w'
      go_simp
      with_reducible rfl
     rotate_left
     ·simp only [Act.put, sI_, s0_, sS_, i64_w, i32_w]
      rfl
     refine pure_ (i := 7) (N := some 32) (v := ?_) (a' := ?_) #[true, true, true, true, true, true, true, true, false, true, true, false, false, false] rfl rfl (by kernel_rfl) (fun _ _ _ h => h) (Or.inl ⟨by rfl, ?_⟩) ?_ ?_
     rotate_left
     ·intro w'
      go_simp
      with_reducible rfl
     rotate_left
     ·simp only [Act.put, sI_, s0_, sS_, i64_w, i32_w]
      rfl
     refine pure_ (i := 8) (N := some 33) (v := ?_) (a' := ?_) #[true, true, true, true, true, true, true, true, true, true, true, false, false, false] rfl rfl (by kernel_rfl) (fun _ _ _ h => h) (Or.inl ⟨by rfl, ?_⟩) ?_ ?_
     rotate_left
     ·intro w'
      go_simp
      with_reducible rfl
     rotate_left
     ·simp only [Act.put, sI_, s0_, sS_, i64_w, i32_w]
      rfl
     exact norm_ (by first | (simp only [putAll, Act.put, sI_, s0_, sS_]; done) | (simp only [putAll, Act.put, sI_, s0_, sS_]; rfl)) (J3_3 (A4, c4, A5, c5, A6, c6, A7, c7, A8, c8, A9, c9, A10, c10, A11, c11, x, y) _ ⟨hHeld, Hx, Hy, Hxy, BG.out, BL.out, BE.out, R4.out, R5.out, R6.out, R7.out, R8.out, R9.out, R10.out, R11.out, BX.out, BY.out⟩)
    rintro ⟨A4, c4, A5, c5, A6, c6, A7, c7, A8, c8, A9, c9, A10, c10, A11, c11⟩ w_ ⟨hHeld, qBG, qBL, qBE, qR4, qR5, qR6, qR7, qR8, qR9, qR10, qR11⟩
    replace BG : Hid (w_.heap[g]? = some (.cells #[.slice A0 l0.length c0, .slice A1 l1.length c1] 25 (0, 0))) := Lib.hid qBG; clear qBG
    replace BL : Hid (Below w.heap.size w w_) := Lib.hid qBL; clear qBL
    replace BE : Hid (w_.heap[h]? = some (.cells #[.slice A2 l2.length c2, .slice A3 l3.length c3] 27 (0, 0))) := Lib.hid qBE; clear qBE
    have R4 : Hid (RI w_ A4 c4 l0) := Lib.hid qR4; clear qR4
    have R5 : Hid (RE w_ A5 c5 l1) := Lib.hid qR5; clear qR5
    have R6 : Hid (RI w_ A6 c6 l2) := Lib.hid qR6; clear qR6
    have R7 : Hid (RI w_ A7 c7 l3) := Lib.hid qR7; clear qR7
    have R8 : Hid (RI w_ A8 c8 a0) := Lib.hid qR8; clear qR8
    have R9 : Hid (RE w_ A9 c9 a1) := Lib.hid qR9; clear qR9
    have R10 : Hid (RI w_ A10 c10 n0) := Lib.hid qR10; clear qR10
    have R11 : Hid (RI w_ A11 c11 n1) := Lib.hid qR11; clear qR11
    refine norm_ (a' := ?_) ?_ ?_
    rotate_left
    ·simp only [putAll, Act.put, sI_, s0_, sS_]
     rfl
    refine two_ (i := 9) (j := 10) (Ni := some 5) (Nj := some 6) #[true, true, true, true, true, true, true, true, true, true, false, false, false, false] #[true, true, true, true, true, true, true, true, true, false, true, false, false, false] rfl rfl rfl rfl (by kernel_rfl) (by decide) (by decide) (fun K hK => ?_) (fun K hK => ?_)
    ·skip
     refine box_step ?hg (N := 5) ?hd (cs := #[.slice none 0 0, .slice none 0 0]) (t := 25) ?hr ?_; (case hd => rfl); (case hg => rfl); (case hr => first | (go_simp; done) | (go_simp; rfl))
     intro x hg w_ hbox hb
     have Hx : h < x := by rw [hg]; exact blk_lt BE.out
     replace BG := Lib.hid (blk_below BG.out hb); replace BL := Lib.hid (below_then BL.out BL.out.size hb); replace BE := Lib.hid (blk_below BE.out hb); replace R4 := Lib.hid (Kd.R_below R4.out hb); replace R5 := Lib.hid (Kd.R_below R5.out hb); replace R6 := Lib.hid (Kd.R_below R6.out hb); replace R7 := Lib.hid (Kd.R_below R7.out hb); replace R8 := Lib.hid (Kd.R_below R8.out hb); replace R9 := Lib.hid (Kd.R_below R9.out hb); replace R10 := Lib.hid (Kd.R_below R10.out hb); replace R11 := Lib.hid (Kd.R_below R11.out hb); have BX := Lib.hid hbox; clear hg hbox hb
     refine hK.out _ _ ⟨cell2 BG.out, cell2 BE.out⟩ (fun hHeld => ?_)
     clear hK K
     refine norm_ (a' := ?_) ?_ ?_
     rotate_left
     ·show Act.put _ (some 5) _ = _
      simp only [Act.put, sI_, s0_, sS_, i64_w, i32_w]
      rfl
     exact norm_ (by first | (simp only [putAll, Act.put, sI_, s0_, sS_]; done) | (simp only [putAll, Act.put, sI_, s0_, sS_]; rfl)) (J3_1 (A4, c4, A5, c5, A6, c6, A7, c7, A8, c8, A9, c9, A10, c10, A11, c11, x) _ ⟨hHeld, Hx, BG.out, BL.out, BE.out, R4.out, R5.out, R6.out, R7.out, R8.out, R9.out, R10.out, R11.out, BX.out⟩)
    ·skip
     refine box_step ?hg (N := 6) ?hd (cs := #[.slice none 0 0, .slice none 0 0]) (t := 51) ?hr ?_; (case hd => rfl); (case hg => rfl); (case hr => first | (go_simp; done) | (go_simp; rfl))
     intro y hg w_ hbox hb
     have Hy : h < y := by rw [hg]; exact blk_lt BE.out
     replace BG := Lib.hid (blk_below BG.out hb); replace BL := Lib.hid (below_then BL.out BL.out.size hb); replace BE := Lib.hid (blk_below BE.out hb); replace R4 := Lib.hid (Kd.R_below R4.out hb); replace R5 := Lib.hid (Kd.R_below R5.out hb); replace R6 := Lib.hid (Kd.R_below R6.out hb); replace R7 := Lib.hid (Kd.R_below R7.out hb); replace R8 := Lib.hid (Kd.R_below R8.out hb); replace R9 := Lib.hid (Kd.R_below R9.out hb); replace R10 := Lib.hid (Kd.R_below R10.out hb); replace R11 := Lib.hid (Kd.R_below R11.out hb); have BY := Lib.hid hbox; clear hg hbox hb
     refine hK.out _ _ ⟨cell2 BG.out, cell2 BE.out⟩ (fun hHeld => ?_)
     clear hK K
     refine norm_ (a' := ?_) ?_ ?_
     rotate_left
     ·show Act.put _ (some 6) _ = _
      simp only [Act.put, sI_, s0_, sS_, i64_w, i32_w]
      rfl
     exact norm_ (by first | (simp only [putAll, Act.put, sI_, s0_, sS_]; done) | (simp only [putAll, Act.put, sI_, s0_, sS_]; rfl)) (J3_2 (A4, c4, A5, c5, A6, c6, A7, c7, A8, c8, A9, c9, A10, c10, A11, c11, y) _ ⟨hHeld, Hy, BG.out, BL.out, BE.out, R4.out, R5.out, R6.out, R7.out, R8.out, R9.out, R10.out, R11.out, BY.out⟩)
   rintro ⟨A4, c4, A5, c5, A6, c6, A7, c7, A8, c8, A9, c9, A10, c10, A11, c11, x⟩ w_ ⟨hHeld, Hx, qBG, qBL, qBE, qR4, qR5, qR6, qR7, qR8, qR9, qR10, qR11, qBX⟩; replace Hx : h < x := Hx
   replace BG : Hid (w_.heap[g]? = some (.cells #[.slice A0 l0.length c0, .slice A1 l1.length c1] 25 (0, 0))) := Lib.hid qBG; clear qBG
   replace BL : Hid (Below w.heap.size w w_) := Lib.hid qBL; clear qBL
   replace BE : Hid (w_.heap[h]? = some (.cells #[.slice A2 l2.length c2, .slice A3 l3.length c3] 27 (0, 0))) := Lib.hid qBE; clear qBE
   have R4 : Hid (RI w_ A4 c4 l0) := Lib.hid qR4; clear qR4
   have R5 : Hid (RE w_ A5 c5 l1) := Lib.hid qR5; clear qR5
   have R6 : Hid (RI w_ A6 c6 l2) := Lib.hid qR6; clear qR6
   have R7 : Hid (RI w_ A7 c7 l3) := Lib.hid qR7; clear qR7
   have R8 : Hid (RI w_ A8 c8 a0) := Lib.hid qR8; clear qR8
   have R9 : Hid (RE w_ A9 c9 a1) := Lib.hid qR9; clear qR9
   have R10 : Hid (RI w_ A10 c10 n0) := Lib.hid qR10; clear qR10
   have R11 : Hid (RI w_ A11 c11 n1) := Lib.hid qR11; clear qR11
   have BX : Hid (Bk w_ x 25 nl nl) := Lib.hid qBX; clear qBX
   refine norm_ (a' := ?_) ?_ ?_
   rotate_left
   ·simp only [putAll, Act.put, sI_, s0_, sS_]
    rfl
   refine one_ (i := 10) (N := some 6) #[true, true, true, true, true, true, true, true, true, true, true, false, false, false] rfl rfl (by kernel_rfl) (by decide) (fun K hK => ?_)
   refine box_step ?hg (N := 6) ?hd (cs := #[.slice none 0 0, .slice none 0 0]) (t := 51) ?hr ?_; (case hd => rfl); (case hg => rfl); (case hr => first | (go_simp; done) | (go_simp; rfl))
   intro y hg w_ hbox hb
   have Hy : h < y := by rw [hg]; exact blk_lt BE.out
   have Hxy : x ≠ y := by have q_ := blk_lt BX.out; rw [← hg] at q_; omega
   replace BG := Lib.hid (blk_below BG.out hb); replace BL := Lib.hid (below_then BL.out BL.out.size hb); replace BE := Lib.hid (blk_below BE.out hb); replace R4 := Lib.hid (Kd.R_below R4.out hb); replace R5 := Lib.hid (Kd.R_below R5.out hb); replace R6 := Lib.hid (Kd.R_below R6.out hb); replace R7 := Lib.hid (Kd.R_below R7.out hb); replace R8 := Lib.hid (Kd.R_below R8.out hb); replace R9 := Lib.hid (Kd.R_below R9.out hb); replace R10 := Lib.hid (Kd.R_below R10.out hb); replace R11 := Lib.hid (Kd.R_below R11.out hb); replace BX := Lib.hid (blk_below BX.out hb); have BY := Lib.hid hbox; clear hg hbox hb
   refine hK.out _ _ ⟨cell2 BG.out, cell2 BE.out⟩ (fun hHeld => ?_)
   clear hK K
   refine norm_ (a' := ?_) ?_ ?_
   rotate_left
   ·show Act.put _ (some 6) _ = _
    simp only [Act.put, sI_, s0_, sS_, i64_w, i32_w]
    rfl
   exact norm_ (by first | (simp only [putAll, Act.put, sI_, s0_, sS_]; done) | (simp only [putAll, Act.put, sI_, s0_, sS_]; rfl)) (J3_3 (A4, c4, A5, c5, A6, c6, A7, c7, A8, c8, A9, c9, A10, c10, A11, c11, x, y) _ ⟨hHeld, Hx, Hy, Hxy, BG.out, BL.out, BE.out, R4.out, R5.out, R6.out, R7.out, R8.out, R9.out, R10.out, R11.out, BX.out, BY.out⟩)
  rintro ⟨A4, c4, A5, c5, A6, c6, A7, c7, A8, c8, A9, c9, A10, c10, A11, c11, y⟩ w_ ⟨hHeld, Hy, qBG, qBL, qBE, qR4, qR5, qR6, qR7, qR8, qR9, qR10, qR11, qBY⟩; replace Hy : h < y := Hy
  replace BG : Hid (w_.heap[g]? = some (.cells #[.slice A0 l0.length c0, .slice A1 l1.length c1] 25 (0, 0))) := Lib.hid qBG; clear qBG
  replace BL : Hid (Below w.heap.size w w_) := Lib.hid qBL; clear qBL
  replace BE : Hid (w_.heap[h]? = some (.cells #[.slice A2 l2.length c2, .slice A3 l3.length c3] 27 (0, 0))) := Lib.hid qBE; clear qBE
  have R4 : Hid (RI w_ A4 c4 l0) := Lib.hid qR4; clear qR4
  have R5 : Hid (RE w_ A5 c5 l1) := Lib.hid qR5; clear qR5
  have R6 : Hid (RI w_ A6 c6 l2) := Lib.hid qR6; clear qR6
  have R7 : Hid (RI w_ A7 c7 l3) := Lib.hid qR7; clear qR7
  have R8 : Hid (RI w_ A8 c8 a0) := Lib.hid qR8; clear qR8
  have R9 : Hid (RE w_ A9 c9 a1) := Lib.hid qR9; clear qR9
  have R10 : Hid (RI w_ A10 c10 n0) := Lib.hid qR10; clear qR10
  have R11 : Hid (RI w_ A11 c11 n1) := Lib.hid qR11; clear qR11
  have BY : Hid (Bk w_ y 51 nl nl) := Lib.hid qBY; clear qBY
  refine norm_ (a' := ?_) ?_ ?_
  rotate_left
  ·simp only [putAll, Act.put, sI_, s0_, sS_]
   rfl
  refine one_ (i := 9) (N := some 5) #[true, true, true, true, true, true, true, true, true, true, true, false, false, false] rfl rfl (by kernel_rfl) (by decide) (fun K hK => ?_)
  refine box_step ?hg (N := 5) ?hd (cs := #[.slice none 0 0, .slice none 0 0]) (t := 25) ?hr ?_; (case hd => rfl); (case hg => rfl); (case hr => first | (go_simp; done) | (go_simp; rfl))
  intro x hg w_ hbox hb
  have Hx : h < x := by rw [hg]; exact blk_lt BE.out
  have Hxy : x ≠ y := by have q_ := blk_lt BY.out; rw [← hg] at q_; omega
  replace BG := Lib.hid (blk_below BG.out hb); replace BL := Lib.hid (below_then BL.out BL.out.size hb); replace BE := Lib.hid (blk_below BE.out hb); replace R4 := Lib.hid (Kd.R_below R4.out hb); replace R5 := Lib.hid (Kd.R_below R5.out hb); replace R6 := Lib.hid (Kd.R_below R6.out hb); replace R7 := Lib.hid (Kd.R_below R7.out hb); replace R8 := Lib.hid (Kd.R_below R8.out hb); replace R9 := Lib.hid (Kd.R_below R9.out hb); replace R10 := Lib.hid (Kd.R_below R10.out hb); replace R11 := Lib.hid (Kd.R_below R11.out hb); replace BY := Lib.hid (blk_below BY.out hb); have BX := Lib.hid hbox; clear hg hbox hb
  refine hK.out _ _ ⟨cell2 BG.out, cell2 BE.out⟩ (fun hHeld => ?_)
  clear hK K
  refine norm_ (a' := ?_) ?_ ?_
  rotate_left
  ·show Act.put _ (some 5) _ = _
   simp only [Act.put, sI_, s0_, sS_, i64_w, i32_w]
   rfl
  exact norm_ (by first | (simp only [putAll, Act.put, sI_, s0_, sS_]; done) | (simp only [putAll, Act.put, sI_, s0_, sS_]; rfl)) (J3_3 (A4, c4, A5, c5, A6, c6, A7, c7, A8, c8, A9, c9, A10, c10, A11, c11, x, y) _ ⟨hHeld, Hx, Hy, Hxy, BG.out, BL.out, BE.out, R4.out, R5.out, R6.out, R7.out, R8.out, R9.out, R10.out, R11.out, BX.out, BY.out⟩)
 rintro ⟨A4, c4, A5, c5, A6, c6, A7, c7, A8, c8, A9, c9, A10, c10, A11, c11, x, y⟩ w_ ⟨hHeld, Hx, Hy, Hxy, qBG, qBL, qBE, qR4, qR5, qR6, qR7, qR8, qR9, qR10, qR11, qBX, qBY⟩; replace Hx : h < x := Hx; replace Hy : h < y := Hy; replace Hxy : x ≠ y := Hxy
 replace BG : Hid (w_.heap[g]? = some (.cells #[.slice A0 l0.length c0, .slice A1 l1.length c1] 25 (0, 0))) := Lib.hid qBG; clear qBG
 replace BL : Hid (Below w.heap.size w w_) := Lib.hid qBL; clear qBL
 replace BE : Hid (w_.heap[h]? = some (.cells #[.slice A2 l2.length c2, .slice A3 l3.length c3] 27 (0, 0))) := Lib.hid qBE; clear qBE
 have R4 : Hid (RI w_ A4 c4 l0) := Lib.hid qR4; clear qR4
 have R5 : Hid (RE w_ A5 c5 l1) := Lib.hid qR5; clear qR5
 have R6 : Hid (RI w_ A6 c6 l2) := Lib.hid qR6; clear qR6
 have R7 : Hid (RI w_ A7 c7 l3) := Lib.hid qR7; clear qR7
 have R8 : Hid (RI w_ A8 c8 a0) := Lib.hid qR8; clear qR8
 have R9 : Hid (RE w_ A9 c9 a1) := Lib.hid qR9; clear qR9
 have R10 : Hid (RI w_ A10 c10 n0) := Lib.hid qR10; clear qR10
 have R11 : Hid (RI w_ A11 c11 n1) := Lib.hid qR11; clear qR11
 have BX : Hid (Bk w_ x 25 nl nl) := Lib.hid qBX; clear qBX
 have BY : Hid (Bk w_ y 51 nl nl) := Lib.hid qBY; clear qBY
 refine norm_ (a' := ?_) ?_ ?_
 rotate_left
 ·simp only [putAll, Act.put, sI_, s0_, sS_]
  rfl
 refine one_ (i := 11) (N := none) #[true, true, true, true, true, true, true, true, true, true, true, true, false, false] rfl rfl (by kernel_rfl) (by decide) (fun K hK => ?_)
 obtain ⟨y0_, y1_⟩ := cell2 BX.out; have f0_ := blk_frozen BX.out 0; have f1_ := blk_frozen BX.out 1
 refine skip_ (w1 := ?_) (by rfl) rfl ?_ ?_
 rotate_left
 ·go_simp
  rfl
 clear y0_ y1_ f0_ f1_; replace BG := Lib.hid (blk_far BG.out (p := ⟨x, 0, none⟩) (by show g ≠ x; omega) (.slice A8 a0.length c8)); replace BL := Lib.hid (below_set (g := x) (j := 0) (v := .slice A8 a0.length c8) BL.out (by omega)); replace BE := Lib.hid (blk_far BE.out (p := ⟨x, 0, none⟩) (by show h ≠ x; omega) (.slice A8 a0.length c8)); replace R4 := Lib.hid (Kd.R_set R4.out BX.out int_ne25 0 (.slice A8 a0.length c8)); replace R5 := Lib.hid (Kd.R_set R5.out BX.out k78_ne25 0 (.slice A8 a0.length c8)); replace R6 := Lib.hid (Kd.R_set R6.out BX.out int_ne25 0 (.slice A8 a0.length c8)); replace R7 := Lib.hid (Kd.R_set R7.out BX.out int_ne25 0 (.slice A8 a0.length c8)); replace R8 := Lib.hid (Kd.R_set R8.out BX.out int_ne25 0 (.slice A8 a0.length c8)); replace R9 := Lib.hid (Kd.R_set R9.out BX.out k78_ne25 0 (.slice A8 a0.length c8)); replace R10 := Lib.hid (Kd.R_set R10.out BX.out int_ne25 0 (.slice A8 a0.length c8)); replace R11 := Lib.hid (Kd.R_set R11.out BX.out int_ne25 0 (.slice A8 a0.length c8)); replace BY := Lib.hid (blk_far BY.out (p := ⟨x, 0, none⟩) (by show y ≠ x; omega) (.slice A8 a0.length c8)); replace BX := Lib.hid (blk_put (cs' := #[.slice A8 a0.length c8, .slice none 0 0]) BX.out 0 (.slice A8 a0.length c8) rfl); replace BG := Lib.hid (blk_far BG.out (p := ⟨x, 1, none⟩) (by show g ≠ x; omega) (.slice A9 a1.length c9)); replace BL := Lib.hid (below_set (g := x) (j := 1) (v := .slice A9 a1.length c9) BL.out (by omega)); replace BE := Lib.hid (blk_far BE.out (p := ⟨x, 1, none⟩) (by show h ≠ x; omega) (.slice A9 a1.length c9)); replace R4 := Lib.hid (Kd.R_set R4.out BX.out int_ne25 1 (.slice A9 a1.length c9)); replace R5 := Lib.hid (Kd.R_set R5.out BX.out k78_ne25 1 (.slice A9 a1.length c9)); replace R6 := Lib.hid (Kd.R_set R6.out BX.out int_ne25 1 (.slice A9 a1.length c9)); replace R7 := Lib.hid (Kd.R_set R7.out BX.out int_ne25 1 (.slice A9 a1.length c9)); replace R8 := Lib.hid (Kd.R_set R8.out BX.out int_ne25 1 (.slice A9 a1.length c9)); replace R9 := Lib.hid (Kd.R_set R9.out BX.out k78_ne25 1 (.slice A9 a1.length c9)); replace R10 := Lib.hid (Kd.R_set R10.out BX.out int_ne25 1 (.slice A9 a1.length c9)); replace R11 := Lib.hid (Kd.R_set R11.out BX.out int_ne25 1 (.slice A9 a1.length c9)); replace BY := Lib.hid (blk_far BY.out (p := ⟨x, 1, none⟩) (by show y ≠ x; omega) (.slice A9 a1.length c9)); replace BX := Lib.hid (blk_put (cs' := #[.slice A8 a0.length c8, .slice A9 a1.length c9]) BX.out 1 (.slice A9 a1.length c9) rfl)
 refine hK.out _ _ ⟨cell2 BG.out, cell2 BE.out⟩ (fun hHeld => ?_)
 clear hK K
 refine one_ (i := 12) (N := none) #[true, true, true, true, true, true, true, true, true, true, true, true, true, false] rfl rfl (by kernel_rfl) (by decide) (fun K hK => ?_)
 obtain ⟨y0_, y1_⟩ := cell2 BY.out; have f0_ := blk_frozen BY.out 0; have f1_ := blk_frozen BY.out 1
 refine skip_ (w1 := ?_) (by rfl) rfl ?_ ?_
 rotate_left
 ·go_simp
  rfl
 clear y0_ y1_ f0_ f1_; replace BG := Lib.hid (blk_far BG.out (p := ⟨y, 0, none⟩) (by show g ≠ y; omega) (.slice A10 n0.length c10)); replace BL := Lib.hid (below_set (g := y) (j := 0) (v := .slice A10 n0.length c10) BL.out (by omega)); replace BE := Lib.hid (blk_far BE.out (p := ⟨y, 0, none⟩) (by show h ≠ y; omega) (.slice A10 n0.length c10)); replace R4 := Lib.hid (Kd.R_set R4.out BY.out int_ne51 0 (.slice A10 n0.length c10)); replace R5 := Lib.hid (Kd.R_set R5.out BY.out k78_ne51 0 (.slice A10 n0.length c10)); replace R6 := Lib.hid (Kd.R_set R6.out BY.out int_ne51 0 (.slice A10 n0.length c10)); replace R7 := Lib.hid (Kd.R_set R7.out BY.out int_ne51 0 (.slice A10 n0.length c10)); replace R8 := Lib.hid (Kd.R_set R8.out BY.out int_ne51 0 (.slice A10 n0.length c10)); replace R9 := Lib.hid (Kd.R_set R9.out BY.out k78_ne51 0 (.slice A10 n0.length c10)); replace R10 := Lib.hid (Kd.R_set R10.out BY.out int_ne51 0 (.slice A10 n0.length c10)); replace R11 := Lib.hid (Kd.R_set R11.out BY.out int_ne51 0 (.slice A10 n0.length c10)); replace BX := Lib.hid (blk_far BX.out (p := ⟨y, 0, none⟩) (by show x ≠ y; omega) (.slice A10 n0.length c10)); replace BY := Lib.hid (blk_put (cs' := #[.slice A10 n0.length c10, .slice none 0 0]) BY.out 0 (.slice A10 n0.length c10) rfl); replace BG := Lib.hid (blk_far BG.out (p := ⟨y, 1, none⟩) (by show g ≠ y; omega) (.slice A11 n1.length c11)); replace BL := Lib.hid (below_set (g := y) (j := 1) (v := .slice A11 n1.length c11) BL.out (by omega)); replace BE := Lib.hid (blk_far BE.out (p := ⟨y, 1, none⟩) (by show h ≠ y; omega) (.slice A11 n1.length c11)); replace R4 := Lib.hid (Kd.R_set R4.out BY.out int_ne51 1 (.slice A11 n1.length c11)); replace R5 := Lib.hid (Kd.R_set R5.out BY.out k78_ne51 1 (.slice A11 n1.length c11)); replace R6 := Lib.hid (Kd.R_set R6.out BY.out int_ne51 1 (.slice A11 n1.length c11)); replace R7 := Lib.hid (Kd.R_set R7.out BY.out int_ne51 1 (.slice A11 n1.length c11)); replace R8 := Lib.hid (Kd.R_set R8.out BY.out int_ne51 1 (.slice A11 n1.length c11)); replace R9 := Lib.hid (Kd.R_set R9.out BY.out k78_ne51 1 (.slice A11 n1.length c11)); replace R10 := Lib.hid (Kd.R_set R10.out BY.out int_ne51 1 (.slice A11 n1.length c11)); replace R11 := Lib.hid (Kd.R_set R11.out BY.out int_ne51 1 (.slice A11 n1.length c11)); replace BX := Lib.hid (blk_far BX.out (p := ⟨y, 1, none⟩) (by show x ≠ y; omega) (.slice A11 n1.length c11)); replace BY := Lib.hid (blk_put (cs' := #[.slice A10 n0.length c10, .slice A11 n1.length c11]) BY.out 1 (.slice A11 n1.length c11) rfl)
 refine hK.out _ _ ⟨cell2 BG.out, cell2 BE.out⟩ (fun hHeld => ?_)
 clear hK K
 refine pure_ (i := 13) (N := some 7) (v := ?_) (a' := ?_) #[true, true, true, true, true, true, true, true, true, true, true, true, true, true] rfl rfl (by kernel_rfl) (fun _ _ _ h => h) (Or.inl ⟨by rfl, ?_⟩) ?_ ?_
 rotate_left
 ·intro w'
  go_simp
  with_reducible rfl
 rotate_left
 ·simp only [Act.put, sI_, s0_, sS_, i64_w, i32_w]
  rfl
 refine done_ (by kernel_rfl) ?_
 clear R4 R5 R6 R7; obtain ⟨zBG_0, zBG_1⟩ := cell2 BG.out; obtain ⟨zBE_0, zBE_1⟩ := cell2 BE.out
 go_upto_region 5 with (first
  | (go_at_call 31; with_reducible refine (scarfjointref07_Extract.calls k A0 c0 l0 A1 c1 l1 A2 c2 l2 A3 c3 l3 a0 a1 n0 n1 er _ (Kd.C_below R0.out BL.out) M0.out (Kd.C_below R1.out BL.out) M1.out (Kd.C_below R2.out BL.out) M2.out (Kd.C_below R3.out BL.out) M3.out h2).mono ?_; rintro e w_ ⟨v0, v1, v2, v3, rfl, ho0, ho1, ho2, ho3, hb⟩; clear zBG_0 zBG_1 zBE_0 zBE_1; obtain ⟨A12, c12, rfl⟩ := Kd.R_slice ho0; obtain ⟨A13, c13, rfl⟩ := Kd.R_slice ho1; obtain ⟨A14, c14, rfl⟩ := Kd.R_slice ho2; obtain ⟨A15, c15, rfl⟩ := Kd.R_slice ho3; replace BG := Lib.hid (blk_below BG.out hb); replace BL := Lib.hid (below_then BL.out BL.out.size hb); replace BE := Lib.hid (blk_below BE.out hb); replace R8 := Lib.hid (Kd.R_below R8.out hb); replace R9 := Lib.hid (Kd.R_below R9.out hb); replace R10 := Lib.hid (Kd.R_below R10.out hb); replace R11 := Lib.hid (Kd.R_below R11.out hb); replace BX := Lib.hid (blk_below BX.out hb); replace BY := Lib.hid (blk_below BY.out hb); have R12 := Lib.hid (toR (ho0)); have R13 := Lib.hid (toR (ho1)); have R14 := Lib.hid (toR (ho2)); have R15 := Lib.hid (toR (ho3)); clear ho0 ho1 ho2 ho3 hb; obtain ⟨zBG_0, zBG_1⟩ := cell2 BG.out; obtain ⟨zBE_0, zBE_1⟩ := cell2 BE.out)
  | ((with_reducible refine gate_dst (N := 8) rfl ?_); (try (refine gate_guard (by rfl) ?_; dsimp only)); refine box_event ?hg (N := 8) ?hd (cs := #[.slice none 0 0, .slice none 0 0]) (t := 25) ?hr ?_; (case hd => rfl); (case hg => rfl); (case hr => first | (go_simp; done) | (go_simp; rfl)); intro z hg w_ hbox hb; clear zBG_0 zBG_1 zBE_0 zBE_1; have Hz : x < z := (hg ▸ blk_lt BX.out); have Hyz : y < z := (hg ▸ blk_lt BY.out); replace BG := Lib.hid (blk_below BG.out hb); replace BL := Lib.hid (below_then BL.out BL.out.size hb); replace BE := Lib.hid (blk_below BE.out hb); replace R8 := Lib.hid (Kd.R_below R8.out hb); replace R9 := Lib.hid (Kd.R_below R9.out hb); replace R10 := Lib.hid (Kd.R_below R10.out hb); replace R11 := Lib.hid (Kd.R_below R11.out hb); replace BX := Lib.hid (blk_below BX.out hb); replace BY := Lib.hid (blk_below BY.out hb); replace R12 := Lib.hid (Kd.R_below R12.out hb); replace R13 := Lib.hid (Kd.R_below R13.out hb); replace R14 := Lib.hid (Kd.R_below R14.out hb); replace R15 := Lib.hid (Kd.R_below R15.out hb); have BZ := Lib.hid (hbox); clear hg hbox hb; obtain ⟨zBG_0, zBG_1⟩ := cell2 BG.out; obtain ⟨zBE_0, zBE_1⟩ := cell2 BE.out)
  | ((with_reducible refine gate_dst (N := 9) rfl ?_); (try (refine gate_guard (by rfl) ?_; dsimp only)); refine box_event ?hg (N := 9) ?hd (cs := #[.slice none 0 0, .slice none 0 0]) (t := 51) ?hr ?_; (case hd => rfl); (case hg => rfl); (case hr => first | (go_simp; done) | (go_simp; rfl)); intro t hg w_ hbox hb; clear zBG_0 zBG_1 zBE_0 zBE_1; have Ht : z < t := (hg ▸ blk_lt BZ.out); replace BG := Lib.hid (blk_below BG.out hb); replace BL := Lib.hid (below_then BL.out BL.out.size hb); replace BE := Lib.hid (blk_below BE.out hb); replace R8 := Lib.hid (Kd.R_below R8.out hb); replace R9 := Lib.hid (Kd.R_below R9.out hb); replace R10 := Lib.hid (Kd.R_below R10.out hb); replace R11 := Lib.hid (Kd.R_below R11.out hb); replace BX := Lib.hid (blk_below BX.out hb); replace BY := Lib.hid (blk_below BY.out hb); replace R12 := Lib.hid (Kd.R_below R12.out hb); replace R13 := Lib.hid (Kd.R_below R13.out hb); replace R14 := Lib.hid (Kd.R_below R14.out hb); replace R15 := Lib.hid (Kd.R_below R15.out hb); replace BZ := Lib.hid (blk_below BZ.out hb); have BT := Lib.hid (hbox); clear hg hbox hb; obtain ⟨y0_, y1_⟩ := cell2 BZ.out; have f0_ := blk_frozen BZ.out 0; have f1_ := blk_frozen BZ.out 1)
  | ((with_reducible refine gate_store (t := 25) (p := 8) rfl ?_); refine store_event (t := 25) (p := 8) (v := ?vo) (w1 := ?w1) ?hg ?ho ?hn ?hr ?_; (case ho => rfl); (case hg => rfl); (case hn => rfl); (case hr => first | (go_simp; done) | (go_simp; rfl)); intro w_ hw; subst hw; clear y0_ y1_ f0_ f1_; replace BG := Lib.hid (blk_far BG.out (p := ⟨z, 0, none⟩) (by show g ≠ z; omega) (.slice A12 a0.length c12)); replace BL := Lib.hid (below_set (g := z) (j := 0) (v := .slice A12 a0.length c12) BL.out (by omega)); replace BE := Lib.hid (blk_far BE.out (p := ⟨z, 0, none⟩) (by show h ≠ z; omega) (.slice A12 a0.length c12)); replace R8 := Lib.hid (Kd.R_set R8.out BZ.out int_ne25 0 (.slice A12 a0.length c12)); replace R9 := Lib.hid (Kd.R_set R9.out BZ.out k78_ne25 0 (.slice A12 a0.length c12)); replace R10 := Lib.hid (Kd.R_set R10.out BZ.out int_ne25 0 (.slice A12 a0.length c12)); replace R11 := Lib.hid (Kd.R_set R11.out BZ.out int_ne25 0 (.slice A12 a0.length c12)); replace BX := Lib.hid (blk_far BX.out (p := ⟨z, 0, none⟩) (by show x ≠ z; omega) (.slice A12 a0.length c12)); replace BY := Lib.hid (blk_far BY.out (p := ⟨z, 0, none⟩) (by show y ≠ z; omega) (.slice A12 a0.length c12)); replace R12 := Lib.hid (Kd.R_set R12.out BZ.out int_ne25 0 (.slice A12 a0.length c12)); replace R13 := Lib.hid (Kd.R_set R13.out BZ.out k78_ne25 0 (.slice A12 a0.length c12)); replace R14 := Lib.hid (Kd.R_set R14.out BZ.out int_ne25 0 (.slice A12 a0.length c12)); replace R15 := Lib.hid (Kd.R_set R15.out BZ.out int_ne25 0 (.slice A12 a0.length c12)); replace BT := Lib.hid (blk_far BT.out (p := ⟨z, 0, none⟩) (by show t ≠ z; omega) (.slice A12 a0.length c12)); replace BZ := Lib.hid (blk_put (cs' := #[.slice A12 a0.length c12, .slice none 0 0]) BZ.out 0 (.slice A12 a0.length c12) rfl); replace BG := Lib.hid (blk_far BG.out (p := ⟨z, 1, none⟩) (by show g ≠ z; omega) (.slice A13 a1.length c13)); replace BL := Lib.hid (below_set (g := z) (j := 1) (v := .slice A13 a1.length c13) BL.out (by omega)); replace BE := Lib.hid (blk_far BE.out (p := ⟨z, 1, none⟩) (by show h ≠ z; omega) (.slice A13 a1.length c13)); replace R8 := Lib.hid (Kd.R_set R8.out BZ.out int_ne25 1 (.slice A13 a1.length c13)); replace R9 := Lib.hid (Kd.R_set R9.out BZ.out k78_ne25 1 (.slice A13 a1.length c13)); replace R10 := Lib.hid (Kd.R_set R10.out BZ.out int_ne25 1 (.slice A13 a1.length c13)); replace R11 := Lib.hid (Kd.R_set R11.out BZ.out int_ne25 1 (.slice A13 a1.length c13)); replace BX := Lib.hid (blk_far BX.out (p := ⟨z, 1, none⟩) (by show x ≠ z; omega) (.slice A13 a1.length c13)); replace BY := Lib.hid (blk_far BY.out (p := ⟨z, 1, none⟩) (by show y ≠ z; omega) (.slice A13 a1.length c13)); replace R12 := Lib.hid (Kd.R_set R12.out BZ.out int_ne25 1 (.slice A13 a1.length c13)); replace R13 := Lib.hid (Kd.R_set R13.out BZ.out k78_ne25 1 (.slice A13 a1.length c13)); replace R14 := Lib.hid (Kd.R_set R14.out BZ.out int_ne25 1 (.slice A13 a1.length c13)); replace R15 := Lib.hid (Kd.R_set R15.out BZ.out int_ne25 1 (.slice A13 a1.length c13)); replace BT := Lib.hid (blk_far BT.out (p := ⟨z, 1, none⟩) (by show t ≠ z; omega) (.slice A13 a1.length c13)); replace BZ := Lib.hid (blk_put (cs' := #[.slice A12 a0.length c12, .slice A13 a1.length c13]) BZ.out 1 (.slice A13 a1.length c13) rfl); obtain ⟨y0_, y1_⟩ := cell2 BT.out; have f0_ := blk_frozen BT.out 0; have f1_ := blk_frozen BT.out 1))
 clear y0_ y1_ f0_ f1_; replace BG := Lib.hid (blk_far BG.out (p := ⟨t, 0, none⟩) (by show g ≠ t; omega) (.slice A14 n0.length c14)); replace BL := Lib.hid (below_set (g := t) (j := 0) (v := .slice A14 n0.length c14) BL.out (by omega)); replace BE := Lib.hid (blk_far BE.out (p := ⟨t, 0, none⟩) (by show h ≠ t; omega) (.slice A14 n0.length c14)); replace R8 := Lib.hid (Kd.R_set R8.out BT.out int_ne51 0 (.slice A14 n0.length c14)); replace R9 := Lib.hid (Kd.R_set R9.out BT.out k78_ne51 0 (.slice A14 n0.length c14)); replace R10 := Lib.hid (Kd.R_set R10.out BT.out int_ne51 0 (.slice A14 n0.length c14)); replace R11 := Lib.hid (Kd.R_set R11.out BT.out int_ne51 0 (.slice A14 n0.length c14)); replace BX := Lib.hid (blk_far BX.out (p := ⟨t, 0, none⟩) (by show x ≠ t; omega) (.slice A14 n0.length c14)); replace BY := Lib.hid (blk_far BY.out (p := ⟨t, 0, none⟩) (by show y ≠ t; omega) (.slice A14 n0.length c14)); replace R12 := Lib.hid (Kd.R_set R12.out BT.out int_ne51 0 (.slice A14 n0.length c14)); replace R13 := Lib.hid (Kd.R_set R13.out BT.out k78_ne51 0 (.slice A14 n0.length c14)); replace R14 := Lib.hid (Kd.R_set R14.out BT.out int_ne51 0 (.slice A14 n0.length c14)); replace R15 := Lib.hid (Kd.R_set R15.out BT.out int_ne51 0 (.slice A14 n0.length c14)); replace BZ := Lib.hid (blk_far BZ.out (p := ⟨t, 0, none⟩) (by show z ≠ t; omega) (.slice A14 n0.length c14)); replace BT := Lib.hid (blk_put (cs' := #[.slice A14 n0.length c14, .slice none 0 0]) BT.out 0 (.slice A14 n0.length c14) rfl); replace BG := Lib.hid (blk_far BG.out (p := ⟨t, 1, none⟩) (by show g ≠ t; omega) (.slice A15 n1.length c15)); replace BL := Lib.hid (below_set (g := t) (j := 1) (v := .slice A15 n1.length c15) BL.out (by omega)); replace BE := Lib.hid (blk_far BE.out (p := ⟨t, 1, none⟩) (by show h ≠ t; omega) (.slice A15 n1.length c15)); replace R8 := Lib.hid (Kd.R_set R8.out BT.out int_ne51 1 (.slice A15 n1.length c15)); replace R9 := Lib.hid (Kd.R_set R9.out BT.out k78_ne51 1 (.slice A15 n1.length c15)); replace R10 := Lib.hid (Kd.R_set R10.out BT.out int_ne51 1 (.slice A15 n1.length c15)); replace R11 := Lib.hid (Kd.R_set R11.out BT.out int_ne51 1 (.slice A15 n1.length c15)); replace BX := Lib.hid (blk_far BX.out (p := ⟨t, 1, none⟩) (by show x ≠ t; omega) (.slice A15 n1.length c15)); replace BY := Lib.hid (blk_far BY.out (p := ⟨t, 1, none⟩) (by show y ≠ t; omega) (.slice A15 n1.length c15)); replace R12 := Lib.hid (Kd.R_set R12.out BT.out int_ne51 1 (.slice A15 n1.length c15)); replace R13 := Lib.hid (Kd.R_set R13.out BT.out k78_ne51 1 (.slice A15 n1.length c15)); replace R14 := Lib.hid (Kd.R_set R14.out BT.out int_ne51 1 (.slice A15 n1.length c15)); replace R15 := Lib.hid (Kd.R_set R15.out BT.out int_ne51 1 (.slice A15 n1.length c15)); replace BZ := Lib.hid (blk_far BZ.out (p := ⟨t, 1, none⟩) (by show z ≠ t; omega) (.slice A15 n1.length c15)); replace BT := Lib.hid (blk_put (cs' := #[.slice A14 n0.length c14, .slice A15 n1.length c15]) BT.out 1 (.slice A15 n1.length c15) rfl); replace BG := Lib.hid (blk_drew BG.out); replace BL := Lib.hid (below_drew1 BL.out); replace BE := Lib.hid (blk_drew BE.out); replace R8 := Lib.hid (Kd.R_drew R8.out); replace R9 := Lib.hid (Kd.R_drew R9.out); replace R10 := Lib.hid (Kd.R_drew R10.out); replace R11 := Lib.hid (Kd.R_drew R11.out); replace BX := Lib.hid (blk_drew BX.out); replace BY := Lib.hid (blk_drew BY.out); replace R12 := Lib.hid (Kd.R_drew R12.out); replace R13 := Lib.hid (Kd.R_drew R13.out); replace R14 := Lib.hid (Kd.R_drew R14.out); replace R15 := Lib.hid (Kd.R_drew R15.out); replace BZ := Lib.hid (blk_drew BZ.out); replace BT := Lib.hid (blk_drew BT.out)
 refine start_ (n := 10) (S := fun w' => C2 w' g (.slice A0 l0.length c0) (.slice A1 l1.length c1) ∧ C2 w' h (.slice A2 l2.length c2) (.slice A3 l3.length c3)) (ds := []) #[false, false, false, false, false, false, false, false, false, false] (by kernel_rfl) rfl rfl ⟨cell2 BG.out, cell2 BE.out⟩ (fun hHeld => ?_)
 refine take_ (i := 0) (N := some 42) (v := ?_) (a' := ?_) #[true, false, false, false, false, false, false, false, false, false] rfl rfl (by kernel_rfl) (fun _ _ _ h => h) (Or.inl ⟨by rfl, ?_⟩) hHeld ?_ ?_
 rotate_left
 ·rintro w' ⟨⟨s0, s1⟩, ⟨s2, s3⟩⟩
  go_simp
  with_reducible rfl
 rotate_left
 ·simp only [Act.put, sI_, s0_, sS_, i64_w, i32_w]
  rfl
 refine take_ (i := 2) (N := some 44) (v := ?_) (a' := ?_) #[true, false, true, false, false, false, false, false, false, false] rfl rfl (by kernel_rfl) (fun _ _ _ h => h) (Or.inl ⟨by rfl, ?_⟩) hHeld ?_ ?_
 rotate_left
 ·rintro w' ⟨⟨s0, s1⟩, ⟨s2, s3⟩⟩
  go_simp
  with_reducible rfl
 rotate_left
 ·simp only [Act.put, sI_, s0_, sS_, i64_w, i32_w]
  rfl
 refine one_ (i := 1) (N := some 43) #[true, true, true, false, false, false, false, false, false, false] rfl rfl (by kernel_rfl) (by decide) (fun K hK => ?_)
 refine goes_ Try.func14 (by kernel_rfl) rfl #[.agg #[.slice A0 l0.length c0, .slice A1 l1.length c1]] (by rfl) rfl rfl (by (try simp only [List.map_toArray, List.map_cons, List.map_nil]); first | done | rfl) ?_
 with_reducible refine (scarfjointref05_Copied.calls A0 c0 l0 A1 c1 l1 l0 l1 _ (Kd.C_below R0.out BL.out) M0.out (Kd.C_below R1.out BL.out) M1.out hcp).mono ?_
 rintro e w_ ⟨v0, v1, rfl, ho0, ho1, hb⟩
 refine ⟨_, rfl, ?_⟩
 obtain ⟨A16, c16, rfl⟩ := Kd.R_slice ho0; obtain ⟨A17, c17, rfl⟩ := Kd.R_slice ho1; replace BG := Lib.hid (blk_below BG.out hb); replace BL := Lib.hid (below_then BL.out BL.out.size hb); replace BE := Lib.hid (blk_below BE.out hb); replace R8 := Lib.hid (Kd.R_below R8.out hb); replace R9 := Lib.hid (Kd.R_below R9.out hb); replace R10 := Lib.hid (Kd.R_below R10.out hb); replace R11 := Lib.hid (Kd.R_below R11.out hb); replace BX := Lib.hid (blk_below BX.out hb); replace BY := Lib.hid (blk_below BY.out hb); replace R12 := Lib.hid (Kd.R_below R12.out hb); replace R13 := Lib.hid (Kd.R_below R13.out hb); replace R14 := Lib.hid (Kd.R_below R14.out hb); replace R15 := Lib.hid (Kd.R_below R15.out hb); replace BZ := Lib.hid (blk_below BZ.out hb); replace BT := Lib.hid (blk_below BT.out hb); have R16 := Lib.hid (toR ho0); have R17 := Lib.hid (toR ho1); clear ho0 ho1 hb
 refine hK.out _ _ ⟨cell2 BG.out, cell2 BE.out⟩ (fun hHeld => ?_)
 clear hK K
 refine norm_ (a' := ?_) ?_ ?_
 rotate_left
 ·show Act.put _ (some 43) _ = _
  simp only [Act.put, sI_, s0_, sS_, i64_w, i32_w]
  rfl
 refine one_ (i := 3) (N := some 45) #[true, true, true, true, false, false, false, false, false, false] rfl rfl (by kernel_rfl) (by decide) (fun K hK => ?_)
 refine goes_ Try.func30 (by kernel_rfl) rfl #[.agg #[.slice A2 l2.length c2, .slice A3 l3.length c3]] (by rfl) rfl rfl (by (try simp only [List.map_toArray, List.map_cons, List.map_nil]); first | done | rfl) ?_
 with_reducible refine (scarfjointlaw07_own.calls A2 c2 l2 A3 c3 l3 l2 l3 _ (Kd.C_below R2.out BL.out) M2.out (Kd.C_below R3.out BL.out) M3.out hown).mono ?_
 rintro e w_ ⟨v0, v1, rfl, ho0, ho1, hb⟩
 refine ⟨_, rfl, ?_⟩
 obtain ⟨A18, c18, rfl⟩ := Kd.R_slice ho0; obtain ⟨A19, c19, rfl⟩ := Kd.R_slice ho1; replace BG := Lib.hid (blk_below BG.out hb); replace BL := Lib.hid (below_then BL.out BL.out.size hb); replace BE := Lib.hid (blk_below BE.out hb); replace R8 := Lib.hid (Kd.R_below R8.out hb); replace R9 := Lib.hid (Kd.R_below R9.out hb); replace R10 := Lib.hid (Kd.R_below R10.out hb); replace R11 := Lib.hid (Kd.R_below R11.out hb); replace BX := Lib.hid (blk_below BX.out hb); replace BY := Lib.hid (blk_below BY.out hb); replace R12 := Lib.hid (Kd.R_below R12.out hb); replace R13 := Lib.hid (Kd.R_below R13.out hb); replace R14 := Lib.hid (Kd.R_below R14.out hb); replace R15 := Lib.hid (Kd.R_below R15.out hb); replace BZ := Lib.hid (blk_below BZ.out hb); replace BT := Lib.hid (blk_below BT.out hb); replace R16 := Lib.hid (Kd.R_below R16.out hb); replace R17 := Lib.hid (Kd.R_below R17.out hb); have R18 := Lib.hid (toR ho0); have R19 := Lib.hid (toR ho1); clear ho0 ho1 hb
 refine hK.out _ _ ⟨cell2 BG.out, cell2 BE.out⟩ (fun hHeld => ?_)
 clear hK K
 refine norm_ (a' := ?_) ?_ ?_
 rotate_left
 ·show Act.put _ (some 45) _ = _
  simp only [Act.put, sI_, s0_, sS_, i64_w, i32_w]
  rfl
 refine one_ (i := 4) (N := some 46) #[true, true, true, true, true, false, false, false, false, false] rfl rfl (by kernel_rfl) (by decide) (fun K hK => ?_)
 refine goes_ Try.func21 (by kernel_rfl) rfl #[.agg #[.slice A16 l0.length c16, .slice A17 l1.length c17], .agg #[.slice A18 l2.length c18, .slice A19 l3.length c19]] (by rfl) rfl rfl (by (try simp only [List.map_toArray, List.map_cons, List.map_nil]); first | done | rfl) ?_
 with_reducible refine (subgraph_Boundary.calls k A16 c16 l0 A17 c17 l1 A18 c18 l2 A19 c19 l3 bd eb _ (Kd.R_reads' R16.out).2.2 (Kd.R_reads' R16.out).2.1 (Kd.R_reads' R17.out).2.2 (Kd.R_reads' R17.out).2.1 (Kd.R_reads' R18.out).2.2 (Kd.R_reads' R18.out).2.1 (Kd.R_reads' R19.out).2.2 (Kd.R_reads' R19.out).2.1 h3).mono ?_
 rintro e w_ ⟨v0, rfl, ho0, hb⟩
 refine ⟨_, rfl, ?_⟩
 obtain ⟨A20, c20, rfl⟩ := Kd.R_slice ho0; replace BG := Lib.hid (blk_below BG.out hb); replace BL := Lib.hid (below_then BL.out BL.out.size hb); replace BE := Lib.hid (blk_below BE.out hb); replace R8 := Lib.hid (Kd.R_below R8.out hb); replace R9 := Lib.hid (Kd.R_below R9.out hb); replace R10 := Lib.hid (Kd.R_below R10.out hb); replace R11 := Lib.hid (Kd.R_below R11.out hb); replace BX := Lib.hid (blk_below BX.out hb); replace BY := Lib.hid (blk_below BY.out hb); replace R12 := Lib.hid (Kd.R_below R12.out hb); replace R13 := Lib.hid (Kd.R_below R13.out hb); replace R14 := Lib.hid (Kd.R_below R14.out hb); replace R15 := Lib.hid (Kd.R_below R15.out hb); replace BZ := Lib.hid (blk_below BZ.out hb); replace BT := Lib.hid (blk_below BT.out hb); replace R16 := Lib.hid (Kd.R_below R16.out hb); replace R17 := Lib.hid (Kd.R_below R17.out hb); replace R18 := Lib.hid (Kd.R_below R18.out hb); replace R19 := Lib.hid (Kd.R_below R19.out hb); have R20 := Lib.hid (toR ho0); clear ho0 hb
 refine hK.out _ _ ⟨cell2 BG.out, cell2 BE.out⟩ (fun hHeld => ?_)
 clear hK K
 refine norm_ (a' := ?_) ?_ ?_
 rotate_left
 ·show Act.put _ (some 46) _ = _
  simp only [Act.put, sI_, s0_, sS_, i64_w, i32_w]
  rfl
 refine pure_ (i := 5) (N := some 41) (v := ?_) (a' := ?_) #[true, true, true, true, true, true, false, false, false, false] rfl rfl (by kernel_rfl) (fun _ _ _ h => h) (Or.inl ⟨by rfl, ?_⟩) ?_ ?_
 rotate_left
 ·intro w'
  go_simp
  with_reducible rfl
 rotate_left
 ·simp only [Act.put, sI_, s0_, sS_, i64_w, i32_w]
  rfl
 refine pure_ (i := 6) (N := some 47) (v := ?_) (a' := ?_) #[true, true, true, true, true, true, true, false, false, false] rfl rfl (by kernel_rfl) (fun _ _ _ h => h) (Or.inl ⟨by rfl, ?_⟩) ?_ ?_
 rotate_left
 ·intro w'
  go_simp
  with_reducible rfl
 rotate_left
 ·simp only [Act.put, sI_, s0_, sS_, i64_w, i32_w]
  rfl
 refine pure_ (i := 7) (N := some 48) (v := ?_) (a' := ?_) #[true, true, true, true, true, true, true, true, false, false] rfl rfl (by kernel_rfl) (fun _ _ _ h => h) (Or.inl ⟨by rfl, ?_⟩) ?_ ?_
 rotate_left
 ·intro w'
  go_simp
  with_reducible rfl
 rotate_left
 ·simp only [Act.put, sI_, s0_, sS_, i64_w, i32_w]
  rfl
 refine pure_ (i := 8) (N := some 11) (v := ?_) (a' := ?_) #[true, true, true, true, true, true, true, true, true, false] rfl rfl (by kernel_rfl) (fun _ _ _ h => h) (Or.inl ⟨by rfl, ?_⟩) ?_ ?_
 rotate_left
 ·intro w'
  go_simp
  with_reducible rfl
 rotate_left
 ·simp only [Act.put, sI_, s0_, sS_, i64_w, i32_w]
  rfl
 refine pure_ (i := 9) (N := some 12) (v := ?_) (a' := ?_) #[true, true, true, true, true, true, true, true, true, true] rfl rfl (by kernel_rfl) (fun _ _ _ h => h) (Or.inl ⟨by rfl, ?_⟩) ?_ ?_
 rotate_left
 ·intro w'
  go_simp
  with_reducible rfl
 rotate_left
 ·simp only [Act.put, sI_, s0_, sS_, i64_w, i32_w]
  rfl
 refine done_ (by kernel_rfl) ?_
 clear R16 R17 R18 R19; obtain ⟨zBG_0, zBG_1⟩ := cell2 BG.out; obtain ⟨zBE_0, zBE_1⟩ := cell2 BE.out
 go_upto_region 7 with (first
  | (go_at_call 32; with_reducible refine (scarfjointref07_Boundary.calls k A0 c0 l0 A1 c1 l1 A2 c2 l2 A3 c3 l3 bd eb _ (Kd.C_below R0.out BL.out) M0.out (Kd.C_below R1.out BL.out) M1.out (Kd.C_below R2.out BL.out) M2.out (Kd.C_below R3.out BL.out) M3.out h4).mono ?_; rintro e w_ ⟨v0, rfl, ho0, hb⟩; clear zBG_0 zBG_1 zBE_0 zBE_1; obtain ⟨A21, c21, rfl⟩ := Kd.R_slice ho0; replace BG := Lib.hid (blk_below BG.out hb); replace BL := Lib.hid (below_then BL.out BL.out.size hb); replace BE := Lib.hid (blk_below BE.out hb); replace R8 := Lib.hid (Kd.R_below R8.out hb); replace R9 := Lib.hid (Kd.R_below R9.out hb); replace R10 := Lib.hid (Kd.R_below R10.out hb); replace R11 := Lib.hid (Kd.R_below R11.out hb); replace BX := Lib.hid (blk_below BX.out hb); replace BY := Lib.hid (blk_below BY.out hb); replace R12 := Lib.hid (Kd.R_below R12.out hb); replace R13 := Lib.hid (Kd.R_below R13.out hb); replace R14 := Lib.hid (Kd.R_below R14.out hb); replace R15 := Lib.hid (Kd.R_below R15.out hb); replace BZ := Lib.hid (blk_below BZ.out hb); replace BT := Lib.hid (blk_below BT.out hb); replace R20 := Lib.hid (Kd.R_below R20.out hb); have R21 := Lib.hid (toR (ho0)); clear ho0 hb; obtain ⟨zBG_0, zBG_1⟩ := cell2 BG.out; obtain ⟨zBE_0, zBE_1⟩ := cell2 BE.out))
 clear zBG_0 zBG_1 zBE_0 zBE_1; replace BG := Lib.hid (blk_drew BG.out); replace BL := Lib.hid (below_drew1 BL.out); replace BE := Lib.hid (blk_drew BE.out); replace R8 := Lib.hid (Kd.R_drew R8.out); replace R9 := Lib.hid (Kd.R_drew R9.out); replace R10 := Lib.hid (Kd.R_drew R10.out); replace R11 := Lib.hid (Kd.R_drew R11.out); replace BX := Lib.hid (blk_drew BX.out); replace BY := Lib.hid (blk_drew BY.out); replace R12 := Lib.hid (Kd.R_drew R12.out); replace R13 := Lib.hid (Kd.R_drew R13.out); replace R14 := Lib.hid (Kd.R_drew R14.out); replace R15 := Lib.hid (Kd.R_drew R15.out); replace BZ := Lib.hid (blk_drew BZ.out); replace BT := Lib.hid (blk_drew BT.out); replace R20 := Lib.hid (Kd.R_drew R20.out); replace R21 := Lib.hid (Kd.R_drew R21.out)
 refine start_ (n := 33) (S := fun w' => C2 w' g (.slice A0 l0.length c0) (.slice A1 l1.length c1) ∧ C2 w' h (.slice A2 l2.length c2) (.slice A3 l3.length c3) ∧ C2 w' x (.slice A8 a0.length c8) (.slice A9 a1.length c9) ∧ C2 w' y (.slice A10 n0.length c10) (.slice A11 n1.length c11) ∧ C2 w' z (.slice A12 a0.length c12) (.slice A13 a1.length c13) ∧ C2 w' t (.slice A14 n0.length c14) (.slice A15 n1.length c15)) (ds := []) #[false, false, false, false, false, false, false, false, false, false, false, false, false, false, false, false, false, false, false, false, false, false, false, false, false, false, false, false, false, false, false, false, false] (by kernel_rfl) rfl rfl ⟨cell2 BG.out, cell2 BE.out, cell2 BX.out, cell2 BY.out, cell2 BZ.out, cell2 BT.out⟩ (fun hHeld => ?_)
 refine take_ (i := 0) (N := some 55) (v := ?_) (a' := ?_) #[true, false, false, false, false, false, false, false, false, false, false, false, false, false, false, false, false, false, false, false, false, false, false, false, false, false, false, false, false, false, false, false, false] rfl rfl (by kernel_rfl) (fun _ _ _ h => h) (Or.inl ⟨by rfl, ?_⟩) hHeld ?_ ?_
 rotate_left
 ·rintro w' ⟨⟨s0, s1⟩, ⟨s2, s3⟩, ⟨s4, s5⟩, ⟨s6, s7⟩, ⟨s8, s9⟩, ⟨s10, s11⟩⟩
  go_simp
  with_reducible rfl
 rotate_left
 ·simp only [Act.put, sI_, s0_, sS_, i64_w, i32_w]
  rfl
 refine take_ (i := 1) (N := some 56) (v := ?_) (a' := ?_) #[true, true, false, false, false, false, false, false, false, false, false, false, false, false, false, false, false, false, false, false, false, false, false, false, false, false, false, false, false, false, false, false, false] rfl rfl (by kernel_rfl) (fun _ _ _ h => h) (Or.inl ⟨by rfl, ?_⟩) hHeld ?_ ?_
 rotate_left
 ·rintro w' ⟨⟨s0, s1⟩, ⟨s2, s3⟩, ⟨s4, s5⟩, ⟨s6, s7⟩, ⟨s8, s9⟩, ⟨s10, s11⟩⟩
  go_simp
  with_reducible rfl
 rotate_left
 ·simp only [Act.put, sI_, s0_, sS_, i64_w, i32_w]
  rfl
 refine take_ (i := 3) (N := some 58) (v := ?_) (a' := ?_) #[true, true, false, true, false, false, false, false, false, false, false, false, false, false, false, false, false, false, false, false, false, false, false, false, false, false, false, false, false, false, false, false, false] rfl rfl (by kernel_rfl) (fun _ _ _ h => h) (Or.inl ⟨by rfl, ?_⟩) hHeld ?_ ?_
 rotate_left
 ·rintro w' ⟨⟨s0, s1⟩, ⟨s2, s3⟩, ⟨s4, s5⟩, ⟨s6, s7⟩, ⟨s8, s9⟩, ⟨s10, s11⟩⟩
  go_simp
  with_reducible rfl
 rotate_left
 ·simp only [Act.put, sI_, s0_, sS_, i64_w, i32_w]
  rfl
 refine take_ (i := 4) (N := some 59) (v := ?_) (a' := ?_) #[true, true, false, true, true, false, false, false, false, false, false, false, false, false, false, false, false, false, false, false, false, false, false, false, false, false, false, false, false, false, false, false, false] rfl rfl (by kernel_rfl) (fun _ _ _ h => h) (Or.inl ⟨by rfl, ?_⟩) hHeld ?_ ?_
 rotate_left
 ·rintro w' ⟨⟨s0, s1⟩, ⟨s2, s3⟩, ⟨s4, s5⟩, ⟨s6, s7⟩, ⟨s8, s9⟩, ⟨s10, s11⟩⟩
  go_simp
  with_reducible rfl
 rotate_left
 ·simp only [Act.put, sI_, s0_, sS_, i64_w, i32_w]
  rfl
 refine one_ (i := 2) (N := some 57) #[true, true, true, true, true, false, false, false, false, false, false, false, false, false, false, false, false, false, false, false, false, false, false, false, false, false, false, false, false, false, false, false, false] rfl rfl (by kernel_rfl) (by decide) (fun K hK => ?_)
 refine goes_ Try.func27 (by kernel_rfl) rfl #[.agg #[.slice A0 l0.length c0, .slice A1 l1.length c1], .agg #[.slice A2 l2.length c2, .slice A3 l3.length c3]] (by rfl) rfl rfl (by (try simp only [List.map_toArray, List.map_cons, List.map_nil]); first | done | rfl) ?_
 with_reducible refine (subgraph_Valid.calls k A0 c0 l0 A1 c1 l1 A2 c2 l2 A3 c3 l3 ev _ (Kd.C_below R0.out BL.out) M0.out (Kd.C_below R1.out BL.out) M1.out (Kd.C_below R2.out BL.out) M2.out (Kd.C_below R3.out BL.out) M3.out h5).mono ?_
 rintro e w_ ⟨rfl, hb⟩
 refine ⟨_, rfl, ?_⟩
 replace BG := Lib.hid (blk_below BG.out hb); replace BL := Lib.hid (below_then BL.out BL.out.size hb); replace BE := Lib.hid (blk_below BE.out hb); replace R8 := Lib.hid (Kd.R_below R8.out hb); replace R9 := Lib.hid (Kd.R_below R9.out hb); replace R10 := Lib.hid (Kd.R_below R10.out hb); replace R11 := Lib.hid (Kd.R_below R11.out hb); replace BX := Lib.hid (blk_below BX.out hb); replace BY := Lib.hid (blk_below BY.out hb); replace R12 := Lib.hid (Kd.R_below R12.out hb); replace R13 := Lib.hid (Kd.R_below R13.out hb); replace R14 := Lib.hid (Kd.R_below R14.out hb); replace R15 := Lib.hid (Kd.R_below R15.out hb); replace BZ := Lib.hid (blk_below BZ.out hb); replace BT := Lib.hid (blk_below BT.out hb); replace R20 := Lib.hid (Kd.R_below R20.out hb); replace R21 := Lib.hid (Kd.R_below R21.out hb); clear hb
 refine hK.out _ _ ⟨cell2 BG.out, cell2 BE.out, cell2 BX.out, cell2 BY.out, cell2 BZ.out, cell2 BT.out⟩ (fun hHeld => ?_)
 clear hK K
 refine norm_ (a' := ?_) ?_ ?_
 rotate_left
 ·show Act.put _ (some 57) _ = _
  simp only [Act.put, sI_, s0_, sS_, i64_w, i32_w]
  rfl
 refine one_ (i := 5) (N := some 60) #[true, true, true, true, true, true, false, false, false, false, false, false, false, false, false, false, false, false, false, false, false, false, false, false, false, false, false, false, false, false, false, false, false] rfl rfl (by kernel_rfl) (by decide) (fun K hK => ?_)
 refine goes_ Try.func33 (by kernel_rfl) rfl #[.agg #[.slice A0 l0.length c0, .slice A1 l1.length c1], .agg #[.slice A2 l2.length c2, .slice A3 l3.length c3]] (by rfl) rfl rfl (by (try simp only [List.map_toArray, List.map_cons, List.map_nil]); first | done | rfl) ?_
 with_reducible refine (scarfjointref07_Valid.calls k A0 c0 l0 A1 c1 l1 A2 c2 l2 A3 c3 l3 ev _ (Kd.C_below R0.out BL.out) M0.out (Kd.C_below R1.out BL.out) M1.out (Kd.C_below R2.out BL.out) M2.out (Kd.C_below R3.out BL.out) M3.out h6).mono ?_
 rintro e w_ ⟨rfl, hb⟩
 refine ⟨_, rfl, ?_⟩
 replace BG := Lib.hid (blk_below BG.out hb); replace BL := Lib.hid (below_then BL.out BL.out.size hb); replace BE := Lib.hid (blk_below BE.out hb); replace R8 := Lib.hid (Kd.R_below R8.out hb); replace R9 := Lib.hid (Kd.R_below R9.out hb); replace R10 := Lib.hid (Kd.R_below R10.out hb); replace R11 := Lib.hid (Kd.R_below R11.out hb); replace BX := Lib.hid (blk_below BX.out hb); replace BY := Lib.hid (blk_below BY.out hb); replace R12 := Lib.hid (Kd.R_below R12.out hb); replace R13 := Lib.hid (Kd.R_below R13.out hb); replace R14 := Lib.hid (Kd.R_below R14.out hb); replace R15 := Lib.hid (Kd.R_below R15.out hb); replace BZ := Lib.hid (blk_below BZ.out hb); replace BT := Lib.hid (blk_below BT.out hb); replace R20 := Lib.hid (Kd.R_below R20.out hb); replace R21 := Lib.hid (Kd.R_below R21.out hb); clear hb
 refine hK.out _ _ ⟨cell2 BG.out, cell2 BE.out, cell2 BX.out, cell2 BY.out, cell2 BZ.out, cell2 BT.out⟩ (fun hHeld => ?_)
 clear hK K
 refine norm_ (a' := ?_) ?_ ?_
 rotate_left
 ·show Act.put _ (some 60) _ = _
  simp only [Act.put, sI_, s0_, sS_, i64_w, i32_w]
  rfl
 refine pure_ (i := 6) (N := some 61) (v := ?_) (a' := ?_) #[true, true, true, true, true, true, true, false, false, false, false, false, false, false, false, false, false, false, false, false, false, false, false, false, false, false, false, false, false, false, false, false, false] rfl rfl (by kernel_rfl) (fun _ _ _ h => h) (Or.inl ⟨by rfl, ?_⟩) ?_ ?_
 rotate_left
 ·intro w'
  go_simp
  with_reducible rfl
 rotate_left
 ·simp only [Act.put, sI_, s0_, sS_, i64_w, i32_w]
  rfl
 refine pure_ (i := 7) (N := some 62) (v := ?_) (a' := ?_) #[true, true, true, true, true, true, true, true, false, false, false, false, false, false, false, false, false, false, false, false, false, false, false, false, false, false, false, false, false, false, false, false, false] rfl rfl (by kernel_rfl) (fun _ _ _ h => h) (Or.inl ⟨by rfl, ?_⟩) ?_ ?_
 rotate_left
 ·intro w'
  go_simp
  with_reducible rfl
 rotate_left
 ·simp only [Act.put, sI_, s0_, sS_, i64_w, i32_w]
  rfl
 refine take_ (i := 8) (N := some 63) (v := ?_) (a' := ?_) #[true, true, true, true, true, true, true, true, true, false, false, false, false, false, false, false, false, false, false, false, false, false, false, false, false, false, false, false, false, false, false, false, false] rfl rfl (by kernel_rfl) (fun _ _ _ h => h) (Or.inl ⟨by rfl, ?_⟩) hHeld ?_ ?_
 rotate_left
 ·rintro w' ⟨⟨s0, s1⟩, ⟨s2, s3⟩, ⟨s4, s5⟩, ⟨s6, s7⟩, ⟨s8, s9⟩, ⟨s10, s11⟩⟩
  go_simp
  with_reducible rfl
 rotate_left
 ·simp only [Act.put, sI_, s0_, sS_, i64_w, i32_w]
  rfl
 refine take_ (i := 9) (N := some 64) (v := ?_) (a' := ?_) #[true, true, true, true, true, true, true, true, true, true, false, false, false, false, false, false, false, false, false, false, false, false, false, false, false, false, false, false, false, false, false, false, false] rfl rfl (by kernel_rfl) (fun _ _ _ h => h) (Or.inl ⟨by rfl, ?_⟩) hHeld ?_ ?_
 rotate_left
 ·rintro w' ⟨⟨s0, s1⟩, ⟨s2, s3⟩, ⟨s4, s5⟩, ⟨s6, s7⟩, ⟨s8, s9⟩, ⟨s10, s11⟩⟩
  go_simp
  with_reducible rfl
 rotate_left
 ·simp only [Act.put, sI_, s0_, sS_, i64_w, i32_w]
  rfl
 refine one_ (i := 10) (N := some 65) #[true, true, true, true, true, true, true, true, true, true, true, false, false, false, false, false, false, false, false, false, false, false, false, false, false, false, false, false, false, false, false, false, false] rfl rfl (by kernel_rfl) (by decide) (fun K hK => ?_)
 refine goes_ Try.func34 (by kernel_rfl) rfl #[.agg #[.slice A8 a0.length c8, .slice A9 a1.length c9], .agg #[.slice A12 a0.length c12, .slice A13 a1.length c13]] (by rfl) rfl rfl (by (try simp only [List.map_toArray, List.map_cons, List.map_nil]); first | done | rfl) ?_
 with_reducible refine (scarfjointref05_Same.calls k A8 c8 a0 A9 c9 a1 A12 c12 a0 A13 c13 a1 true _ (Kd.R_reads' R8.out).2.2 (Kd.R_reads' R8.out).2.1 (Kd.R_reads' R9.out).2.2 (Kd.R_reads' R9.out).2.1 (Kd.R_reads' R12.out).2.2 (Kd.R_reads' R12.out).2.1 (Kd.R_reads' R13.out).2.2 (Kd.R_reads' R13.out).2.1 h7).mono ?_
 rintro e w_ ⟨rfl, hb⟩
 refine ⟨_, rfl, ?_⟩
 replace BG := Lib.hid (blk_below BG.out hb); replace BL := Lib.hid (below_then BL.out BL.out.size hb); replace BE := Lib.hid (blk_below BE.out hb); replace R8 := Lib.hid (Kd.R_below R8.out hb); replace R9 := Lib.hid (Kd.R_below R9.out hb); replace R10 := Lib.hid (Kd.R_below R10.out hb); replace R11 := Lib.hid (Kd.R_below R11.out hb); replace BX := Lib.hid (blk_below BX.out hb); replace BY := Lib.hid (blk_below BY.out hb); replace R12 := Lib.hid (Kd.R_below R12.out hb); replace R13 := Lib.hid (Kd.R_below R13.out hb); replace R14 := Lib.hid (Kd.R_below R14.out hb); replace R15 := Lib.hid (Kd.R_below R15.out hb); replace BZ := Lib.hid (blk_below BZ.out hb); replace BT := Lib.hid (blk_below BT.out hb); replace R20 := Lib.hid (Kd.R_below R20.out hb); replace R21 := Lib.hid (Kd.R_below R21.out hb); clear hb
 refine hK.out _ _ ⟨cell2 BG.out, cell2 BE.out, cell2 BX.out, cell2 BY.out, cell2 BZ.out, cell2 BT.out⟩ (fun hHeld => ?_)
 clear hK K
 refine norm_ (a' := ?_) ?_ ?_
 rotate_left
 ·show Act.put _ (some 65) _ = _
  simp only [Act.put, sI_, s0_, sS_, i64_w, i32_w]
  rfl
 refine pure_ (i := 11) (N := some 66) (v := ?_) (a' := ?_) #[true, true, true, true, true, true, true, true, true, true, true, true, false, false, false, false, false, false, false, false, false, false, false, false, false, false, false, false, false, false, false, false, false] rfl rfl (by kernel_rfl) (fun _ _ _ h => h) (Or.inl ⟨by rfl, ?_⟩) ?_ ?_
 rotate_left
 ·intro w'
  go_simp
  with_reducible rfl
 rotate_left
 ·simp only [Act.put, sI_, s0_, sS_, i64_w, i32_w]
  rfl
 refine pure_ (i := 12) (N := some 67) (v := ?_) (a' := ?_) #[true, true, true, true, true, true, true, true, true, true, true, true, true, false, false, false, false, false, false, false, false, false, false, false, false, false, false, false, false, false, false, false, false] rfl rfl (by kernel_rfl) (fun _ _ _ h => h) (Or.inl ⟨by rfl, ?_⟩) ?_ ?_
 rotate_left
 ·intro w'
  go_simp
  with_reducible rfl
 rotate_left
 ·simp only [Act.put, sI_, s0_, sS_, i64_w, i32_w]
  rfl
 refine take_ (i := 13) (N := some 68) (v := ?_) (a' := ?_) #[true, true, true, true, true, true, true, true, true, true, true, true, true, true, false, false, false, false, false, false, false, false, false, false, false, false, false, false, false, false, false, false, false] rfl rfl (by kernel_rfl) (fun _ _ _ h => h) (Or.inl ⟨by rfl, ?_⟩) hHeld ?_ ?_
 rotate_left
 ·rintro w' ⟨⟨s0, s1⟩, ⟨s2, s3⟩, ⟨s4, s5⟩, ⟨s6, s7⟩, ⟨s8, s9⟩, ⟨s10, s11⟩⟩
  go_simp
  with_reducible rfl
 rotate_left
 ·simp only [Act.put, sI_, s0_, sS_, i64_w, i32_w]
  rfl
 refine take_ (i := 14) (N := some 69) (v := ?_) (a' := ?_) #[true, true, true, true, true, true, true, true, true, true, true, true, true, true, true, false, false, false, false, false, false, false, false, false, false, false, false, false, false, false, false, false, false] rfl rfl (by kernel_rfl) (fun _ _ _ h => h) (Or.inl ⟨by rfl, ?_⟩) hHeld ?_ ?_
 rotate_left
 ·rintro w' ⟨⟨s0, s1⟩, ⟨s2, s3⟩, ⟨s4, s5⟩, ⟨s6, s7⟩, ⟨s8, s9⟩, ⟨s10, s11⟩⟩
  go_simp
  with_reducible rfl
 rotate_left
 ·simp only [Act.put, sI_, s0_, sS_, i64_w, i32_w]
  rfl
 refine one_ (i := 15) (N := some 70) #[true, true, true, true, true, true, true, true, true, true, true, true, true, true, true, true, false, false, false, false, false, false, false, false, false, false, false, false, false, false, false, false, false] rfl rfl (by kernel_rfl) (by decide) (fun K hK => ?_)
 refine goes_ Try.func35 (by kernel_rfl) rfl #[.agg #[.slice A10 n0.length c10, .slice A11 n1.length c11], .agg #[.slice A14 n0.length c14, .slice A15 n1.length c15]] (by rfl) rfl rfl (by (try simp only [List.map_toArray, List.map_cons, List.map_nil]); first | done | rfl) ?_
 with_reducible refine (scarfjointref06_Same.calls k A10 c10 n0 A11 c11 n1 A14 c14 n0 A15 c15 n1 true _ (Kd.R_reads' R10.out).2.2 (Kd.R_reads' R10.out).2.1 (Kd.R_reads' R11.out).2.2 (Kd.R_reads' R11.out).2.1 (Kd.R_reads' R14.out).2.2 (Kd.R_reads' R14.out).2.1 (Kd.R_reads' R15.out).2.2 (Kd.R_reads' R15.out).2.1 h8).mono ?_
 rintro e w_ ⟨rfl, hb⟩
 refine ⟨_, rfl, ?_⟩
 replace BG := Lib.hid (blk_below BG.out hb); replace BL := Lib.hid (below_then BL.out BL.out.size hb); replace BE := Lib.hid (blk_below BE.out hb); replace R8 := Lib.hid (Kd.R_below R8.out hb); replace R9 := Lib.hid (Kd.R_below R9.out hb); replace R10 := Lib.hid (Kd.R_below R10.out hb); replace R11 := Lib.hid (Kd.R_below R11.out hb); replace BX := Lib.hid (blk_below BX.out hb); replace BY := Lib.hid (blk_below BY.out hb); replace R12 := Lib.hid (Kd.R_below R12.out hb); replace R13 := Lib.hid (Kd.R_below R13.out hb); replace R14 := Lib.hid (Kd.R_below R14.out hb); replace R15 := Lib.hid (Kd.R_below R15.out hb); replace BZ := Lib.hid (blk_below BZ.out hb); replace BT := Lib.hid (blk_below BT.out hb); replace R20 := Lib.hid (Kd.R_below R20.out hb); replace R21 := Lib.hid (Kd.R_below R21.out hb); clear hb
 refine hK.out _ _ ⟨cell2 BG.out, cell2 BE.out, cell2 BX.out, cell2 BY.out, cell2 BZ.out, cell2 BT.out⟩ (fun hHeld => ?_)
 clear hK K
 refine norm_ (a' := ?_) ?_ ?_
 rotate_left
 ·show Act.put _ (some 70) _ = _
  simp only [Act.put, sI_, s0_, sS_, i64_w, i32_w]
  rfl
 refine pure_ (i := 16) (N := some 71) (v := ?_) (a' := ?_) #[true, true, true, true, true, true, true, true, true, true, true, true, true, true, true, true, true, false, false, false, false, false, false, false, false, false, false, false, false, false, false, false, false] rfl rfl (by kernel_rfl) (fun _ _ _ h => h) (Or.inl ⟨by rfl, ?_⟩) ?_ ?_
 rotate_left
 ·intro w'
  go_simp
  with_reducible rfl
 rotate_left
 ·simp only [Act.put, sI_, s0_, sS_, i64_w, i32_w]
  rfl
 refine pure_ (i := 17) (N := some 72) (v := ?_) (a' := ?_) #[true, true, true, true, true, true, true, true, true, true, true, true, true, true, true, true, true, true, false, false, false, false, false, false, false, false, false, false, false, false, false, false, false] rfl rfl (by kernel_rfl) (fun _ _ _ h => h) (Or.inl ⟨by rfl, ?_⟩) ?_ ?_
 rotate_left
 ·intro w'
  go_simp
  with_reducible rfl
 rotate_left
 ·simp only [Act.put, sI_, s0_, sS_, i64_w, i32_w]
  rfl
 refine pure_ (i := 18) (N := some 73) (v := ?_) (a' := ?_) #[true, true, true, true, true, true, true, true, true, true, true, true, true, true, true, true, true, true, true, false, false, false, false, false, false, false, false, false, false, false, false, false, false] rfl rfl (by kernel_rfl) (fun _ _ _ h => h) (Or.inl ⟨by rfl, ?_⟩) ?_ ?_
 rotate_left
 ·intro w'
  go_simp
  with_reducible rfl
 rotate_left
 ·simp only [Act.put, sI_, s0_, sS_, i64_w, i32_w]
  rfl
 refine pure_ (i := 19) (N := some 74) (v := ?_) (a' := ?_) #[true, true, true, true, true, true, true, true, true, true, true, true, true, true, true, true, true, true, true, true, false, false, false, false, false, false, false, false, false, false, false, false, false] rfl rfl (by kernel_rfl) (fun _ _ _ h => h) (Or.inl ⟨by rfl, ?_⟩) ?_ ?_
 rotate_left
 ·intro w'
  go_simp
  with_reducible rfl
 rotate_left
 ·simp only [Act.put, sI_, s0_, sS_, i64_w, i32_w]
  rfl
 refine pure_ (i := 20) (N := some 75) (v := ?_) (a' := ?_) #[true, true, true, true, true, true, true, true, true, true, true, true, true, true, true, true, true, true, true, true, true, false, false, false, false, false, false, false, false, false, false, false, false] rfl rfl (by kernel_rfl) (fun _ _ _ h => h) (Or.inl ⟨by rfl, ?_⟩) ?_ ?_
 rotate_left
 ·intro w'
  go_simp
  with_reducible rfl
 rotate_left
 ·simp only [Act.put, sI_, s0_, sS_, i64_w, i32_w]
  rfl
 refine pure_ (i := 21) (N := some 76) (v := ?_) (a' := ?_) #[true, true, true, true, true, true, true, true, true, true, true, true, true, true, true, true, true, true, true, true, true, true, false, false, false, false, false, false, false, false, false, false, false] rfl rfl (by kernel_rfl) (fun _ _ _ h => h) (Or.inl ⟨by rfl, ?_⟩) ?_ ?_
 rotate_left
 ·intro w'
  go_simp
  with_reducible rfl
 rotate_left
 ·simp only [Act.put, sI_, s0_, sS_, i64_w, i32_w]
  rfl
 refine pure_ (i := 22) (N := some 77) (v := ?_) (a' := ?_) #[true, true, true, true, true, true, true, true, true, true, true, true, true, true, true, true, true, true, true, true, true, true, true, false, false, false, false, false, false, false, false, false, false] rfl rfl (by kernel_rfl) (fun _ _ _ h => h) (Or.inl ⟨by rfl, ?_⟩) ?_ ?_
 rotate_left
 ·intro w'
  go_simp
  with_reducible rfl
 rotate_left
 ·simp only [Act.put, sI_, s0_, sS_, i64_w, i32_w]
  rfl
 refine pure_ (i := 23) (N := some 78) (v := ?_) (a' := ?_) #[true, true, true, true, true, true, true, true, true, true, true, true, true, true, true, true, true, true, true, true, true, true, true, true, false, false, false, false, false, false, false, false, false] rfl rfl (by kernel_rfl) (fun _ _ _ h => h) (Or.inl ⟨by rfl, ?_⟩) ?_ ?_
 rotate_left
 ·intro w'
  go_simp
  with_reducible rfl
 rotate_left
 ·simp only [Act.put, sI_, s0_, sS_, i64_w, i32_w]
  rfl
 refine pure_ (i := 24) (N := some 79) (v := ?_) (a' := ?_) #[true, true, true, true, true, true, true, true, true, true, true, true, true, true, true, true, true, true, true, true, true, true, true, true, true, false, false, false, false, false, false, false, false] rfl rfl (by kernel_rfl) (fun _ _ _ h => h) (Or.inl ⟨by rfl, ?_⟩) ?_ ?_
 rotate_left
 ·intro w'
  go_simp
  with_reducible rfl
 rotate_left
 ·simp only [Act.put, sI_, s0_, sS_, i64_w, i32_w]
  rfl
 refine one_ (i := 25) (N := some 80) #[true, true, true, true, true, true, true, true, true, true, true, true, true, true, true, true, true, true, true, true, true, true, true, true, true, true, false, false, false, false, false, false, false] rfl rfl (by kernel_rfl) (by decide) (fun K hK => ?_)
 refine goes_ Try.func36 (by kernel_rfl) rfl #[.slice A20 bd.length c20, .slice A21 bd.length c21] (by rfl) rfl rfl (by (try simp only [List.map_toArray, List.map_cons, List.map_nil]); first | done | rfl) ?_
 with_reducible refine (slices_Equal_int_int.calls k A20 c20 bd A21 c21 bd true _ (Kd.R_reads' R20.out).2.2 (Kd.R_reads' R20.out).2.1 (Kd.R_reads' R21.out).2.2 (Kd.R_reads' R21.out).2.1 h9).mono ?_
 rintro e w_ ⟨rfl, hb⟩
 refine ⟨_, rfl, ?_⟩
 replace hb := hb.below; replace BG := Lib.hid (blk_below BG.out hb); replace BL := Lib.hid (below_then BL.out BL.out.size hb); replace BE := Lib.hid (blk_below BE.out hb); replace R8 := Lib.hid (Kd.R_below R8.out hb); replace R9 := Lib.hid (Kd.R_below R9.out hb); replace R10 := Lib.hid (Kd.R_below R10.out hb); replace R11 := Lib.hid (Kd.R_below R11.out hb); replace BX := Lib.hid (blk_below BX.out hb); replace BY := Lib.hid (blk_below BY.out hb); replace R12 := Lib.hid (Kd.R_below R12.out hb); replace R13 := Lib.hid (Kd.R_below R13.out hb); replace R14 := Lib.hid (Kd.R_below R14.out hb); replace R15 := Lib.hid (Kd.R_below R15.out hb); replace BZ := Lib.hid (blk_below BZ.out hb); replace BT := Lib.hid (blk_below BT.out hb); replace R20 := Lib.hid (Kd.R_below R20.out hb); replace R21 := Lib.hid (Kd.R_below R21.out hb); clear hb
 refine hK.out _ _ ⟨cell2 BG.out, cell2 BE.out, cell2 BX.out, cell2 BY.out, cell2 BZ.out, cell2 BT.out⟩ (fun hHeld => ?_)
 clear hK K
 refine norm_ (a' := ?_) ?_ ?_
 rotate_left
 ·show Act.put _ (some 80) _ = _
  simp only [Act.put, sI_, s0_, sS_, i64_w, i32_w]
  rfl
 refine pure_ (i := 26) (N := some 81) (v := ?_) (a' := ?_) #[true, true, true, true, true, true, true, true, true, true, true, true, true, true, true, true, true, true, true, true, true, true, true, true, true, true, true, false, false, false, false, false, false] rfl rfl (by kernel_rfl) (fun _ _ _ h => h) (Or.inl ⟨by rfl, ?_⟩) ?_ ?_
 rotate_left
 ·intro w'
  go_simp
  with_reducible rfl
 rotate_left
 ·simp only [Act.put, sI_, s0_, sS_, i64_w, i32_w]
  rfl
 refine pure_ (i := 27) (N := some 82) (v := ?_) (a' := ?_) #[true, true, true, true, true, true, true, true, true, true, true, true, true, true, true, true, true, true, true, true, true, true, true, true, true, true, true, true, false, false, false, false, false] rfl rfl (by kernel_rfl) (fun _ _ _ h => h) (Or.inl ⟨by rfl, ?_⟩) ?_ ?_
 rotate_left
 ·intro w'
  go_simp
  with_reducible rfl
 rotate_left
 ·simp only [Act.put, sI_, s0_, sS_, i64_w, i32_w]
  rfl
 refine pure_ (i := 28) (N := some 83) (v := ?_) (a' := ?_) #[true, true, true, true, true, true, true, true, true, true, true, true, true, true, true, true, true, true, true, true, true, true, true, true, true, true, true, true, true, false, false, false, false] rfl rfl (by kernel_rfl) (fun _ _ _ h => h) (Or.inl ⟨by rfl, ?_⟩) ?_ ?_
 rotate_left
 ·intro w'
  go_simp
  with_reducible rfl
 rotate_left
 ·simp only [Act.put, sI_, s0_, sS_, i64_w, i32_w]
  rfl
 refine pure_ (i := 29) (N := some 84) (v := ?_) (a' := ?_) #[true, true, true, true, true, true, true, true, true, true, true, true, true, true, true, true, true, true, true, true, true, true, true, true, true, true, true, true, true, true, false, false, false] rfl rfl (by kernel_rfl) (fun _ _ _ h => h) (Or.inl ⟨by rfl, ?_⟩) ?_ ?_
 rotate_left
 ·intro w'
  go_simp
  with_reducible rfl
 rotate_left
 ·simp only [Act.put, sI_, s0_, sS_, i64_w, i32_w]
  rfl
 refine pure_ (i := 30) (N := some 85) (v := ?_) (a' := ?_) #[true, true, true, true, true, true, true, true, true, true, true, true, true, true, true, true, true, true, true, true, true, true, true, true, true, true, true, true, true, true, true, false, false] rfl rfl (by kernel_rfl) (fun _ _ _ h => h) (Or.inl ⟨by rfl, ?_⟩) ?_ ?_
 rotate_left
 ·intro w'
  go_simp
  with_reducible rfl
 rotate_left
 ·simp only [Act.put, sI_, s0_, sS_, i64_w, i32_w]
  rfl
 refine pure_ (i := 31) (N := some 86) (v := ?_) (a' := ?_) #[true, true, true, true, true, true, true, true, true, true, true, true, true, true, true, true, true, true, true, true, true, true, true, true, true, true, true, true, true, true, true, true, false] rfl rfl (by kernel_rfl) (fun _ _ _ h => h) (Or.inl ⟨by rfl, ?_⟩) ?_ ?_
 rotate_left
 ·intro w'
  go_simp
  with_reducible rfl
 rotate_left
 ·simp only [Act.put, sI_, s0_, sS_, i64_w, i32_w]
  rfl
 refine pure_ (i := 32) (N := some 4) (v := ?_) (a' := ?_) #[true, true, true, true, true, true, true, true, true, true, true, true, true, true, true, true, true, true, true, true, true, true, true, true, true, true, true, true, true, true, true, true, true] rfl rfl (by kernel_rfl) (fun _ _ _ h => h) (Or.inl ⟨by rfl, ?_⟩) ?_ ?_
 rotate_left
 ·intro w'
  go_simp
  with_reducible rfl
 rotate_left
 ·simp only [Act.put, sI_, s0_, sS_, i64_w, i32_w]
  rfl
 refine done_ (by kernel_rfl) ?_
 go_wp2
 exact bodyPost_ret (v := .bool true) (by simp [results, Try.f6, go_sem]) rfl ⟨rfl, BL.out⟩
set_option maxHeartbeats 4000000 in
set_option maxRecDepth 100000 in
theorem scarfjointlaw07_SubgraphValid.big (A0 : Option Addr) (c0 : Nat) (l0 : List Int) (A1 : Option Addr) (c1 : Nat) (l1 : List S78) (A2 : Option Addr) (c2 : Nat) (l2 : List Int) (A3 : Option Addr) (c3 : Nat) (l3 : List Int) (w : World)
  (r0 : Kd.C (Kd.int .i64) w A0 l0.length l0) (m0 : l0.length ≤ c0) (r1 : Kd.C k78 w A1 l1.length l1) (m1 : l1.length ≤ c1) (r2 : Kd.C (Kd.int .i64) w A2 l2.length l2) (m2 : l2.length ≤ c2) (r3 : Kd.C (Kd.int .i64) w A3 l3.length l3) (m3 : l3.length ≤ c3)
  (hsm : scarfjointlaw07_small.f l0 l1 [⟨l2, l3⟩] = some false) :
  Calls Try.prog 6 #[.agg #[.slice A0 l0.length c0, .slice A1 l1.length c1], .agg #[.slice A2 l2.length c2, .slice A3 l3.length c3]] w fun e w' => e = .returned (.bool true) ∧ Below w.heap.size w w' := by
 have hu25 := Try.underlying25; have hu27 := Try.underlying27; have hu51 := Try.underlying51; have R0 := Lib.hid r0; have R1 := Lib.hid r1; have R2 := Lib.hid r2; have R3 := Lib.hid r3; have M0 := Lib.hid m0; have M1 := Lib.hid m1; have M2 := Lib.hid m2; have M3 := Lib.hid m3; clear r0 r1 r2 r3 m0 m1 m2 m3
 go_enter Try.func6, Try.ntmps6
 go_upto_region 1 with (first
  | ((with_reducible refine gate_dst (N := 2) rfl ?_); (try (refine gate_guard (by rfl) ?_; dsimp only)); refine box_event ?hg (N := 2) ?hd (cs := #[.slice A0 l0.length c0, .slice A1 l1.length c1]) (t := 25) ?hr ?_; (case hd => rfl); (case hg => rfl); (case hr => first | (go_simp; done) | (go_simp; rfl)); intro g hg w_ hbox hb; have HG : w.heap.size ≤ g := (hg ▸ Nat.le_refl _); have BG := Lib.hid hbox; have BL := Lib.hid hb; clear hg hbox hb)
  | ((with_reducible refine gate_dst (N := 3) rfl ?_); (try (refine gate_guard (by rfl) ?_; dsimp only)); refine box_event ?hg (N := 3) ?hd (cs := #[.slice A2 l2.length c2, .slice A3 l3.length c3]) (t := 27) ?hr ?_; (case hd => rfl); (case hg => rfl); (case hr => first | (go_simp; done) | (go_simp; rfl)); intro h hg w_ hbox hb; have HH : g < h := (hg ▸ blk_lt BG.out); replace BG := Lib.hid (blk_below BG.out hb); replace BL := Lib.hid (below_then BL.out BL.out.size hb); have BE := Lib.hid hbox; clear hg hbox hb))
 obtain ⟨zBG_0, zBG_1⟩ := cell2 BG.out; obtain ⟨zBE_0, zBE_1⟩ := cell2 BE.out
 go_wp2_with (first
  | (go_at_call 11; with_reducible refine (scarfjointlaw07_awake.calls true _ rfl).mono ?_; rintro e w_ ⟨rfl, hb⟩; clear zBG_0 zBG_1 zBE_0 zBE_1; replace BG := Lib.hid (blk_below BG.out hb); replace BL := Lib.hid (below_then BL.out BL.out.size hb); replace BE := Lib.hid (blk_below BE.out hb); clear hb; obtain ⟨zBG_0, zBG_1⟩ := cell2 BG.out; obtain ⟨zBE_0, zBE_1⟩ := cell2 BE.out)
  | ((with_reducible refine gate_dst (N := 20) rfl ?_); (try (refine gate_guard (by rfl) ?_; dsimp only)); refine lit_event ?hg (N := 20) ?hd (cs := #[.slice A2 l2.length c2, .slice A3 l3.length c3]) (t := 27) (m := 1) ?hr ?_; (case hd => rfl); (case hg => rfl); (case hr => first | (go_simp; done) | (go_simp; rfl)); intro b_ hg w_ hbox hb; clear zBG_0 zBG_1 zBE_0 zBE_1; replace BG := Lib.hid (blk_below BG.out hb); replace BL := Lib.hid (below_then BL.out BL.out.size hb); replace BE := Lib.hid (blk_below BE.out hb); have BK := Lib.hid hbox; clear hg hbox hb; obtain ⟨zBG_0, zBG_1⟩ := cell2 BG.out; obtain ⟨zBE_0, zBE_1⟩ := cell2 BE.out)
  | (go_at_call 12; refine (scarfjointlaw07_small.calls A0 c0 l0 A1 c1 l1 (some ⟨b_, 0, none⟩) 1 [⟨l2, l3⟩] false _ (Kd.C_below R0.out BL.out) M0.out (Kd.C_below R1.out BL.out) M1.out (part_row BK.out (Kd.C_below R2.out BL.out) M2.out (Kd.C_below R3.out BL.out) M3.out) (Nat.le_refl _) hsm).mono ?_; rintro e w_ ⟨rfl, hb⟩; clear zBG_0 zBG_1 zBE_0 zBE_1; replace BG := Lib.hid (blk_below BG.out hb); replace BL := Lib.hid (below_then BL.out BL.out.size hb); replace BE := Lib.hid (blk_below BE.out hb); clear hb BK; obtain ⟨zBG_0, zBG_1⟩ := cell2 BG.out; obtain ⟨zBE_0, zBE_1⟩ := cell2 BE.out))
 exact bodyPost_ret (v := .bool true) (by simp [results, Try.f6, go_sem]) rfl ⟨rfl, BL.out⟩
end Go.Proofs.Ytonipihlpbaknaa.Print

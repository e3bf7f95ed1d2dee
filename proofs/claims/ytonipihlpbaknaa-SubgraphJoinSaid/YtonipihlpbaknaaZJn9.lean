/- A part of the proof that the law returns true at every input; what the walked functions compute. -/
import Derived.Test.YtonipihlpbaknaaZJn0
import Derived.Test.YtonipihlpbaknaaZJn1
import Derived.Test.YtonipihlpbaknaaZJn2
import Derived.Test.YtonipihlpbaknaaZJn3
import Derived.Test.YtonipihlpbaknaaZJn4
import Derived.Test.YtonipihlpbaknaaZJn5
import Derived.Test.YtonipihlpbaknaaZJn6
import Derived.Test.YtonipihlpbaknaaZJn7
import Derived.Test.YtonipihlpbaknaaZJn8
namespace Go.Proofs.Ytonipihlpbaknaa.Print
set_option linter.unusedVariables false
set_option linter.unusedSimpArgs false
open Go.RowKit Go.Proofs.YtonipihlpbaknaaW.PrintWords Go.Proofs.YtonipihlpbaknaaW.PrintLast Go.Proofs.YtonipihlpbaknaaW.PrintMore
set_option maxHeartbeats 4000000 in
set_option maxRecDepth 100000 in
theorem scarfjointlaw07_SubgraphJoin.ok (k : Nat) (A0 : Option Addr) (c0 : Nat) (l0 : List Int) (A1 : Option Addr) (c1 : Nat) (l1 : List S78) (A2 : Option Addr) (c2 : Nat) (l2 : List Int) (A3 : Option Addr) (c3 : Nat) (l3 : List Int) (A4 : Option Addr) (c4 : Nat) (l4 : List Int) (A5 : Option Addr) (c5 : Nat) (l5 : List Int) (a0 a1 d0 d1 : List Int) (er be : Int) (w : World)
  (r0 : Kd.C (Kd.int .i64) w A0 l0.length l0) (m0 : l0.length ≤ c0) (r1 : Kd.C k78 w A1 l1.length l1) (m1 : l1.length ≤ c1) (r2 : Kd.C (Kd.int .i64) w A2 l2.length l2) (m2 : l2.length ≤ c2) (r3 : Kd.C (Kd.int .i64) w A3 l3.length l3) (m3 : l3.length ≤ c3) (r4 : Kd.C (Kd.int .i64) w A4 l4.length l4) (m4 : l4.length ≤ c4) (r5 : Kd.C (Kd.int .i64) w A5 l5.length l5) (m5 : l5.length ≤ c5)
  (hsm : scarfjointlaw07_small.f l0 l1 [⟨l2, l3⟩, ⟨l4, l5⟩] = some true) (hcp : scarfjointref05_Copied.f l0 l1 = some (l0, l1)) (hown : scarfjointlaw07_own.f l2 l3 = some (l2, l3)) (hownq : scarfjointlaw07_own.f l4 l5 = some (l4, l5))
  (n2 : l2.length ≤ 1000000) (n3 : l3.length ≤ 1000000) (n4 : l4.length ≤ 1000000) (n5 : l5.length ≤ 1000000) (nd : d0.length ≤ 1000000) (ne : d1.length ≤ 1000000)
  (hb0 : subgraph_both.f k l0 l1 l2 l3 l4 l5 = some be) (hj : joinB be l2 l3 l4 l5 = (a0, a1, er)) (h38 : scarfjointref07_Join.f k l0 l1 l2 l3 l4 l5 = some (a0, a1, er)) (hm : subgraph_Meet.f k l0 l1 l2 l3 l4 l5 = some (d0, d1, er)) (h23 : scarfjointref07_Meet.f k l0 l1 l2 l3 l4 l5 = some (d0, d1, er))
  (hs1 : scarfjointref07_Same.f k a0 a1 a0 a1 = some true) (hs2 : scarfjointref07_Same.f k d0 d1 d0 d1 = some true)
  (h4 : er = 0 → subgraph_Meet.f k l0 l1 l2 l3 a0 a1 = some (l2, l3, 0) ∧ subgraph_both.f k l0 l1 l2 l3 d0 d1 = some 0 ∧ joinB 0 l2 l3 d0 d1 = (l2, l3, 0) ∧ scarfjointref07_Same.f k l2 l3 l2 l3 = some true) :
  Calls Try.prog 7 #[.agg #[.slice A0 l0.length c0, .slice A1 l1.length c1], .agg #[.slice A2 l2.length c2, .slice A3 l3.length c3], .agg #[.slice A4 l4.length c4, .slice A5 l5.length c5]] w fun e w' => e = .returned (.bool true) ∧ Below w.heap.size w w' := by
 have hu25 := Try.underlying25; have hu27 := Try.underlying27; have R0 := Lib.hid r0; have R1 := Lib.hid r1; have R2 := Lib.hid r2; have R3 := Lib.hid r3; have R4 := Lib.hid r4; have R5 := Lib.hid r5; have M0 := Lib.hid m0; have M1 := Lib.hid m1; have M2 := Lib.hid m2; have M3 := Lib.hid m3; have M4 := Lib.hid m4; have M5 := Lib.hid m5; clear r0 r1 r2 r3 r4 r5 m0 m1 m2 m3 m4 m5; have L2 := Lib.hid n2; have L3 := Lib.hid n3; have L4 := Lib.hid n4; have L5 := Lib.hid n5; have LD := Lib.hid nd; have LE := Lib.hid ne; clear n2 n3 n4 n5 nd ne
 go_enter Try.func7, Try.ntmps7
 go_upto_region 1 with (first
  | ((with_reducible refine gate_dst (N := 3) rfl ?_); (try (refine gate_guard (by rfl) ?_; dsimp only)); refine box_event ?hg (N := 3) ?hd (cs := #[.slice A0 l0.length c0, .slice A1 l1.length c1]) (t := 25) ?hr ?_; (case hd => rfl); (case hg => rfl); (case hr => first | (go_simp; done) | (go_simp; rfl)); intro g hg w_ hbox hb; have HG : w.heap.size ≤ g := (hg ▸ Nat.le_refl _); have BG := Lib.hid hbox; have BL := Lib.hid hb; clear hg hbox hb)
  | ((with_reducible refine gate_dst (N := 4) rfl ?_); (try (refine gate_guard (by rfl) ?_; dsimp only)); refine box_event ?hg (N := 4) ?hd (cs := #[.slice A2 l2.length c2, .slice A3 l3.length c3]) (t := 27) ?hr ?_; (case hd => rfl); (case hg => rfl); (case hr => first | (go_simp; done) | (go_simp; rfl)); intro p hg w_ hbox hb; have HP : g < p := (hg ▸ blk_lt BG.out); replace BG := Lib.hid (blk_below BG.out hb); replace BL := Lib.hid (below_then BL.out BL.out.size hb); have BP := Lib.hid hbox; clear hg hbox hb)
  | ((with_reducible refine gate_dst (N := 5) rfl ?_); (try (refine gate_guard (by rfl) ?_; dsimp only)); refine box_event ?hg (N := 5) ?hd (cs := #[.slice A4 l4.length c4, .slice A5 l5.length c5]) (t := 27) ?hr ?_; (case hd => rfl); (case hg => rfl); (case hr => first | (go_simp; done) | (go_simp; rfl)); intro q hg w_ hbox hb; have HQ : p < q := (hg ▸ blk_lt BP.out); replace BG := Lib.hid (blk_below BG.out hb); replace BL := Lib.hid (below_then BL.out BL.out.size hb); replace BP := Lib.hid (blk_below BP.out hb); have BQ := Lib.hid hbox; clear hg hbox hb))
 obtain ⟨zBG_0, zBG_1⟩ := cell2 BG.out; obtain ⟨zBP_0, zBP_1⟩ := cell2 BP.out; obtain ⟨zBQ_0, zBQ_1⟩ := cell2 BQ.out
 go_upto_region 3 with (first
  | (go_at_call 11; with_reducible refine (scarfjointlaw07_awake.calls true _ rfl).mono ?_; rintro e w_ ⟨rfl, hb⟩; clear zBG_0 zBG_1 zBP_0 zBP_1 zBQ_0 zBQ_1; replace BG := Lib.hid (blk_below BG.out hb); replace BL := Lib.hid (below_then BL.out BL.out.size hb); replace BP := Lib.hid (blk_below BP.out hb); replace BQ := Lib.hid (blk_below BQ.out hb); clear hb; obtain ⟨zBG_0, zBG_1⟩ := cell2 BG.out; obtain ⟨zBP_0, zBP_1⟩ := cell2 BP.out; obtain ⟨zBQ_0, zBQ_1⟩ := cell2 BQ.out)
  | ((with_reducible refine gate_dst (N := 25) rfl ?_); (try (refine gate_guard (by rfl) ?_; dsimp only)); refine lit_event ?hg (N := 25) ?hd (cs := #[.slice A2 l2.length c2, .slice A3 l3.length c3, .slice A4 l4.length c4, .slice A5 l5.length c5]) (t := 27) (m := 2) ?hr ?_; (case hd => rfl); (case hg => rfl); (case hr => first | (go_simp; done) | (go_simp; rfl)); intro b_ hg w_ hbox hb; clear zBG_0 zBG_1 zBP_0 zBP_1 zBQ_0 zBQ_1; replace BG := Lib.hid (blk_below BG.out hb); replace BL := Lib.hid (below_then BL.out BL.out.size hb); replace BP := Lib.hid (blk_below BP.out hb); replace BQ := Lib.hid (blk_below BQ.out hb); have BK := Lib.hid hbox; clear hg hbox hb; obtain ⟨zBG_0, zBG_1⟩ := cell2 BG.out; obtain ⟨zBP_0, zBP_1⟩ := cell2 BP.out; obtain ⟨zBQ_0, zBQ_1⟩ := cell2 BQ.out)
  | (go_at_call 12; refine (scarfjointlaw07_small.calls A0 c0 l0 A1 c1 l1 (some ⟨b_, 0, none⟩) 2 [⟨l2, l3⟩, ⟨l4, l5⟩] true _ (Kd.C_below R0.out BL.out) M0.out (Kd.C_below R1.out BL.out) M1.out (part_row2 BK.out (Kd.C_below R2.out BL.out) M2.out (Kd.C_below R3.out BL.out) M3.out (Kd.C_below R4.out BL.out) M4.out (Kd.C_below R5.out BL.out) M5.out) (Nat.le_refl _) hsm).mono ?_; rintro e w_ ⟨rfl, hb⟩; clear zBG_0 zBG_1 zBP_0 zBP_1 zBQ_0 zBQ_1; replace BG := Lib.hid (blk_below BG.out hb); replace BL := Lib.hid (below_then BL.out BL.out.size hb); replace BP := Lib.hid (blk_below BP.out hb); replace BQ := Lib.hid (blk_below BQ.out hb); clear hb BK; obtain ⟨zBG_0, zBG_1⟩ := cell2 BG.out; obtain ⟨zBP_0, zBP_1⟩ := cell2 BP.out; obtain ⟨zBQ_0, zBQ_1⟩ := cell2 BQ.out))
 clear zBG_0 zBG_1 zBP_0 zBP_1 zBQ_0 zBQ_1; replace BG := Lib.hid (blk_drew BG.out); replace BL := Lib.hid (below_drew1 BL.out); replace BP := Lib.hid (blk_drew BP.out); replace BQ := Lib.hid (blk_drew BQ.out)
 refine start_ (n := 13) (S := fun w' => C2 w' g (.slice A0 l0.length c0) (.slice A1 l1.length c1) ∧ C2 w' p (.slice A2 l2.length c2) (.slice A3 l3.length c3) ∧ C2 w' q (.slice A4 l4.length c4) (.slice A5 l5.length c5)) (ds := []) #[false, false, false, false, false, false, false, false, false, false, false, false, false] (by kernel_rfl) rfl rfl ⟨cell2 BG.out, cell2 BP.out, cell2 BQ.out⟩ (fun hHeld => ?_)
 refine take_ (i := 0) (N := some 31) (v := ?_) (a' := ?_) #[true, false, false, false, false, false, false, false, false, false, false, false, false] rfl rfl (by kernel_rfl) (fun _ _ _ h => h) (Or.inl ⟨by rfl, ?_⟩) hHeld ?_ ?_
 rotate_left
 ·rintro w' ⟨⟨s0, s1⟩, ⟨s2, s3⟩, ⟨s4, s5⟩⟩
  go_simp
  with_reducible rfl
 rotate_left
 ·simp only [Act.put, sI_, s0_, sS_, i64_w, i32_w]
  rfl
 refine take_ (i := 2) (N := some 33) (v := ?_) (a' := ?_) #[true, false, true, false, false, false, false, false, false, false, false, false, false] rfl rfl (by kernel_rfl) (fun _ _ _ h => h) (Or.inl ⟨by rfl, ?_⟩) hHeld ?_ ?_
 rotate_left
 ·rintro w' ⟨⟨s0, s1⟩, ⟨s2, s3⟩, ⟨s4, s5⟩⟩
  go_simp
  with_reducible rfl
 rotate_left
 ·simp only [Act.put, sI_, s0_, sS_, i64_w, i32_w]
  rfl
 refine take_ (i := 4) (N := some 35) (v := ?_) (a' := ?_) #[true, false, true, false, true, false, false, false, false, false, false, false, false] rfl rfl (by kernel_rfl) (fun _ _ _ h => h) (Or.inl ⟨by rfl, ?_⟩) hHeld ?_ ?_
 rotate_left
 ·rintro w' ⟨⟨s0, s1⟩, ⟨s2, s3⟩, ⟨s4, s5⟩⟩
  go_simp
  with_reducible rfl
 rotate_left
 ·simp only [Act.put, sI_, s0_, sS_, i64_w, i32_w]
  rfl
 refine join_ (σ := Option Addr × Nat × Option Addr × Nat × Option Addr × Nat × Option Addr × Nat × Option Addr × Nat × Option Addr × Nat × Option Addr × Nat × Option Addr × Nat × Nat) 2 #[true, true, true, true, true, true, true, true, true, true, true, false, false] (fun s_ => [(32, .agg #[.slice s_.1 l0.length s_.2.1, .slice s_.2.2.1 l1.length s_.2.2.2.1]), (34, .agg #[.slice s_.2.2.2.2.1 l2.length s_.2.2.2.2.2.1, .slice s_.2.2.2.2.2.2.1 l3.length s_.2.2.2.2.2.2.2.1]), (36, .agg #[.slice s_.2.2.2.2.2.2.2.2.1 l4.length s_.2.2.2.2.2.2.2.2.2.1, .slice s_.2.2.2.2.2.2.2.2.2.2.1 l5.length s_.2.2.2.2.2.2.2.2.2.2.2.1]), (37, .tuple #[.agg #[.slice s_.2.2.2.2.2.2.2.2.2.2.2.2.1 a0.length s_.2.2.2.2.2.2.2.2.2.2.2.2.2.1, .slice s_.2.2.2.2.2.2.2.2.2.2.2.2.2.2.1 a1.length s_.2.2.2.2.2.2.2.2.2.2.2.2.2.2.2.1], .int .i64 er]), (30, .tuple #[.agg #[.slice s_.2.2.2.2.2.2.2.2.2.2.2.2.1 a0.length s_.2.2.2.2.2.2.2.2.2.2.2.2.2.1, .slice s_.2.2.2.2.2.2.2.2.2.2.2.2.2.2.1 a1.length s_.2.2.2.2.2.2.2.2.2.2.2.2.2.2.2.1], .int .i64 er]), (38, .agg #[.slice s_.2.2.2.2.2.2.2.2.2.2.2.2.1 a0.length s_.2.2.2.2.2.2.2.2.2.2.2.2.2.1, .slice s_.2.2.2.2.2.2.2.2.2.2.2.2.2.2.1 a1.length s_.2.2.2.2.2.2.2.2.2.2.2.2.2.2.2.1]), (39, .int .i64 er), (7, .pointer (some ⟨s_.2.2.2.2.2.2.2.2.2.2.2.2.2.2.2.2, 0, none⟩))]) (fun s_ w' => (C2 w' g (.slice A0 l0.length c0) (.slice A1 l1.length c1) ∧ C2 w' p (.slice A2 l2.length c2) (.slice A3 l3.length c3) ∧ C2 w' q (.slice A4 l4.length c4) (.slice A5 l5.length c5)) ∧ (q < s_.2.2.2.2.2.2.2.2.2.2.2.2.2.2.2.2) ∧ (w'.heap[g]? = some (.cells #[.slice A0 l0.length c0, .slice A1 l1.length c1] 25 (0, 0))) ∧ (Below w.heap.size w w') ∧ (w'.heap[p]? = some (.cells #[.slice A2 l2.length c2, .slice A3 l3.length c3] 27 (0, 0))) ∧ (w'.heap[q]? = some (.cells #[.slice A4 l4.length c4, .slice A5 l5.length c5] 27 (0, 0))) ∧ (RI w' s_.2.2.2.2.2.2.2.2.2.2.2.2.1 s_.2.2.2.2.2.2.2.2.2.2.2.2.2.1 a0) ∧ (RI w' s_.2.2.2.2.2.2.2.2.2.2.2.2.2.2.1 s_.2.2.2.2.2.2.2.2.2.2.2.2.2.2.2.1 a1) ∧ (Bk w' s_.2.2.2.2.2.2.2.2.2.2.2.2.2.2.2.2 27 nl nl)) ?_ ?_
 rotate_left
 ·intro J4_1
  refine join_ (σ := Option Addr × Nat × Option Addr × Nat × Option Addr × Nat × Option Addr × Nat × Option Addr × Nat × Option Addr × Nat × Option Addr × Nat × Option Addr × Nat) 3 #[true, true, true, true, true, true, true, true, true, true, false, false, false] (fun s_ => [(32, .agg #[.slice s_.1 l0.length s_.2.1, .slice s_.2.2.1 l1.length s_.2.2.2.1]), (34, .agg #[.slice s_.2.2.2.2.1 l2.length s_.2.2.2.2.2.1, .slice s_.2.2.2.2.2.2.1 l3.length s_.2.2.2.2.2.2.2.1]), (36, .agg #[.slice s_.2.2.2.2.2.2.2.2.1 l4.length s_.2.2.2.2.2.2.2.2.2.1, .slice s_.2.2.2.2.2.2.2.2.2.2.1 l5.length s_.2.2.2.2.2.2.2.2.2.2.2.1]), (37, .tuple #[.agg #[.slice s_.2.2.2.2.2.2.2.2.2.2.2.2.1 a0.length s_.2.2.2.2.2.2.2.2.2.2.2.2.2.1, .slice s_.2.2.2.2.2.2.2.2.2.2.2.2.2.2.1 a1.length s_.2.2.2.2.2.2.2.2.2.2.2.2.2.2.2], .int .i64 er]), (30, .tuple #[.agg #[.slice s_.2.2.2.2.2.2.2.2.2.2.2.2.1 a0.length s_.2.2.2.2.2.2.2.2.2.2.2.2.2.1, .slice s_.2.2.2.2.2.2.2.2.2.2.2.2.2.2.1 a1.length s_.2.2.2.2.2.2.2.2.2.2.2.2.2.2.2], .int .i64 er]), (38, .agg #[.slice s_.2.2.2.2.2.2.2.2.2.2.2.2.1 a0.length s_.2.2.2.2.2.2.2.2.2.2.2.2.2.1, .slice s_.2.2.2.2.2.2.2.2.2.2.2.2.2.2.1 a1.length s_.2.2.2.2.2.2.2.2.2.2.2.2.2.2.2]), (39, .int .i64 er)]) (fun s_ w' => (C2 w' g (.slice A0 l0.length c0) (.slice A1 l1.length c1) ∧ C2 w' p (.slice A2 l2.length c2) (.slice A3 l3.length c3) ∧ C2 w' q (.slice A4 l4.length c4) (.slice A5 l5.length c5)) ∧ (w'.heap[g]? = some (.cells #[.slice A0 l0.length c0, .slice A1 l1.length c1] 25 (0, 0))) ∧ (Below w.heap.size w w') ∧ (w'.heap[p]? = some (.cells #[.slice A2 l2.length c2, .slice A3 l3.length c3] 27 (0, 0))) ∧ (w'.heap[q]? = some (.cells #[.slice A4 l4.length c4, .slice A5 l5.length c5] 27 (0, 0))) ∧ (RI w' s_.2.2.2.2.2.2.2.2.2.2.2.2.1 s_.2.2.2.2.2.2.2.2.2.2.2.2.2.1 a0) ∧ (RI w' s_.2.2.2.2.2.2.2.2.2.2.2.2.2.2.1 s_.2.2.2.2.2.2.2.2.2.2.2.2.2.2.2 a1)) ?_ ?_
  rotate_left
  ·intro J4_0
   refine join_ (σ := Option Addr × Nat × Option Addr × Nat × Option Addr × Nat × Option Addr × Nat × Option Addr × Nat × Option Addr × Nat × Nat) 6 #[true, true, true, true, true, true, false, false, false, false, true, false, false] (fun s_ => [(32, .agg #[.slice s_.1 l0.length s_.2.1, .slice s_.2.2.1 l1.length s_.2.2.2.1]), (34, .agg #[.slice s_.2.2.2.2.1 l2.length s_.2.2.2.2.2.1, .slice s_.2.2.2.2.2.2.1 l3.length s_.2.2.2.2.2.2.2.1]), (36, .agg #[.slice s_.2.2.2.2.2.2.2.2.1 l4.length s_.2.2.2.2.2.2.2.2.2.1, .slice s_.2.2.2.2.2.2.2.2.2.2.1 l5.length s_.2.2.2.2.2.2.2.2.2.2.2.1]), (7, .pointer (some ⟨s_.2.2.2.2.2.2.2.2.2.2.2.2, 0, none⟩))]) (fun s_ w' => (C2 w' g (.slice A0 l0.length c0) (.slice A1 l1.length c1) ∧ C2 w' p (.slice A2 l2.length c2) (.slice A3 l3.length c3) ∧ C2 w' q (.slice A4 l4.length c4) (.slice A5 l5.length c5)) ∧ (q < s_.2.2.2.2.2.2.2.2.2.2.2.2) ∧ (w'.heap[g]? = some (.cells #[.slice A0 l0.length c0, .slice A1 l1.length c1] 25 (0, 0))) ∧ (Below w.heap.size w w') ∧ (w'.heap[p]? = some (.cells #[.slice A2 l2.length c2, .slice A3 l3.length c3] 27 (0, 0))) ∧ (w'.heap[q]? = some (.cells #[.slice A4 l4.length c4, .slice A5 l5.length c5] 27 (0, 0))) ∧ (RI w' s_.1 s_.2.1 l0) ∧ (RE w' s_.2.2.1 s_.2.2.2.1 l1) ∧ (RI w' s_.2.2.2.2.1 s_.2.2.2.2.2.1 l2) ∧ (RI w' s_.2.2.2.2.2.2.1 s_.2.2.2.2.2.2.2.1 l3) ∧ (RI w' s_.2.2.2.2.2.2.2.2.1 s_.2.2.2.2.2.2.2.2.2.1 l4) ∧ (RI w' s_.2.2.2.2.2.2.2.2.2.2.1 s_.2.2.2.2.2.2.2.2.2.2.2.1 l5) ∧ (Bk w' s_.2.2.2.2.2.2.2.2.2.2.2.2 27 nl nl)) ?_ ?_
   rotate_left
   ·intro J3_1
    refine join_ (σ := Option Addr × Nat × Option Addr × Nat × Option Addr × Nat × Option Addr × Nat × Option Addr × Nat × Option Addr × Nat) 7 #[true, true, true, true, true, true, false, false, false, false, false, false, false] (fun s_ => [(32, .agg #[.slice s_.1 l0.length s_.2.1, .slice s_.2.2.1 l1.length s_.2.2.2.1]), (34, .agg #[.slice s_.2.2.2.2.1 l2.length s_.2.2.2.2.2.1, .slice s_.2.2.2.2.2.2.1 l3.length s_.2.2.2.2.2.2.2.1]), (36, .agg #[.slice s_.2.2.2.2.2.2.2.2.1 l4.length s_.2.2.2.2.2.2.2.2.2.1, .slice s_.2.2.2.2.2.2.2.2.2.2.1 l5.length s_.2.2.2.2.2.2.2.2.2.2.2])]) (fun s_ w' => (C2 w' g (.slice A0 l0.length c0) (.slice A1 l1.length c1) ∧ C2 w' p (.slice A2 l2.length c2) (.slice A3 l3.length c3) ∧ C2 w' q (.slice A4 l4.length c4) (.slice A5 l5.length c5)) ∧ (w'.heap[g]? = some (.cells #[.slice A0 l0.length c0, .slice A1 l1.length c1] 25 (0, 0))) ∧ (Below w.heap.size w w') ∧ (w'.heap[p]? = some (.cells #[.slice A2 l2.length c2, .slice A3 l3.length c3] 27 (0, 0))) ∧ (w'.heap[q]? = some (.cells #[.slice A4 l4.length c4, .slice A5 l5.length c5] 27 (0, 0))) ∧ (RI w' s_.1 s_.2.1 l0) ∧ (RE w' s_.2.2.1 s_.2.2.2.1 l1) ∧ (RI w' s_.2.2.2.2.1 s_.2.2.2.2.2.1 l2) ∧ (RI w' s_.2.2.2.2.2.2.1 s_.2.2.2.2.2.2.2.1 l3) ∧ (RI w' s_.2.2.2.2.2.2.2.2.1 s_.2.2.2.2.2.2.2.2.2.1 l4) ∧ (RI w' s_.2.2.2.2.2.2.2.2.2.2.1 s_.2.2.2.2.2.2.2.2.2.2.2 l5)) ?_ ?_
    rotate_left
    ·intro J3_0
     refine join_ (σ := Option Addr × Nat × Option Addr × Nat × Option Addr × Nat × Option Addr × Nat × Nat) 7 #[true, true, true, true, true, false, false, false, false, false, true, false, false] (fun s_ => [(32, .agg #[.slice s_.1 l0.length s_.2.1, .slice s_.2.2.1 l1.length s_.2.2.2.1]), (34, .agg #[.slice s_.2.2.2.2.1 l2.length s_.2.2.2.2.2.1, .slice s_.2.2.2.2.2.2.1 l3.length s_.2.2.2.2.2.2.2.1]), (7, .pointer (some ⟨s_.2.2.2.2.2.2.2.2, 0, none⟩))]) (fun s_ w' => (C2 w' g (.slice A0 l0.length c0) (.slice A1 l1.length c1) ∧ C2 w' p (.slice A2 l2.length c2) (.slice A3 l3.length c3) ∧ C2 w' q (.slice A4 l4.length c4) (.slice A5 l5.length c5)) ∧ (q < s_.2.2.2.2.2.2.2.2) ∧ (w'.heap[g]? = some (.cells #[.slice A0 l0.length c0, .slice A1 l1.length c1] 25 (0, 0))) ∧ (Below w.heap.size w w') ∧ (w'.heap[p]? = some (.cells #[.slice A2 l2.length c2, .slice A3 l3.length c3] 27 (0, 0))) ∧ (w'.heap[q]? = some (.cells #[.slice A4 l4.length c4, .slice A5 l5.length c5] 27 (0, 0))) ∧ (RI w' s_.1 s_.2.1 l0) ∧ (RE w' s_.2.2.1 s_.2.2.2.1 l1) ∧ (RI w' s_.2.2.2.2.1 s_.2.2.2.2.2.1 l2) ∧ (RI w' s_.2.2.2.2.2.2.1 s_.2.2.2.2.2.2.2.1 l3) ∧ (Bk w' s_.2.2.2.2.2.2.2.2 27 nl nl)) ?_ ?_
     rotate_left
     ·intro J2_1
      refine join_ (σ := Option Addr × Nat × Option Addr × Nat × Option Addr × Nat × Option Addr × Nat) 8 #[true, true, true, true, true, false, false, false, false, false, false, false, false] (fun s_ => [(32, .agg #[.slice s_.1 l0.length s_.2.1, .slice s_.2.2.1 l1.length s_.2.2.2.1]), (34, .agg #[.slice s_.2.2.2.2.1 l2.length s_.2.2.2.2.2.1, .slice s_.2.2.2.2.2.2.1 l3.length s_.2.2.2.2.2.2.2])]) (fun s_ w' => (C2 w' g (.slice A0 l0.length c0) (.slice A1 l1.length c1) ∧ C2 w' p (.slice A2 l2.length c2) (.slice A3 l3.length c3) ∧ C2 w' q (.slice A4 l4.length c4) (.slice A5 l5.length c5)) ∧ (w'.heap[g]? = some (.cells #[.slice A0 l0.length c0, .slice A1 l1.length c1] 25 (0, 0))) ∧ (Below w.heap.size w w') ∧ (w'.heap[p]? = some (.cells #[.slice A2 l2.length c2, .slice A3 l3.length c3] 27 (0, 0))) ∧ (w'.heap[q]? = some (.cells #[.slice A4 l4.length c4, .slice A5 l5.length c5] 27 (0, 0))) ∧ (RI w' s_.1 s_.2.1 l0) ∧ (RE w' s_.2.2.1 s_.2.2.2.1 l1) ∧ (RI w' s_.2.2.2.2.1 s_.2.2.2.2.2.1 l2) ∧ (RI w' s_.2.2.2.2.2.2.1 s_.2.2.2.2.2.2.2 l3)) ?_ ?_
      rotate_left
      ·intro J2_0
       refine join_ (σ := Option Addr × Nat × Option Addr × Nat × Nat) 8 #[true, true, true, false, true, false, false, false, false, false, true, false, false] (fun s_ => [(32, .agg #[.slice s_.1 l0.length s_.2.1, .slice s_.2.2.1 l1.length s_.2.2.2.1]), (7, .pointer (some ⟨s_.2.2.2.2, 0, none⟩))]) (fun s_ w' => (C2 w' g (.slice A0 l0.length c0) (.slice A1 l1.length c1) ∧ C2 w' p (.slice A2 l2.length c2) (.slice A3 l3.length c3) ∧ C2 w' q (.slice A4 l4.length c4) (.slice A5 l5.length c5)) ∧ (q < s_.2.2.2.2) ∧ (w'.heap[g]? = some (.cells #[.slice A0 l0.length c0, .slice A1 l1.length c1] 25 (0, 0))) ∧ (Below w.heap.size w w') ∧ (w'.heap[p]? = some (.cells #[.slice A2 l2.length c2, .slice A3 l3.length c3] 27 (0, 0))) ∧ (w'.heap[q]? = some (.cells #[.slice A4 l4.length c4, .slice A5 l5.length c5] 27 (0, 0))) ∧ (RI w' s_.1 s_.2.1 l0) ∧ (RE w' s_.2.2.1 s_.2.2.2.1 l1) ∧ (Bk w' s_.2.2.2.2 27 nl nl)) ?_ ?_
       rotate_left
       ·intro J1_1
        refine join_ (σ := Option Addr × Nat × Option Addr × Nat) 9 #[true, true, true, false, true, false, false, false, false, false, false, false, false] (fun s_ => [(32, .agg #[.slice s_.1 l0.length s_.2.1, .slice s_.2.2.1 l1.length s_.2.2.2])]) (fun s_ w' => (C2 w' g (.slice A0 l0.length c0) (.slice A1 l1.length c1) ∧ C2 w' p (.slice A2 l2.length c2) (.slice A3 l3.length c3) ∧ C2 w' q (.slice A4 l4.length c4) (.slice A5 l5.length c5)) ∧ (w'.heap[g]? = some (.cells #[.slice A0 l0.length c0, .slice A1 l1.length c1] 25 (0, 0))) ∧ (Below w.heap.size w w') ∧ (w'.heap[p]? = some (.cells #[.slice A2 l2.length c2, .slice A3 l3.length c3] 27 (0, 0))) ∧ (w'.heap[q]? = some (.cells #[.slice A4 l4.length c4, .slice A5 l5.length c5] 27 (0, 0))) ∧ (RI w' s_.1 s_.2.1 l0) ∧ (RE w' s_.2.2.1 s_.2.2.2 l1)) ?_ ?_
        rotate_left
        ·intro J1_0
         refine join_ (σ := Nat) 9 #[true, false, true, false, true, false, false, false, false, false, true, false, false] (fun s_ => [(7, .pointer (some ⟨s_, 0, none⟩))]) (fun s_ w' => (C2 w' g (.slice A0 l0.length c0) (.slice A1 l1.length c1) ∧ C2 w' p (.slice A2 l2.length c2) (.slice A3 l3.length c3) ∧ C2 w' q (.slice A4 l4.length c4) (.slice A5 l5.length c5)) ∧ (q < s_) ∧ (w'.heap[g]? = some (.cells #[.slice A0 l0.length c0, .slice A1 l1.length c1] 25 (0, 0))) ∧ (Below w.heap.size w w') ∧ (w'.heap[p]? = some (.cells #[.slice A2 l2.length c2, .slice A3 l3.length c3] 27 (0, 0))) ∧ (w'.heap[q]? = some (.cells #[.slice A4 l4.length c4, .slice A5 l5.length c5] 27 (0, 0))) ∧ (Bk w' s_ 27 nl nl)) ?_ ?_
         rotate_left
         ·intro J0_1
          refine two_ (i := 1) (j := 10) (Ni := some 32) (Nj := some 7) #[true, true, true, false, true, false, false, false, false, false, false, false, false] #[true, false, true, false, true, false, false, false, false, false, true, false, false] rfl rfl rfl rfl (by kernel_rfl) (by decide) (by decide) (fun K hK => ?_) (fun K hK => ?_)
          ·skip
           refine goes_ Try.func14 (by kernel_rfl) rfl #[.agg #[.slice A0 l0.length c0, .slice A1 l1.length c1]] (by rfl) rfl rfl (by (try simp only [List.map_toArray, List.map_cons, List.map_nil]); first | done | rfl) ?_
           with_reducible refine (scarfjointref05_Copied.calls A0 c0 l0 A1 c1 l1 l0 l1 _ (Kd.C_below R0.out BL.out) M0.out (Kd.C_below R1.out BL.out) M1.out hcp).mono ?_
           rintro e w_ ⟨v0, v1, rfl, ho0, ho1, hb⟩
           refine ⟨_, rfl, ?_⟩
           obtain ⟨A6, c6, rfl⟩ := Kd.R_slice ho0; obtain ⟨A7, c7, rfl⟩ := Kd.R_slice ho1; replace BG := Lib.hid (blk_below BG.out hb); replace BL := Lib.hid (below_then BL.out BL.out.size hb); replace BP := Lib.hid (blk_below BP.out hb); replace BQ := Lib.hid (blk_below BQ.out hb); have R6 := Lib.hid (toR ho0); have R7 := Lib.hid (toR ho1); clear ho0 ho1 hb
           refine hK.out _ _ ⟨cell2 BG.out, cell2 BP.out, cell2 BQ.out⟩ (fun hHeld => ?_)
           clear hK K
           refine norm_ (a' := ?_) ?_ ?_
           rotate_left
           ·show Act.put _ (some 32) _ = _
            simp only [Act.put, sI_, s0_, sS_, i64_w, i32_w]
            rfl
           exact norm_ (by first | (simp only [putAll, Act.put, sI_, s0_, sS_]; done) | (simp only [putAll, Act.put, sI_, s0_, sS_]; rfl)) (J1_0 (A6, c6, A7, c7) _ ⟨hHeld, BG.out, BL.out, BP.out, BQ.out, R6.out, R7.out⟩)
          ·skip
           refine box_step ?hg (N := 7) ?hd (cs := #[.slice none 0 0, .slice none 0 0]) (t := 27) ?hr ?_; (case hd => rfl); (case hg => rfl); (case hr => first | (go_simp; done) | (go_simp; rfl))
           intro x hg w_ hbox hb
           have Hx : q < x := by rw [hg]; exact blk_lt BQ.out
           replace BG := Lib.hid (blk_below BG.out hb); replace BL := Lib.hid (below_then BL.out BL.out.size hb); replace BP := Lib.hid (blk_below BP.out hb); replace BQ := Lib.hid (blk_below BQ.out hb); have BX := Lib.hid hbox; clear hg hbox hb
           refine hK.out _ _ ⟨cell2 BG.out, cell2 BP.out, cell2 BQ.out⟩ (fun hHeld => ?_)
           clear hK K
           refine norm_ (a' := ?_) ?_ ?_
           rotate_left
           ·show Act.put _ (some 7) _ = _
            simp only [Act.put, sI_, s0_, sS_, i64_w, i32_w]
            rfl
           exact norm_ (by first | (simp only [putAll, Act.put, sI_, s0_, sS_]; done) | (simp only [putAll, Act.put, sI_, s0_, sS_]; rfl)) (J0_1 x _ ⟨hHeld, Hx, BG.out, BL.out, BP.out, BQ.out, BX.out⟩)
         rintro x w_ ⟨hHeld, Hx, qBG, qBL, qBP, qBQ, qBX⟩; replace Hx : q < x := Hx
         replace BG : Hid (w_.heap[g]? = some (.cells #[.slice A0 l0.length c0, .slice A1 l1.length c1] 25 (0, 0))) := Lib.hid qBG; clear qBG
         replace BL : Hid (Below w.heap.size w w_) := Lib.hid qBL; clear qBL
         replace BP : Hid (w_.heap[p]? = some (.cells #[.slice A2 l2.length c2, .slice A3 l3.length c3] 27 (0, 0))) := Lib.hid qBP; clear qBP
         replace BQ : Hid (w_.heap[q]? = some (.cells #[.slice A4 l4.length c4, .slice A5 l5.length c5] 27 (0, 0))) := Lib.hid qBQ; clear qBQ
         have BX : Hid (Bk w_ x 27 nl nl) := Lib.hid qBX; clear qBX
         refine norm_ (a' := ?_) ?_ ?_
         rotate_left
         ·simp only [putAll, Act.put, sI_, s0_, sS_]
          rfl
         refine one_ (i := 1) (N := some 32) #[true, true, true, false, true, false, false, false, false, false, true, false, false] rfl rfl (by kernel_rfl) (by decide) (fun K hK => ?_)
         refine goes_ Try.func14 (by kernel_rfl) rfl #[.agg #[.slice A0 l0.length c0, .slice A1 l1.length c1]] (by rfl) rfl rfl (by (try simp only [List.map_toArray, List.map_cons, List.map_nil]); first | done | rfl) ?_
         with_reducible refine (scarfjointref05_Copied.calls A0 c0 l0 A1 c1 l1 l0 l1 _ (Kd.C_below R0.out BL.out) M0.out (Kd.C_below R1.out BL.out) M1.out hcp).mono ?_
         rintro e w_ ⟨v0, v1, rfl, ho0, ho1, hb⟩
         refine ⟨_, rfl, ?_⟩
         obtain ⟨A6, c6, rfl⟩ := Kd.R_slice ho0; obtain ⟨A7, c7, rfl⟩ := Kd.R_slice ho1; replace BG := Lib.hid (blk_below BG.out hb); replace BL := Lib.hid (below_then BL.out BL.out.size hb); replace BP := Lib.hid (blk_below BP.out hb); replace BQ := Lib.hid (blk_below BQ.out hb); replace BX := Lib.hid (blk_below BX.out hb); have R6 := Lib.hid (toR ho0); have R7 := Lib.hid (toR ho1); clear ho0 ho1 hb
         refine hK.out _ _ ⟨cell2 BG.out, cell2 BP.out, cell2 BQ.out⟩ (fun hHeld => ?_)
         clear hK K
         refine norm_ (a' := ?_) ?_ ?_
         rotate_left
         ·show Act.put _ (some 32) _ = _
          simp only [Act.put, sI_, s0_, sS_, i64_w, i32_w]
          rfl
         exact norm_ (by first | (simp only [putAll, Act.put, sI_, s0_, sS_]; done) | (simp only [putAll, Act.put, sI_, s0_, sS_]; rfl)) (J1_1 (A6, c6, A7, c7, x) _ ⟨hHeld, Hx, BG.out, BL.out, BP.out, BQ.out, R6.out, R7.out, BX.out⟩)
        rintro ⟨A6, c6, A7, c7⟩ w_ ⟨hHeld, qBG, qBL, qBP, qBQ, qR6, qR7⟩
        replace BG : Hid (w_.heap[g]? = some (.cells #[.slice A0 l0.length c0, .slice A1 l1.length c1] 25 (0, 0))) := Lib.hid qBG; clear qBG
        replace BL : Hid (Below w.heap.size w w_) := Lib.hid qBL; clear qBL
        replace BP : Hid (w_.heap[p]? = some (.cells #[.slice A2 l2.length c2, .slice A3 l3.length c3] 27 (0, 0))) := Lib.hid qBP; clear qBP
        replace BQ : Hid (w_.heap[q]? = some (.cells #[.slice A4 l4.length c4, .slice A5 l5.length c5] 27 (0, 0))) := Lib.hid qBQ; clear qBQ
        have R6 : Hid (RI w_ A6 c6 l0) := Lib.hid qR6; clear qR6
        have R7 : Hid (RE w_ A7 c7 l1) := Lib.hid qR7; clear qR7
        refine norm_ (a' := ?_) ?_ ?_
        rotate_left
        ·simp only [putAll, Act.put, sI_, s0_, sS_]
         rfl
        refine two_ (i := 3) (j := 10) (Ni := some 34) (Nj := some 7) #[true, true, true, true, true, false, false, false, false, false, false, false, false] #[true, true, true, false, true, false, false, false, false, false, true, false, false] rfl rfl rfl rfl (by kernel_rfl) (by decide) (by decide) (fun K hK => ?_) (fun K hK => ?_)
        ·skip
         refine goes_ Try.func30 (by kernel_rfl) rfl #[.agg #[.slice A2 l2.length c2, .slice A3 l3.length c3]] (by rfl) rfl rfl (by (try simp only [List.map_toArray, List.map_cons, List.map_nil]); first | done | rfl) ?_
         with_reducible refine (scarfjointlaw07_own.calls A2 c2 l2 A3 c3 l3 l2 l3 _ (Kd.C_below R2.out BL.out) M2.out (Kd.C_below R3.out BL.out) M3.out hown).mono ?_
         rintro e w_ ⟨v0, v1, rfl, ho0, ho1, hb⟩
         refine ⟨_, rfl, ?_⟩
         obtain ⟨A8, c8, rfl⟩ := Kd.R_slice ho0; obtain ⟨A9, c9, rfl⟩ := Kd.R_slice ho1; replace BG := Lib.hid (blk_below BG.out hb); replace BL := Lib.hid (below_then BL.out BL.out.size hb); replace BP := Lib.hid (blk_below BP.out hb); replace BQ := Lib.hid (blk_below BQ.out hb); replace R6 := Lib.hid (Kd.R_below R6.out hb); replace R7 := Lib.hid (Kd.R_below R7.out hb); have R8 := Lib.hid (toR ho0); have R9 := Lib.hid (toR ho1); clear ho0 ho1 hb
         refine hK.out _ _ ⟨cell2 BG.out, cell2 BP.out, cell2 BQ.out⟩ (fun hHeld => ?_)
         clear hK K
         refine norm_ (a' := ?_) ?_ ?_
         rotate_left
         ·show Act.put _ (some 34) _ = _
          simp only [Act.put, sI_, s0_, sS_, i64_w, i32_w]
          rfl
         exact norm_ (by first | (simp only [putAll, Act.put, sI_, s0_, sS_]; done) | (simp only [putAll, Act.put, sI_, s0_, sS_]; rfl)) (J2_0 (A6, c6, A7, c7, A8, c8, A9, c9) _ ⟨hHeld, BG.out, BL.out, BP.out, BQ.out, R6.out, R7.out, R8.out, R9.out⟩)
        ·skip
         refine box_step ?hg (N := 7) ?hd (cs := #[.slice none 0 0, .slice none 0 0]) (t := 27) ?hr ?_; (case hd => rfl); (case hg => rfl); (case hr => first | (go_simp; done) | (go_simp; rfl))
         intro x hg w_ hbox hb
         have Hx : q < x := by rw [hg]; exact blk_lt BQ.out
         replace BG := Lib.hid (blk_below BG.out hb); replace BL := Lib.hid (below_then BL.out BL.out.size hb); replace BP := Lib.hid (blk_below BP.out hb); replace BQ := Lib.hid (blk_below BQ.out hb); replace R6 := Lib.hid (Kd.R_below R6.out hb); replace R7 := Lib.hid (Kd.R_below R7.out hb); have BX := Lib.hid hbox; clear hg hbox hb
         refine hK.out _ _ ⟨cell2 BG.out, cell2 BP.out, cell2 BQ.out⟩ (fun hHeld => ?_)
         clear hK K
         refine norm_ (a' := ?_) ?_ ?_
         rotate_left
         ·show Act.put _ (some 7) _ = _
          simp only [Act.put, sI_, s0_, sS_, i64_w, i32_w]
          rfl
         exact norm_ (by first | (simp only [putAll, Act.put, sI_, s0_, sS_]; done) | (simp only [putAll, Act.put, sI_, s0_, sS_]; rfl)) (J1_1 (A6, c6, A7, c7, x) _ ⟨hHeld, Hx, BG.out, BL.out, BP.out, BQ.out, R6.out, R7.out, BX.out⟩)
       rintro ⟨A6, c6, A7, c7, x⟩ w_ ⟨hHeld, Hx, qBG, qBL, qBP, qBQ, qR6, qR7, qBX⟩; replace Hx : q < x := Hx
       replace BG : Hid (w_.heap[g]? = some (.cells #[.slice A0 l0.length c0, .slice A1 l1.length c1] 25 (0, 0))) := Lib.hid qBG; clear qBG
       replace BL : Hid (Below w.heap.size w w_) := Lib.hid qBL; clear qBL
       replace BP : Hid (w_.heap[p]? = some (.cells #[.slice A2 l2.length c2, .slice A3 l3.length c3] 27 (0, 0))) := Lib.hid qBP; clear qBP
       replace BQ : Hid (w_.heap[q]? = some (.cells #[.slice A4 l4.length c4, .slice A5 l5.length c5] 27 (0, 0))) := Lib.hid qBQ; clear qBQ
       have R6 : Hid (RI w_ A6 c6 l0) := Lib.hid qR6; clear qR6
       have R7 : Hid (RE w_ A7 c7 l1) := Lib.hid qR7; clear qR7
       have BX : Hid (Bk w_ x 27 nl nl) := Lib.hid qBX; clear qBX
       refine norm_ (a' := ?_) ?_ ?_
       rotate_left
       ·simp only [putAll, Act.put, sI_, s0_, sS_]
        rfl
       refine one_ (i := 3) (N := some 34) #[true, true, true, true, true, false, false, false, false, false, true, false, false] rfl rfl (by kernel_rfl) (by decide) (fun K hK => ?_)
       refine goes_ Try.func30 (by kernel_rfl) rfl #[.agg #[.slice A2 l2.length c2, .slice A3 l3.length c3]] (by rfl) rfl rfl (by (try simp only [List.map_toArray, List.map_cons, List.map_nil]); first | done | rfl) ?_
       with_reducible refine (scarfjointlaw07_own.calls A2 c2 l2 A3 c3 l3 l2 l3 _ (Kd.C_below R2.out BL.out) M2.out (Kd.C_below R3.out BL.out) M3.out hown).mono ?_
       rintro e w_ ⟨v0, v1, rfl, ho0, ho1, hb⟩
       refine ⟨_, rfl, ?_⟩
       obtain ⟨A8, c8, rfl⟩ := Kd.R_slice ho0; obtain ⟨A9, c9, rfl⟩ := Kd.R_slice ho1; replace BG := Lib.hid (blk_below BG.out hb); replace BL := Lib.hid (below_then BL.out BL.out.size hb); replace BP := Lib.hid (blk_below BP.out hb); replace BQ := Lib.hid (blk_below BQ.out hb); replace R6 := Lib.hid (Kd.R_below R6.out hb); replace R7 := Lib.hid (Kd.R_below R7.out hb); replace BX := Lib.hid (blk_below BX.out hb); have R8 := Lib.hid (toR ho0); have R9 := Lib.hid (toR ho1); clear ho0 ho1 hb
       refine hK.out _ _ ⟨cell2 BG.out, cell2 BP.out, cell2 BQ.out⟩ (fun hHeld => ?_)
       clear hK K
       refine norm_ (a' := ?_) ?_ ?_
       rotate_left
       ·show Act.put _ (some 34) _ = _
        simp only [Act.put, sI_, s0_, sS_, i64_w, i32_w]
        rfl
       exact norm_ (by first | (simp only [putAll, Act.put, sI_, s0_, sS_]; done) | (simp only [putAll, Act.put, sI_, s0_, sS_]; rfl)) (J2_1 (A6, c6, A7, c7, A8, c8, A9, c9, x) _ ⟨hHeld, Hx, BG.out, BL.out, BP.out, BQ.out, R6.out, R7.out, R8.out, R9.out, BX.out⟩)
      rintro ⟨A6, c6, A7, c7, A8, c8, A9, c9⟩ w_ ⟨hHeld, qBG, qBL, qBP, qBQ, qR6, qR7, qR8, qR9⟩
      replace BG : Hid (w_.heap[g]? = some (.cells #[.slice A0 l0.length c0, .slice A1 l1.length c1] 25 (0, 0))) := Lib.hid qBG; clear qBG
      replace BL : Hid (Below w.heap.size w w_) := Lib.hid qBL; clear qBL
      replace BP : Hid (w_.heap[p]? = some (.cells #[.slice A2 l2.length c2, .slice A3 l3.length c3] 27 (0, 0))) := Lib.hid qBP; clear qBP
      replace BQ : Hid (w_.heap[q]? = some (.cells #[.slice A4 l4.length c4, .slice A5 l5.length c5] 27 (0, 0))) := Lib.hid qBQ; clear qBQ
      have R6 : Hid (RI w_ A6 c6 l0) := Lib.hid qR6; clear qR6
      have R7 : Hid (RE w_ A7 c7 l1) := Lib.hid qR7; clear qR7
      have R8 : Hid (RI w_ A8 c8 l2) := Lib.hid qR8; clear qR8
      have R9 : Hid (RI w_ A9 c9 l3) := Lib.hid qR9; clear qR9
      refine norm_ (a' := ?_) ?_ ?_
      rotate_left
      ·simp only [putAll, Act.put, sI_, s0_, sS_]
       rfl
      refine two_ (i := 5) (j := 10) (Ni := some 36) (Nj := some 7) #[true, true, true, true, true, true, false, false, false, false, false, false, false] #[true, true, true, true, true, false, false, false, false, false, true, false, false] rfl rfl rfl rfl (by kernel_rfl) (by decide) (by decide) (fun K hK => ?_) (fun K hK => ?_)
      ·skip
       refine goes_ Try.func30 (by kernel_rfl) rfl #[.agg #[.slice A4 l4.length c4, .slice A5 l5.length c5]] (by rfl) rfl rfl (by (try simp only [List.map_toArray, List.map_cons, List.map_nil]); first | done | rfl) ?_
       with_reducible refine (scarfjointlaw07_own.calls A4 c4 l4 A5 c5 l5 l4 l5 _ (Kd.C_below R4.out BL.out) M4.out (Kd.C_below R5.out BL.out) M5.out hownq).mono ?_
       rintro e w_ ⟨v0, v1, rfl, ho0, ho1, hb⟩
       refine ⟨_, rfl, ?_⟩
       obtain ⟨A10, c10, rfl⟩ := Kd.R_slice ho0; obtain ⟨A11, c11, rfl⟩ := Kd.R_slice ho1; replace BG := Lib.hid (blk_below BG.out hb); replace BL := Lib.hid (below_then BL.out BL.out.size hb); replace BP := Lib.hid (blk_below BP.out hb); replace BQ := Lib.hid (blk_below BQ.out hb); replace R6 := Lib.hid (Kd.R_below R6.out hb); replace R7 := Lib.hid (Kd.R_below R7.out hb); replace R8 := Lib.hid (Kd.R_below R8.out hb); replace R9 := Lib.hid (Kd.R_below R9.out hb); have R10 := Lib.hid (toR ho0); have R11 := Lib.hid (toR ho1); clear ho0 ho1 hb
       refine hK.out _ _ ⟨cell2 BG.out, cell2 BP.out, cell2 BQ.out⟩ (fun hHeld => ?_)
       clear hK K
       refine norm_ (a' := ?_) ?_ ?_
       rotate_left
       ·show Act.put _ (some 36) _ = _
        simp only [Act.put, sI_, s0_, sS_, i64_w, i32_w]
        rfl
       exact norm_ (by first | (simp only [putAll, Act.put, sI_, s0_, sS_]; done) | (simp only [putAll, Act.put, sI_, s0_, sS_]; rfl)) (J3_0 (A6, c6, A7, c7, A8, c8, A9, c9, A10, c10, A11, c11) _ ⟨hHeld, BG.out, BL.out, BP.out, BQ.out, R6.out, R7.out, R8.out, R9.out, R10.out, R11.out⟩)
      ·skip
       refine box_step ?hg (N := 7) ?hd (cs := #[.slice none 0 0, .slice none 0 0]) (t := 27) ?hr ?_; (case hd => rfl); (case hg => rfl); (case hr => first | (go_simp; done) | (go_simp; rfl))
       intro x hg w_ hbox hb
       have Hx : q < x := by rw [hg]; exact blk_lt BQ.out
       replace BG := Lib.hid (blk_below BG.out hb); replace BL := Lib.hid (below_then BL.out BL.out.size hb); replace BP := Lib.hid (blk_below BP.out hb); replace BQ := Lib.hid (blk_below BQ.out hb); replace R6 := Lib.hid (Kd.R_below R6.out hb); replace R7 := Lib.hid (Kd.R_below R7.out hb); replace R8 := Lib.hid (Kd.R_below R8.out hb); replace R9 := Lib.hid (Kd.R_below R9.out hb); have BX := Lib.hid hbox; clear hg hbox hb
       refine hK.out _ _ ⟨cell2 BG.out, cell2 BP.out, cell2 BQ.out⟩ (fun hHeld => ?_)
       clear hK K
       refine norm_ (a' := ?_) ?_ ?_
       rotate_left
       ·show Act.put _ (some 7) _ = _
        simp only [Act.put, sI_, s0_, sS_, i64_w, i32_w]
        rfl
       exact norm_ (by first | (simp only [putAll, Act.put, sI_, s0_, sS_]; done) | (simp only [putAll, Act.put, sI_, s0_, sS_]; rfl)) (J2_1 (A6, c6, A7, c7, A8, c8, A9, c9, x) _ ⟨hHeld, Hx, BG.out, BL.out, BP.out, BQ.out, R6.out, R7.out, R8.out, R9.out, BX.out⟩)
     rintro ⟨A6, c6, A7, c7, A8, c8, A9, c9, x⟩ w_ ⟨hHeld, Hx, qBG, qBL, qBP, qBQ, qR6, qR7, qR8, qR9, qBX⟩; replace Hx : q < x := Hx
     replace BG : Hid (w_.heap[g]? = some (.cells #[.slice A0 l0.length c0, .slice A1 l1.length c1] 25 (0, 0))) := Lib.hid qBG; clear qBG
     replace BL : Hid (Below w.heap.size w w_) := Lib.hid qBL; clear qBL
     replace BP : Hid (w_.heap[p]? = some (.cells #[.slice A2 l2.length c2, .slice A3 l3.length c3] 27 (0, 0))) := Lib.hid qBP; clear qBP
     replace BQ : Hid (w_.heap[q]? = some (.cells #[.slice A4 l4.length c4, .slice A5 l5.length c5] 27 (0, 0))) := Lib.hid qBQ; clear qBQ
     have R6 : Hid (RI w_ A6 c6 l0) := Lib.hid qR6; clear qR6
     have R7 : Hid (RE w_ A7 c7 l1) := Lib.hid qR7; clear qR7
     have R8 : Hid (RI w_ A8 c8 l2) := Lib.hid qR8; clear qR8
     have R9 : Hid (RI w_ A9 c9 l3) := Lib.hid qR9; clear qR9
     have BX : Hid (Bk w_ x 27 nl nl) := Lib.hid qBX; clear qBX
     refine norm_ (a' := ?_) ?_ ?_
     rotate_left
     ·simp only [putAll, Act.put, sI_, s0_, sS_]
      rfl
     refine one_ (i := 5) (N := some 36) #[true, true, true, true, true, true, false, false, false, false, true, false, false] rfl rfl (by kernel_rfl) (by decide) (fun K hK => ?_)
     refine goes_ Try.func30 (by kernel_rfl) rfl #[.agg #[.slice A4 l4.length c4, .slice A5 l5.length c5]] (by rfl) rfl rfl (by (try simp only [List.map_toArray, List.map_cons, List.map_nil]); first | done | rfl) ?_
     with_reducible refine (scarfjointlaw07_own.calls A4 c4 l4 A5 c5 l5 l4 l5 _ (Kd.C_below R4.out BL.out) M4.out (Kd.C_below R5.out BL.out) M5.out hownq).mono ?_
     rintro e w_ ⟨v0, v1, rfl, ho0, ho1, hb⟩
     refine ⟨_, rfl, ?_⟩
     obtain ⟨A10, c10, rfl⟩ := Kd.R_slice ho0; obtain ⟨A11, c11, rfl⟩ := Kd.R_slice ho1; replace BG := Lib.hid (blk_below BG.out hb); replace BL := Lib.hid (below_then BL.out BL.out.size hb); replace BP := Lib.hid (blk_below BP.out hb); replace BQ := Lib.hid (blk_below BQ.out hb); replace R6 := Lib.hid (Kd.R_below R6.out hb); replace R7 := Lib.hid (Kd.R_below R7.out hb); replace R8 := Lib.hid (Kd.R_below R8.out hb); replace R9 := Lib.hid (Kd.R_below R9.out hb); replace BX := Lib.hid (blk_below BX.out hb); have R10 := Lib.hid (toR ho0); have R11 := Lib.hid (toR ho1); clear ho0 ho1 hb
     refine hK.out _ _ ⟨cell2 BG.out, cell2 BP.out, cell2 BQ.out⟩ (fun hHeld => ?_)
     clear hK K
     refine norm_ (a' := ?_) ?_ ?_
     rotate_left
     ·show Act.put _ (some 36) _ = _
      simp only [Act.put, sI_, s0_, sS_, i64_w, i32_w]
      rfl
     exact norm_ (by first | (simp only [putAll, Act.put, sI_, s0_, sS_]; done) | (simp only [putAll, Act.put, sI_, s0_, sS_]; rfl)) (J3_1 (A6, c6, A7, c7, A8, c8, A9, c9, A10, c10, A11, c11, x) _ ⟨hHeld, Hx, BG.out, BL.out, BP.out, BQ.out, R6.out, R7.out, R8.out, R9.out, R10.out, R11.out, BX.out⟩)
    rintro ⟨A6, c6, A7, c7, A8, c8, A9, c9, A10, c10, A11, c11⟩ w_ ⟨hHeld, qBG, qBL, qBP, qBQ, qR6, qR7, qR8, qR9, qR10, qR11⟩
    replace BG : Hid (w_.heap[g]? = some (.cells #[.slice A0 l0.length c0, .slice A1 l1.length c1] 25 (0, 0))) := Lib.hid qBG; clear qBG
    replace BL : Hid (Below w.heap.size w w_) := Lib.hid qBL; clear qBL
    replace BP : Hid (w_.heap[p]? = some (.cells #[.slice A2 l2.length c2, .slice A3 l3.length c3] 27 (0, 0))) := Lib.hid qBP; clear qBP
    replace BQ : Hid (w_.heap[q]? = some (.cells #[.slice A4 l4.length c4, .slice A5 l5.length c5] 27 (0, 0))) := Lib.hid qBQ; clear qBQ
    have R6 : Hid (RI w_ A6 c6 l0) := Lib.hid qR6; clear qR6
    have R7 : Hid (RE w_ A7 c7 l1) := Lib.hid qR7; clear qR7
    have R8 : Hid (RI w_ A8 c8 l2) := Lib.hid qR8; clear qR8
    have R9 : Hid (RI w_ A9 c9 l3) := Lib.hid qR9; clear qR9
    have R10 : Hid (RI w_ A10 c10 l4) := Lib.hid qR10; clear qR10
    have R11 : Hid (RI w_ A11 c11 l5) := Lib.hid qR11; clear qR11
    refine norm_ (a' := ?_) ?_ ?_
    rotate_left
    ·simp only [putAll, Act.put, sI_, s0_, sS_]
     rfl
    refine two_ (i := 6) (j := 10) (Ni := some 37) (Nj := some 7) #[true, true, true, true, true, true, true, false, false, false, false, false, false] #[true, true, true, true, true, true, false, false, false, false, true, false, false] rfl rfl rfl rfl (by kernel_rfl) (by decide) (by decide) (fun K hK => ?_) (fun K hK => ?_)
    ·skip
     refine goes_ Try.func37 (by kernel_rfl) rfl #[.agg #[.slice A6 l0.length c6, .slice A7 l1.length c7], .agg #[.slice A8 l2.length c8, .slice A9 l3.length c9], .agg #[.slice A10 l4.length c10, .slice A11 l5.length c11]] (by rfl) rfl rfl (by (try simp only [List.map_toArray, List.map_cons, List.map_nil]); first | done | rfl) ?_
     with_reducible refine (subgraph_Join.calls k A6 c6 l0 A7 c7 l1 A8 c8 l2 A9 c9 l3 A10 c10 l4 A11 c11 l5 a0 a1 er be _ (Kd.R_reads' R6.out).2.2 (Kd.R_reads' R6.out).2.1 (Kd.R_reads' R7.out).2.2 (Kd.R_reads' R7.out).2.1 (Kd.R_reads' R8.out).2.2 (Kd.R_reads' R8.out).2.1 (Kd.R_reads' R9.out).2.2 (Kd.R_reads' R9.out).2.1 (Kd.R_reads' R10.out).2.2 (Kd.R_reads' R10.out).2.1 (Kd.R_reads' R11.out).2.2 (Kd.R_reads' R11.out).2.1 L2.out L3.out L4.out L5.out hb0 hj).mono ?_
     rintro e w_ ⟨A12, c12, A13, c13, rfl, ho0, ho1, hb⟩
     refine ⟨_, rfl, ?_⟩
     replace BG := Lib.hid (blk_below BG.out hb); replace BL := Lib.hid (below_then BL.out BL.out.size hb); replace BP := Lib.hid (blk_below BP.out hb); replace BQ := Lib.hid (blk_below BQ.out hb); replace R6 := Lib.hid (Kd.R_below R6.out hb); replace R7 := Lib.hid (Kd.R_below R7.out hb); replace R8 := Lib.hid (Kd.R_below R8.out hb); replace R9 := Lib.hid (Kd.R_below R9.out hb); replace R10 := Lib.hid (Kd.R_below R10.out hb); replace R11 := Lib.hid (Kd.R_below R11.out hb); have R12 := Lib.hid (toR ho0); have R13 := Lib.hid (toR ho1); clear ho0 ho1 hb
     refine hK.out _ _ ⟨cell2 BG.out, cell2 BP.out, cell2 BQ.out⟩ (fun hHeld => ?_)
     clear hK K
     refine norm_ (a' := ?_) ?_ ?_
     rotate_left
     ·show Act.put _ (some 37) _ = _
      simp only [Act.put, sI_, s0_, sS_, i64_w, i32_w]
      rfl
     refine pure_ (i := 7) (N := some 30) (v := ?_) (a' := ?_) #[true, true, true, true, true, true, true, true, false, false, false, false, false] rfl rfl (by kernel_rfl) (fun _ _ _ h => h) (Or.inl ⟨by rfl, ?_⟩) ?_ ?_
     rotate_left
     ·intro w'
      go_simp
      with_reducible rfl
     rotate_left
     ·simp only [Act.put, sI_, s0_, sS_, i64_w, i32_w]
      rfl
     refine pure_ (i := 8) (N := some 38) (v := ?_) (a' := ?_) #[true, true, true, true, true, true, true, true, true, false, false, false, false] rfl rfl (by kernel_rfl) (fun _ _ _ h => h) (Or.inl ⟨by rfl, ?_⟩) ?_ ?_
     rotate_left
     ·intro w'
      go_simp
      with_reducible rfl
     rotate_left
     ·simp only [Act.put, sI_, s0_, sS_, i64_w, i32_w]
      rfl
     refine pure_ (i := 9) (N := some 39) (v := ?_) (a' := ?_) #[true, true, true, true, true, true, true, true, true, true, false, false, false] rfl rfl (by kernel_rfl) (fun _ _ _ h => h) (Or.inl ⟨by rfl, ?_⟩) ?_ ?_
     rotate_left
     ·intro w'
      go_simp
      with_reducible rfl
     rotate_left
     ·simp only [Act.put, sI_, s0_, sS_, i64_w, i32_w]
      rfl
     exact norm_ (by first | (simp only [putAll, Act.put, sI_, s0_, sS_]; done) | (simp only [putAll, Act.put, sI_, s0_, sS_]; rfl)) (J4_0 (A6, c6, A7, c7, A8, c8, A9, c9, A10, c10, A11, c11, A12, c12, A13, c13) _ ⟨hHeld, BG.out, BL.out, BP.out, BQ.out, R12.out, R13.out⟩)
    ·skip
     refine box_step ?hg (N := 7) ?hd (cs := #[.slice none 0 0, .slice none 0 0]) (t := 27) ?hr ?_; (case hd => rfl); (case hg => rfl); (case hr => first | (go_simp; done) | (go_simp; rfl))
     intro x hg w_ hbox hb
     have Hx : q < x := by rw [hg]; exact blk_lt BQ.out
     replace BG := Lib.hid (blk_below BG.out hb); replace BL := Lib.hid (below_then BL.out BL.out.size hb); replace BP := Lib.hid (blk_below BP.out hb); replace BQ := Lib.hid (blk_below BQ.out hb); replace R6 := Lib.hid (Kd.R_below R6.out hb); replace R7 := Lib.hid (Kd.R_below R7.out hb); replace R8 := Lib.hid (Kd.R_below R8.out hb); replace R9 := Lib.hid (Kd.R_below R9.out hb); replace R10 := Lib.hid (Kd.R_below R10.out hb); replace R11 := Lib.hid (Kd.R_below R11.out hb); have BX := Lib.hid hbox; clear hg hbox hb
     refine hK.out _ _ ⟨cell2 BG.out, cell2 BP.out, cell2 BQ.out⟩ (fun hHeld => ?_)
     clear hK K
     refine norm_ (a' := ?_) ?_ ?_
     rotate_left
     ·show Act.put _ (some 7) _ = _
      simp only [Act.put, sI_, s0_, sS_, i64_w, i32_w]
      rfl
     exact norm_ (by first | (simp only [putAll, Act.put, sI_, s0_, sS_]; done) | (simp only [putAll, Act.put, sI_, s0_, sS_]; rfl)) (J3_1 (A6, c6, A7, c7, A8, c8, A9, c9, A10, c10, A11, c11, x) _ ⟨hHeld, Hx, BG.out, BL.out, BP.out, BQ.out, R6.out, R7.out, R8.out, R9.out, R10.out, R11.out, BX.out⟩)
   rintro ⟨A6, c6, A7, c7, A8, c8, A9, c9, A10, c10, A11, c11, x⟩ w_ ⟨hHeld, Hx, qBG, qBL, qBP, qBQ, qR6, qR7, qR8, qR9, qR10, qR11, qBX⟩; replace Hx : q < x := Hx
   replace BG : Hid (w_.heap[g]? = some (.cells #[.slice A0 l0.length c0, .slice A1 l1.length c1] 25 (0, 0))) := Lib.hid qBG; clear qBG
   replace BL : Hid (Below w.heap.size w w_) := Lib.hid qBL; clear qBL
   replace BP : Hid (w_.heap[p]? = some (.cells #[.slice A2 l2.length c2, .slice A3 l3.length c3] 27 (0, 0))) := Lib.hid qBP; clear qBP
   replace BQ : Hid (w_.heap[q]? = some (.cells #[.slice A4 l4.length c4, .slice A5 l5.length c5] 27 (0, 0))) := Lib.hid qBQ; clear qBQ
   have R6 : Hid (RI w_ A6 c6 l0) := Lib.hid qR6; clear qR6
   have R7 : Hid (RE w_ A7 c7 l1) := Lib.hid qR7; clear qR7
   have R8 : Hid (RI w_ A8 c8 l2) := Lib.hid qR8; clear qR8
   have R9 : Hid (RI w_ A9 c9 l3) := Lib.hid qR9; clear qR9
   have R10 : Hid (RI w_ A10 c10 l4) := Lib.hid qR10; clear qR10
   have R11 : Hid (RI w_ A11 c11 l5) := Lib.hid qR11; clear qR11
   have BX : Hid (Bk w_ x 27 nl nl) := Lib.hid qBX; clear qBX
   refine norm_ (a' := ?_) ?_ ?_
   rotate_left
   ·simp only [putAll, Act.put, sI_, s0_, sS_]
    rfl
   refine one_ (i := 6) (N := some 37) #[true, true, true, true, true, true, true, false, false, false, true, false, false] rfl rfl (by kernel_rfl) (by decide) (fun K hK => ?_)
   refine goes_ Try.func37 (by kernel_rfl) rfl #[.agg #[.slice A6 l0.length c6, .slice A7 l1.length c7], .agg #[.slice A8 l2.length c8, .slice A9 l3.length c9], .agg #[.slice A10 l4.length c10, .slice A11 l5.length c11]] (by rfl) rfl rfl (by (try simp only [List.map_toArray, List.map_cons, List.map_nil]); first | done | rfl) ?_
   with_reducible refine (subgraph_Join.calls k A6 c6 l0 A7 c7 l1 A8 c8 l2 A9 c9 l3 A10 c10 l4 A11 c11 l5 a0 a1 er be _ (Kd.R_reads' R6.out).2.2 (Kd.R_reads' R6.out).2.1 (Kd.R_reads' R7.out).2.2 (Kd.R_reads' R7.out).2.1 (Kd.R_reads' R8.out).2.2 (Kd.R_reads' R8.out).2.1 (Kd.R_reads' R9.out).2.2 (Kd.R_reads' R9.out).2.1 (Kd.R_reads' R10.out).2.2 (Kd.R_reads' R10.out).2.1 (Kd.R_reads' R11.out).2.2 (Kd.R_reads' R11.out).2.1 L2.out L3.out L4.out L5.out hb0 hj).mono ?_
   rintro e w_ ⟨A12, c12, A13, c13, rfl, ho0, ho1, hb⟩
   refine ⟨_, rfl, ?_⟩
   replace BG := Lib.hid (blk_below BG.out hb); replace BL := Lib.hid (below_then BL.out BL.out.size hb); replace BP := Lib.hid (blk_below BP.out hb); replace BQ := Lib.hid (blk_below BQ.out hb); replace R6 := Lib.hid (Kd.R_below R6.out hb); replace R7 := Lib.hid (Kd.R_below R7.out hb); replace R8 := Lib.hid (Kd.R_below R8.out hb); replace R9 := Lib.hid (Kd.R_below R9.out hb); replace R10 := Lib.hid (Kd.R_below R10.out hb); replace R11 := Lib.hid (Kd.R_below R11.out hb); replace BX := Lib.hid (blk_below BX.out hb); have R12 := Lib.hid (toR ho0); have R13 := Lib.hid (toR ho1); clear ho0 ho1 hb
   refine hK.out _ _ ⟨cell2 BG.out, cell2 BP.out, cell2 BQ.out⟩ (fun hHeld => ?_)
   clear hK K
   refine norm_ (a' := ?_) ?_ ?_
   rotate_left
   ·show Act.put _ (some 37) _ = _
    simp only [Act.put, sI_, s0_, sS_, i64_w, i32_w]
    rfl
   refine pure_ (i := 7) (N := some 30) (v := ?_) (a' := ?_) #[true, true, true, true, true, true, true, true, false, false, true, false, false] rfl rfl (by kernel_rfl) (fun _ _ _ h => h) (Or.inl ⟨by rfl, ?_⟩) ?_ ?_
   rotate_left
   ·intro w'
    go_simp
    with_reducible rfl
   rotate_left
   ·simp only [Act.put, sI_, s0_, sS_, i64_w, i32_w]
    rfl
   refine pure_ (i := 8) (N := some 38) (v := ?_) (a' := ?_) #[true, true, true, true, true, true, true, true, true, false, true, false, false] rfl rfl (by kernel_rfl) (fun _ _ _ h => h) (Or.inl ⟨by rfl, ?_⟩) ?_ ?_
   rotate_left
   ·intro w'
    go_simp
    with_reducible rfl
   rotate_left
   ·simp only [Act.put, sI_, s0_, sS_, i64_w, i32_w]
    rfl
   refine pure_ (i := 9) (N := some 39) (v := ?_) (a' := ?_) #[true, true, true, true, true, true, true, true, true, true, true, false, false] rfl rfl (by kernel_rfl) (fun _ _ _ h => h) (Or.inl ⟨by rfl, ?_⟩) ?_ ?_
   rotate_left
   ·intro w'
    go_simp
    with_reducible rfl
   rotate_left
   ·simp only [Act.put, sI_, s0_, sS_, i64_w, i32_w]
    rfl
   exact norm_ (by first | (simp only [putAll, Act.put, sI_, s0_, sS_]; done) | (simp only [putAll, Act.put, sI_, s0_, sS_]; rfl)) (J4_1 (A6, c6, A7, c7, A8, c8, A9, c9, A10, c10, A11, c11, A12, c12, A13, c13, x) _ ⟨hHeld, Hx, BG.out, BL.out, BP.out, BQ.out, R12.out, R13.out, BX.out⟩)
  rintro ⟨A6, c6, A7, c7, A8, c8, A9, c9, A10, c10, A11, c11, A12, c12, A13, c13⟩ w_ ⟨hHeld, qBG, qBL, qBP, qBQ, qR12, qR13⟩
  replace BG : Hid (w_.heap[g]? = some (.cells #[.slice A0 l0.length c0, .slice A1 l1.length c1] 25 (0, 0))) := Lib.hid qBG; clear qBG
  replace BL : Hid (Below w.heap.size w w_) := Lib.hid qBL; clear qBL
  replace BP : Hid (w_.heap[p]? = some (.cells #[.slice A2 l2.length c2, .slice A3 l3.length c3] 27 (0, 0))) := Lib.hid qBP; clear qBP
  replace BQ : Hid (w_.heap[q]? = some (.cells #[.slice A4 l4.length c4, .slice A5 l5.length c5] 27 (0, 0))) := Lib.hid qBQ; clear qBQ
  have R12 : Hid (RI w_ A12 c12 a0) := Lib.hid qR12; clear qR12
  have R13 : Hid (RI w_ A13 c13 a1) := Lib.hid qR13; clear qR13
  refine norm_ (a' := ?_) ?_ ?_
  rotate_left
  ·simp only [putAll, Act.put, sI_, s0_, sS_]
   rfl
  refine one_ (i := 10) (N := some 7) #[true, true, true, true, true, true, true, true, true, true, true, false, false] rfl rfl (by kernel_rfl) (by decide) (fun K hK => ?_)
  refine box_step ?hg (N := 7) ?hd (cs := #[.slice none 0 0, .slice none 0 0]) (t := 27) ?hr ?_; (case hd => rfl); (case hg => rfl); (case hr => first | (go_simp; done) | (go_simp; rfl))
  intro x hg w_ hbox hb
  have Hx : q < x := by rw [hg]; exact blk_lt BQ.out
  replace BG := Lib.hid (blk_below BG.out hb); replace BL := Lib.hid (below_then BL.out BL.out.size hb); replace BP := Lib.hid (blk_below BP.out hb); replace BQ := Lib.hid (blk_below BQ.out hb); replace R12 := Lib.hid (Kd.R_below R12.out hb); replace R13 := Lib.hid (Kd.R_below R13.out hb); have BX := Lib.hid hbox; clear hg hbox hb
  refine hK.out _ _ ⟨cell2 BG.out, cell2 BP.out, cell2 BQ.out⟩ (fun hHeld => ?_)
  clear hK K
  refine norm_ (a' := ?_) ?_ ?_
  rotate_left
  ·show Act.put _ (some 7) _ = _
   simp only [Act.put, sI_, s0_, sS_, i64_w, i32_w]
   rfl
  exact norm_ (by first | (simp only [putAll, Act.put, sI_, s0_, sS_]; done) | (simp only [putAll, Act.put, sI_, s0_, sS_]; rfl)) (J4_1 (A6, c6, A7, c7, A8, c8, A9, c9, A10, c10, A11, c11, A12, c12, A13, c13, x) _ ⟨hHeld, Hx, BG.out, BL.out, BP.out, BQ.out, R12.out, R13.out, BX.out⟩)
 rintro ⟨A6, c6, A7, c7, A8, c8, A9, c9, A10, c10, A11, c11, A12, c12, A13, c13, x⟩ w_ ⟨hHeld, Hx, qBG, qBL, qBP, qBQ, qR12, qR13, qBX⟩; replace Hx : q < x := Hx
 replace BG : Hid (w_.heap[g]? = some (.cells #[.slice A0 l0.length c0, .slice A1 l1.length c1] 25 (0, 0))) := Lib.hid qBG; clear qBG
 replace BL : Hid (Below w.heap.size w w_) := Lib.hid qBL; clear qBL
 replace BP : Hid (w_.heap[p]? = some (.cells #[.slice A2 l2.length c2, .slice A3 l3.length c3] 27 (0, 0))) := Lib.hid qBP; clear qBP
 replace BQ : Hid (w_.heap[q]? = some (.cells #[.slice A4 l4.length c4, .slice A5 l5.length c5] 27 (0, 0))) := Lib.hid qBQ; clear qBQ
 have R12 : Hid (RI w_ A12 c12 a0) := Lib.hid qR12; clear qR12
 have R13 : Hid (RI w_ A13 c13 a1) := Lib.hid qR13; clear qR13
 have BX : Hid (Bk w_ x 27 nl nl) := Lib.hid qBX; clear qBX
 refine norm_ (a' := ?_) ?_ ?_
 rotate_left
 ·simp only [putAll, Act.put, sI_, s0_, sS_]
  rfl
 refine one_ (i := 11) (N := none) #[true, true, true, true, true, true, true, true, true, true, true, true, false] rfl rfl (by kernel_rfl) (by decide) (fun K hK => ?_)
 obtain ⟨y0_, y1_⟩ := cell2 BX.out; have f0_ := blk_frozen BX.out 0; have f1_ := blk_frozen BX.out 1
 refine skip_ (w1 := ?_) (by rfl) rfl ?_ ?_
 rotate_left
 ·go_simp
  rfl
 clear y0_ y1_ f0_ f1_; replace BG := Lib.hid (blk_far BG.out (p := ⟨x, 0, none⟩) (by show g ≠ x; omega) (.slice A12 a0.length c12)); replace BL := Lib.hid (below_set (g := x) (j := 0) (v := .slice A12 a0.length c12) BL.out (by omega)); replace BP := Lib.hid (blk_far BP.out (p := ⟨x, 0, none⟩) (by show p ≠ x; omega) (.slice A12 a0.length c12)); replace BQ := Lib.hid (blk_far BQ.out (p := ⟨x, 0, none⟩) (by show q ≠ x; omega) (.slice A12 a0.length c12)); replace R12 := Lib.hid (Kd.R_set R12.out BX.out int_ne27 0 (.slice A12 a0.length c12)); replace R13 := Lib.hid (Kd.R_set R13.out BX.out int_ne27 0 (.slice A12 a0.length c12)); replace BX := Lib.hid (blk_put (cs' := #[.slice A12 a0.length c12, .slice none 0 0]) BX.out 0 (.slice A12 a0.length c12) rfl); replace BG := Lib.hid (blk_far BG.out (p := ⟨x, 1, none⟩) (by show g ≠ x; omega) (.slice A13 a1.length c13)); replace BL := Lib.hid (below_set (g := x) (j := 1) (v := .slice A13 a1.length c13) BL.out (by omega)); replace BP := Lib.hid (blk_far BP.out (p := ⟨x, 1, none⟩) (by show p ≠ x; omega) (.slice A13 a1.length c13)); replace BQ := Lib.hid (blk_far BQ.out (p := ⟨x, 1, none⟩) (by show q ≠ x; omega) (.slice A13 a1.length c13)); replace R12 := Lib.hid (Kd.R_set R12.out BX.out int_ne27 1 (.slice A13 a1.length c13)); replace R13 := Lib.hid (Kd.R_set R13.out BX.out int_ne27 1 (.slice A13 a1.length c13)); replace BX := Lib.hid (blk_put (cs' := #[.slice A12 a0.length c12, .slice A13 a1.length c13]) BX.out 1 (.slice A13 a1.length c13) rfl)
 refine hK.out _ _ ⟨cell2 BG.out, cell2 BP.out, cell2 BQ.out⟩ (fun hHeld => ?_)
 clear hK K
 refine pure_ (i := 12) (N := some 8) (v := ?_) (a' := ?_) #[true, true, true, true, true, true, true, true, true, true, true, true, true] rfl rfl (by kernel_rfl) (fun _ _ _ h => h) (Or.inl ⟨by rfl, ?_⟩) ?_ ?_
 rotate_left
 ·intro w'
  go_simp
  with_reducible rfl
 rotate_left
 ·simp only [Act.put, sI_, s0_, sS_, i64_w, i32_w]
  rfl
 refine done_ (by kernel_rfl) ?_
 obtain ⟨zBG_0, zBG_1⟩ := cell2 BG.out; obtain ⟨zBP_0, zBP_1⟩ := cell2 BP.out; obtain ⟨zBQ_0, zBQ_1⟩ := cell2 BQ.out; obtain ⟨zBX_0, zBX_1⟩ := cell2 BX.out
 go_upto_region 5 with (first
  | (go_at_call 38; with_reducible refine (scarfjointref07_Join.calls k A0 c0 l0 A1 c1 l1 A2 c2 l2 A3 c3 l3 A4 c4 l4 A5 c5 l5 a0 a1 er _ (Kd.C_below R0.out BL.out) M0.out (Kd.C_below R1.out BL.out) M1.out (Kd.C_below R2.out BL.out) M2.out (Kd.C_below R3.out BL.out) M3.out (Kd.C_below R4.out BL.out) M4.out (Kd.C_below R5.out BL.out) M5.out h38).mono ?_; rintro e w_ ⟨v0, v1, rfl, ho0, ho1, hb⟩; clear zBG_0 zBG_1 zBP_0 zBP_1 zBQ_0 zBQ_1 zBX_0 zBX_1; obtain ⟨A14, c14, rfl⟩ := Kd.R_slice ho0; obtain ⟨A15, c15, rfl⟩ := Kd.R_slice ho1; replace BG := Lib.hid (blk_below BG.out hb); replace BL := Lib.hid (below_then BL.out BL.out.size hb); replace BP := Lib.hid (blk_below BP.out hb); replace BQ := Lib.hid (blk_below BQ.out hb); replace R12 := Lib.hid (Kd.R_below R12.out hb); replace R13 := Lib.hid (Kd.R_below R13.out hb); replace BX := Lib.hid (blk_below BX.out hb); have R14 := Lib.hid (toR (ho0)); have R15 := Lib.hid (toR (ho1)); clear ho0 ho1 hb; obtain ⟨zBG_0, zBG_1⟩ := cell2 BG.out; obtain ⟨zBP_0, zBP_1⟩ := cell2 BP.out; obtain ⟨zBQ_0, zBQ_1⟩ := cell2 BQ.out; obtain ⟨zBX_0, zBX_1⟩ := cell2 BX.out)
  | ((with_reducible refine gate_dst (N := 9) rfl ?_); (try (refine gate_guard (by rfl) ?_; dsimp only)); refine box_event ?hg (N := 9) ?hd (cs := #[.slice none 0 0, .slice none 0 0]) (t := 27) ?hr ?_; (case hd => rfl); (case hg => rfl); (case hr => first | (go_simp; done) | (go_simp; rfl)); intro y hg w_ hbox hb; clear zBG_0 zBG_1 zBP_0 zBP_1 zBQ_0 zBQ_1 zBX_0 zBX_1; have Hy : x < y := (hg ▸ blk_lt BX.out); replace BG := Lib.hid (blk_below BG.out hb); replace BL := Lib.hid (below_then BL.out BL.out.size hb); replace BP := Lib.hid (blk_below BP.out hb); replace BQ := Lib.hid (blk_below BQ.out hb); replace R12 := Lib.hid (Kd.R_below R12.out hb); replace R13 := Lib.hid (Kd.R_below R13.out hb); replace BX := Lib.hid (blk_below BX.out hb); replace R14 := Lib.hid (Kd.R_below R14.out hb); replace R15 := Lib.hid (Kd.R_below R15.out hb); have BY := Lib.hid (hbox); clear hg hbox hb; obtain ⟨y0_, y1_⟩ := cell2 BY.out; have f0_ := blk_frozen BY.out 0; have f1_ := blk_frozen BY.out 1))
 clear y0_ y1_ f0_ f1_; replace BG := Lib.hid (blk_far BG.out (p := ⟨y, 0, none⟩) (by show g ≠ y; omega) (.slice A14 a0.length c14)); replace BL := Lib.hid (below_set (g := y) (j := 0) (v := .slice A14 a0.length c14) BL.out (by omega)); replace BP := Lib.hid (blk_far BP.out (p := ⟨y, 0, none⟩) (by show p ≠ y; omega) (.slice A14 a0.length c14)); replace BQ := Lib.hid (blk_far BQ.out (p := ⟨y, 0, none⟩) (by show q ≠ y; omega) (.slice A14 a0.length c14)); replace R12 := Lib.hid (Kd.R_set R12.out BY.out int_ne27 0 (.slice A14 a0.length c14)); replace R13 := Lib.hid (Kd.R_set R13.out BY.out int_ne27 0 (.slice A14 a0.length c14)); replace BX := Lib.hid (blk_far BX.out (p := ⟨y, 0, none⟩) (by show x ≠ y; omega) (.slice A14 a0.length c14)); replace R14 := Lib.hid (Kd.R_set R14.out BY.out int_ne27 0 (.slice A14 a0.length c14)); replace R15 := Lib.hid (Kd.R_set R15.out BY.out int_ne27 0 (.slice A14 a0.length c14)); replace BY := Lib.hid (blk_put (cs' := #[.slice A14 a0.length c14, .slice none 0 0]) BY.out 0 (.slice A14 a0.length c14) rfl); replace BG := Lib.hid (blk_far BG.out (p := ⟨y, 1, none⟩) (by show g ≠ y; omega) (.slice A15 a1.length c15)); replace BL := Lib.hid (below_set (g := y) (j := 1) (v := .slice A15 a1.length c15) BL.out (by omega)); replace BP := Lib.hid (blk_far BP.out (p := ⟨y, 1, none⟩) (by show p ≠ y; omega) (.slice A15 a1.length c15)); replace BQ := Lib.hid (blk_far BQ.out (p := ⟨y, 1, none⟩) (by show q ≠ y; omega) (.slice A15 a1.length c15)); replace R12 := Lib.hid (Kd.R_set R12.out BY.out int_ne27 1 (.slice A15 a1.length c15)); replace R13 := Lib.hid (Kd.R_set R13.out BY.out int_ne27 1 (.slice A15 a1.length c15)); replace BX := Lib.hid (blk_far BX.out (p := ⟨y, 1, none⟩) (by show x ≠ y; omega) (.slice A15 a1.length c15)); replace R14 := Lib.hid (Kd.R_set R14.out BY.out int_ne27 1 (.slice A15 a1.length c15)); replace R15 := Lib.hid (Kd.R_set R15.out BY.out int_ne27 1 (.slice A15 a1.length c15)); replace BY := Lib.hid (blk_put (cs' := #[.slice A14 a0.length c14, .slice A15 a1.length c15]) BY.out 1 (.slice A15 a1.length c15) rfl); replace BG := Lib.hid (blk_drew BG.out); replace BL := Lib.hid (below_drew1 BL.out); replace BP := Lib.hid (blk_drew BP.out); replace BQ := Lib.hid (blk_drew BQ.out); replace R12 := Lib.hid (Kd.R_drew R12.out); replace R13 := Lib.hid (Kd.R_drew R13.out); replace BX := Lib.hid (blk_drew BX.out); replace R14 := Lib.hid (Kd.R_drew R14.out); replace R15 := Lib.hid (Kd.R_drew R15.out); replace BY := Lib.hid (blk_drew BY.out)
 refine start_ (n := 13) (S := fun w' => C2 w' g (.slice A0 l0.length c0) (.slice A1 l1.length c1) ∧ C2 w' p (.slice A2 l2.length c2) (.slice A3 l3.length c3) ∧ C2 w' q (.slice A4 l4.length c4) (.slice A5 l5.length c5)) (ds := []) #[false, false, false, false, false, false, false, false, false, false, false, false, false] (by kernel_rfl) rfl rfl ⟨cell2 BG.out, cell2 BP.out, cell2 BQ.out⟩ (fun hHeld => ?_)
 refine take_ (i := 0) (N := some 48) (v := ?_) (a' := ?_) #[true, false, false, false, false, false, false, false, false, false, false, false, false] rfl rfl (by kernel_rfl) (fun _ _ _ h => h) (Or.inl ⟨by rfl, ?_⟩) hHeld ?_ ?_
 rotate_left
 ·rintro w' ⟨⟨s0, s1⟩, ⟨s2, s3⟩, ⟨s4, s5⟩⟩
  go_simp
  with_reducible rfl
 rotate_left
 ·simp only [Act.put, sI_, s0_, sS_, i64_w, i32_w]
  rfl
 refine take_ (i := 2) (N := some 50) (v := ?_) (a' := ?_) #[true, false, true, false, false, false, false, false, false, false, false, false, false] rfl rfl (by kernel_rfl) (fun _ _ _ h => h) (Or.inl ⟨by rfl, ?_⟩) hHeld ?_ ?_
 rotate_left
 ·rintro w' ⟨⟨s0, s1⟩, ⟨s2, s3⟩, ⟨s4, s5⟩⟩
  go_simp
  with_reducible rfl
 rotate_left
 ·simp only [Act.put, sI_, s0_, sS_, i64_w, i32_w]
  rfl
 refine take_ (i := 4) (N := some 52) (v := ?_) (a' := ?_) #[true, false, true, false, true, false, false, false, false, false, false, false, false] rfl rfl (by kernel_rfl) (fun _ _ _ h => h) (Or.inl ⟨by rfl, ?_⟩) hHeld ?_ ?_
 rotate_left
 ·rintro w' ⟨⟨s0, s1⟩, ⟨s2, s3⟩, ⟨s4, s5⟩⟩
  go_simp
  with_reducible rfl
 rotate_left
 ·simp only [Act.put, sI_, s0_, sS_, i64_w, i32_w]
  rfl
 refine join_ (σ := Option Addr × Nat × Option Addr × Nat × Option Addr × Nat × Option Addr × Nat × Option Addr × Nat × Option Addr × Nat × Option Addr × Nat × Option Addr × Nat × Nat) 2 #[true, true, true, true, true, true, true, true, true, true, true, false, false] (fun s_ => [(49, .agg #[.slice s_.1 l0.length s_.2.1, .slice s_.2.2.1 l1.length s_.2.2.2.1]), (51, .agg #[.slice s_.2.2.2.2.1 l2.length s_.2.2.2.2.2.1, .slice s_.2.2.2.2.2.2.1 l3.length s_.2.2.2.2.2.2.2.1]), (53, .agg #[.slice s_.2.2.2.2.2.2.2.2.1 l4.length s_.2.2.2.2.2.2.2.2.2.1, .slice s_.2.2.2.2.2.2.2.2.2.2.1 l5.length s_.2.2.2.2.2.2.2.2.2.2.2.1]), (54, .tuple #[.agg #[.slice s_.2.2.2.2.2.2.2.2.2.2.2.2.1 d0.length s_.2.2.2.2.2.2.2.2.2.2.2.2.2.1, .slice s_.2.2.2.2.2.2.2.2.2.2.2.2.2.2.1 d1.length s_.2.2.2.2.2.2.2.2.2.2.2.2.2.2.2.1], .int .i64 er]), (47, .tuple #[.agg #[.slice s_.2.2.2.2.2.2.2.2.2.2.2.2.1 d0.length s_.2.2.2.2.2.2.2.2.2.2.2.2.2.1, .slice s_.2.2.2.2.2.2.2.2.2.2.2.2.2.2.1 d1.length s_.2.2.2.2.2.2.2.2.2.2.2.2.2.2.2.1], .int .i64 er]), (55, .agg #[.slice s_.2.2.2.2.2.2.2.2.2.2.2.2.1 d0.length s_.2.2.2.2.2.2.2.2.2.2.2.2.2.1, .slice s_.2.2.2.2.2.2.2.2.2.2.2.2.2.2.1 d1.length s_.2.2.2.2.2.2.2.2.2.2.2.2.2.2.2.1]), (56, .int .i64 er), (11, .pointer (some ⟨s_.2.2.2.2.2.2.2.2.2.2.2.2.2.2.2.2, 0, none⟩))]) (fun s_ w' => (C2 w' g (.slice A0 l0.length c0) (.slice A1 l1.length c1) ∧ C2 w' p (.slice A2 l2.length c2) (.slice A3 l3.length c3) ∧ C2 w' q (.slice A4 l4.length c4) (.slice A5 l5.length c5)) ∧ (y < s_.2.2.2.2.2.2.2.2.2.2.2.2.2.2.2.2) ∧ (w'.heap[g]? = some (.cells #[.slice A0 l0.length c0, .slice A1 l1.length c1] 25 (0, 0))) ∧ (Below w.heap.size w w') ∧ (w'.heap[p]? = some (.cells #[.slice A2 l2.length c2, .slice A3 l3.length c3] 27 (0, 0))) ∧ (w'.heap[q]? = some (.cells #[.slice A4 l4.length c4, .slice A5 l5.length c5] 27 (0, 0))) ∧ (RI w' A12 c12 a0) ∧ (RI w' A13 c13 a1) ∧ (w'.heap[x]? = some (.cells #[.slice A12 a0.length c12, .slice A13 a1.length c13] 27 (0, 0))) ∧ (Kd.R (Kd.int .i64) 3 w' 0 (fun _ => True) (.slice A14 a0.length c14) a0) ∧ (Kd.R (Kd.int .i64) 3 w' 0 (fun _ => True) (.slice A15 a1.length c15) a1) ∧ (w'.heap[y]? = some (.cells #[.slice A14 a0.length c14, .slice A15 a1.length c15] 27 (0, 0))) ∧ (RI w' s_.2.2.2.2.2.2.2.2.2.2.2.2.1 s_.2.2.2.2.2.2.2.2.2.2.2.2.2.1 d0) ∧ (RI w' s_.2.2.2.2.2.2.2.2.2.2.2.2.2.2.1 s_.2.2.2.2.2.2.2.2.2.2.2.2.2.2.2.1 d1) ∧ (Bk w' s_.2.2.2.2.2.2.2.2.2.2.2.2.2.2.2.2 27 nl nl)) ?_ ?_
 rotate_left
 ·intro J4_1
  refine join_ (σ := Option Addr × Nat × Option Addr × Nat × Option Addr × Nat × Option Addr × Nat × Option Addr × Nat × Option Addr × Nat × Option Addr × Nat × Option Addr × Nat) 3 #[true, true, true, true, true, true, true, true, true, true, false, false, false] (fun s_ => [(49, .agg #[.slice s_.1 l0.length s_.2.1, .slice s_.2.2.1 l1.length s_.2.2.2.1]), (51, .agg #[.slice s_.2.2.2.2.1 l2.length s_.2.2.2.2.2.1, .slice s_.2.2.2.2.2.2.1 l3.length s_.2.2.2.2.2.2.2.1]), (53, .agg #[.slice s_.2.2.2.2.2.2.2.2.1 l4.length s_.2.2.2.2.2.2.2.2.2.1, .slice s_.2.2.2.2.2.2.2.2.2.2.1 l5.length s_.2.2.2.2.2.2.2.2.2.2.2.1]), (54, .tuple #[.agg #[.slice s_.2.2.2.2.2.2.2.2.2.2.2.2.1 d0.length s_.2.2.2.2.2.2.2.2.2.2.2.2.2.1, .slice s_.2.2.2.2.2.2.2.2.2.2.2.2.2.2.1 d1.length s_.2.2.2.2.2.2.2.2.2.2.2.2.2.2.2], .int .i64 er]), (47, .tuple #[.agg #[.slice s_.2.2.2.2.2.2.2.2.2.2.2.2.1 d0.length s_.2.2.2.2.2.2.2.2.2.2.2.2.2.1, .slice s_.2.2.2.2.2.2.2.2.2.2.2.2.2.2.1 d1.length s_.2.2.2.2.2.2.2.2.2.2.2.2.2.2.2], .int .i64 er]), (55, .agg #[.slice s_.2.2.2.2.2.2.2.2.2.2.2.2.1 d0.length s_.2.2.2.2.2.2.2.2.2.2.2.2.2.1, .slice s_.2.2.2.2.2.2.2.2.2.2.2.2.2.2.1 d1.length s_.2.2.2.2.2.2.2.2.2.2.2.2.2.2.2]), (56, .int .i64 er)]) (fun s_ w' => (C2 w' g (.slice A0 l0.length c0) (.slice A1 l1.length c1) ∧ C2 w' p (.slice A2 l2.length c2) (.slice A3 l3.length c3) ∧ C2 w' q (.slice A4 l4.length c4) (.slice A5 l5.length c5)) ∧ (w'.heap[g]? = some (.cells #[.slice A0 l0.length c0, .slice A1 l1.length c1] 25 (0, 0))) ∧ (Below w.heap.size w w') ∧ (w'.heap[p]? = some (.cells #[.slice A2 l2.length c2, .slice A3 l3.length c3] 27 (0, 0))) ∧ (w'.heap[q]? = some (.cells #[.slice A4 l4.length c4, .slice A5 l5.length c5] 27 (0, 0))) ∧ (RI w' A12 c12 a0) ∧ (RI w' A13 c13 a1) ∧ (w'.heap[x]? = some (.cells #[.slice A12 a0.length c12, .slice A13 a1.length c13] 27 (0, 0))) ∧ (Kd.R (Kd.int .i64) 3 w' 0 (fun _ => True) (.slice A14 a0.length c14) a0) ∧ (Kd.R (Kd.int .i64) 3 w' 0 (fun _ => True) (.slice A15 a1.length c15) a1) ∧ (w'.heap[y]? = some (.cells #[.slice A14 a0.length c14, .slice A15 a1.length c15] 27 (0, 0))) ∧ (RI w' s_.2.2.2.2.2.2.2.2.2.2.2.2.1 s_.2.2.2.2.2.2.2.2.2.2.2.2.2.1 d0) ∧ (RI w' s_.2.2.2.2.2.2.2.2.2.2.2.2.2.2.1 s_.2.2.2.2.2.2.2.2.2.2.2.2.2.2.2 d1)) ?_ ?_
  rotate_left
  ·intro J4_0
   refine join_ (σ := Option Addr × Nat × Option Addr × Nat × Option Addr × Nat × Option Addr × Nat × Option Addr × Nat × Option Addr × Nat × Nat) 6 #[true, true, true, true, true, true, false, false, false, false, true, false, false] (fun s_ => [(49, .agg #[.slice s_.1 l0.length s_.2.1, .slice s_.2.2.1 l1.length s_.2.2.2.1]), (51, .agg #[.slice s_.2.2.2.2.1 l2.length s_.2.2.2.2.2.1, .slice s_.2.2.2.2.2.2.1 l3.length s_.2.2.2.2.2.2.2.1]), (53, .agg #[.slice s_.2.2.2.2.2.2.2.2.1 l4.length s_.2.2.2.2.2.2.2.2.2.1, .slice s_.2.2.2.2.2.2.2.2.2.2.1 l5.length s_.2.2.2.2.2.2.2.2.2.2.2.1]), (11, .pointer (some ⟨s_.2.2.2.2.2.2.2.2.2.2.2.2, 0, none⟩))]) (fun s_ w' => (C2 w' g (.slice A0 l0.length c0) (.slice A1 l1.length c1) ∧ C2 w' p (.slice A2 l2.length c2) (.slice A3 l3.length c3) ∧ C2 w' q (.slice A4 l4.length c4) (.slice A5 l5.length c5)) ∧ (y < s_.2.2.2.2.2.2.2.2.2.2.2.2) ∧ (w'.heap[g]? = some (.cells #[.slice A0 l0.length c0, .slice A1 l1.length c1] 25 (0, 0))) ∧ (Below w.heap.size w w') ∧ (w'.heap[p]? = some (.cells #[.slice A2 l2.length c2, .slice A3 l3.length c3] 27 (0, 0))) ∧ (w'.heap[q]? = some (.cells #[.slice A4 l4.length c4, .slice A5 l5.length c5] 27 (0, 0))) ∧ (RI w' A12 c12 a0) ∧ (RI w' A13 c13 a1) ∧ (w'.heap[x]? = some (.cells #[.slice A12 a0.length c12, .slice A13 a1.length c13] 27 (0, 0))) ∧ (Kd.R (Kd.int .i64) 3 w' 0 (fun _ => True) (.slice A14 a0.length c14) a0) ∧ (Kd.R (Kd.int .i64) 3 w' 0 (fun _ => True) (.slice A15 a1.length c15) a1) ∧ (w'.heap[y]? = some (.cells #[.slice A14 a0.length c14, .slice A15 a1.length c15] 27 (0, 0))) ∧ (RI w' s_.1 s_.2.1 l0) ∧ (RE w' s_.2.2.1 s_.2.2.2.1 l1) ∧ (RI w' s_.2.2.2.2.1 s_.2.2.2.2.2.1 l2) ∧ (RI w' s_.2.2.2.2.2.2.1 s_.2.2.2.2.2.2.2.1 l3) ∧ (RI w' s_.2.2.2.2.2.2.2.2.1 s_.2.2.2.2.2.2.2.2.2.1 l4) ∧ (RI w' s_.2.2.2.2.2.2.2.2.2.2.1 s_.2.2.2.2.2.2.2.2.2.2.2.1 l5) ∧ (Bk w' s_.2.2.2.2.2.2.2.2.2.2.2.2 27 nl nl)) ?_ ?_
   rotate_left
   ·intro J3_1
    refine join_ (σ := Option Addr × Nat × Option Addr × Nat × Option Addr × Nat × Option Addr × Nat × Option Addr × Nat × Option Addr × Nat) 7 #[true, true, true, true, true, true, false, false, false, false, false, false, false] (fun s_ => [(49, .agg #[.slice s_.1 l0.length s_.2.1, .slice s_.2.2.1 l1.length s_.2.2.2.1]), (51, .agg #[.slice s_.2.2.2.2.1 l2.length s_.2.2.2.2.2.1, .slice s_.2.2.2.2.2.2.1 l3.length s_.2.2.2.2.2.2.2.1]), (53, .agg #[.slice s_.2.2.2.2.2.2.2.2.1 l4.length s_.2.2.2.2.2.2.2.2.2.1, .slice s_.2.2.2.2.2.2.2.2.2.2.1 l5.length s_.2.2.2.2.2.2.2.2.2.2.2])]) (fun s_ w' => (C2 w' g (.slice A0 l0.length c0) (.slice A1 l1.length c1) ∧ C2 w' p (.slice A2 l2.length c2) (.slice A3 l3.length c3) ∧ C2 w' q (.slice A4 l4.length c4) (.slice A5 l5.length c5)) ∧ (w'.heap[g]? = some (.cells #[.slice A0 l0.length c0, .slice A1 l1.length c1] 25 (0, 0))) ∧ (Below w.heap.size w w') ∧ (w'.heap[p]? = some (.cells #[.slice A2 l2.length c2, .slice A3 l3.length c3] 27 (0, 0))) ∧ (w'.heap[q]? = some (.cells #[.slice A4 l4.length c4, .slice A5 l5.length c5] 27 (0, 0))) ∧ (RI w' A12 c12 a0) ∧ (RI w' A13 c13 a1) ∧ (w'.heap[x]? = some (.cells #[.slice A12 a0.length c12, .slice A13 a1.length c13] 27 (0, 0))) ∧ (Kd.R (Kd.int .i64) 3 w' 0 (fun _ => True) (.slice A14 a0.length c14) a0) ∧ (Kd.R (Kd.int .i64) 3 w' 0 (fun _ => True) (.slice A15 a1.length c15) a1) ∧ (w'.heap[y]? = some (.cells #[.slice A14 a0.length c14, .slice A15 a1.length c15] 27 (0, 0))) ∧ (RI w' s_.1 s_.2.1 l0) ∧ (RE w' s_.2.2.1 s_.2.2.2.1 l1) ∧ (RI w' s_.2.2.2.2.1 s_.2.2.2.2.2.1 l2) ∧ (RI w' s_.2.2.2.2.2.2.1 s_.2.2.2.2.2.2.2.1 l3) ∧ (RI w' s_.2.2.2.2.2.2.2.2.1 s_.2.2.2.2.2.2.2.2.2.1 l4) ∧ (RI w' s_.2.2.2.2.2.2.2.2.2.2.1 s_.2.2.2.2.2.2.2.2.2.2.2 l5)) ?_ ?_
    rotate_left
    ·intro J3_0
     refine join_ (σ := Option Addr × Nat × Option Addr × Nat × Option Addr × Nat × Option Addr × Nat × Nat) 7 #[true, true, true, true, true, false, false, false, false, false, true, false, false] (fun s_ => [(49, .agg #[.slice s_.1 l0.length s_.2.1, .slice s_.2.2.1 l1.length s_.2.2.2.1]), (51, .agg #[.slice s_.2.2.2.2.1 l2.length s_.2.2.2.2.2.1, .slice s_.2.2.2.2.2.2.1 l3.length s_.2.2.2.2.2.2.2.1]), (11, .pointer (some ⟨s_.2.2.2.2.2.2.2.2, 0, none⟩))]) (fun s_ w' => (C2 w' g (.slice A0 l0.length c0) (.slice A1 l1.length c1) ∧ C2 w' p (.slice A2 l2.length c2) (.slice A3 l3.length c3) ∧ C2 w' q (.slice A4 l4.length c4) (.slice A5 l5.length c5)) ∧ (y < s_.2.2.2.2.2.2.2.2) ∧ (w'.heap[g]? = some (.cells #[.slice A0 l0.length c0, .slice A1 l1.length c1] 25 (0, 0))) ∧ (Below w.heap.size w w') ∧ (w'.heap[p]? = some (.cells #[.slice A2 l2.length c2, .slice A3 l3.length c3] 27 (0, 0))) ∧ (w'.heap[q]? = some (.cells #[.slice A4 l4.length c4, .slice A5 l5.length c5] 27 (0, 0))) ∧ (RI w' A12 c12 a0) ∧ (RI w' A13 c13 a1) ∧ (w'.heap[x]? = some (.cells #[.slice A12 a0.length c12, .slice A13 a1.length c13] 27 (0, 0))) ∧ (Kd.R (Kd.int .i64) 3 w' 0 (fun _ => True) (.slice A14 a0.length c14) a0) ∧ (Kd.R (Kd.int .i64) 3 w' 0 (fun _ => True) (.slice A15 a1.length c15) a1) ∧ (w'.heap[y]? = some (.cells #[.slice A14 a0.length c14, .slice A15 a1.length c15] 27 (0, 0))) ∧ (RI w' s_.1 s_.2.1 l0) ∧ (RE w' s_.2.2.1 s_.2.2.2.1 l1) ∧ (RI w' s_.2.2.2.2.1 s_.2.2.2.2.2.1 l2) ∧ (RI w' s_.2.2.2.2.2.2.1 s_.2.2.2.2.2.2.2.1 l3) ∧ (Bk w' s_.2.2.2.2.2.2.2.2 27 nl nl)) ?_ ?_
     rotate_left
     ·intro J2_1
      refine join_ (σ := Option Addr × Nat × Option Addr × Nat × Option Addr × Nat × Option Addr × Nat) 8 #[true, true, true, true, true, false, false, false, false, false, false, false, false] (fun s_ => [(49, .agg #[.slice s_.1 l0.length s_.2.1, .slice s_.2.2.1 l1.length s_.2.2.2.1]), (51, .agg #[.slice s_.2.2.2.2.1 l2.length s_.2.2.2.2.2.1, .slice s_.2.2.2.2.2.2.1 l3.length s_.2.2.2.2.2.2.2])]) (fun s_ w' => (C2 w' g (.slice A0 l0.length c0) (.slice A1 l1.length c1) ∧ C2 w' p (.slice A2 l2.length c2) (.slice A3 l3.length c3) ∧ C2 w' q (.slice A4 l4.length c4) (.slice A5 l5.length c5)) ∧ (w'.heap[g]? = some (.cells #[.slice A0 l0.length c0, .slice A1 l1.length c1] 25 (0, 0))) ∧ (Below w.heap.size w w') ∧ (w'.heap[p]? = some (.cells #[.slice A2 l2.length c2, .slice A3 l3.length c3] 27 (0, 0))) ∧ (w'.heap[q]? = some (.cells #[.slice A4 l4.length c4, .slice A5 l5.length c5] 27 (0, 0))) ∧ (RI w' A12 c12 a0) ∧ (RI w' A13 c13 a1) ∧ (w'.heap[x]? = some (.cells #[.slice A12 a0.length c12, .slice A13 a1.length c13] 27 (0, 0))) ∧ (Kd.R (Kd.int .i64) 3 w' 0 (fun _ => True) (.slice A14 a0.length c14) a0) ∧ (Kd.R (Kd.int .i64) 3 w' 0 (fun _ => True) (.slice A15 a1.length c15) a1) ∧ (w'.heap[y]? = some (.cells #[.slice A14 a0.length c14, .slice A15 a1.length c15] 27 (0, 0))) ∧ (RI w' s_.1 s_.2.1 l0) ∧ (RE w' s_.2.2.1 s_.2.2.2.1 l1) ∧ (RI w' s_.2.2.2.2.1 s_.2.2.2.2.2.1 l2) ∧ (RI w' s_.2.2.2.2.2.2.1 s_.2.2.2.2.2.2.2 l3)) ?_ ?_
      rotate_left
      ·intro J2_0
       refine join_ (σ := Option Addr × Nat × Option Addr × Nat × Nat) 8 #[true, true, true, false, true, false, false, false, false, false, true, false, false] (fun s_ => [(49, .agg #[.slice s_.1 l0.length s_.2.1, .slice s_.2.2.1 l1.length s_.2.2.2.1]), (11, .pointer (some ⟨s_.2.2.2.2, 0, none⟩))]) (fun s_ w' => (C2 w' g (.slice A0 l0.length c0) (.slice A1 l1.length c1) ∧ C2 w' p (.slice A2 l2.length c2) (.slice A3 l3.length c3) ∧ C2 w' q (.slice A4 l4.length c4) (.slice A5 l5.length c5)) ∧ (y < s_.2.2.2.2) ∧ (w'.heap[g]? = some (.cells #[.slice A0 l0.length c0, .slice A1 l1.length c1] 25 (0, 0))) ∧ (Below w.heap.size w w') ∧ (w'.heap[p]? = some (.cells #[.slice A2 l2.length c2, .slice A3 l3.length c3] 27 (0, 0))) ∧ (w'.heap[q]? = some (.cells #[.slice A4 l4.length c4, .slice A5 l5.length c5] 27 (0, 0))) ∧ (RI w' A12 c12 a0) ∧ (RI w' A13 c13 a1) ∧ (w'.heap[x]? = some (.cells #[.slice A12 a0.length c12, .slice A13 a1.length c13] 27 (0, 0))) ∧ (Kd.R (Kd.int .i64) 3 w' 0 (fun _ => True) (.slice A14 a0.length c14) a0) ∧ (Kd.R (Kd.int .i64) 3 w' 0 (fun _ => True) (.slice A15 a1.length c15) a1) ∧ (w'.heap[y]? = some (.cells #[.slice A14 a0.length c14, .slice A15 a1.length c15] 27 (0, 0))) ∧ (RI w' s_.1 s_.2.1 l0) ∧ (RE w' s_.2.2.1 s_.2.2.2.1 l1) ∧ (Bk w' s_.2.2.2.2 27 nl nl)) ?_ ?_
       rotate_left
       ·intro J1_1
        refine join_ (σ := Option Addr × Nat × Option Addr × Nat) 9 #[true, true, true, false, true, false, false, false, false, false, false, false, false] (fun s_ => [(49, .agg #[.slice s_.1 l0.length s_.2.1, .slice s_.2.2.1 l1.length s_.2.2.2])]) (fun s_ w' => (C2 w' g (.slice A0 l0.length c0) (.slice A1 l1.length c1) ∧ C2 w' p (.slice A2 l2.length c2) (.slice A3 l3.length c3) ∧ C2 w' q (.slice A4 l4.length c4) (.slice A5 l5.length c5)) ∧ (w'.heap[g]? = some (.cells #[.slice A0 l0.length c0, .slice A1 l1.length c1] 25 (0, 0))) ∧ (Below w.heap.size w w') ∧ (w'.heap[p]? = some (.cells #[.slice A2 l2.length c2, .slice A3 l3.length c3] 27 (0, 0))) ∧ (w'.heap[q]? = some (.cells #[.slice A4 l4.length c4, .slice A5 l5.length c5] 27 (0, 0))) ∧ (RI w' A12 c12 a0) ∧ (RI w' A13 c13 a1) ∧ (w'.heap[x]? = some (.cells #[.slice A12 a0.length c12, .slice A13 a1.length c13] 27 (0, 0))) ∧ (Kd.R (Kd.int .i64) 3 w' 0 (fun _ => True) (.slice A14 a0.length c14) a0) ∧ (Kd.R (Kd.int .i64) 3 w' 0 (fun _ => True) (.slice A15 a1.length c15) a1) ∧ (w'.heap[y]? = some (.cells #[.slice A14 a0.length c14, .slice A15 a1.length c15] 27 (0, 0))) ∧ (RI w' s_.1 s_.2.1 l0) ∧ (RE w' s_.2.2.1 s_.2.2.2 l1)) ?_ ?_
        rotate_left
        ·intro J1_0
         refine join_ (σ := Nat) 9 #[true, false, true, false, true, false, false, false, false, false, true, false, false] (fun s_ => [(11, .pointer (some ⟨s_, 0, none⟩))]) (fun s_ w' => (C2 w' g (.slice A0 l0.length c0) (.slice A1 l1.length c1) ∧ C2 w' p (.slice A2 l2.length c2) (.slice A3 l3.length c3) ∧ C2 w' q (.slice A4 l4.length c4) (.slice A5 l5.length c5)) ∧ (y < s_) ∧ (w'.heap[g]? = some (.cells #[.slice A0 l0.length c0, .slice A1 l1.length c1] 25 (0, 0))) ∧ (Below w.heap.size w w') ∧ (w'.heap[p]? = some (.cells #[.slice A2 l2.length c2, .slice A3 l3.length c3] 27 (0, 0))) ∧ (w'.heap[q]? = some (.cells #[.slice A4 l4.length c4, .slice A5 l5.length c5] 27 (0, 0))) ∧ (RI w' A12 c12 a0) ∧ (RI w' A13 c13 a1) ∧ (w'.heap[x]? = some (.cells #[.slice A12 a0.length c12, .slice A13 a1.length c13] 27 (0, 0))) ∧ (Kd.R (Kd.int .i64) 3 w' 0 (fun _ => True) (.slice A14 a0.length c14) a0) ∧ (Kd.R (Kd.int .i64) 3 w' 0 (fun _ => True) (.slice A15 a1.length c15) a1) ∧ (w'.heap[y]? = some (.cells #[.slice A14 a0.length c14, .slice A15 a1.length c15] 27 (0, 0))) ∧ (Bk w' s_ 27 nl nl)) ?_ ?_
         rotate_left
         ·intro J0_1
          refine two_ (i := 1) (j := 10) (Ni := some 49) (Nj := some 11) #[true, true, true, false, true, false, false, false, false, false, false, false, false] #[true, false, true, false, true, false, false, false, false, false, true, false, false] rfl rfl rfl rfl (by kernel_rfl) (by decide) (by decide) (fun K hK => ?_) (fun K hK => ?_)
          ·skip
           refine goes_ Try.func14 (by kernel_rfl) rfl #[.agg #[.slice A0 l0.length c0, .slice A1 l1.length c1]] (by rfl) rfl rfl (by (try simp only [List.map_toArray, List.map_cons, List.map_nil]); first | done | rfl) ?_
           with_reducible refine (scarfjointref05_Copied.calls A0 c0 l0 A1 c1 l1 l0 l1 _ (Kd.C_below R0.out BL.out) M0.out (Kd.C_below R1.out BL.out) M1.out hcp).mono ?_
           rintro e w_ ⟨v0, v1, rfl, ho0, ho1, hb⟩
           refine ⟨_, rfl, ?_⟩
           obtain ⟨A16, c16, rfl⟩ := Kd.R_slice ho0; obtain ⟨A17, c17, rfl⟩ := Kd.R_slice ho1; replace BG := Lib.hid (blk_below BG.out hb); replace BL := Lib.hid (below_then BL.out BL.out.size hb); replace BP := Lib.hid (blk_below BP.out hb); replace BQ := Lib.hid (blk_below BQ.out hb); replace R12 := Lib.hid (Kd.R_below R12.out hb); replace R13 := Lib.hid (Kd.R_below R13.out hb); replace BX := Lib.hid (blk_below BX.out hb); replace R14 := Lib.hid (Kd.R_below R14.out hb); replace R15 := Lib.hid (Kd.R_below R15.out hb); replace BY := Lib.hid (blk_below BY.out hb); have R16 := Lib.hid (toR ho0); have R17 := Lib.hid (toR ho1); clear ho0 ho1 hb
           refine hK.out _ _ ⟨cell2 BG.out, cell2 BP.out, cell2 BQ.out⟩ (fun hHeld => ?_)
           clear hK K
           refine norm_ (a' := ?_) ?_ ?_
           rotate_left
           ·show Act.put _ (some 49) _ = _
            simp only [Act.put, sI_, s0_, sS_, i64_w, i32_w]
            rfl
           exact norm_ (by first | (simp only [putAll, Act.put, sI_, s0_, sS_]; done) | (simp only [putAll, Act.put, sI_, s0_, sS_]; rfl)) (J1_0 (A16, c16, A17, c17) _ ⟨hHeld, BG.out, BL.out, BP.out, BQ.out, R12.out, R13.out, BX.out, R14.out, R15.out, BY.out, R16.out, R17.out⟩)
          ·skip
           refine box_step ?hg (N := 11) ?hd (cs := #[.slice none 0 0, .slice none 0 0]) (t := 27) ?hr ?_; (case hd => rfl); (case hg => rfl); (case hr => first | (go_simp; done) | (go_simp; rfl))
           intro z hg w_ hbox hb
           have Hz : y < z := by rw [hg]; exact blk_lt BY.out
           replace BG := Lib.hid (blk_below BG.out hb); replace BL := Lib.hid (below_then BL.out BL.out.size hb); replace BP := Lib.hid (blk_below BP.out hb); replace BQ := Lib.hid (blk_below BQ.out hb); replace R12 := Lib.hid (Kd.R_below R12.out hb); replace R13 := Lib.hid (Kd.R_below R13.out hb); replace BX := Lib.hid (blk_below BX.out hb); replace R14 := Lib.hid (Kd.R_below R14.out hb); replace R15 := Lib.hid (Kd.R_below R15.out hb); replace BY := Lib.hid (blk_below BY.out hb); have BZ := Lib.hid hbox; clear hg hbox hb
           refine hK.out _ _ ⟨cell2 BG.out, cell2 BP.out, cell2 BQ.out⟩ (fun hHeld => ?_)
           clear hK K
           refine norm_ (a' := ?_) ?_ ?_
           rotate_left
           ·show Act.put _ (some 11) _ = _
            simp only [Act.put, sI_, s0_, sS_, i64_w, i32_w]
            rfl
           exact norm_ (by first | (simp only [putAll, Act.put, sI_, s0_, sS_]; done) | (simp only [putAll, Act.put, sI_, s0_, sS_]; rfl)) (J0_1 z _ ⟨hHeld, Hz, BG.out, BL.out, BP.out, BQ.out, R12.out, R13.out, BX.out, R14.out, R15.out, BY.out, BZ.out⟩)
         rintro z w_ ⟨hHeld, Hz, qBG, qBL, qBP, qBQ, qR12, qR13, qBX, qR14, qR15, qBY, qBZ⟩; replace Hz : y < z := Hz
         replace BG : Hid (w_.heap[g]? = some (.cells #[.slice A0 l0.length c0, .slice A1 l1.length c1] 25 (0, 0))) := Lib.hid qBG; clear qBG
         replace BL : Hid (Below w.heap.size w w_) := Lib.hid qBL; clear qBL
         replace BP : Hid (w_.heap[p]? = some (.cells #[.slice A2 l2.length c2, .slice A3 l3.length c3] 27 (0, 0))) := Lib.hid qBP; clear qBP
         replace BQ : Hid (w_.heap[q]? = some (.cells #[.slice A4 l4.length c4, .slice A5 l5.length c5] 27 (0, 0))) := Lib.hid qBQ; clear qBQ
         replace R12 : Hid (RI w_ A12 c12 a0) := Lib.hid qR12; clear qR12
         replace R13 : Hid (RI w_ A13 c13 a1) := Lib.hid qR13; clear qR13
         replace BX : Hid (w_.heap[x]? = some (.cells #[.slice A12 a0.length c12, .slice A13 a1.length c13] 27 (0, 0))) := Lib.hid qBX; clear qBX
         replace R14 : Hid (Kd.R (Kd.int .i64) 3 w_ 0 (fun _ => True) (.slice A14 a0.length c14) a0) := Lib.hid qR14; clear qR14
         replace R15 : Hid (Kd.R (Kd.int .i64) 3 w_ 0 (fun _ => True) (.slice A15 a1.length c15) a1) := Lib.hid qR15; clear qR15
         replace BY : Hid (w_.heap[y]? = some (.cells #[.slice A14 a0.length c14, .slice A15 a1.length c15] 27 (0, 0))) := Lib.hid qBY; clear qBY
         have BZ : Hid (Bk w_ z 27 nl nl) := Lib.hid qBZ; clear qBZ
         refine norm_ (a' := ?_) ?_ ?_
         rotate_left
         ·simp only [putAll, Act.put, sI_, s0_, sS_]
          rfl
         refine one_ (i := 1) (N := some 49) #[true, true, true, false, true, false, false, false, false, false, true, false, false] rfl rfl (by kernel_rfl) (by decide) (fun K hK => ?_)
         refine goes_ Try.func14 (by kernel_rfl) rfl #[.agg #[.slice A0 l0.length c0, .slice A1 l1.length c1]] (by rfl) rfl rfl (by (try simp only [List.map_toArray, List.map_cons, List.map_nil]); first | done | rfl) ?_
         with_reducible refine (scarfjointref05_Copied.calls A0 c0 l0 A1 c1 l1 l0 l1 _ (Kd.C_below R0.out BL.out) M0.out (Kd.C_below R1.out BL.out) M1.out hcp).mono ?_
         rintro e w_ ⟨v0, v1, rfl, ho0, ho1, hb⟩
         refine ⟨_, rfl, ?_⟩
         obtain ⟨A16, c16, rfl⟩ := Kd.R_slice ho0; obtain ⟨A17, c17, rfl⟩ := Kd.R_slice ho1; replace BG := Lib.hid (blk_below BG.out hb); replace BL := Lib.hid (below_then BL.out BL.out.size hb); replace BP := Lib.hid (blk_below BP.out hb); replace BQ := Lib.hid (blk_below BQ.out hb); replace R12 := Lib.hid (Kd.R_below R12.out hb); replace R13 := Lib.hid (Kd.R_below R13.out hb); replace BX := Lib.hid (blk_below BX.out hb); replace R14 := Lib.hid (Kd.R_below R14.out hb); replace R15 := Lib.hid (Kd.R_below R15.out hb); replace BY := Lib.hid (blk_below BY.out hb); replace BZ := Lib.hid (blk_below BZ.out hb); have R16 := Lib.hid (toR ho0); have R17 := Lib.hid (toR ho1); clear ho0 ho1 hb
         refine hK.out _ _ ⟨cell2 BG.out, cell2 BP.out, cell2 BQ.out⟩ (fun hHeld => ?_)
         clear hK K
         refine norm_ (a' := ?_) ?_ ?_
         rotate_left
         ·show Act.put _ (some 49) _ = _
          simp only [Act.put, sI_, s0_, sS_, i64_w, i32_w]
          rfl
         exact norm_ (by first | (simp only [putAll, Act.put, sI_, s0_, sS_]; done) | (simp only [putAll, Act.put, sI_, s0_, sS_]; rfl)) (J1_1 (A16, c16, A17, c17, z) _ ⟨hHeld, Hz, BG.out, BL.out, BP.out, BQ.out, R12.out, R13.out, BX.out, R14.out, R15.out, BY.out, R16.out, R17.out, BZ.out⟩)
        rintro ⟨A16, c16, A17, c17⟩ w_ ⟨hHeld, qBG, qBL, qBP, qBQ, qR12, qR13, qBX, qR14, qR15, qBY, qR16, qR17⟩
        replace BG : Hid (w_.heap[g]? = some (.cells #[.slice A0 l0.length c0, .slice A1 l1.length c1] 25 (0, 0))) := Lib.hid qBG; clear qBG
        replace BL : Hid (Below w.heap.size w w_) := Lib.hid qBL; clear qBL
        replace BP : Hid (w_.heap[p]? = some (.cells #[.slice A2 l2.length c2, .slice A3 l3.length c3] 27 (0, 0))) := Lib.hid qBP; clear qBP
        replace BQ : Hid (w_.heap[q]? = some (.cells #[.slice A4 l4.length c4, .slice A5 l5.length c5] 27 (0, 0))) := Lib.hid qBQ; clear qBQ
        replace R12 : Hid (RI w_ A12 c12 a0) := Lib.hid qR12; clear qR12
        replace R13 : Hid (RI w_ A13 c13 a1) := Lib.hid qR13; clear qR13
        replace BX : Hid (w_.heap[x]? = some (.cells #[.slice A12 a0.length c12, .slice A13 a1.length c13] 27 (0, 0))) := Lib.hid qBX; clear qBX
        replace R14 : Hid (Kd.R (Kd.int .i64) 3 w_ 0 (fun _ => True) (.slice A14 a0.length c14) a0) := Lib.hid qR14; clear qR14
        replace R15 : Hid (Kd.R (Kd.int .i64) 3 w_ 0 (fun _ => True) (.slice A15 a1.length c15) a1) := Lib.hid qR15; clear qR15
        replace BY : Hid (w_.heap[y]? = some (.cells #[.slice A14 a0.length c14, .slice A15 a1.length c15] 27 (0, 0))) := Lib.hid qBY; clear qBY
        have R16 : Hid (RI w_ A16 c16 l0) := Lib.hid qR16; clear qR16
        have R17 : Hid (RE w_ A17 c17 l1) := Lib.hid qR17; clear qR17
        refine norm_ (a' := ?_) ?_ ?_
        rotate_left
        ·simp only [putAll, Act.put, sI_, s0_, sS_]
         rfl
        refine two_ (i := 3) (j := 10) (Ni := some 51) (Nj := some 11) #[true, true, true, true, true, false, false, false, false, false, false, false, false] #[true, true, true, false, true, false, false, false, false, false, true, false, false] rfl rfl rfl rfl (by kernel_rfl) (by decide) (by decide) (fun K hK => ?_) (fun K hK => ?_)
        ·skip
         refine goes_ Try.func30 (by kernel_rfl) rfl #[.agg #[.slice A2 l2.length c2, .slice A3 l3.length c3]] (by rfl) rfl rfl (by (try simp only [List.map_toArray, List.map_cons, List.map_nil]); first | done | rfl) ?_
         with_reducible refine (scarfjointlaw07_own.calls A2 c2 l2 A3 c3 l3 l2 l3 _ (Kd.C_below R2.out BL.out) M2.out (Kd.C_below R3.out BL.out) M3.out hown).mono ?_
         rintro e w_ ⟨v0, v1, rfl, ho0, ho1, hb⟩
         refine ⟨_, rfl, ?_⟩
         obtain ⟨A18, c18, rfl⟩ := Kd.R_slice ho0; obtain ⟨A19, c19, rfl⟩ := Kd.R_slice ho1; replace BG := Lib.hid (blk_below BG.out hb); replace BL := Lib.hid (below_then BL.out BL.out.size hb); replace BP := Lib.hid (blk_below BP.out hb); replace BQ := Lib.hid (blk_below BQ.out hb); replace R12 := Lib.hid (Kd.R_below R12.out hb); replace R13 := Lib.hid (Kd.R_below R13.out hb); replace BX := Lib.hid (blk_below BX.out hb); replace R14 := Lib.hid (Kd.R_below R14.out hb); replace R15 := Lib.hid (Kd.R_below R15.out hb); replace BY := Lib.hid (blk_below BY.out hb); replace R16 := Lib.hid (Kd.R_below R16.out hb); replace R17 := Lib.hid (Kd.R_below R17.out hb); have R18 := Lib.hid (toR ho0); have R19 := Lib.hid (toR ho1); clear ho0 ho1 hb
         refine hK.out _ _ ⟨cell2 BG.out, cell2 BP.out, cell2 BQ.out⟩ (fun hHeld => ?_)
         clear hK K
         refine norm_ (a' := ?_) ?_ ?_
         rotate_left
         ·show Act.put _ (some 51) _ = _
          simp only [Act.put, sI_, s0_, sS_, i64_w, i32_w]
          rfl
         exact norm_ (by first | (simp only [putAll, Act.put, sI_, s0_, sS_]; done) | (simp only [putAll, Act.put, sI_, s0_, sS_]; rfl)) (J2_0 (A16, c16, A17, c17, A18, c18, A19, c19) _ ⟨hHeld, BG.out, BL.out, BP.out, BQ.out, R12.out, R13.out, BX.out, R14.out, R15.out, BY.out, R16.out, R17.out, R18.out, R19.out⟩)
        ·skip
         refine box_step ?hg (N := 11) ?hd (cs := #[.slice none 0 0, .slice none 0 0]) (t := 27) ?hr ?_; (case hd => rfl); (case hg => rfl); (case hr => first | (go_simp; done) | (go_simp; rfl))
         intro z hg w_ hbox hb
         have Hz : y < z := by rw [hg]; exact blk_lt BY.out
         replace BG := Lib.hid (blk_below BG.out hb); replace BL := Lib.hid (below_then BL.out BL.out.size hb); replace BP := Lib.hid (blk_below BP.out hb); replace BQ := Lib.hid (blk_below BQ.out hb); replace R12 := Lib.hid (Kd.R_below R12.out hb); replace R13 := Lib.hid (Kd.R_below R13.out hb); replace BX := Lib.hid (blk_below BX.out hb); replace R14 := Lib.hid (Kd.R_below R14.out hb); replace R15 := Lib.hid (Kd.R_below R15.out hb); replace BY := Lib.hid (blk_below BY.out hb); replace R16 := Lib.hid (Kd.R_below R16.out hb); replace R17 := Lib.hid (Kd.R_below R17.out hb); have BZ := Lib.hid hbox; clear hg hbox hb
         refine hK.out _ _ ⟨cell2 BG.out, cell2 BP.out, cell2 BQ.out⟩ (fun hHeld => ?_)
         clear hK K
         refine norm_ (a' := ?_) ?_ ?_
         rotate_left
         ·show Act.put _ (some 11) _ = _
          simp only [Act.put, sI_, s0_, sS_, i64_w, i32_w]
          rfl
         exact norm_ (by first | (simp only [putAll, Act.put, sI_, s0_, sS_]; done) | (simp only [putAll, Act.put, sI_, s0_, sS_]; rfl)) (J1_1 (A16, c16, A17, c17, z) _ ⟨hHeld, Hz, BG.out, BL.out, BP.out, BQ.out, R12.out, R13.out, BX.out, R14.out, R15.out, BY.out, R16.out, R17.out, BZ.out⟩)
       rintro ⟨A16, c16, A17, c17, z⟩ w_ ⟨hHeld, Hz, qBG, qBL, qBP, qBQ, qR12, qR13, qBX, qR14, qR15, qBY, qR16, qR17, qBZ⟩; replace Hz : y < z := Hz
       replace BG : Hid (w_.heap[g]? = some (.cells #[.slice A0 l0.length c0, .slice A1 l1.length c1] 25 (0, 0))) := Lib.hid qBG; clear qBG
       replace BL : Hid (Below w.heap.size w w_) := Lib.hid qBL; clear qBL
       replace BP : Hid (w_.heap[p]? = some (.cells #[.slice A2 l2.length c2, .slice A3 l3.length c3] 27 (0, 0))) := Lib.hid qBP; clear qBP
       replace BQ : Hid (w_.heap[q]? = some (.cells #[.slice A4 l4.length c4, .slice A5 l5.length c5] 27 (0, 0))) := Lib.hid qBQ; clear qBQ
       replace R12 : Hid (RI w_ A12 c12 a0) := Lib.hid qR12; clear qR12
       replace R13 : Hid (RI w_ A13 c13 a1) := Lib.hid qR13; clear qR13
       replace BX : Hid (w_.heap[x]? = some (.cells #[.slice A12 a0.length c12, .slice A13 a1.length c13] 27 (0, 0))) := Lib.hid qBX; clear qBX
       replace R14 : Hid (Kd.R (Kd.int .i64) 3 w_ 0 (fun _ => True) (.slice A14 a0.length c14) a0) := Lib.hid qR14; clear qR14
       replace R15 : Hid (Kd.R (Kd.int .i64) 3 w_ 0 (fun _ => True) (.slice A15 a1.length c15) a1) := Lib.hid qR15; clear qR15
       replace BY : Hid (w_.heap[y]? = some (.cells #[.slice A14 a0.length c14, .slice A15 a1.length c15] 27 (0, 0))) := Lib.hid qBY; clear qBY
       have R16 : Hid (RI w_ A16 c16 l0) := Lib.hid qR16; clear qR16
       have R17 : Hid (RE w_ A17 c17 l1) := Lib.hid qR17; clear qR17
       have BZ : Hid (Bk w_ z 27 nl nl) := Lib.hid qBZ; clear qBZ
       refine norm_ (a' := ?_) ?_ ?_
       rotate_left
       ·simp only [putAll, Act.put, sI_, s0_, sS_]
        rfl
       refine one_ (i := 3) (N := some 51) #[true, true, true, true, true, false, false, false, false, false, true, false, false] rfl rfl (by kernel_rfl) (by decide) (fun K hK => ?_)
       refine goes_ Try.func30 (by kernel_rfl) rfl #[.agg #[.slice A2 l2.length c2, .slice A3 l3.length c3]] (by rfl) rfl rfl (by (try simp only [List.map_toArray, List.map_cons, List.map_nil]); first | done | rfl) ?_
       with_reducible refine (scarfjointlaw07_own.calls A2 c2 l2 A3 c3 l3 l2 l3 _ (Kd.C_below R2.out BL.out) M2.out (Kd.C_below R3.out BL.out) M3.out hown).mono ?_
       rintro e w_ ⟨v0, v1, rfl, ho0, ho1, hb⟩
       refine ⟨_, rfl, ?_⟩
       obtain ⟨A18, c18, rfl⟩ := Kd.R_slice ho0; obtain ⟨A19, c19, rfl⟩ := Kd.R_slice ho1; replace BG := Lib.hid (blk_below BG.out hb); replace BL := Lib.hid (below_then BL.out BL.out.size hb); replace BP := Lib.hid (blk_below BP.out hb); replace BQ := Lib.hid (blk_below BQ.out hb); replace R12 := Lib.hid (Kd.R_below R12.out hb); replace R13 := Lib.hid (Kd.R_below R13.out hb); replace BX := Lib.hid (blk_below BX.out hb); replace R14 := Lib.hid (Kd.R_below R14.out hb); replace R15 := Lib.hid (Kd.R_below R15.out hb); replace BY := Lib.hid (blk_below BY.out hb); replace R16 := Lib.hid (Kd.R_below R16.out hb); replace R17 := Lib.hid (Kd.R_below R17.out hb); replace BZ := Lib.hid (blk_below BZ.out hb); have R18 := Lib.hid (toR ho0); have R19 := Lib.hid (toR ho1); clear ho0 ho1 hb
       refine hK.out _ _ ⟨cell2 BG.out, cell2 BP.out, cell2 BQ.out⟩ (fun hHeld => ?_)
       clear hK K
       refine norm_ (a' := ?_) ?_ ?_
       rotate_left
       ·show Act.put _ (some 51) _ = _
        simp only [Act.put, sI_, s0_, sS_, i64_w, i32_w]
        rfl
       exact norm_ (by first | (simp only [putAll, Act.put, sI_, s0_, sS_]; done) | (simp only [putAll, Act.put, sI_, s0_, sS_]; rfl)) (J2_1 (A16, c16, A17, c17, A18, c18, A19, c19, z) _ ⟨hHeld, Hz, BG.out, BL.out, BP.out, BQ.out, R12.out, R13.out, BX.out, R14.out, R15.out, BY.out, R16.out, R17.out, R18.out, R19.out, BZ.out⟩)
      rintro ⟨A16, c16, A17, c17, A18, c18, A19, c19⟩ w_ ⟨hHeld, qBG, qBL, qBP, qBQ, qR12, qR13, qBX, qR14, qR15, qBY, qR16, qR17, qR18, qR19⟩
      replace BG : Hid (w_.heap[g]? = some (.cells #[.slice A0 l0.length c0, .slice A1 l1.length c1] 25 (0, 0))) := Lib.hid qBG; clear qBG
      replace BL : Hid (Below w.heap.size w w_) := Lib.hid qBL; clear qBL
      replace BP : Hid (w_.heap[p]? = some (.cells #[.slice A2 l2.length c2, .slice A3 l3.length c3] 27 (0, 0))) := Lib.hid qBP; clear qBP
      replace BQ : Hid (w_.heap[q]? = some (.cells #[.slice A4 l4.length c4, .slice A5 l5.length c5] 27 (0, 0))) := Lib.hid qBQ; clear qBQ
      replace R12 : Hid (RI w_ A12 c12 a0) := Lib.hid qR12; clear qR12
      replace R13 : Hid (RI w_ A13 c13 a1) := Lib.hid qR13; clear qR13
      replace BX : Hid (w_.heap[x]? = some (.cells #[.slice A12 a0.length c12, .slice A13 a1.length c13] 27 (0, 0))) := Lib.hid qBX; clear qBX
      replace R14 : Hid (Kd.R (Kd.int .i64) 3 w_ 0 (fun _ => True) (.slice A14 a0.length c14) a0) := Lib.hid qR14; clear qR14
      replace R15 : Hid (Kd.R (Kd.int .i64) 3 w_ 0 (fun _ => True) (.slice A15 a1.length c15) a1) := Lib.hid qR15; clear qR15
      replace BY : Hid (w_.heap[y]? = some (.cells #[.slice A14 a0.length c14, .slice A15 a1.length c15] 27 (0, 0))) := Lib.hid qBY; clear qBY
      have R16 : Hid (RI w_ A16 c16 l0) := Lib.hid qR16; clear qR16
      have R17 : Hid (RE w_ A17 c17 l1) := Lib.hid qR17; clear qR17
      have R18 : Hid (RI w_ A18 c18 l2) := Lib.hid qR18; clear qR18
      have R19 : Hid (RI w_ A19 c19 l3) := Lib.hid qR19; clear qR19
      refine norm_ (a' := ?_) ?_ ?_
      rotate_left
      ·simp only [putAll, Act.put, sI_, s0_, sS_]
       rfl
      refine two_ (i := 5) (j := 10) (Ni := some 53) (Nj := some 11) #[true, true, true, true, true, true, false, false, false, false, false, false, false] #[true, true, true, true, true, false, false, false, false, false, true, false, false] rfl rfl rfl rfl (by kernel_rfl) (by decide) (by decide) (fun K hK => ?_) (fun K hK => ?_)
      ·skip
       refine goes_ Try.func30 (by kernel_rfl) rfl #[.agg #[.slice A4 l4.length c4, .slice A5 l5.length c5]] (by rfl) rfl rfl (by (try simp only [List.map_toArray, List.map_cons, List.map_nil]); first | done | rfl) ?_
       with_reducible refine (scarfjointlaw07_own.calls A4 c4 l4 A5 c5 l5 l4 l5 _ (Kd.C_below R4.out BL.out) M4.out (Kd.C_below R5.out BL.out) M5.out hownq).mono ?_
       rintro e w_ ⟨v0, v1, rfl, ho0, ho1, hb⟩
       refine ⟨_, rfl, ?_⟩
       obtain ⟨A20, c20, rfl⟩ := Kd.R_slice ho0; obtain ⟨A21, c21, rfl⟩ := Kd.R_slice ho1; replace BG := Lib.hid (blk_below BG.out hb); replace BL := Lib.hid (below_then BL.out BL.out.size hb); replace BP := Lib.hid (blk_below BP.out hb); replace BQ := Lib.hid (blk_below BQ.out hb); replace R12 := Lib.hid (Kd.R_below R12.out hb); replace R13 := Lib.hid (Kd.R_below R13.out hb); replace BX := Lib.hid (blk_below BX.out hb); replace R14 := Lib.hid (Kd.R_below R14.out hb); replace R15 := Lib.hid (Kd.R_below R15.out hb); replace BY := Lib.hid (blk_below BY.out hb); replace R16 := Lib.hid (Kd.R_below R16.out hb); replace R17 := Lib.hid (Kd.R_below R17.out hb); replace R18 := Lib.hid (Kd.R_below R18.out hb); replace R19 := Lib.hid (Kd.R_below R19.out hb); have R20 := Lib.hid (toR ho0); have R21 := Lib.hid (toR ho1); clear ho0 ho1 hb
       refine hK.out _ _ ⟨cell2 BG.out, cell2 BP.out, cell2 BQ.out⟩ (fun hHeld => ?_)
       clear hK K
       refine norm_ (a' := ?_) ?_ ?_
       rotate_left
       ·show Act.put _ (some 53) _ = _
        simp only [Act.put, sI_, s0_, sS_, i64_w, i32_w]
        rfl
       exact norm_ (by first | (simp only [putAll, Act.put, sI_, s0_, sS_]; done) | (simp only [putAll, Act.put, sI_, s0_, sS_]; rfl)) (J3_0 (A16, c16, A17, c17, A18, c18, A19, c19, A20, c20, A21, c21) _ ⟨hHeld, BG.out, BL.out, BP.out, BQ.out, R12.out, R13.out, BX.out, R14.out, R15.out, BY.out, R16.out, R17.out, R18.out, R19.out, R20.out, R21.out⟩)
      ·skip
       refine box_step ?hg (N := 11) ?hd (cs := #[.slice none 0 0, .slice none 0 0]) (t := 27) ?hr ?_; (case hd => rfl); (case hg => rfl); (case hr => first | (go_simp; done) | (go_simp; rfl))
       intro z hg w_ hbox hb
       have Hz : y < z := by rw [hg]; exact blk_lt BY.out
       replace BG := Lib.hid (blk_below BG.out hb); replace BL := Lib.hid (below_then BL.out BL.out.size hb); replace BP := Lib.hid (blk_below BP.out hb); replace BQ := Lib.hid (blk_below BQ.out hb); replace R12 := Lib.hid (Kd.R_below R12.out hb); replace R13 := Lib.hid (Kd.R_below R13.out hb); replace BX := Lib.hid (blk_below BX.out hb); replace R14 := Lib.hid (Kd.R_below R14.out hb); replace R15 := Lib.hid (Kd.R_below R15.out hb); replace BY := Lib.hid (blk_below BY.out hb); replace R16 := Lib.hid (Kd.R_below R16.out hb); replace R17 := Lib.hid (Kd.R_below R17.out hb); replace R18 := Lib.hid (Kd.R_below R18.out hb); replace R19 := Lib.hid (Kd.R_below R19.out hb); have BZ := Lib.hid hbox; clear hg hbox hb
       refine hK.out _ _ ⟨cell2 BG.out, cell2 BP.out, cell2 BQ.out⟩ (fun hHeld => ?_)
       clear hK K
       refine norm_ (a' := ?_) ?_ ?_
       rotate_left
       ·show Act.put _ (some 11) _ = _
        simp only [Act.put, sI_, s0_, sS_, i64_w, i32_w]
        rfl
       exact norm_ (by first | (simp only [putAll, Act.put, sI_, s0_, sS_]; done) | (simp only [putAll, Act.put, sI_, s0_, sS_]; rfl)) (J2_1 (A16, c16, A17, c17, A18, c18, A19, c19, z) _ ⟨hHeld, Hz, BG.out, BL.out, BP.out, BQ.out, R12.out, R13.out, BX.out, R14.out, R15.out, BY.out, R16.out, R17.out, R18.out, R19.out, BZ.out⟩)
     rintro ⟨A16, c16, A17, c17, A18, c18, A19, c19, z⟩ w_ ⟨hHeld, Hz, qBG, qBL, qBP, qBQ, qR12, qR13, qBX, qR14, qR15, qBY, qR16, qR17, qR18, qR19, qBZ⟩; replace Hz : y < z := Hz
     replace BG : Hid (w_.heap[g]? = some (.cells #[.slice A0 l0.length c0, .slice A1 l1.length c1] 25 (0, 0))) := Lib.hid qBG; clear qBG
     replace BL : Hid (Below w.heap.size w w_) := Lib.hid qBL; clear qBL
     replace BP : Hid (w_.heap[p]? = some (.cells #[.slice A2 l2.length c2, .slice A3 l3.length c3] 27 (0, 0))) := Lib.hid qBP; clear qBP
     replace BQ : Hid (w_.heap[q]? = some (.cells #[.slice A4 l4.length c4, .slice A5 l5.length c5] 27 (0, 0))) := Lib.hid qBQ; clear qBQ
     replace R12 : Hid (RI w_ A12 c12 a0) := Lib.hid qR12; clear qR12
     replace R13 : Hid (RI w_ A13 c13 a1) := Lib.hid qR13; clear qR13
     replace BX : Hid (w_.heap[x]? = some (.cells #[.slice A12 a0.length c12, .slice A13 a1.length c13] 27 (0, 0))) := Lib.hid qBX; clear qBX
     replace R14 : Hid (Kd.R (Kd.int .i64) 3 w_ 0 (fun _ => True) (.slice A14 a0.length c14) a0) := Lib.hid qR14; clear qR14
     replace R15 : Hid (Kd.R (Kd.int .i64) 3 w_ 0 (fun _ => True) (.slice A15 a1.length c15) a1) := Lib.hid qR15; clear qR15
     replace BY : Hid (w_.heap[y]? = some (.cells #[.slice A14 a0.length c14, .slice A15 a1.length c15] 27 (0, 0))) := Lib.hid qBY; clear qBY
     have R16 : Hid (RI w_ A16 c16 l0) := Lib.hid qR16; clear qR16
     have R17 : Hid (RE w_ A17 c17 l1) := Lib.hid qR17; clear qR17
     have R18 : Hid (RI w_ A18 c18 l2) := Lib.hid qR18; clear qR18
     have R19 : Hid (RI w_ A19 c19 l3) := Lib.hid qR19; clear qR19
     have BZ : Hid (Bk w_ z 27 nl nl) := Lib.hid qBZ; clear qBZ
     refine norm_ (a' := ?_) ?_ ?_
     rotate_left
     ·simp only [putAll, Act.put, sI_, s0_, sS_]
      rfl
     refine one_ (i := 5) (N := some 53) #[true, true, true, true, true, true, false, false, false, false, true, false, false] rfl rfl (by kernel_rfl) (by decide) (fun K hK => ?_)
     refine goes_ Try.func30 (by kernel_rfl) rfl #[.agg #[.slice A4 l4.length c4, .slice A5 l5.length c5]] (by rfl) rfl rfl (by (try simp only [List.map_toArray, List.map_cons, List.map_nil]); first | done | rfl) ?_
     with_reducible refine (scarfjointlaw07_own.calls A4 c4 l4 A5 c5 l5 l4 l5 _ (Kd.C_below R4.out BL.out) M4.out (Kd.C_below R5.out BL.out) M5.out hownq).mono ?_
     rintro e w_ ⟨v0, v1, rfl, ho0, ho1, hb⟩
     refine ⟨_, rfl, ?_⟩
     obtain ⟨A20, c20, rfl⟩ := Kd.R_slice ho0; obtain ⟨A21, c21, rfl⟩ := Kd.R_slice ho1; replace BG := Lib.hid (blk_below BG.out hb); replace BL := Lib.hid (below_then BL.out BL.out.size hb); replace BP := Lib.hid (blk_below BP.out hb); replace BQ := Lib.hid (blk_below BQ.out hb); replace R12 := Lib.hid (Kd.R_below R12.out hb); replace R13 := Lib.hid (Kd.R_below R13.out hb); replace BX := Lib.hid (blk_below BX.out hb); replace R14 := Lib.hid (Kd.R_below R14.out hb); replace R15 := Lib.hid (Kd.R_below R15.out hb); replace BY := Lib.hid (blk_below BY.out hb); replace R16 := Lib.hid (Kd.R_below R16.out hb); replace R17 := Lib.hid (Kd.R_below R17.out hb); replace R18 := Lib.hid (Kd.R_below R18.out hb); replace R19 := Lib.hid (Kd.R_below R19.out hb); replace BZ := Lib.hid (blk_below BZ.out hb); have R20 := Lib.hid (toR ho0); have R21 := Lib.hid (toR ho1); clear ho0 ho1 hb
     refine hK.out _ _ ⟨cell2 BG.out, cell2 BP.out, cell2 BQ.out⟩ (fun hHeld => ?_)
     clear hK K
     refine norm_ (a' := ?_) ?_ ?_
     rotate_left
     ·show Act.put _ (some 53) _ = _
      simp only [Act.put, sI_, s0_, sS_, i64_w, i32_w]
      rfl
     exact norm_ (by first | (simp only [putAll, Act.put, sI_, s0_, sS_]; done) | (simp only [putAll, Act.put, sI_, s0_, sS_]; rfl)) (J3_1 (A16, c16, A17, c17, A18, c18, A19, c19, A20, c20, A21, c21, z) _ ⟨hHeld, Hz, BG.out, BL.out, BP.out, BQ.out, R12.out, R13.out, BX.out, R14.out, R15.out, BY.out, R16.out, R17.out, R18.out, R19.out, R20.out, R21.out, BZ.out⟩)
    rintro ⟨A16, c16, A17, c17, A18, c18, A19, c19, A20, c20, A21, c21⟩ w_ ⟨hHeld, qBG, qBL, qBP, qBQ, qR12, qR13, qBX, qR14, qR15, qBY, qR16, qR17, qR18, qR19, qR20, qR21⟩
    replace BG : Hid (w_.heap[g]? = some (.cells #[.slice A0 l0.length c0, .slice A1 l1.length c1] 25 (0, 0))) := Lib.hid qBG; clear qBG
    replace BL : Hid (Below w.heap.size w w_) := Lib.hid qBL; clear qBL
    replace BP : Hid (w_.heap[p]? = some (.cells #[.slice A2 l2.length c2, .slice A3 l3.length c3] 27 (0, 0))) := Lib.hid qBP; clear qBP
    replace BQ : Hid (w_.heap[q]? = some (.cells #[.slice A4 l4.length c4, .slice A5 l5.length c5] 27 (0, 0))) := Lib.hid qBQ; clear qBQ
    replace R12 : Hid (RI w_ A12 c12 a0) := Lib.hid qR12; clear qR12
    replace R13 : Hid (RI w_ A13 c13 a1) := Lib.hid qR13; clear qR13
    replace BX : Hid (w_.heap[x]? = some (.cells #[.slice A12 a0.length c12, .slice A13 a1.length c13] 27 (0, 0))) := Lib.hid qBX; clear qBX
    replace R14 : Hid (Kd.R (Kd.int .i64) 3 w_ 0 (fun _ => True) (.slice A14 a0.length c14) a0) := Lib.hid qR14; clear qR14
    replace R15 : Hid (Kd.R (Kd.int .i64) 3 w_ 0 (fun _ => True) (.slice A15 a1.length c15) a1) := Lib.hid qR15; clear qR15
    replace BY : Hid (w_.heap[y]? = some (.cells #[.slice A14 a0.length c14, .slice A15 a1.length c15] 27 (0, 0))) := Lib.hid qBY; clear qBY
    have R16 : Hid (RI w_ A16 c16 l0) := Lib.hid qR16; clear qR16
    have R17 : Hid (RE w_ A17 c17 l1) := Lib.hid qR17; clear qR17
    have R18 : Hid (RI w_ A18 c18 l2) := Lib.hid qR18; clear qR18
    have R19 : Hid (RI w_ A19 c19 l3) := Lib.hid qR19; clear qR19
    have R20 : Hid (RI w_ A20 c20 l4) := Lib.hid qR20; clear qR20
    have R21 : Hid (RI w_ A21 c21 l5) := Lib.hid qR21; clear qR21
    refine norm_ (a' := ?_) ?_ ?_
    rotate_left
    ·simp only [putAll, Act.put, sI_, s0_, sS_]
     rfl
    refine two_ (i := 6) (j := 10) (Ni := some 54) (Nj := some 11) #[true, true, true, true, true, true, true, false, false, false, false, false, false] #[true, true, true, true, true, true, false, false, false, false, true, false, false] rfl rfl rfl rfl (by kernel_rfl) (by decide) (by decide) (fun K hK => ?_) (fun K hK => ?_)
    ·skip
     refine goes_ Try.func39 (by kernel_rfl) rfl #[.agg #[.slice A16 l0.length c16, .slice A17 l1.length c17], .agg #[.slice A18 l2.length c18, .slice A19 l3.length c19], .agg #[.slice A20 l4.length c20, .slice A21 l5.length c21]] (by rfl) rfl rfl (by (try simp only [List.map_toArray, List.map_cons, List.map_nil]); first | done | rfl) ?_
     with_reducible refine (subgraph_Meet.calls k A16 c16 l0 A17 c17 l1 A18 c18 l2 A19 c19 l3 A20 c20 l4 A21 c21 l5 d0 d1 er _ (Kd.R_reads' R16.out).2.2 (Kd.R_reads' R16.out).2.1 (Kd.R_reads' R17.out).2.2 (Kd.R_reads' R17.out).2.1 (Kd.R_reads' R18.out).2.2 (Kd.R_reads' R18.out).2.1 (Kd.R_reads' R19.out).2.2 (Kd.R_reads' R19.out).2.1 (Kd.R_reads' R20.out).2.2 (Kd.R_reads' R20.out).2.1 (Kd.R_reads' R21.out).2.2 (Kd.R_reads' R21.out).2.1 hm).mono ?_
     rintro e w_ ⟨v0, v1, rfl, ho0, ho1, hb⟩
     refine ⟨_, rfl, ?_⟩
     obtain ⟨A22, c22, rfl⟩ := Kd.R_slice ho0; obtain ⟨A23, c23, rfl⟩ := Kd.R_slice ho1; replace BG := Lib.hid (blk_below BG.out hb); replace BL := Lib.hid (below_then BL.out BL.out.size hb); replace BP := Lib.hid (blk_below BP.out hb); replace BQ := Lib.hid (blk_below BQ.out hb); replace R12 := Lib.hid (Kd.R_below R12.out hb); replace R13 := Lib.hid (Kd.R_below R13.out hb); replace BX := Lib.hid (blk_below BX.out hb); replace R14 := Lib.hid (Kd.R_below R14.out hb); replace R15 := Lib.hid (Kd.R_below R15.out hb); replace BY := Lib.hid (blk_below BY.out hb); replace R16 := Lib.hid (Kd.R_below R16.out hb); replace R17 := Lib.hid (Kd.R_below R17.out hb); replace R18 := Lib.hid (Kd.R_below R18.out hb); replace R19 := Lib.hid (Kd.R_below R19.out hb); replace R20 := Lib.hid (Kd.R_below R20.out hb); replace R21 := Lib.hid (Kd.R_below R21.out hb); have R22 := Lib.hid (toR ho0); have R23 := Lib.hid (toR ho1); clear ho0 ho1 hb
     refine hK.out _ _ ⟨cell2 BG.out, cell2 BP.out, cell2 BQ.out⟩ (fun hHeld => ?_)
     clear hK K
     refine norm_ (a' := ?_) ?_ ?_
     rotate_left
     ·show Act.put _ (some 54) _ = _
      simp only [Act.put, sI_, s0_, sS_, i64_w, i32_w]
      rfl
     refine pure_ (i := 7) (N := some 47) (v := ?_) (a' := ?_) #[true, true, true, true, true, true, true, true, false, false, false, false, false] rfl rfl (by kernel_rfl) (fun _ _ _ h => h) (Or.inl ⟨by rfl, ?_⟩) ?_ ?_
     rotate_left
     ·intro w'
      go_simp
      with_reducible rfl
     rotate_left
     ·simp only [Act.put, sI_, s0_, sS_, i64_w, i32_w]
      rfl
     refine pure_ (i := 8) (N := some 55) (v := ?_) (a' := ?_) #[true, true, true, true, true, true, true, true, true, false, false, false, false] rfl rfl (by kernel_rfl) (fun _ _ _ h => h) (Or.inl ⟨by rfl, ?_⟩) ?_ ?_
     rotate_left
     ·intro w'
      go_simp
      with_reducible rfl
     rotate_left
     ·simp only [Act.put, sI_, s0_, sS_, i64_w, i32_w]
      rfl
     refine pure_ (i := 9) (N := some 56) (v := ?_) (a' := ?_) #[true, true, true, true, true, true, true, true, true, true, false, false, false] rfl rfl (by kernel_rfl) (fun _ _ _ h => h) (Or.inl ⟨by rfl, ?_⟩) ?_ ?_
     rotate_left
     ·intro w'
      go_simp
      with_reducible rfl
     rotate_left
     ·simp only [Act.put, sI_, s0_, sS_, i64_w, i32_w]
      rfl
     exact norm_ (by first | (simp only [putAll, Act.put, sI_, s0_, sS_]; done) | (simp only [putAll, Act.put, sI_, s0_, sS_]; rfl)) (J4_0 (A16, c16, A17, c17, A18, c18, A19, c19, A20, c20, A21, c21, A22, c22, A23, c23) _ ⟨hHeld, BG.out, BL.out, BP.out, BQ.out, R12.out, R13.out, BX.out, R14.out, R15.out, BY.out, R22.out, R23.out⟩)
    ·skip
     refine box_step ?hg (N := 11) ?hd (cs := #[.slice none 0 0, .slice none 0 0]) (t := 27) ?hr ?_; (case hd => rfl); (case hg => rfl); (case hr => first | (go_simp; done) | (go_simp; rfl))
     intro z hg w_ hbox hb
     have Hz : y < z := by rw [hg]; exact blk_lt BY.out
     replace BG := Lib.hid (blk_below BG.out hb); replace BL := Lib.hid (below_then BL.out BL.out.size hb); replace BP := Lib.hid (blk_below BP.out hb); replace BQ := Lib.hid (blk_below BQ.out hb); replace R12 := Lib.hid (Kd.R_below R12.out hb); replace R13 := Lib.hid (Kd.R_below R13.out hb); replace BX := Lib.hid (blk_below BX.out hb); replace R14 := Lib.hid (Kd.R_below R14.out hb); replace R15 := Lib.hid (Kd.R_below R15.out hb); replace BY := Lib.hid (blk_below BY.out hb); replace R16 := Lib.hid (Kd.R_below R16.out hb); replace R17 := Lib.hid (Kd.R_below R17.out hb); replace R18 := Lib.hid (Kd.R_below R18.out hb); replace R19 := Lib.hid (Kd.R_below R19.out hb); replace R20 := Lib.hid (Kd.R_below R20.out hb); replace R21 := Lib.hid (Kd.R_below R21.out hb); have BZ := Lib.hid hbox; clear hg hbox hb
     refine hK.out _ _ ⟨cell2 BG.out, cell2 BP.out, cell2 BQ.out⟩ (fun hHeld => ?_)
     clear hK K
     refine norm_ (a' := ?_) ?_ ?_
     rotate_left
     ·show Act.put _ (some 11) _ = _
      simp only [Act.put, sI_, s0_, sS_, i64_w, i32_w]
      rfl
     exact norm_ (by first | (simp only [putAll, Act.put, sI_, s0_, sS_]; done) | (simp only [putAll, Act.put, sI_, s0_, sS_]; rfl)) (J3_1 (A16, c16, A17, c17, A18, c18, A19, c19, A20, c20, A21, c21, z) _ ⟨hHeld, Hz, BG.out, BL.out, BP.out, BQ.out, R12.out, R13.out, BX.out, R14.out, R15.out, BY.out, R16.out, R17.out, R18.out, R19.out, R20.out, R21.out, BZ.out⟩)
   rintro ⟨A16, c16, A17, c17, A18, c18, A19, c19, A20, c20, A21, c21, z⟩ w_ ⟨hHeld, Hz, qBG, qBL, qBP, qBQ, qR12, qR13, qBX, qR14, qR15, qBY, qR16, qR17, qR18, qR19, qR20, qR21, qBZ⟩; replace Hz : y < z := Hz
   replace BG : Hid (w_.heap[g]? = some (.cells #[.slice A0 l0.length c0, .slice A1 l1.length c1] 25 (0, 0))) := Lib.hid qBG; clear qBG
   replace BL : Hid (Below w.heap.size w w_) := Lib.hid qBL; clear qBL
   replace BP : Hid (w_.heap[p]? = some (.cells #[.slice A2 l2.length c2, .slice A3 l3.length c3] 27 (0, 0))) := Lib.hid qBP; clear qBP
   replace BQ : Hid (w_.heap[q]? = some (.cells #[.slice A4 l4.length c4, .slice A5 l5.length c5] 27 (0, 0))) := Lib.hid qBQ; clear qBQ
   replace R12 : Hid (RI w_ A12 c12 a0) := Lib.hid qR12; clear qR12
   replace R13 : Hid (RI w_ A13 c13 a1) := Lib.hid qR13; clear qR13
   replace BX : Hid (w_.heap[x]? = some (.cells #[.slice A12 a0.length c12, .slice A13 a1.length c13] 27 (0, 0))) := Lib.hid qBX; clear qBX
   replace R14 : Hid (Kd.R (Kd.int .i64) 3 w_ 0 (fun _ => True) (.slice A14 a0.length c14) a0) := Lib.hid qR14; clear qR14
   replace R15 : Hid (Kd.R (Kd.int .i64) 3 w_ 0 (fun _ => True) (.slice A15 a1.length c15) a1) := Lib.hid qR15; clear qR15
   replace BY : Hid (w_.heap[y]? = some (.cells #[.slice A14 a0.length c14, .slice A15 a1.length c15] 27 (0, 0))) := Lib.hid qBY; clear qBY
   have R16 : Hid (RI w_ A16 c16 l0) := Lib.hid qR16; clear qR16
   have R17 : Hid (RE w_ A17 c17 l1) := Lib.hid qR17; clear qR17
   have R18 : Hid (RI w_ A18 c18 l2) := Lib.hid qR18; clear qR18
   have R19 : Hid (RI w_ A19 c19 l3) := Lib.hid qR19; clear qR19
   have R20 : Hid (RI w_ A20 c20 l4) := Lib.hid qR20; clear qR20
   have R21 : Hid (RI w_ A21 c21 l5) := Lib.hid qR21; clear qR21
   have BZ : Hid (Bk w_ z 27 nl nl) := Lib.hid qBZ; clear qBZ
   refine norm_ (a' := ?_) ?_ ?_
   rotate_left
   ·simp only [putAll, Act.put, sI_, s0_, sS_]
    rfl
   refine one_ (i := 6) (N := some 54) #[true, true, true, true, true, true, true, false, false, false, true, false, false] rfl rfl (by kernel_rfl) (by decide) (fun K hK => ?_)
   refine goes_ Try.func39 (by kernel_rfl) rfl #[.agg #[.slice A16 l0.length c16, .slice A17 l1.length c17], .agg #[.slice A18 l2.length c18, .slice A19 l3.length c19], .agg #[.slice A20 l4.length c20, .slice A21 l5.length c21]] (by rfl) rfl rfl (by (try simp only [List.map_toArray, List.map_cons, List.map_nil]); first | done | rfl) ?_
   with_reducible refine (subgraph_Meet.calls k A16 c16 l0 A17 c17 l1 A18 c18 l2 A19 c19 l3 A20 c20 l4 A21 c21 l5 d0 d1 er _ (Kd.R_reads' R16.out).2.2 (Kd.R_reads' R16.out).2.1 (Kd.R_reads' R17.out).2.2 (Kd.R_reads' R17.out).2.1 (Kd.R_reads' R18.out).2.2 (Kd.R_reads' R18.out).2.1 (Kd.R_reads' R19.out).2.2 (Kd.R_reads' R19.out).2.1 (Kd.R_reads' R20.out).2.2 (Kd.R_reads' R20.out).2.1 (Kd.R_reads' R21.out).2.2 (Kd.R_reads' R21.out).2.1 hm).mono ?_
   rintro e w_ ⟨v0, v1, rfl, ho0, ho1, hb⟩
   refine ⟨_, rfl, ?_⟩
   obtain ⟨A22, c22, rfl⟩ := Kd.R_slice ho0; obtain ⟨A23, c23, rfl⟩ := Kd.R_slice ho1; replace BG := Lib.hid (blk_below BG.out hb); replace BL := Lib.hid (below_then BL.out BL.out.size hb); replace BP := Lib.hid (blk_below BP.out hb); replace BQ := Lib.hid (blk_below BQ.out hb); replace R12 := Lib.hid (Kd.R_below R12.out hb); replace R13 := Lib.hid (Kd.R_below R13.out hb); replace BX := Lib.hid (blk_below BX.out hb); replace R14 := Lib.hid (Kd.R_below R14.out hb); replace R15 := Lib.hid (Kd.R_below R15.out hb); replace BY := Lib.hid (blk_below BY.out hb); replace R16 := Lib.hid (Kd.R_below R16.out hb); replace R17 := Lib.hid (Kd.R_below R17.out hb); replace R18 := Lib.hid (Kd.R_below R18.out hb); replace R19 := Lib.hid (Kd.R_below R19.out hb); replace R20 := Lib.hid (Kd.R_below R20.out hb); replace R21 := Lib.hid (Kd.R_below R21.out hb); replace BZ := Lib.hid (blk_below BZ.out hb); have R22 := Lib.hid (toR ho0); have R23 := Lib.hid (toR ho1); clear ho0 ho1 hb
   refine hK.out _ _ ⟨cell2 BG.out, cell2 BP.out, cell2 BQ.out⟩ (fun hHeld => ?_)
   clear hK K
   refine norm_ (a' := ?_) ?_ ?_
   rotate_left
   ·show Act.put _ (some 54) _ = _
    simp only [Act.put, sI_, s0_, sS_, i64_w, i32_w]
    rfl
   refine pure_ (i := 7) (N := some 47) (v := ?_) (a' := ?_) #[true, true, true, true, true, true, true, true, false, false, true, false, false] rfl rfl (by kernel_rfl) (fun _ _ _ h => h) (Or.inl ⟨by rfl, ?_⟩) ?_ ?_
   rotate_left
   ·intro w'
    go_simp
    with_reducible rfl
   rotate_left
   ·simp only [Act.put, sI_, s0_, sS_, i64_w, i32_w]
    rfl
   refine pure_ (i := 8) (N := some 55) (v := ?_) (a' := ?_) #[true, true, true, true, true, true, true, true, true, false, true, false, false] rfl rfl (by kernel_rfl) (fun _ _ _ h => h) (Or.inl ⟨by rfl, ?_⟩) ?_ ?_
   rotate_left
   ·intro w'
    go_simp
    with_reducible rfl
   rotate_left
   ·simp only [Act.put, sI_, s0_, sS_, i64_w, i32_w]
    rfl
   refine pure_ (i := 9) (N := some 56) (v := ?_) (a' := ?_) #[true, true, true, true, true, true, true, true, true, true, true, false, false] rfl rfl (by kernel_rfl) (fun _ _ _ h => h) (Or.inl ⟨by rfl, ?_⟩) ?_ ?_
   rotate_left
   ·intro w'
    go_simp
    with_reducible rfl
   rotate_left
   ·simp only [Act.put, sI_, s0_, sS_, i64_w, i32_w]
    rfl
   exact norm_ (by first | (simp only [putAll, Act.put, sI_, s0_, sS_]; done) | (simp only [putAll, Act.put, sI_, s0_, sS_]; rfl)) (J4_1 (A16, c16, A17, c17, A18, c18, A19, c19, A20, c20, A21, c21, A22, c22, A23, c23, z) _ ⟨hHeld, Hz, BG.out, BL.out, BP.out, BQ.out, R12.out, R13.out, BX.out, R14.out, R15.out, BY.out, R22.out, R23.out, BZ.out⟩)
  rintro ⟨A16, c16, A17, c17, A18, c18, A19, c19, A20, c20, A21, c21, A22, c22, A23, c23⟩ w_ ⟨hHeld, qBG, qBL, qBP, qBQ, qR12, qR13, qBX, qR14, qR15, qBY, qR22, qR23⟩
  replace BG : Hid (w_.heap[g]? = some (.cells #[.slice A0 l0.length c0, .slice A1 l1.length c1] 25 (0, 0))) := Lib.hid qBG; clear qBG
  replace BL : Hid (Below w.heap.size w w_) := Lib.hid qBL; clear qBL
  replace BP : Hid (w_.heap[p]? = some (.cells #[.slice A2 l2.length c2, .slice A3 l3.length c3] 27 (0, 0))) := Lib.hid qBP; clear qBP
  replace BQ : Hid (w_.heap[q]? = some (.cells #[.slice A4 l4.length c4, .slice A5 l5.length c5] 27 (0, 0))) := Lib.hid qBQ; clear qBQ
  replace R12 : Hid (RI w_ A12 c12 a0) := Lib.hid qR12; clear qR12
  replace R13 : Hid (RI w_ A13 c13 a1) := Lib.hid qR13; clear qR13
  replace BX : Hid (w_.heap[x]? = some (.cells #[.slice A12 a0.length c12, .slice A13 a1.length c13] 27 (0, 0))) := Lib.hid qBX; clear qBX
  replace R14 : Hid (Kd.R (Kd.int .i64) 3 w_ 0 (fun _ => True) (.slice A14 a0.length c14) a0) := Lib.hid qR14; clear qR14
  replace R15 : Hid (Kd.R (Kd.int .i64) 3 w_ 0 (fun _ => True) (.slice A15 a1.length c15) a1) := Lib.hid qR15; clear qR15
  replace BY : Hid (w_.heap[y]? = some (.cells #[.slice A14 a0.length c14, .slice A15 a1.length c15] 27 (0, 0))) := Lib.hid qBY; clear qBY
  have R22 : Hid (RI w_ A22 c22 d0) := Lib.hid qR22; clear qR22
  have R23 : Hid (RI w_ A23 c23 d1) := Lib.hid qR23; clear qR23
  refine norm_ (a' := ?_) ?_ ?_
  rotate_left
  ·simp only [putAll, Act.put, sI_, s0_, sS_]
   rfl
  refine one_ (i := 10) (N := some 11) #[true, true, true, true, true, true, true, true, true, true, true, false, false] rfl rfl (by kernel_rfl) (by decide) (fun K hK => ?_)
  refine box_step ?hg (N := 11) ?hd (cs := #[.slice none 0 0, .slice none 0 0]) (t := 27) ?hr ?_; (case hd => rfl); (case hg => rfl); (case hr => first | (go_simp; done) | (go_simp; rfl))
  intro z hg w_ hbox hb
  have Hz : y < z := by rw [hg]; exact blk_lt BY.out
  replace BG := Lib.hid (blk_below BG.out hb); replace BL := Lib.hid (below_then BL.out BL.out.size hb); replace BP := Lib.hid (blk_below BP.out hb); replace BQ := Lib.hid (blk_below BQ.out hb); replace R12 := Lib.hid (Kd.R_below R12.out hb); replace R13 := Lib.hid (Kd.R_below R13.out hb); replace BX := Lib.hid (blk_below BX.out hb); replace R14 := Lib.hid (Kd.R_below R14.out hb); replace R15 := Lib.hid (Kd.R_below R15.out hb); replace BY := Lib.hid (blk_below BY.out hb); replace R22 := Lib.hid (Kd.R_below R22.out hb); replace R23 := Lib.hid (Kd.R_below R23.out hb); have BZ := Lib.hid hbox; clear hg hbox hb
  refine hK.out _ _ ⟨cell2 BG.out, cell2 BP.out, cell2 BQ.out⟩ (fun hHeld => ?_)
  clear hK K
  refine norm_ (a' := ?_) ?_ ?_
  rotate_left
  ·show Act.put _ (some 11) _ = _
   simp only [Act.put, sI_, s0_, sS_, i64_w, i32_w]
   rfl
  exact norm_ (by first | (simp only [putAll, Act.put, sI_, s0_, sS_]; done) | (simp only [putAll, Act.put, sI_, s0_, sS_]; rfl)) (J4_1 (A16, c16, A17, c17, A18, c18, A19, c19, A20, c20, A21, c21, A22, c22, A23, c23, z) _ ⟨hHeld, Hz, BG.out, BL.out, BP.out, BQ.out, R12.out, R13.out, BX.out, R14.out, R15.out, BY.out, R22.out, R23.out, BZ.out⟩)
 rintro ⟨A16, c16, A17, c17, A18, c18, A19, c19, A20, c20, A21, c21, A22, c22, A23, c23, z⟩ w_ ⟨hHeld, Hz, qBG, qBL, qBP, qBQ, qR12, qR13, qBX, qR14, qR15, qBY, qR22, qR23, qBZ⟩; replace Hz : y < z := Hz
 replace BG : Hid (w_.heap[g]? = some (.cells #[.slice A0 l0.length c0, .slice A1 l1.length c1] 25 (0, 0))) := Lib.hid qBG; clear qBG
 replace BL : Hid (Below w.heap.size w w_) := Lib.hid qBL; clear qBL
 replace BP : Hid (w_.heap[p]? = some (.cells #[.slice A2 l2.length c2, .slice A3 l3.length c3] 27 (0, 0))) := Lib.hid qBP; clear qBP
 replace BQ : Hid (w_.heap[q]? = some (.cells #[.slice A4 l4.length c4, .slice A5 l5.length c5] 27 (0, 0))) := Lib.hid qBQ; clear qBQ
 replace R12 : Hid (RI w_ A12 c12 a0) := Lib.hid qR12; clear qR12
 replace R13 : Hid (RI w_ A13 c13 a1) := Lib.hid qR13; clear qR13
 replace BX : Hid (w_.heap[x]? = some (.cells #[.slice A12 a0.length c12, .slice A13 a1.length c13] 27 (0, 0))) := Lib.hid qBX; clear qBX
 replace R14 : Hid (Kd.R (Kd.int .i64) 3 w_ 0 (fun _ => True) (.slice A14 a0.length c14) a0) := Lib.hid qR14; clear qR14
 replace R15 : Hid (Kd.R (Kd.int .i64) 3 w_ 0 (fun _ => True) (.slice A15 a1.length c15) a1) := Lib.hid qR15; clear qR15
 replace BY : Hid (w_.heap[y]? = some (.cells #[.slice A14 a0.length c14, .slice A15 a1.length c15] 27 (0, 0))) := Lib.hid qBY; clear qBY
 have R22 : Hid (RI w_ A22 c22 d0) := Lib.hid qR22; clear qR22
 have R23 : Hid (RI w_ A23 c23 d1) := Lib.hid qR23; clear qR23
 have BZ : Hid (Bk w_ z 27 nl nl) := Lib.hid qBZ; clear qBZ
 refine norm_ (a' := ?_) ?_ ?_
 rotate_left
 ·simp only [putAll, Act.put, sI_, s0_, sS_]
  rfl
 refine one_ (i := 11) (N := none) #[true, true, true, true, true, true, true, true, true, true, true, true, false] rfl rfl (by kernel_rfl) (by decide) (fun K hK => ?_)
 obtain ⟨y0_, y1_⟩ := cell2 BZ.out; have f0_ := blk_frozen BZ.out 0; have f1_ := blk_frozen BZ.out 1
 refine skip_ (w1 := ?_) (by rfl) rfl ?_ ?_
 rotate_left
 ·go_simp
  rfl
 clear y0_ y1_ f0_ f1_; replace BG := Lib.hid (blk_far BG.out (p := ⟨z, 0, none⟩) (by show g ≠ z; omega) (.slice A22 d0.length c22)); replace BL := Lib.hid (below_set (g := z) (j := 0) (v := .slice A22 d0.length c22) BL.out (by omega)); replace BP := Lib.hid (blk_far BP.out (p := ⟨z, 0, none⟩) (by show p ≠ z; omega) (.slice A22 d0.length c22)); replace BQ := Lib.hid (blk_far BQ.out (p := ⟨z, 0, none⟩) (by show q ≠ z; omega) (.slice A22 d0.length c22)); replace R12 := Lib.hid (Kd.R_set R12.out BZ.out int_ne27 0 (.slice A22 d0.length c22)); replace R13 := Lib.hid (Kd.R_set R13.out BZ.out int_ne27 0 (.slice A22 d0.length c22)); replace BX := Lib.hid (blk_far BX.out (p := ⟨z, 0, none⟩) (by show x ≠ z; omega) (.slice A22 d0.length c22)); replace R14 := Lib.hid (Kd.R_set R14.out BZ.out int_ne27 0 (.slice A22 d0.length c22)); replace R15 := Lib.hid (Kd.R_set R15.out BZ.out int_ne27 0 (.slice A22 d0.length c22)); replace BY := Lib.hid (blk_far BY.out (p := ⟨z, 0, none⟩) (by show y ≠ z; omega) (.slice A22 d0.length c22)); replace R22 := Lib.hid (Kd.R_set R22.out BZ.out int_ne27 0 (.slice A22 d0.length c22)); replace R23 := Lib.hid (Kd.R_set R23.out BZ.out int_ne27 0 (.slice A22 d0.length c22)); replace BZ := Lib.hid (blk_put (cs' := #[.slice A22 d0.length c22, .slice none 0 0]) BZ.out 0 (.slice A22 d0.length c22) rfl); replace BG := Lib.hid (blk_far BG.out (p := ⟨z, 1, none⟩) (by show g ≠ z; omega) (.slice A23 d1.length c23)); replace BL := Lib.hid (below_set (g := z) (j := 1) (v := .slice A23 d1.length c23) BL.out (by omega)); replace BP := Lib.hid (blk_far BP.out (p := ⟨z, 1, none⟩) (by show p ≠ z; omega) (.slice A23 d1.length c23)); replace BQ := Lib.hid (blk_far BQ.out (p := ⟨z, 1, none⟩) (by show q ≠ z; omega) (.slice A23 d1.length c23)); replace R12 := Lib.hid (Kd.R_set R12.out BZ.out int_ne27 1 (.slice A23 d1.length c23)); replace R13 := Lib.hid (Kd.R_set R13.out BZ.out int_ne27 1 (.slice A23 d1.length c23)); replace BX := Lib.hid (blk_far BX.out (p := ⟨z, 1, none⟩) (by show x ≠ z; omega) (.slice A23 d1.length c23)); replace R14 := Lib.hid (Kd.R_set R14.out BZ.out int_ne27 1 (.slice A23 d1.length c23)); replace R15 := Lib.hid (Kd.R_set R15.out BZ.out int_ne27 1 (.slice A23 d1.length c23)); replace BY := Lib.hid (blk_far BY.out (p := ⟨z, 1, none⟩) (by show y ≠ z; omega) (.slice A23 d1.length c23)); replace R22 := Lib.hid (Kd.R_set R22.out BZ.out int_ne27 1 (.slice A23 d1.length c23)); replace R23 := Lib.hid (Kd.R_set R23.out BZ.out int_ne27 1 (.slice A23 d1.length c23)); replace BZ := Lib.hid (blk_put (cs' := #[.slice A22 d0.length c22, .slice A23 d1.length c23]) BZ.out 1 (.slice A23 d1.length c23) rfl)
 refine hK.out _ _ ⟨cell2 BG.out, cell2 BP.out, cell2 BQ.out⟩ (fun hHeld => ?_)
 clear hK K
 refine pure_ (i := 12) (N := some 12) (v := ?_) (a' := ?_) #[true, true, true, true, true, true, true, true, true, true, true, true, true] rfl rfl (by kernel_rfl) (fun _ _ _ h => h) (Or.inl ⟨by rfl, ?_⟩) ?_ ?_
 rotate_left
 ·intro w'
  go_simp
  with_reducible rfl
 rotate_left
 ·simp only [Act.put, sI_, s0_, sS_, i64_w, i32_w]
  rfl
 refine done_ (by kernel_rfl) ?_
 obtain ⟨zBG_0, zBG_1⟩ := cell2 BG.out; obtain ⟨zBP_0, zBP_1⟩ := cell2 BP.out; obtain ⟨zBQ_0, zBQ_1⟩ := cell2 BQ.out; obtain ⟨zBX_0, zBX_1⟩ := cell2 BX.out; obtain ⟨zBZ_0, zBZ_1⟩ := cell2 BZ.out
 go_upto_region 7 with (first
  | (go_at_call 23; with_reducible refine (scarfjointref07_Meet.calls k A0 c0 l0 A1 c1 l1 A2 c2 l2 A3 c3 l3 A4 c4 l4 A5 c5 l5 d0 d1 er _ (Kd.C_below R0.out BL.out) M0.out (Kd.C_below R1.out BL.out) M1.out (Kd.C_below R2.out BL.out) M2.out (Kd.C_below R3.out BL.out) M3.out (Kd.C_below R4.out BL.out) M4.out (Kd.C_below R5.out BL.out) M5.out h23).mono ?_; rintro e w_ ⟨v0, v1, rfl, ho0, ho1, hb⟩; clear zBG_0 zBG_1 zBP_0 zBP_1 zBQ_0 zBQ_1 zBX_0 zBX_1 zBZ_0 zBZ_1; obtain ⟨A24, c24, rfl⟩ := Kd.R_slice ho0; obtain ⟨A25, c25, rfl⟩ := Kd.R_slice ho1; replace BG := Lib.hid (blk_below BG.out hb); replace BL := Lib.hid (below_then BL.out BL.out.size hb); replace BP := Lib.hid (blk_below BP.out hb); replace BQ := Lib.hid (blk_below BQ.out hb); replace R12 := Lib.hid (Kd.R_below R12.out hb); replace R13 := Lib.hid (Kd.R_below R13.out hb); replace BX := Lib.hid (blk_below BX.out hb); replace R14 := Lib.hid (Kd.R_below R14.out hb); replace R15 := Lib.hid (Kd.R_below R15.out hb); replace BY := Lib.hid (blk_below BY.out hb); replace R22 := Lib.hid (Kd.R_below R22.out hb); replace R23 := Lib.hid (Kd.R_below R23.out hb); replace BZ := Lib.hid (blk_below BZ.out hb); have R24 := Lib.hid (toR (ho0)); have R25 := Lib.hid (toR (ho1)); clear ho0 ho1 hb; obtain ⟨zBG_0, zBG_1⟩ := cell2 BG.out; obtain ⟨zBP_0, zBP_1⟩ := cell2 BP.out; obtain ⟨zBQ_0, zBQ_1⟩ := cell2 BQ.out; obtain ⟨zBX_0, zBX_1⟩ := cell2 BX.out; obtain ⟨zBZ_0, zBZ_1⟩ := cell2 BZ.out)
  | ((with_reducible refine gate_dst (N := 13) rfl ?_); (try (refine gate_guard (by rfl) ?_; dsimp only)); refine box_event ?hg (N := 13) ?hd (cs := #[.slice none 0 0, .slice none 0 0]) (t := 27) ?hr ?_; (case hd => rfl); (case hg => rfl); (case hr => first | (go_simp; done) | (go_simp; rfl)); intro t hg w_ hbox hb; clear zBG_0 zBG_1 zBP_0 zBP_1 zBQ_0 zBQ_1 zBX_0 zBX_1 zBZ_0 zBZ_1; have Ht : z < t := (hg ▸ blk_lt BZ.out); replace BG := Lib.hid (blk_below BG.out hb); replace BL := Lib.hid (below_then BL.out BL.out.size hb); replace BP := Lib.hid (blk_below BP.out hb); replace BQ := Lib.hid (blk_below BQ.out hb); replace R12 := Lib.hid (Kd.R_below R12.out hb); replace R13 := Lib.hid (Kd.R_below R13.out hb); replace BX := Lib.hid (blk_below BX.out hb); replace R14 := Lib.hid (Kd.R_below R14.out hb); replace R15 := Lib.hid (Kd.R_below R15.out hb); replace BY := Lib.hid (blk_below BY.out hb); replace R22 := Lib.hid (Kd.R_below R22.out hb); replace R23 := Lib.hid (Kd.R_below R23.out hb); replace BZ := Lib.hid (blk_below BZ.out hb); replace R24 := Lib.hid (Kd.R_below R24.out hb); replace R25 := Lib.hid (Kd.R_below R25.out hb); have BT := Lib.hid (hbox); clear hg hbox hb; obtain ⟨y0_, y1_⟩ := cell2 BT.out; have f0_ := blk_frozen BT.out 0; have f1_ := blk_frozen BT.out 1))
 clear y0_ y1_ f0_ f1_; replace BG := Lib.hid (blk_far BG.out (p := ⟨t, 0, none⟩) (by show g ≠ t; omega) (.slice A24 d0.length c24)); replace BL := Lib.hid (below_set (g := t) (j := 0) (v := .slice A24 d0.length c24) BL.out (by omega)); replace BP := Lib.hid (blk_far BP.out (p := ⟨t, 0, none⟩) (by show p ≠ t; omega) (.slice A24 d0.length c24)); replace BQ := Lib.hid (blk_far BQ.out (p := ⟨t, 0, none⟩) (by show q ≠ t; omega) (.slice A24 d0.length c24)); replace R12 := Lib.hid (Kd.R_set R12.out BT.out int_ne27 0 (.slice A24 d0.length c24)); replace R13 := Lib.hid (Kd.R_set R13.out BT.out int_ne27 0 (.slice A24 d0.length c24)); replace BX := Lib.hid (blk_far BX.out (p := ⟨t, 0, none⟩) (by show x ≠ t; omega) (.slice A24 d0.length c24)); replace R14 := Lib.hid (Kd.R_set R14.out BT.out int_ne27 0 (.slice A24 d0.length c24)); replace R15 := Lib.hid (Kd.R_set R15.out BT.out int_ne27 0 (.slice A24 d0.length c24)); replace BY := Lib.hid (blk_far BY.out (p := ⟨t, 0, none⟩) (by show y ≠ t; omega) (.slice A24 d0.length c24)); replace R22 := Lib.hid (Kd.R_set R22.out BT.out int_ne27 0 (.slice A24 d0.length c24)); replace R23 := Lib.hid (Kd.R_set R23.out BT.out int_ne27 0 (.slice A24 d0.length c24)); replace BZ := Lib.hid (blk_far BZ.out (p := ⟨t, 0, none⟩) (by show z ≠ t; omega) (.slice A24 d0.length c24)); replace R24 := Lib.hid (Kd.R_set R24.out BT.out int_ne27 0 (.slice A24 d0.length c24)); replace R25 := Lib.hid (Kd.R_set R25.out BT.out int_ne27 0 (.slice A24 d0.length c24)); replace BT := Lib.hid (blk_put (cs' := #[.slice A24 d0.length c24, .slice none 0 0]) BT.out 0 (.slice A24 d0.length c24) rfl); replace BG := Lib.hid (blk_far BG.out (p := ⟨t, 1, none⟩) (by show g ≠ t; omega) (.slice A25 d1.length c25)); replace BL := Lib.hid (below_set (g := t) (j := 1) (v := .slice A25 d1.length c25) BL.out (by omega)); replace BP := Lib.hid (blk_far BP.out (p := ⟨t, 1, none⟩) (by show p ≠ t; omega) (.slice A25 d1.length c25)); replace BQ := Lib.hid (blk_far BQ.out (p := ⟨t, 1, none⟩) (by show q ≠ t; omega) (.slice A25 d1.length c25)); replace R12 := Lib.hid (Kd.R_set R12.out BT.out int_ne27 1 (.slice A25 d1.length c25)); replace R13 := Lib.hid (Kd.R_set R13.out BT.out int_ne27 1 (.slice A25 d1.length c25)); replace BX := Lib.hid (blk_far BX.out (p := ⟨t, 1, none⟩) (by show x ≠ t; omega) (.slice A25 d1.length c25)); replace R14 := Lib.hid (Kd.R_set R14.out BT.out int_ne27 1 (.slice A25 d1.length c25)); replace R15 := Lib.hid (Kd.R_set R15.out BT.out int_ne27 1 (.slice A25 d1.length c25)); replace BY := Lib.hid (blk_far BY.out (p := ⟨t, 1, none⟩) (by show y ≠ t; omega) (.slice A25 d1.length c25)); replace R22 := Lib.hid (Kd.R_set R22.out BT.out int_ne27 1 (.slice A25 d1.length c25)); replace R23 := Lib.hid (Kd.R_set R23.out BT.out int_ne27 1 (.slice A25 d1.length c25)); replace BZ := Lib.hid (blk_far BZ.out (p := ⟨t, 1, none⟩) (by show z ≠ t; omega) (.slice A25 d1.length c25)); replace R24 := Lib.hid (Kd.R_set R24.out BT.out int_ne27 1 (.slice A25 d1.length c25)); replace R25 := Lib.hid (Kd.R_set R25.out BT.out int_ne27 1 (.slice A25 d1.length c25)); replace BT := Lib.hid (blk_put (cs' := #[.slice A24 d0.length c24, .slice A25 d1.length c25]) BT.out 1 (.slice A25 d1.length c25) rfl); obtain ⟨zBX_0, zBX_1⟩ := cell2 BX.out; obtain ⟨zBY_0, zBY_1⟩ := cell2 BY.out; obtain ⟨zBZ_0, zBZ_1⟩ := cell2 BZ.out; obtain ⟨zBT_0, zBT_1⟩ := cell2 BT.out
 by_cases he : er = 0
 ·subst he
  obtain ⟨hx, hyb, hy, hs3⟩ := h4 rfl
  go_upto_region 9 with (first
   | (go_at_call 17; with_reducible refine (scarfjointref07_Same.calls k A12 c12 a0 A13 c13 a1 A14 c14 a0 A15 c15 a1 true _ (Kd.R_reads' R12.out).2.2 (Kd.R_reads' R12.out).2.1 (Kd.R_reads' R13.out).2.2 (Kd.R_reads' R13.out).2.1 (Kd.R_reads' R14.out).2.2 (Kd.R_reads' R14.out).2.1 (Kd.R_reads' R15.out).2.2 (Kd.R_reads' R15.out).2.1 hs1).mono ?_; rintro e w_ ⟨rfl, hb⟩; clear zBX_0 zBX_1 zBY_0 zBY_1 zBZ_0 zBZ_1 zBT_0 zBT_1; replace BG := Lib.hid (blk_below BG.out hb); replace BL := Lib.hid (below_then BL.out BL.out.size hb); replace BP := Lib.hid (blk_below BP.out hb); replace BQ := Lib.hid (blk_below BQ.out hb); replace R12 := Lib.hid (Kd.R_below R12.out hb); replace R13 := Lib.hid (Kd.R_below R13.out hb); replace BX := Lib.hid (blk_below BX.out hb); replace R14 := Lib.hid (Kd.R_below R14.out hb); replace R15 := Lib.hid (Kd.R_below R15.out hb); replace BY := Lib.hid (blk_below BY.out hb); replace R22 := Lib.hid (Kd.R_below R22.out hb); replace R23 := Lib.hid (Kd.R_below R23.out hb); replace BZ := Lib.hid (blk_below BZ.out hb); replace R24 := Lib.hid (Kd.R_below R24.out hb); replace R25 := Lib.hid (Kd.R_below R25.out hb); replace BT := Lib.hid (blk_below BT.out hb); clear hb; obtain ⟨zBX_0, zBX_1⟩ := cell2 BX.out; obtain ⟨zBY_0, zBY_1⟩ := cell2 BY.out; obtain ⟨zBZ_0, zBZ_1⟩ := cell2 BZ.out; obtain ⟨zBT_0, zBT_1⟩ := cell2 BT.out)
   | (go_at_call 17; with_reducible refine (scarfjointref07_Same.calls k A22 c22 d0 A23 c23 d1 A24 c24 d0 A25 c25 d1 true _ (Kd.R_reads' R22.out).2.2 (Kd.R_reads' R22.out).2.1 (Kd.R_reads' R23.out).2.2 (Kd.R_reads' R23.out).2.1 (Kd.R_reads' R24.out).2.2 (Kd.R_reads' R24.out).2.1 (Kd.R_reads' R25.out).2.2 (Kd.R_reads' R25.out).2.1 hs2).mono ?_; rintro e w_ ⟨rfl, hb⟩; clear zBX_0 zBX_1 zBY_0 zBY_1 zBZ_0 zBZ_1 zBT_0 zBT_1; replace BG := Lib.hid (blk_below BG.out hb); replace BL := Lib.hid (below_then BL.out BL.out.size hb); replace BP := Lib.hid (blk_below BP.out hb); replace BQ := Lib.hid (blk_below BQ.out hb); replace R12 := Lib.hid (Kd.R_below R12.out hb); replace R13 := Lib.hid (Kd.R_below R13.out hb); replace BX := Lib.hid (blk_below BX.out hb); replace R14 := Lib.hid (Kd.R_below R14.out hb); replace R15 := Lib.hid (Kd.R_below R15.out hb); replace BY := Lib.hid (blk_below BY.out hb); replace R22 := Lib.hid (Kd.R_below R22.out hb); replace R23 := Lib.hid (Kd.R_below R23.out hb); replace BZ := Lib.hid (blk_below BZ.out hb); replace R24 := Lib.hid (Kd.R_below R24.out hb); replace R25 := Lib.hid (Kd.R_below R25.out hb); replace BT := Lib.hid (blk_below BT.out hb); clear hb; obtain ⟨zBX_0, zBX_1⟩ := cell2 BX.out; obtain ⟨zBY_0, zBY_1⟩ := cell2 BY.out; obtain ⟨zBZ_0, zBZ_1⟩ := cell2 BZ.out; obtain ⟨zBT_0, zBT_1⟩ := cell2 BT.out))
  clear zBX_0 zBX_1 zBY_0 zBY_1 zBZ_0 zBZ_1 zBT_0 zBT_1; obtain ⟨zBG_0, zBG_1⟩ := cell2 BG.out; obtain ⟨zBP_0, zBP_1⟩ := cell2 BP.out; obtain ⟨zBQ_0, zBQ_1⟩ := cell2 BQ.out; obtain ⟨zBX_0, zBX_1⟩ := cell2 BX.out; obtain ⟨zBZ_0, zBZ_1⟩ := cell2 BZ.out
  go_upto_region 10 with (first
   | (go_at_call 39; with_reducible refine (subgraph_Meet.calls k A0 c0 l0 A1 c1 l1 A2 c2 l2 A3 c3 l3 A12 c12 a0 A13 c13 a1 l2 l3 0 _ (Kd.C_below R0.out BL.out) M0.out (Kd.C_below R1.out BL.out) M1.out (Kd.C_below R2.out BL.out) M2.out (Kd.C_below R3.out BL.out) M3.out (Kd.R_reads' R12.out).2.2 (Kd.R_reads' R12.out).2.1 (Kd.R_reads' R13.out).2.2 (Kd.R_reads' R13.out).2.1 hx).mono ?_; rintro e w_ ⟨v0, v1, rfl, ho0, ho1, hb⟩; clear zBG_0 zBG_1 zBP_0 zBP_1 zBQ_0 zBQ_1 zBX_0 zBX_1 zBZ_0 zBZ_1; obtain ⟨A26, c26, rfl⟩ := Kd.R_slice ho0; obtain ⟨A27, c27, rfl⟩ := Kd.R_slice ho1; replace BG := Lib.hid (blk_below BG.out hb); replace BL := Lib.hid (below_then BL.out BL.out.size hb); replace BP := Lib.hid (blk_below BP.out hb); replace BQ := Lib.hid (blk_below BQ.out hb); replace R12 := Lib.hid (Kd.R_below R12.out hb); replace R13 := Lib.hid (Kd.R_below R13.out hb); replace BX := Lib.hid (blk_below BX.out hb); replace R14 := Lib.hid (Kd.R_below R14.out hb); replace R15 := Lib.hid (Kd.R_below R15.out hb); replace BY := Lib.hid (blk_below BY.out hb); replace R22 := Lib.hid (Kd.R_below R22.out hb); replace R23 := Lib.hid (Kd.R_below R23.out hb); replace BZ := Lib.hid (blk_below BZ.out hb); replace R24 := Lib.hid (Kd.R_below R24.out hb); replace R25 := Lib.hid (Kd.R_below R25.out hb); replace BT := Lib.hid (blk_below BT.out hb); have R26 := Lib.hid (toR (ho0)); have R27 := Lib.hid (toR (ho1)); clear ho0 ho1 hb; obtain ⟨zBG_0, zBG_1⟩ := cell2 BG.out; obtain ⟨zBP_0, zBP_1⟩ := cell2 BP.out; obtain ⟨zBQ_0, zBQ_1⟩ := cell2 BQ.out; obtain ⟨zBX_0, zBX_1⟩ := cell2 BX.out; obtain ⟨zBZ_0, zBZ_1⟩ := cell2 BZ.out)
   | ((with_reducible refine gate_dst (N := 15) rfl ?_); (try (refine gate_guard (by rfl) ?_; dsimp only)); refine box_event ?hg (N := 15) ?hd (cs := #[.slice none 0 0, .slice none 0 0]) (t := 27) ?hr ?_; (case hd => rfl); (case hg => rfl); (case hr => first | (go_simp; done) | (go_simp; rfl)); intro u hg w_ hbox hb; clear zBG_0 zBG_1 zBP_0 zBP_1 zBQ_0 zBQ_1 zBX_0 zBX_1 zBZ_0 zBZ_1; have Hu : t < u := (hg ▸ blk_lt BT.out); replace BG := Lib.hid (blk_below BG.out hb); replace BL := Lib.hid (below_then BL.out BL.out.size hb); replace BP := Lib.hid (blk_below BP.out hb); replace BQ := Lib.hid (blk_below BQ.out hb); replace R12 := Lib.hid (Kd.R_below R12.out hb); replace R13 := Lib.hid (Kd.R_below R13.out hb); replace BX := Lib.hid (blk_below BX.out hb); replace R14 := Lib.hid (Kd.R_below R14.out hb); replace R15 := Lib.hid (Kd.R_below R15.out hb); replace BY := Lib.hid (blk_below BY.out hb); replace R22 := Lib.hid (Kd.R_below R22.out hb); replace R23 := Lib.hid (Kd.R_below R23.out hb); replace BZ := Lib.hid (blk_below BZ.out hb); replace R24 := Lib.hid (Kd.R_below R24.out hb); replace R25 := Lib.hid (Kd.R_below R25.out hb); replace BT := Lib.hid (blk_below BT.out hb); replace R26 := Lib.hid (Kd.R_below R26.out hb); replace R27 := Lib.hid (Kd.R_below R27.out hb); have BU := Lib.hid (hbox); clear hg hbox hb; obtain ⟨y0_, y1_⟩ := cell2 BU.out; have f0_ := blk_frozen BU.out 0; have f1_ := blk_frozen BU.out 1))
  clear y0_ y1_ f0_ f1_; replace BG := Lib.hid (blk_far BG.out (p := ⟨u, 0, none⟩) (by show g ≠ u; omega) (.slice A26 l2.length c26)); replace BL := Lib.hid (below_set (g := u) (j := 0) (v := .slice A26 l2.length c26) BL.out (by omega)); replace BP := Lib.hid (blk_far BP.out (p := ⟨u, 0, none⟩) (by show p ≠ u; omega) (.slice A26 l2.length c26)); replace BQ := Lib.hid (blk_far BQ.out (p := ⟨u, 0, none⟩) (by show q ≠ u; omega) (.slice A26 l2.length c26)); replace R12 := Lib.hid (Kd.R_set R12.out BU.out int_ne27 0 (.slice A26 l2.length c26)); replace R13 := Lib.hid (Kd.R_set R13.out BU.out int_ne27 0 (.slice A26 l2.length c26)); replace BX := Lib.hid (blk_far BX.out (p := ⟨u, 0, none⟩) (by show x ≠ u; omega) (.slice A26 l2.length c26)); replace R14 := Lib.hid (Kd.R_set R14.out BU.out int_ne27 0 (.slice A26 l2.length c26)); replace R15 := Lib.hid (Kd.R_set R15.out BU.out int_ne27 0 (.slice A26 l2.length c26)); replace BY := Lib.hid (blk_far BY.out (p := ⟨u, 0, none⟩) (by show y ≠ u; omega) (.slice A26 l2.length c26)); replace R22 := Lib.hid (Kd.R_set R22.out BU.out int_ne27 0 (.slice A26 l2.length c26)); replace R23 := Lib.hid (Kd.R_set R23.out BU.out int_ne27 0 (.slice A26 l2.length c26)); replace BZ := Lib.hid (blk_far BZ.out (p := ⟨u, 0, none⟩) (by show z ≠ u; omega) (.slice A26 l2.length c26)); replace R24 := Lib.hid (Kd.R_set R24.out BU.out int_ne27 0 (.slice A26 l2.length c26)); replace R25 := Lib.hid (Kd.R_set R25.out BU.out int_ne27 0 (.slice A26 l2.length c26)); replace BT := Lib.hid (blk_far BT.out (p := ⟨u, 0, none⟩) (by show t ≠ u; omega) (.slice A26 l2.length c26)); replace R26 := Lib.hid (Kd.R_set R26.out BU.out int_ne27 0 (.slice A26 l2.length c26)); replace R27 := Lib.hid (Kd.R_set R27.out BU.out int_ne27 0 (.slice A26 l2.length c26)); replace BU := Lib.hid (blk_put (cs' := #[.slice A26 l2.length c26, .slice none 0 0]) BU.out 0 (.slice A26 l2.length c26) rfl); replace BG := Lib.hid (blk_far BG.out (p := ⟨u, 1, none⟩) (by show g ≠ u; omega) (.slice A27 l3.length c27)); replace BL := Lib.hid (below_set (g := u) (j := 1) (v := .slice A27 l3.length c27) BL.out (by omega)); replace BP := Lib.hid (blk_far BP.out (p := ⟨u, 1, none⟩) (by show p ≠ u; omega) (.slice A27 l3.length c27)); replace BQ := Lib.hid (blk_far BQ.out (p := ⟨u, 1, none⟩) (by show q ≠ u; omega) (.slice A27 l3.length c27)); replace R12 := Lib.hid (Kd.R_set R12.out BU.out int_ne27 1 (.slice A27 l3.length c27)); replace R13 := Lib.hid (Kd.R_set R13.out BU.out int_ne27 1 (.slice A27 l3.length c27)); replace BX := Lib.hid (blk_far BX.out (p := ⟨u, 1, none⟩) (by show x ≠ u; omega) (.slice A27 l3.length c27)); replace R14 := Lib.hid (Kd.R_set R14.out BU.out int_ne27 1 (.slice A27 l3.length c27)); replace R15 := Lib.hid (Kd.R_set R15.out BU.out int_ne27 1 (.slice A27 l3.length c27)); replace BY := Lib.hid (blk_far BY.out (p := ⟨u, 1, none⟩) (by show y ≠ u; omega) (.slice A27 l3.length c27)); replace R22 := Lib.hid (Kd.R_set R22.out BU.out int_ne27 1 (.slice A27 l3.length c27)); replace R23 := Lib.hid (Kd.R_set R23.out BU.out int_ne27 1 (.slice A27 l3.length c27)); replace BZ := Lib.hid (blk_far BZ.out (p := ⟨u, 1, none⟩) (by show z ≠ u; omega) (.slice A27 l3.length c27)); replace R24 := Lib.hid (Kd.R_set R24.out BU.out int_ne27 1 (.slice A27 l3.length c27)); replace R25 := Lib.hid (Kd.R_set R25.out BU.out int_ne27 1 (.slice A27 l3.length c27)); replace BT := Lib.hid (blk_far BT.out (p := ⟨u, 1, none⟩) (by show t ≠ u; omega) (.slice A27 l3.length c27)); replace R26 := Lib.hid (Kd.R_set R26.out BU.out int_ne27 1 (.slice A27 l3.length c27)); replace R27 := Lib.hid (Kd.R_set R27.out BU.out int_ne27 1 (.slice A27 l3.length c27)); replace BU := Lib.hid (blk_put (cs' := #[.slice A26 l2.length c26, .slice A27 l3.length c27]) BU.out 1 (.slice A27 l3.length c27) rfl); obtain ⟨zBG_0, zBG_1⟩ := cell2 BG.out; obtain ⟨zBP_0, zBP_1⟩ := cell2 BP.out; obtain ⟨zBQ_0, zBQ_1⟩ := cell2 BQ.out; obtain ⟨zBX_0, zBX_1⟩ := cell2 BX.out; obtain ⟨zBZ_0, zBZ_1⟩ := cell2 BZ.out
  go_upto_region 11 with (first
   | (go_at_call 37; with_reducible refine (subgraph_Join.calls k A0 c0 l0 A1 c1 l1 A2 c2 l2 A3 c3 l3 A22 c22 d0 A23 c23 d1 l2 l3 0 0 _ (Kd.C_below R0.out BL.out) M0.out (Kd.C_below R1.out BL.out) M1.out (Kd.C_below R2.out BL.out) M2.out (Kd.C_below R3.out BL.out) M3.out (Kd.R_reads' R22.out).2.2 (Kd.R_reads' R22.out).2.1 (Kd.R_reads' R23.out).2.2 (Kd.R_reads' R23.out).2.1 L2.out L3.out LD.out LE.out hyb hy).mono ?_; rintro e w_ ⟨A28, c28, A29, c29, rfl, ho0, ho1, hb⟩; clear zBG_0 zBG_1 zBP_0 zBP_1 zBQ_0 zBQ_1 zBX_0 zBX_1 zBZ_0 zBZ_1; replace BG := Lib.hid (blk_below BG.out hb); replace BL := Lib.hid (below_then BL.out BL.out.size hb); replace BP := Lib.hid (blk_below BP.out hb); replace BQ := Lib.hid (blk_below BQ.out hb); replace R12 := Lib.hid (Kd.R_below R12.out hb); replace R13 := Lib.hid (Kd.R_below R13.out hb); replace BX := Lib.hid (blk_below BX.out hb); replace R14 := Lib.hid (Kd.R_below R14.out hb); replace R15 := Lib.hid (Kd.R_below R15.out hb); replace BY := Lib.hid (blk_below BY.out hb); replace R22 := Lib.hid (Kd.R_below R22.out hb); replace R23 := Lib.hid (Kd.R_below R23.out hb); replace BZ := Lib.hid (blk_below BZ.out hb); replace R24 := Lib.hid (Kd.R_below R24.out hb); replace R25 := Lib.hid (Kd.R_below R25.out hb); replace BT := Lib.hid (blk_below BT.out hb); replace R26 := Lib.hid (Kd.R_below R26.out hb); replace R27 := Lib.hid (Kd.R_below R27.out hb); replace BU := Lib.hid (blk_below BU.out hb); have R28 := Lib.hid (toR (ho0)); have R29 := Lib.hid (toR (ho1)); clear ho0 ho1 hb; obtain ⟨zBG_0, zBG_1⟩ := cell2 BG.out; obtain ⟨zBP_0, zBP_1⟩ := cell2 BP.out; obtain ⟨zBQ_0, zBQ_1⟩ := cell2 BQ.out; obtain ⟨zBX_0, zBX_1⟩ := cell2 BX.out; obtain ⟨zBZ_0, zBZ_1⟩ := cell2 BZ.out)
   | ((with_reducible refine gate_dst (N := 17) rfl ?_); (try (refine gate_guard (by rfl) ?_; dsimp only)); refine box_event ?hg (N := 17) ?hd (cs := #[.slice none 0 0, .slice none 0 0]) (t := 27) ?hr ?_; (case hd => rfl); (case hg => rfl); (case hr => first | (go_simp; done) | (go_simp; rfl)); intro v hg w_ hbox hb; clear zBG_0 zBG_1 zBP_0 zBP_1 zBQ_0 zBQ_1 zBX_0 zBX_1 zBZ_0 zBZ_1; have Hv : u < v := (hg ▸ blk_lt BU.out); replace BG := Lib.hid (blk_below BG.out hb); replace BL := Lib.hid (below_then BL.out BL.out.size hb); replace BP := Lib.hid (blk_below BP.out hb); replace BQ := Lib.hid (blk_below BQ.out hb); replace R12 := Lib.hid (Kd.R_below R12.out hb); replace R13 := Lib.hid (Kd.R_below R13.out hb); replace BX := Lib.hid (blk_below BX.out hb); replace R14 := Lib.hid (Kd.R_below R14.out hb); replace R15 := Lib.hid (Kd.R_below R15.out hb); replace BY := Lib.hid (blk_below BY.out hb); replace R22 := Lib.hid (Kd.R_below R22.out hb); replace R23 := Lib.hid (Kd.R_below R23.out hb); replace BZ := Lib.hid (blk_below BZ.out hb); replace R24 := Lib.hid (Kd.R_below R24.out hb); replace R25 := Lib.hid (Kd.R_below R25.out hb); replace BT := Lib.hid (blk_below BT.out hb); replace R26 := Lib.hid (Kd.R_below R26.out hb); replace R27 := Lib.hid (Kd.R_below R27.out hb); replace BU := Lib.hid (blk_below BU.out hb); replace R28 := Lib.hid (Kd.R_below R28.out hb); replace R29 := Lib.hid (Kd.R_below R29.out hb); have BV := Lib.hid (hbox); clear hg hbox hb; obtain ⟨y0_, y1_⟩ := cell2 BV.out; have f0_ := blk_frozen BV.out 0; have f1_ := blk_frozen BV.out 1))
  clear y0_ y1_ f0_ f1_; replace BG := Lib.hid (blk_far BG.out (p := ⟨v, 0, none⟩) (by show g ≠ v; omega) (.slice A28 l2.length c28)); replace BL := Lib.hid (below_set (g := v) (j := 0) (v := .slice A28 l2.length c28) BL.out (by omega)); replace BP := Lib.hid (blk_far BP.out (p := ⟨v, 0, none⟩) (by show p ≠ v; omega) (.slice A28 l2.length c28)); replace BQ := Lib.hid (blk_far BQ.out (p := ⟨v, 0, none⟩) (by show q ≠ v; omega) (.slice A28 l2.length c28)); replace R12 := Lib.hid (Kd.R_set R12.out BV.out int_ne27 0 (.slice A28 l2.length c28)); replace R13 := Lib.hid (Kd.R_set R13.out BV.out int_ne27 0 (.slice A28 l2.length c28)); replace BX := Lib.hid (blk_far BX.out (p := ⟨v, 0, none⟩) (by show x ≠ v; omega) (.slice A28 l2.length c28)); replace R14 := Lib.hid (Kd.R_set R14.out BV.out int_ne27 0 (.slice A28 l2.length c28)); replace R15 := Lib.hid (Kd.R_set R15.out BV.out int_ne27 0 (.slice A28 l2.length c28)); replace BY := Lib.hid (blk_far BY.out (p := ⟨v, 0, none⟩) (by show y ≠ v; omega) (.slice A28 l2.length c28)); replace R22 := Lib.hid (Kd.R_set R22.out BV.out int_ne27 0 (.slice A28 l2.length c28)); replace R23 := Lib.hid (Kd.R_set R23.out BV.out int_ne27 0 (.slice A28 l2.length c28)); replace BZ := Lib.hid (blk_far BZ.out (p := ⟨v, 0, none⟩) (by show z ≠ v; omega) (.slice A28 l2.length c28)); replace R24 := Lib.hid (Kd.R_set R24.out BV.out int_ne27 0 (.slice A28 l2.length c28)); replace R25 := Lib.hid (Kd.R_set R25.out BV.out int_ne27 0 (.slice A28 l2.length c28)); replace BT := Lib.hid (blk_far BT.out (p := ⟨v, 0, none⟩) (by show t ≠ v; omega) (.slice A28 l2.length c28)); replace R26 := Lib.hid (Kd.R_set R26.out BV.out int_ne27 0 (.slice A28 l2.length c28)); replace R27 := Lib.hid (Kd.R_set R27.out BV.out int_ne27 0 (.slice A28 l2.length c28)); replace BU := Lib.hid (blk_far BU.out (p := ⟨v, 0, none⟩) (by show u ≠ v; omega) (.slice A28 l2.length c28)); replace R28 := Lib.hid (Kd.R_set R28.out BV.out int_ne27 0 (.slice A28 l2.length c28)); replace R29 := Lib.hid (Kd.R_set R29.out BV.out int_ne27 0 (.slice A28 l2.length c28)); replace BV := Lib.hid (blk_put (cs' := #[.slice A28 l2.length c28, .slice none 0 0]) BV.out 0 (.slice A28 l2.length c28) rfl); replace BG := Lib.hid (blk_far BG.out (p := ⟨v, 1, none⟩) (by show g ≠ v; omega) (.slice A29 l3.length c29)); replace BL := Lib.hid (below_set (g := v) (j := 1) (v := .slice A29 l3.length c29) BL.out (by omega)); replace BP := Lib.hid (blk_far BP.out (p := ⟨v, 1, none⟩) (by show p ≠ v; omega) (.slice A29 l3.length c29)); replace BQ := Lib.hid (blk_far BQ.out (p := ⟨v, 1, none⟩) (by show q ≠ v; omega) (.slice A29 l3.length c29)); replace R12 := Lib.hid (Kd.R_set R12.out BV.out int_ne27 1 (.slice A29 l3.length c29)); replace R13 := Lib.hid (Kd.R_set R13.out BV.out int_ne27 1 (.slice A29 l3.length c29)); replace BX := Lib.hid (blk_far BX.out (p := ⟨v, 1, none⟩) (by show x ≠ v; omega) (.slice A29 l3.length c29)); replace R14 := Lib.hid (Kd.R_set R14.out BV.out int_ne27 1 (.slice A29 l3.length c29)); replace R15 := Lib.hid (Kd.R_set R15.out BV.out int_ne27 1 (.slice A29 l3.length c29)); replace BY := Lib.hid (blk_far BY.out (p := ⟨v, 1, none⟩) (by show y ≠ v; omega) (.slice A29 l3.length c29)); replace R22 := Lib.hid (Kd.R_set R22.out BV.out int_ne27 1 (.slice A29 l3.length c29)); replace R23 := Lib.hid (Kd.R_set R23.out BV.out int_ne27 1 (.slice A29 l3.length c29)); replace BZ := Lib.hid (blk_far BZ.out (p := ⟨v, 1, none⟩) (by show z ≠ v; omega) (.slice A29 l3.length c29)); replace R24 := Lib.hid (Kd.R_set R24.out BV.out int_ne27 1 (.slice A29 l3.length c29)); replace R25 := Lib.hid (Kd.R_set R25.out BV.out int_ne27 1 (.slice A29 l3.length c29)); replace BT := Lib.hid (blk_far BT.out (p := ⟨v, 1, none⟩) (by show t ≠ v; omega) (.slice A29 l3.length c29)); replace R26 := Lib.hid (Kd.R_set R26.out BV.out int_ne27 1 (.slice A29 l3.length c29)); replace R27 := Lib.hid (Kd.R_set R27.out BV.out int_ne27 1 (.slice A29 l3.length c29)); replace BU := Lib.hid (blk_far BU.out (p := ⟨v, 1, none⟩) (by show u ≠ v; omega) (.slice A29 l3.length c29)); replace R28 := Lib.hid (Kd.R_set R28.out BV.out int_ne27 1 (.slice A29 l3.length c29)); replace R29 := Lib.hid (Kd.R_set R29.out BV.out int_ne27 1 (.slice A29 l3.length c29)); replace BV := Lib.hid (blk_put (cs' := #[.slice A28 l2.length c28, .slice A29 l3.length c29]) BV.out 1 (.slice A29 l3.length c29) rfl); obtain ⟨zBU_0, zBU_1⟩ := cell2 BU.out; obtain ⟨zBV_0, zBV_1⟩ := cell2 BV.out; obtain ⟨zBP_0, zBP_1⟩ := cell2 BP.out
  go_wp2_with (first
   | (go_at_call 17; with_reducible refine (scarfjointref07_Same.calls k A26 c26 l2 A27 c27 l3 A2 c2 l2 A3 c3 l3 true _ (Kd.R_reads' R26.out).2.2 (Kd.R_reads' R26.out).2.1 (Kd.R_reads' R27.out).2.2 (Kd.R_reads' R27.out).2.1 (Kd.C_below R2.out BL.out) M2.out (Kd.C_below R3.out BL.out) M3.out hs3).mono ?_; rintro e w_ ⟨rfl, hb⟩; clear zBU_0 zBU_1 zBV_0 zBV_1 zBP_0 zBP_1; replace BG := Lib.hid (blk_below BG.out hb); replace BL := Lib.hid (below_then BL.out BL.out.size hb); replace BP := Lib.hid (blk_below BP.out hb); replace BQ := Lib.hid (blk_below BQ.out hb); replace R12 := Lib.hid (Kd.R_below R12.out hb); replace R13 := Lib.hid (Kd.R_below R13.out hb); replace BX := Lib.hid (blk_below BX.out hb); replace R14 := Lib.hid (Kd.R_below R14.out hb); replace R15 := Lib.hid (Kd.R_below R15.out hb); replace BY := Lib.hid (blk_below BY.out hb); replace R22 := Lib.hid (Kd.R_below R22.out hb); replace R23 := Lib.hid (Kd.R_below R23.out hb); replace BZ := Lib.hid (blk_below BZ.out hb); replace R24 := Lib.hid (Kd.R_below R24.out hb); replace R25 := Lib.hid (Kd.R_below R25.out hb); replace BT := Lib.hid (blk_below BT.out hb); replace R26 := Lib.hid (Kd.R_below R26.out hb); replace R27 := Lib.hid (Kd.R_below R27.out hb); replace BU := Lib.hid (blk_below BU.out hb); replace R28 := Lib.hid (Kd.R_below R28.out hb); replace R29 := Lib.hid (Kd.R_below R29.out hb); replace BV := Lib.hid (blk_below BV.out hb); clear hb; obtain ⟨zBU_0, zBU_1⟩ := cell2 BU.out; obtain ⟨zBV_0, zBV_1⟩ := cell2 BV.out; obtain ⟨zBP_0, zBP_1⟩ := cell2 BP.out)
   | (go_at_call 17; with_reducible refine (scarfjointref07_Same.calls k A28 c28 l2 A29 c29 l3 A2 c2 l2 A3 c3 l3 true _ (Kd.R_reads' R28.out).2.2 (Kd.R_reads' R28.out).2.1 (Kd.R_reads' R29.out).2.2 (Kd.R_reads' R29.out).2.1 (Kd.C_below R2.out BL.out) M2.out (Kd.C_below R3.out BL.out) M3.out hs3).mono ?_; rintro e w_ ⟨rfl, hb⟩; clear zBU_0 zBU_1 zBV_0 zBV_1 zBP_0 zBP_1; replace BG := Lib.hid (blk_below BG.out hb); replace BL := Lib.hid (below_then BL.out BL.out.size hb); replace BP := Lib.hid (blk_below BP.out hb); replace BQ := Lib.hid (blk_below BQ.out hb); replace R12 := Lib.hid (Kd.R_below R12.out hb); replace R13 := Lib.hid (Kd.R_below R13.out hb); replace BX := Lib.hid (blk_below BX.out hb); replace R14 := Lib.hid (Kd.R_below R14.out hb); replace R15 := Lib.hid (Kd.R_below R15.out hb); replace BY := Lib.hid (blk_below BY.out hb); replace R22 := Lib.hid (Kd.R_below R22.out hb); replace R23 := Lib.hid (Kd.R_below R23.out hb); replace BZ := Lib.hid (blk_below BZ.out hb); replace R24 := Lib.hid (Kd.R_below R24.out hb); replace R25 := Lib.hid (Kd.R_below R25.out hb); replace BT := Lib.hid (blk_below BT.out hb); replace R26 := Lib.hid (Kd.R_below R26.out hb); replace R27 := Lib.hid (Kd.R_below R27.out hb); replace BU := Lib.hid (blk_below BU.out hb); replace R28 := Lib.hid (Kd.R_below R28.out hb); replace R29 := Lib.hid (Kd.R_below R29.out hb); replace BV := Lib.hid (blk_below BV.out hb); clear hb; obtain ⟨zBU_0, zBU_1⟩ := cell2 BU.out; obtain ⟨zBV_0, zBV_1⟩ := cell2 BV.out; obtain ⟨zBP_0, zBP_1⟩ := cell2 BP.out))
  exact bodyPost_ret (v := .bool true) (by simp [results, Try.f7, go_sem]) rfl ⟨rfl, BL.out⟩
 ·skip
  have e1 : (er != 0) = true := by simpa using he
  have e2 : (er == 0) = false := by simpa using he
  have e3 : decide (er = 0) = false := by simpa using he
  go_upto_region 8 with (first
   | (go_at_call 17; with_reducible refine (scarfjointref07_Same.calls k A12 c12 a0 A13 c13 a1 A14 c14 a0 A15 c15 a1 true _ (Kd.R_reads' R12.out).2.2 (Kd.R_reads' R12.out).2.1 (Kd.R_reads' R13.out).2.2 (Kd.R_reads' R13.out).2.1 (Kd.R_reads' R14.out).2.2 (Kd.R_reads' R14.out).2.1 (Kd.R_reads' R15.out).2.2 (Kd.R_reads' R15.out).2.1 hs1).mono ?_; rintro e w_ ⟨rfl, hb⟩; clear zBX_0 zBX_1 zBY_0 zBY_1 zBZ_0 zBZ_1 zBT_0 zBT_1; replace BG := Lib.hid (blk_below BG.out hb); replace BL := Lib.hid (below_then BL.out BL.out.size hb); replace BP := Lib.hid (blk_below BP.out hb); replace BQ := Lib.hid (blk_below BQ.out hb); replace R12 := Lib.hid (Kd.R_below R12.out hb); replace R13 := Lib.hid (Kd.R_below R13.out hb); replace BX := Lib.hid (blk_below BX.out hb); replace R14 := Lib.hid (Kd.R_below R14.out hb); replace R15 := Lib.hid (Kd.R_below R15.out hb); replace BY := Lib.hid (blk_below BY.out hb); replace R22 := Lib.hid (Kd.R_below R22.out hb); replace R23 := Lib.hid (Kd.R_below R23.out hb); replace BZ := Lib.hid (blk_below BZ.out hb); replace R24 := Lib.hid (Kd.R_below R24.out hb); replace R25 := Lib.hid (Kd.R_below R25.out hb); replace BT := Lib.hid (blk_below BT.out hb); clear hb; obtain ⟨zBX_0, zBX_1⟩ := cell2 BX.out; obtain ⟨zBY_0, zBY_1⟩ := cell2 BY.out; obtain ⟨zBZ_0, zBZ_1⟩ := cell2 BZ.out; obtain ⟨zBT_0, zBT_1⟩ := cell2 BT.out)
   | (go_at_call 17; with_reducible refine (scarfjointref07_Same.calls k A22 c22 d0 A23 c23 d1 A24 c24 d0 A25 c25 d1 true _ (Kd.R_reads' R22.out).2.2 (Kd.R_reads' R22.out).2.1 (Kd.R_reads' R23.out).2.2 (Kd.R_reads' R23.out).2.1 (Kd.R_reads' R24.out).2.2 (Kd.R_reads' R24.out).2.1 (Kd.R_reads' R25.out).2.2 (Kd.R_reads' R25.out).2.1 hs2).mono ?_; rintro e w_ ⟨rfl, hb⟩; clear zBX_0 zBX_1 zBY_0 zBY_1 zBZ_0 zBZ_1 zBT_0 zBT_1; replace BG := Lib.hid (blk_below BG.out hb); replace BL := Lib.hid (below_then BL.out BL.out.size hb); replace BP := Lib.hid (blk_below BP.out hb); replace BQ := Lib.hid (blk_below BQ.out hb); replace R12 := Lib.hid (Kd.R_below R12.out hb); replace R13 := Lib.hid (Kd.R_below R13.out hb); replace BX := Lib.hid (blk_below BX.out hb); replace R14 := Lib.hid (Kd.R_below R14.out hb); replace R15 := Lib.hid (Kd.R_below R15.out hb); replace BY := Lib.hid (blk_below BY.out hb); replace R22 := Lib.hid (Kd.R_below R22.out hb); replace R23 := Lib.hid (Kd.R_below R23.out hb); replace BZ := Lib.hid (blk_below BZ.out hb); replace R24 := Lib.hid (Kd.R_below R24.out hb); replace R25 := Lib.hid (Kd.R_below R25.out hb); replace BT := Lib.hid (blk_below BT.out hb); clear hb; obtain ⟨zBX_0, zBX_1⟩ := cell2 BX.out; obtain ⟨zBY_0, zBY_1⟩ := cell2 BY.out; obtain ⟨zBZ_0, zBZ_1⟩ := cell2 BZ.out; obtain ⟨zBT_0, zBT_1⟩ := cell2 BT.out))
  go_wp2_with (first
   | (go_at_call 17; with_reducible refine (scarfjointref07_Same.calls k A12 c12 a0 A13 c13 a1 A14 c14 a0 A15 c15 a1 true _ (Kd.R_reads' R12.out).2.2 (Kd.R_reads' R12.out).2.1 (Kd.R_reads' R13.out).2.2 (Kd.R_reads' R13.out).2.1 (Kd.R_reads' R14.out).2.2 (Kd.R_reads' R14.out).2.1 (Kd.R_reads' R15.out).2.2 (Kd.R_reads' R15.out).2.1 hs1).mono ?_; rintro e w_ ⟨rfl, hb⟩; clear zBX_0 zBX_1 zBY_0 zBY_1 zBZ_0 zBZ_1 zBT_0 zBT_1; replace BG := Lib.hid (blk_below BG.out hb); replace BL := Lib.hid (below_then BL.out BL.out.size hb); replace BP := Lib.hid (blk_below BP.out hb); replace BQ := Lib.hid (blk_below BQ.out hb); replace R12 := Lib.hid (Kd.R_below R12.out hb); replace R13 := Lib.hid (Kd.R_below R13.out hb); replace BX := Lib.hid (blk_below BX.out hb); replace R14 := Lib.hid (Kd.R_below R14.out hb); replace R15 := Lib.hid (Kd.R_below R15.out hb); replace BY := Lib.hid (blk_below BY.out hb); replace R22 := Lib.hid (Kd.R_below R22.out hb); replace R23 := Lib.hid (Kd.R_below R23.out hb); replace BZ := Lib.hid (blk_below BZ.out hb); replace R24 := Lib.hid (Kd.R_below R24.out hb); replace R25 := Lib.hid (Kd.R_below R25.out hb); replace BT := Lib.hid (blk_below BT.out hb); clear hb; obtain ⟨zBX_0, zBX_1⟩ := cell2 BX.out; obtain ⟨zBY_0, zBY_1⟩ := cell2 BY.out; obtain ⟨zBZ_0, zBZ_1⟩ := cell2 BZ.out; obtain ⟨zBT_0, zBT_1⟩ := cell2 BT.out)
   | (go_at_call 17; with_reducible refine (scarfjointref07_Same.calls k A22 c22 d0 A23 c23 d1 A24 c24 d0 A25 c25 d1 true _ (Kd.R_reads' R22.out).2.2 (Kd.R_reads' R22.out).2.1 (Kd.R_reads' R23.out).2.2 (Kd.R_reads' R23.out).2.1 (Kd.R_reads' R24.out).2.2 (Kd.R_reads' R24.out).2.1 (Kd.R_reads' R25.out).2.2 (Kd.R_reads' R25.out).2.1 hs2).mono ?_; rintro e w_ ⟨rfl, hb⟩; clear zBX_0 zBX_1 zBY_0 zBY_1 zBZ_0 zBZ_1 zBT_0 zBT_1; replace BG := Lib.hid (blk_below BG.out hb); replace BL := Lib.hid (below_then BL.out BL.out.size hb); replace BP := Lib.hid (blk_below BP.out hb); replace BQ := Lib.hid (blk_below BQ.out hb); replace R12 := Lib.hid (Kd.R_below R12.out hb); replace R13 := Lib.hid (Kd.R_below R13.out hb); replace BX := Lib.hid (blk_below BX.out hb); replace R14 := Lib.hid (Kd.R_below R14.out hb); replace R15 := Lib.hid (Kd.R_below R15.out hb); replace BY := Lib.hid (blk_below BY.out hb); replace R22 := Lib.hid (Kd.R_below R22.out hb); replace R23 := Lib.hid (Kd.R_below R23.out hb); replace BZ := Lib.hid (blk_below BZ.out hb); replace R24 := Lib.hid (Kd.R_below R24.out hb); replace R25 := Lib.hid (Kd.R_below R25.out hb); replace BT := Lib.hid (blk_below BT.out hb); clear hb; obtain ⟨zBX_0, zBX_1⟩ := cell2 BX.out; obtain ⟨zBY_0, zBY_1⟩ := cell2 BY.out; obtain ⟨zBZ_0, zBZ_1⟩ := cell2 BZ.out; obtain ⟨zBT_0, zBT_1⟩ := cell2 BT.out))
  exact bodyPost_ret (v := .bool true) (by simp [results, Try.f7, go_sem]) rfl ⟨rfl, BL.out⟩
set_option maxHeartbeats 4000000 in
set_option maxRecDepth 100000 in
theorem scarfjointlaw07_SubgraphJoin.big (A0 : Option Addr) (c0 : Nat) (l0 : List Int) (A1 : Option Addr) (c1 : Nat) (l1 : List S78) (A2 : Option Addr) (c2 : Nat) (l2 : List Int) (A3 : Option Addr) (c3 : Nat) (l3 : List Int) (A4 : Option Addr) (c4 : Nat) (l4 : List Int) (A5 : Option Addr) (c5 : Nat) (l5 : List Int) (w : World)
  (r0 : Kd.C (Kd.int .i64) w A0 l0.length l0) (m0 : l0.length ≤ c0) (r1 : Kd.C k78 w A1 l1.length l1) (m1 : l1.length ≤ c1) (r2 : Kd.C (Kd.int .i64) w A2 l2.length l2) (m2 : l2.length ≤ c2) (r3 : Kd.C (Kd.int .i64) w A3 l3.length l3) (m3 : l3.length ≤ c3) (r4 : Kd.C (Kd.int .i64) w A4 l4.length l4) (m4 : l4.length ≤ c4) (r5 : Kd.C (Kd.int .i64) w A5 l5.length l5) (m5 : l5.length ≤ c5)
  (hsm : scarfjointlaw07_small.f l0 l1 [⟨l2, l3⟩, ⟨l4, l5⟩] = some false) :
  Calls Try.prog 7 #[.agg #[.slice A0 l0.length c0, .slice A1 l1.length c1], .agg #[.slice A2 l2.length c2, .slice A3 l3.length c3], .agg #[.slice A4 l4.length c4, .slice A5 l5.length c5]] w fun e w' => e = .returned (.bool true) ∧ Below w.heap.size w w' := by
 have hu25 := Try.underlying25; have hu27 := Try.underlying27; have R0 := Lib.hid r0; have R1 := Lib.hid r1; have R2 := Lib.hid r2; have R3 := Lib.hid r3; have R4 := Lib.hid r4; have R5 := Lib.hid r5; have M0 := Lib.hid m0; have M1 := Lib.hid m1; have M2 := Lib.hid m2; have M3 := Lib.hid m3; have M4 := Lib.hid m4; have M5 := Lib.hid m5; clear r0 r1 r2 r3 r4 r5 m0 m1 m2 m3 m4 m5
 go_enter Try.func7, Try.ntmps7
 go_upto_region 1 with (first
  | ((with_reducible refine gate_dst (N := 3) rfl ?_); (try (refine gate_guard (by rfl) ?_; dsimp only)); refine box_event ?hg (N := 3) ?hd (cs := #[.slice A0 l0.length c0, .slice A1 l1.length c1]) (t := 25) ?hr ?_; (case hd => rfl); (case hg => rfl); (case hr => first | (go_simp; done) | (go_simp; rfl)); intro g hg w_ hbox hb; have HG : w.heap.size ≤ g := (hg ▸ Nat.le_refl _); have BG := Lib.hid hbox; have BL := Lib.hid hb; clear hg hbox hb)
  | ((with_reducible refine gate_dst (N := 4) rfl ?_); (try (refine gate_guard (by rfl) ?_; dsimp only)); refine box_event ?hg (N := 4) ?hd (cs := #[.slice A2 l2.length c2, .slice A3 l3.length c3]) (t := 27) ?hr ?_; (case hd => rfl); (case hg => rfl); (case hr => first | (go_simp; done) | (go_simp; rfl)); intro p hg w_ hbox hb; have HP : g < p := (hg ▸ blk_lt BG.out); replace BG := Lib.hid (blk_below BG.out hb); replace BL := Lib.hid (below_then BL.out BL.out.size hb); have BP := Lib.hid hbox; clear hg hbox hb)
  | ((with_reducible refine gate_dst (N := 5) rfl ?_); (try (refine gate_guard (by rfl) ?_; dsimp only)); refine box_event ?hg (N := 5) ?hd (cs := #[.slice A4 l4.length c4, .slice A5 l5.length c5]) (t := 27) ?hr ?_; (case hd => rfl); (case hg => rfl); (case hr => first | (go_simp; done) | (go_simp; rfl)); intro q hg w_ hbox hb; have HQ : p < q := (hg ▸ blk_lt BP.out); replace BG := Lib.hid (blk_below BG.out hb); replace BL := Lib.hid (below_then BL.out BL.out.size hb); replace BP := Lib.hid (blk_below BP.out hb); have BQ := Lib.hid hbox; clear hg hbox hb))
 obtain ⟨zBG_0, zBG_1⟩ := cell2 BG.out; obtain ⟨zBP_0, zBP_1⟩ := cell2 BP.out; obtain ⟨zBQ_0, zBQ_1⟩ := cell2 BQ.out
 go_wp2_with (first
  | (go_at_call 11; with_reducible refine (scarfjointlaw07_awake.calls true _ rfl).mono ?_; rintro e w_ ⟨rfl, hb⟩; clear zBG_0 zBG_1 zBP_0 zBP_1 zBQ_0 zBQ_1; replace BG := Lib.hid (blk_below BG.out hb); replace BL := Lib.hid (below_then BL.out BL.out.size hb); replace BP := Lib.hid (blk_below BP.out hb); replace BQ := Lib.hid (blk_below BQ.out hb); clear hb; obtain ⟨zBG_0, zBG_1⟩ := cell2 BG.out; obtain ⟨zBP_0, zBP_1⟩ := cell2 BP.out; obtain ⟨zBQ_0, zBQ_1⟩ := cell2 BQ.out)
  | ((with_reducible refine gate_dst (N := 25) rfl ?_); (try (refine gate_guard (by rfl) ?_; dsimp only)); refine lit_event ?hg (N := 25) ?hd (cs := #[.slice A2 l2.length c2, .slice A3 l3.length c3, .slice A4 l4.length c4, .slice A5 l5.length c5]) (t := 27) (m := 2) ?hr ?_; (case hd => rfl); (case hg => rfl); (case hr => first | (go_simp; done) | (go_simp; rfl)); intro b_ hg w_ hbox hb; clear zBG_0 zBG_1 zBP_0 zBP_1 zBQ_0 zBQ_1; replace BG := Lib.hid (blk_below BG.out hb); replace BL := Lib.hid (below_then BL.out BL.out.size hb); replace BP := Lib.hid (blk_below BP.out hb); replace BQ := Lib.hid (blk_below BQ.out hb); have BK := Lib.hid hbox; clear hg hbox hb; obtain ⟨zBG_0, zBG_1⟩ := cell2 BG.out; obtain ⟨zBP_0, zBP_1⟩ := cell2 BP.out; obtain ⟨zBQ_0, zBQ_1⟩ := cell2 BQ.out)
  | (go_at_call 12; refine (scarfjointlaw07_small.calls A0 c0 l0 A1 c1 l1 (some ⟨b_, 0, none⟩) 2 [⟨l2, l3⟩, ⟨l4, l5⟩] false _ (Kd.C_below R0.out BL.out) M0.out (Kd.C_below R1.out BL.out) M1.out (part_row2 BK.out (Kd.C_below R2.out BL.out) M2.out (Kd.C_below R3.out BL.out) M3.out (Kd.C_below R4.out BL.out) M4.out (Kd.C_below R5.out BL.out) M5.out) (Nat.le_refl _) hsm).mono ?_; rintro e w_ ⟨rfl, hb⟩; clear zBG_0 zBG_1 zBP_0 zBP_1 zBQ_0 zBQ_1; replace BG := Lib.hid (blk_below BG.out hb); replace BL := Lib.hid (below_then BL.out BL.out.size hb); replace BP := Lib.hid (blk_below BP.out hb); replace BQ := Lib.hid (blk_below BQ.out hb); clear hb BK; obtain ⟨zBG_0, zBG_1⟩ := cell2 BG.out; obtain ⟨zBP_0, zBP_1⟩ := cell2 BP.out; obtain ⟨zBQ_0, zBQ_1⟩ := cell2 BQ.out))
 exact bodyPost_ret (v := .bool true) (by simp [results, Try.f7, go_sem]) rfl ⟨rfl, BL.out⟩
end Go.Proofs.Ytonipihlpbaknaa.Print

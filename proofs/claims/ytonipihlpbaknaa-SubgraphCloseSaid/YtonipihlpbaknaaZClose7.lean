/- A part of the proof that the law returns true at every input; what the walked functions compute. -/
import Derived.Test.YtonipihlpbaknaaRows
import Derived.WalkKit
import Derived.ProofKit
import Derived.OpenShut
import Derived.ShutString
import Derived.ChangeOld
import Derived.Below
import Derived.SizedLaws
import Derived.Carry
import Derived.Test.YtonipihlpbaknaaZClose0
import Derived.Test.YtonipihlpbaknaaZClose1
import Derived.Test.YtonipihlpbaknaaZClose2
import Derived.Test.YtonipihlpbaknaaZClose3
import Derived.Test.YtonipihlpbaknaaZClose4
import Derived.Test.YtonipihlpbaknaaZClose5
import Derived.Test.YtonipihlpbaknaaZClose6
namespace Go.Proofs.Ytonipihlpbaknaa.Print
set_option linter.unusedVariables false
set_option linter.unusedSimpArgs false
open Go.RowKit Go.Proofs.YtonipihlpbaknaaW.PrintWords Go.Proofs.YtonipihlpbaknaaW.PrintLast Go.Proofs.YtonipihlpbaknaaW.PrintMore
set_option maxHeartbeats 4000000 in
set_option maxRecDepth 100000 in
theorem scarfjointlaw07_SubgraphClose.ok (k : Nat) (A0 : Option Addr) (c0 : Nat) (l0 : List Int) (A1 : Option Addr) (c1 : Nat) (l1 : List S78) (A2 : Option Addr) (c2 : Nat) (l2 : List Int) (A3 : Option Addr) (c3 : Nat) (l3 : List Int) (a2 : Int) (p0 p1 : List Int) (er : Int) (w : World)
    (r0 : Kd.C (Kd.int .i64) w A0 l0.length l0) (m0 : l0.length ≤ c0) (r1 : Kd.C k78 w A1 l1.length l1) (m1 : l1.length ≤ c1) (r2 : Kd.C (Kd.int .i64) w A2 l2.length l2) (m2 : l2.length ≤ c2) (r3 : Kd.C (Kd.int .i64) w A3 l3.length l3) (m3 : l3.length ≤ c3)
    (hsm : scarfjointlaw07_small.f l0 l1 [] = some true) (hn : l2.length ≤ 100) (hm : l3.length ≤ 100) (hcp : scarfjointref05_Copied.f l0 l1 = some (l0, l1)) (hc2 : slices_Clone_int_int.f l2 = some l2) (hc3 : slices_Clone_int_int.f l3 = some l3)
    (h1 : subgraph_Close.f l0 l1 l2 l3 = some (p0, p1, er)) (h2 : scarfjointref07_Close.f k l0 l1 l2 l3 = some (p0, p1, er)) (h3 : scarfjointref07_Same.f k p0 p1 p0 p1 = some true)
    (h4 : er = 0 → ∃ o0 o1 b, scarfjointref07_Made.f k l0 l1 a2 = some (o0, o1) ∧ scarfjointref07_In.f k l2 l3 o0 o1 = some b ∧ (b = true → scarfjointref07_In.f k p0 p1 o0 o1 = some true)) :
    Calls Try.prog 3 #[.agg #[.slice A0 l0.length c0, .slice A1 l1.length c1], .agg #[.slice A2 l2.length c2, .slice A3 l3.length c3], .int .u64 a2] w fun e w' => e = .returned (.bool true) ∧ Below w.heap.size w w' := by
  have hu25 := Try.underlying25
  have hu27 := Try.underlying27
  have R0 := Lib.hid r0
  have R1 := Lib.hid r1
  have R2 := Lib.hid r2
  have R3 := Lib.hid r3
  have M0 := Lib.hid m0
  have M1 := Lib.hid m1
  have M2 := Lib.hid m2
  have M3 := Lib.hid m3
  clear r0 r1 r2 r3 m0 m1 m2 m3
  have d2 : decide (100 < (l2.length : Int)) = false := decide_eq_false (by omega)
  have d3 : decide (100 < (l3.length : Int)) = false := decide_eq_false (by omega)
  go_enter Try.func3, Try.ntmps3
  go_upto_region 1 with (first
    | ((with_reducible refine gate_dst (N := 3) rfl ?_); (try (refine gate_guard (by rfl) ?_; dsimp only)); refine box_event ?hg (N := 3) ?hd (cs := #[.slice A0 l0.length c0, .slice A1 l1.length c1]) (t := 25) ?hr ?_; (case hd => rfl); (case hg => rfl); (case hr => first | (go_simp; done) | (go_simp; rfl)); intro g hg w_ hbox hb; have HG : w.heap.size ≤ g := (hg ▸ Nat.le_refl _); have BG := Lib.hid hbox; have BL := Lib.hid hb; clear hg hbox hb)
    | ((with_reducible refine gate_dst (N := 4) rfl ?_); (try (refine gate_guard (by rfl) ?_; dsimp only)); refine box_event ?hg (N := 4) ?hd (cs := #[.slice A2 l2.length c2, .slice A3 l3.length c3]) (t := 27) ?hr ?_; (case hd => rfl); (case hg => rfl); (case hr => first | (go_simp; done) | (go_simp; rfl)); intro h hg w_ hbox hb; have HH : g < h := (hg ▸ blk_lt BG.out); replace BG := Lib.hid (blk_below BG.out hb); replace BL := Lib.hid (below_then BL.out BL.out.size hb); have BE := Lib.hid hbox; clear hg hbox hb))
  obtain ⟨zBG_0, zBG_1⟩ := cell2 BG.out
  obtain ⟨zBE_0, zBE_1⟩ := cell2 BE.out
  go_upto_region 3 with (first
    | (go_at_call 11; with_reducible refine (scarfjointlaw07_awake.calls0 _).mono ?_; rintro e w_ ⟨rfl, hb⟩; clear zBG_0 zBG_1 zBE_0 zBE_1; replace BG := Lib.hid (blk_below BG.out hb); replace BL := Lib.hid (below_then BL.out BL.out.size hb); replace BE := Lib.hid (blk_below BE.out hb); clear hb; obtain ⟨zBG_0, zBG_1⟩ := cell2 BG.out; obtain ⟨zBE_0, zBE_1⟩ := cell2 BE.out)
    | (go_at_call 12; refine (scarfjointlaw07_small.calls A0 c0 l0 A1 c1 l1 none 0 [] true _ (Kd.C_below R0.out BL.out) M0.out (Kd.C_below R1.out BL.out) M1.out (Kd.C_nil _ _) (Nat.le_refl _) hsm).mono ?_; rintro e w_ ⟨rfl, hb⟩; clear zBG_0 zBG_1 zBE_0 zBE_1; replace BG := Lib.hid (blk_below BG.out hb); replace BL := Lib.hid (below_then BL.out BL.out.size hb); replace BE := Lib.hid (blk_below BE.out hb); clear hb; obtain ⟨zBG_0, zBG_1⟩ := cell2 BG.out; obtain ⟨zBE_0, zBE_1⟩ := cell2 BE.out))
  clear zBG_0 zBG_1 zBE_0 zBE_1
  replace BG := Lib.hid (blk_drew BG.out)
  replace BL := Lib.hid (below_drew1 BL.out)
  replace BE := Lib.hid (blk_drew BE.out)
  refine start_ (n := 15) (S := fun w' => w'.cell? ⟨g, 0, none⟩ = some (.slice A0 l0.length c0) ∧ w'.cell? ⟨g, 1, none⟩ = some (.slice A1 l1.length c1) ∧ w'.cell? ⟨h, 0, none⟩ = some (.slice A2 l2.length c2) ∧ w'.cell? ⟨h, 1, none⟩ = some (.slice A3 l3.length c3)) (ds := []) #[false, false, false, false, false, false, false, false, false, false, false, false, false, false, false] (by kernel_rfl) rfl rfl ⟨(cell2 BG.out).1, (cell2 BG.out).2, (cell2 BE.out).1, (cell2 BE.out).2⟩ (fun hHeld => ?_)
  refine pure_ (i := 2) (N := some 35) (v := ?_) (a' := ?_) #[false, false, true, false, false, false, false, false, false, false, false, false, false, false, false] rfl rfl (by kernel_rfl) (fun _ _ _ h => h) (Or.inl ⟨by rfl, ?_⟩) ?_ ?_
  rotate_left
  · intro w'
    go_simp
    with_reducible rfl
  rotate_left
  · simp only [Act.put, List.setIfInBounds_toArray, List.set_cons_zero, List.set_cons_succ, i64_w, i32_w]
    rfl
  refine pure_ (i := 5) (N := some 38) (v := ?_) (a' := ?_) #[false, false, true, false, false, true, false, false, false, false, false, false, false, false, false] rfl rfl (by kernel_rfl) (fun _ _ _ h => h) (Or.inl ⟨by rfl, ?_⟩) ?_ ?_
  rotate_left
  · intro w'
    go_simp
    with_reducible rfl
  rotate_left
  · simp only [Act.put, List.setIfInBounds_toArray, List.set_cons_zero, List.set_cons_succ, i64_w, i32_w]
    rfl
  refine take_ (i := 0) (N := some 33) (v := ?_) (a' := ?_) #[true, false, true, false, false, true, false, false, false, false, false, false, false, false, false] rfl rfl (by kernel_rfl) (fun _ _ _ h => h) (Or.inl ⟨by rfl, ?_⟩) hHeld ?_ ?_
  rotate_left
  · rintro w' ⟨s0, s1, s2, s3⟩
    go_simp
    with_reducible rfl
  rotate_left
  · simp only [Act.put, List.setIfInBounds_toArray, List.set_cons_zero, List.set_cons_succ, i64_w, i32_w]
    rfl
  refine take_ (i := 3) (N := some 36) (v := ?_) (a' := ?_) #[true, false, true, true, false, true, false, false, false, false, false, false, false, false, false] rfl rfl (by kernel_rfl) (fun _ _ _ h => h) (Or.inl ⟨by rfl, ?_⟩) hHeld ?_ ?_
  rotate_left
  · rintro w' ⟨s0, s1, s2, s3⟩
    go_simp
    with_reducible rfl
  rotate_left
  · simp only [Act.put, List.setIfInBounds_toArray, List.set_cons_zero, List.set_cons_succ, i64_w, i32_w]
    rfl
  refine take_ (i := 6) (N := some 39) (v := ?_) (a' := ?_) #[true, false, true, true, false, true, true, false, false, false, false, false, false, false, false] rfl rfl (by kernel_rfl) (fun _ _ _ h => h) (Or.inl ⟨by rfl, ?_⟩) hHeld ?_ ?_
  rotate_left
  · rintro w' ⟨s0, s1, s2, s3⟩
    go_simp
    with_reducible rfl
  rotate_left
  · simp only [Act.put, List.setIfInBounds_toArray, List.set_cons_zero, List.set_cons_succ, i64_w, i32_w]
    rfl
  refine join_ (σ := Option Addr × Nat × Option Addr × Nat × Option Addr × Nat × Option Addr × Nat × Option Addr × Nat × Option Addr × Nat × Nat) 2 #[true, true, true, true, true, true, true, true, true, true, true, true, true, false, false] (fun s_ => [(34, .agg #[.slice s_.1 l0.length s_.2.1, .slice s_.2.2.1 l1.length s_.2.2.2.1]), (37, .slice s_.2.2.2.2.1 l2.length s_.2.2.2.2.2.1), (40, .slice s_.2.2.2.2.2.2.1 l3.length s_.2.2.2.2.2.2.2.1), (41, .tuple #[.agg #[.slice s_.2.2.2.2.2.2.2.2.1 p0.length s_.2.2.2.2.2.2.2.2.2.1, .slice s_.2.2.2.2.2.2.2.2.2.2.1 p1.length s_.2.2.2.2.2.2.2.2.2.2.2.1], .int .i64 er]), (32, .tuple #[.agg #[.slice s_.2.2.2.2.2.2.2.2.1 p0.length s_.2.2.2.2.2.2.2.2.2.1, .slice s_.2.2.2.2.2.2.2.2.2.2.1 p1.length s_.2.2.2.2.2.2.2.2.2.2.2.1], .int .i64 er]), (42, .agg #[.slice s_.2.2.2.2.2.2.2.2.1 p0.length s_.2.2.2.2.2.2.2.2.2.1, .slice s_.2.2.2.2.2.2.2.2.2.2.1 p1.length s_.2.2.2.2.2.2.2.2.2.2.2.1]), (43, .int .i64 er), (7, .pointer (some ⟨s_.2.2.2.2.2.2.2.2.2.2.2.2, 0, none⟩))]) (fun s_ w' => (w'.cell? ⟨g, 0, none⟩ = some (.slice A0 l0.length c0) ∧ w'.cell? ⟨g, 1, none⟩ = some (.slice A1 l1.length c1) ∧ w'.cell? ⟨h, 0, none⟩ = some (.slice A2 l2.length c2) ∧ w'.cell? ⟨h, 1, none⟩ = some (.slice A3 l3.length c3)) ∧ (h < s_.2.2.2.2.2.2.2.2.2.2.2.2) ∧ (w'.heap[g]? = some (.cells #[.slice A0 l0.length c0, .slice A1 l1.length c1] 25 (0, 0))) ∧ (Below w.heap.size w w') ∧ (w'.heap[h]? = some (.cells #[.slice A2 l2.length c2, .slice A3 l3.length c3] 27 (0, 0))) ∧ (Kd.R (Kd.int .i64) 3 w' 0 (fun _ => True) (.slice s_.1 l0.length s_.2.1) l0) ∧ (Kd.R (k78) 78 w' 0 (fun _ => True) (.slice s_.2.2.1 l1.length s_.2.2.2.1) l1) ∧ (Kd.R (Kd.int .i64) 3 w' 0 (fun _ => True) (.slice s_.2.2.2.2.1 l2.length s_.2.2.2.2.2.1) l2) ∧ (Kd.R (Kd.int .i64) 3 w' 0 (fun _ => True) (.slice s_.2.2.2.2.2.2.1 l3.length s_.2.2.2.2.2.2.2.1) l3) ∧ (Kd.R (Kd.int .i64) 3 w' 0 (fun _ => True) (.slice s_.2.2.2.2.2.2.2.2.1 p0.length s_.2.2.2.2.2.2.2.2.2.1) p0) ∧ (Kd.R (Kd.int .i64) 3 w' 0 (fun _ => True) (.slice s_.2.2.2.2.2.2.2.2.2.2.1 p1.length s_.2.2.2.2.2.2.2.2.2.2.2.1) p1) ∧ (w'.heap[s_.2.2.2.2.2.2.2.2.2.2.2.2]? = some (.cells #[.slice none 0 0, .slice none 0 0] 27 (0, 0)))) ?_ ?_
  rotate_left
  · intro J41
    refine join_ (σ := Option Addr × Nat × Option Addr × Nat × Option Addr × Nat × Option Addr × Nat × Option Addr × Nat × Option Addr × Nat) 3 #[true, true, true, true, true, true, true, true, true, true, true, true, false, false, false] (fun s_ => [(34, .agg #[.slice s_.1 l0.length s_.2.1, .slice s_.2.2.1 l1.length s_.2.2.2.1]), (37, .slice s_.2.2.2.2.1 l2.length s_.2.2.2.2.2.1), (40, .slice s_.2.2.2.2.2.2.1 l3.length s_.2.2.2.2.2.2.2.1), (41, .tuple #[.agg #[.slice s_.2.2.2.2.2.2.2.2.1 p0.length s_.2.2.2.2.2.2.2.2.2.1, .slice s_.2.2.2.2.2.2.2.2.2.2.1 p1.length s_.2.2.2.2.2.2.2.2.2.2.2], .int .i64 er]), (32, .tuple #[.agg #[.slice s_.2.2.2.2.2.2.2.2.1 p0.length s_.2.2.2.2.2.2.2.2.2.1, .slice s_.2.2.2.2.2.2.2.2.2.2.1 p1.length s_.2.2.2.2.2.2.2.2.2.2.2], .int .i64 er]), (42, .agg #[.slice s_.2.2.2.2.2.2.2.2.1 p0.length s_.2.2.2.2.2.2.2.2.2.1, .slice s_.2.2.2.2.2.2.2.2.2.2.1 p1.length s_.2.2.2.2.2.2.2.2.2.2.2]), (43, .int .i64 er)]) (fun s_ w' => (w'.cell? ⟨g, 0, none⟩ = some (.slice A0 l0.length c0) ∧ w'.cell? ⟨g, 1, none⟩ = some (.slice A1 l1.length c1) ∧ w'.cell? ⟨h, 0, none⟩ = some (.slice A2 l2.length c2) ∧ w'.cell? ⟨h, 1, none⟩ = some (.slice A3 l3.length c3)) ∧ (w'.heap[g]? = some (.cells #[.slice A0 l0.length c0, .slice A1 l1.length c1] 25 (0, 0))) ∧ (Below w.heap.size w w') ∧ (w'.heap[h]? = some (.cells #[.slice A2 l2.length c2, .slice A3 l3.length c3] 27 (0, 0))) ∧ (Kd.R (Kd.int .i64) 3 w' 0 (fun _ => True) (.slice s_.1 l0.length s_.2.1) l0) ∧ (Kd.R (k78) 78 w' 0 (fun _ => True) (.slice s_.2.2.1 l1.length s_.2.2.2.1) l1) ∧ (Kd.R (Kd.int .i64) 3 w' 0 (fun _ => True) (.slice s_.2.2.2.2.1 l2.length s_.2.2.2.2.2.1) l2) ∧ (Kd.R (Kd.int .i64) 3 w' 0 (fun _ => True) (.slice s_.2.2.2.2.2.2.1 l3.length s_.2.2.2.2.2.2.2.1) l3) ∧ (Kd.R (Kd.int .i64) 3 w' 0 (fun _ => True) (.slice s_.2.2.2.2.2.2.2.2.1 p0.length s_.2.2.2.2.2.2.2.2.2.1) p0) ∧ (Kd.R (Kd.int .i64) 3 w' 0 (fun _ => True) (.slice s_.2.2.2.2.2.2.2.2.2.2.1 p1.length s_.2.2.2.2.2.2.2.2.2.2.2) p1)) ?_ ?_
    rotate_left
    · intro J40
      refine join_ (σ := Option Addr × Nat × Option Addr × Nat × Option Addr × Nat × Option Addr × Nat × Nat) 6 #[true, true, true, true, true, true, true, true, false, false, false, false, true, false, false] (fun s_ => [(34, .agg #[.slice s_.1 l0.length s_.2.1, .slice s_.2.2.1 l1.length s_.2.2.2.1]), (37, .slice s_.2.2.2.2.1 l2.length s_.2.2.2.2.2.1), (40, .slice s_.2.2.2.2.2.2.1 l3.length s_.2.2.2.2.2.2.2.1), (7, .pointer (some ⟨s_.2.2.2.2.2.2.2.2, 0, none⟩))]) (fun s_ w' => (w'.cell? ⟨g, 0, none⟩ = some (.slice A0 l0.length c0) ∧ w'.cell? ⟨g, 1, none⟩ = some (.slice A1 l1.length c1) ∧ w'.cell? ⟨h, 0, none⟩ = some (.slice A2 l2.length c2) ∧ w'.cell? ⟨h, 1, none⟩ = some (.slice A3 l3.length c3)) ∧ (h < s_.2.2.2.2.2.2.2.2) ∧ (w'.heap[g]? = some (.cells #[.slice A0 l0.length c0, .slice A1 l1.length c1] 25 (0, 0))) ∧ (Below w.heap.size w w') ∧ (w'.heap[h]? = some (.cells #[.slice A2 l2.length c2, .slice A3 l3.length c3] 27 (0, 0))) ∧ (Kd.R (Kd.int .i64) 3 w' 0 (fun _ => True) (.slice s_.1 l0.length s_.2.1) l0) ∧ (Kd.R (k78) 78 w' 0 (fun _ => True) (.slice s_.2.2.1 l1.length s_.2.2.2.1) l1) ∧ (Kd.R (Kd.int .i64) 3 w' 0 (fun _ => True) (.slice s_.2.2.2.2.1 l2.length s_.2.2.2.2.2.1) l2) ∧ (Kd.R (Kd.int .i64) 3 w' 0 (fun _ => True) (.slice s_.2.2.2.2.2.2.1 l3.length s_.2.2.2.2.2.2.2.1) l3) ∧ (w'.heap[s_.2.2.2.2.2.2.2.2]? = some (.cells #[.slice none 0 0, .slice none 0 0] 27 (0, 0)))) ?_ ?_
      rotate_left
      · intro J31
        refine join_ (σ := Option Addr × Nat × Option Addr × Nat × Option Addr × Nat × Option Addr × Nat) 7 #[true, true, true, true, true, true, true, true, false, false, false, false, false, false, false] (fun s_ => [(34, .agg #[.slice s_.1 l0.length s_.2.1, .slice s_.2.2.1 l1.length s_.2.2.2.1]), (37, .slice s_.2.2.2.2.1 l2.length s_.2.2.2.2.2.1), (40, .slice s_.2.2.2.2.2.2.1 l3.length s_.2.2.2.2.2.2.2)]) (fun s_ w' => (w'.cell? ⟨g, 0, none⟩ = some (.slice A0 l0.length c0) ∧ w'.cell? ⟨g, 1, none⟩ = some (.slice A1 l1.length c1) ∧ w'.cell? ⟨h, 0, none⟩ = some (.slice A2 l2.length c2) ∧ w'.cell? ⟨h, 1, none⟩ = some (.slice A3 l3.length c3)) ∧ (w'.heap[g]? = some (.cells #[.slice A0 l0.length c0, .slice A1 l1.length c1] 25 (0, 0))) ∧ (Below w.heap.size w w') ∧ (w'.heap[h]? = some (.cells #[.slice A2 l2.length c2, .slice A3 l3.length c3] 27 (0, 0))) ∧ (Kd.R (Kd.int .i64) 3 w' 0 (fun _ => True) (.slice s_.1 l0.length s_.2.1) l0) ∧ (Kd.R (k78) 78 w' 0 (fun _ => True) (.slice s_.2.2.1 l1.length s_.2.2.2.1) l1) ∧ (Kd.R (Kd.int .i64) 3 w' 0 (fun _ => True) (.slice s_.2.2.2.2.1 l2.length s_.2.2.2.2.2.1) l2) ∧ (Kd.R (Kd.int .i64) 3 w' 0 (fun _ => True) (.slice s_.2.2.2.2.2.2.1 l3.length s_.2.2.2.2.2.2.2) l3)) ?_ ?_
        rotate_left
        · intro J30
          refine join_ (σ := Option Addr × Nat × Option Addr × Nat × Option Addr × Nat × Nat) 7 #[true, true, true, true, true, true, true, false, false, false, false, false, true, false, false] (fun s_ => [(34, .agg #[.slice s_.1 l0.length s_.2.1, .slice s_.2.2.1 l1.length s_.2.2.2.1]), (37, .slice s_.2.2.2.2.1 l2.length s_.2.2.2.2.2.1), (7, .pointer (some ⟨s_.2.2.2.2.2.2, 0, none⟩))]) (fun s_ w' => (w'.cell? ⟨g, 0, none⟩ = some (.slice A0 l0.length c0) ∧ w'.cell? ⟨g, 1, none⟩ = some (.slice A1 l1.length c1) ∧ w'.cell? ⟨h, 0, none⟩ = some (.slice A2 l2.length c2) ∧ w'.cell? ⟨h, 1, none⟩ = some (.slice A3 l3.length c3)) ∧ (h < s_.2.2.2.2.2.2) ∧ (w'.heap[g]? = some (.cells #[.slice A0 l0.length c0, .slice A1 l1.length c1] 25 (0, 0))) ∧ (Below w.heap.size w w') ∧ (w'.heap[h]? = some (.cells #[.slice A2 l2.length c2, .slice A3 l3.length c3] 27 (0, 0))) ∧ (Kd.R (Kd.int .i64) 3 w' 0 (fun _ => True) (.slice s_.1 l0.length s_.2.1) l0) ∧ (Kd.R (k78) 78 w' 0 (fun _ => True) (.slice s_.2.2.1 l1.length s_.2.2.2.1) l1) ∧ (Kd.R (Kd.int .i64) 3 w' 0 (fun _ => True) (.slice s_.2.2.2.2.1 l2.length s_.2.2.2.2.2.1) l2) ∧ (w'.heap[s_.2.2.2.2.2.2]? = some (.cells #[.slice none 0 0, .slice none 0 0] 27 (0, 0)))) ?_ ?_
          rotate_left
          · intro J21
            refine join_ (σ := Option Addr × Nat × Option Addr × Nat × Option Addr × Nat) 8 #[true, true, true, true, true, true, true, false, false, false, false, false, false, false, false] (fun s_ => [(34, .agg #[.slice s_.1 l0.length s_.2.1, .slice s_.2.2.1 l1.length s_.2.2.2.1]), (37, .slice s_.2.2.2.2.1 l2.length s_.2.2.2.2.2)]) (fun s_ w' => (w'.cell? ⟨g, 0, none⟩ = some (.slice A0 l0.length c0) ∧ w'.cell? ⟨g, 1, none⟩ = some (.slice A1 l1.length c1) ∧ w'.cell? ⟨h, 0, none⟩ = some (.slice A2 l2.length c2) ∧ w'.cell? ⟨h, 1, none⟩ = some (.slice A3 l3.length c3)) ∧ (w'.heap[g]? = some (.cells #[.slice A0 l0.length c0, .slice A1 l1.length c1] 25 (0, 0))) ∧ (Below w.heap.size w w') ∧ (w'.heap[h]? = some (.cells #[.slice A2 l2.length c2, .slice A3 l3.length c3] 27 (0, 0))) ∧ (Kd.R (Kd.int .i64) 3 w' 0 (fun _ => True) (.slice s_.1 l0.length s_.2.1) l0) ∧ (Kd.R (k78) 78 w' 0 (fun _ => True) (.slice s_.2.2.1 l1.length s_.2.2.2.1) l1) ∧ (Kd.R (Kd.int .i64) 3 w' 0 (fun _ => True) (.slice s_.2.2.2.2.1 l2.length s_.2.2.2.2.2) l2)) ?_ ?_
            rotate_left
            · intro J20
              refine join_ (σ := Option Addr × Nat × Option Addr × Nat × Nat) 8 #[true, true, true, true, false, true, true, false, false, false, false, false, true, false, false] (fun s_ => [(34, .agg #[.slice s_.1 l0.length s_.2.1, .slice s_.2.2.1 l1.length s_.2.2.2.1]), (7, .pointer (some ⟨s_.2.2.2.2, 0, none⟩))]) (fun s_ w' => (w'.cell? ⟨g, 0, none⟩ = some (.slice A0 l0.length c0) ∧ w'.cell? ⟨g, 1, none⟩ = some (.slice A1 l1.length c1) ∧ w'.cell? ⟨h, 0, none⟩ = some (.slice A2 l2.length c2) ∧ w'.cell? ⟨h, 1, none⟩ = some (.slice A3 l3.length c3)) ∧ (h < s_.2.2.2.2) ∧ (w'.heap[g]? = some (.cells #[.slice A0 l0.length c0, .slice A1 l1.length c1] 25 (0, 0))) ∧ (Below w.heap.size w w') ∧ (w'.heap[h]? = some (.cells #[.slice A2 l2.length c2, .slice A3 l3.length c3] 27 (0, 0))) ∧ (Kd.R (Kd.int .i64) 3 w' 0 (fun _ => True) (.slice s_.1 l0.length s_.2.1) l0) ∧ (Kd.R (k78) 78 w' 0 (fun _ => True) (.slice s_.2.2.1 l1.length s_.2.2.2.1) l1) ∧ (w'.heap[s_.2.2.2.2]? = some (.cells #[.slice none 0 0, .slice none 0 0] 27 (0, 0)))) ?_ ?_
              rotate_left
              · intro J11
                refine join_ (σ := Option Addr × Nat × Option Addr × Nat) 9 #[true, true, true, true, false, true, true, false, false, false, false, false, false, false, false] (fun s_ => [(34, .agg #[.slice s_.1 l0.length s_.2.1, .slice s_.2.2.1 l1.length s_.2.2.2])]) (fun s_ w' => (w'.cell? ⟨g, 0, none⟩ = some (.slice A0 l0.length c0) ∧ w'.cell? ⟨g, 1, none⟩ = some (.slice A1 l1.length c1) ∧ w'.cell? ⟨h, 0, none⟩ = some (.slice A2 l2.length c2) ∧ w'.cell? ⟨h, 1, none⟩ = some (.slice A3 l3.length c3)) ∧ (w'.heap[g]? = some (.cells #[.slice A0 l0.length c0, .slice A1 l1.length c1] 25 (0, 0))) ∧ (Below w.heap.size w w') ∧ (w'.heap[h]? = some (.cells #[.slice A2 l2.length c2, .slice A3 l3.length c3] 27 (0, 0))) ∧ (Kd.R (Kd.int .i64) 3 w' 0 (fun _ => True) (.slice s_.1 l0.length s_.2.1) l0) ∧ (Kd.R (k78) 78 w' 0 (fun _ => True) (.slice s_.2.2.1 l1.length s_.2.2.2) l1)) ?_ ?_
                rotate_left
                · intro J10
                  refine join_ (σ := Nat) 9 #[true, false, true, true, false, true, true, false, false, false, false, false, true, false, false] (fun s_ => [(7, .pointer (some ⟨s_, 0, none⟩))]) (fun s_ w' => (w'.cell? ⟨g, 0, none⟩ = some (.slice A0 l0.length c0) ∧ w'.cell? ⟨g, 1, none⟩ = some (.slice A1 l1.length c1) ∧ w'.cell? ⟨h, 0, none⟩ = some (.slice A2 l2.length c2) ∧ w'.cell? ⟨h, 1, none⟩ = some (.slice A3 l3.length c3)) ∧ (h < s_) ∧ (w'.heap[g]? = some (.cells #[.slice A0 l0.length c0, .slice A1 l1.length c1] 25 (0, 0))) ∧ (Below w.heap.size w w') ∧ (w'.heap[h]? = some (.cells #[.slice A2 l2.length c2, .slice A3 l3.length c3] 27 (0, 0))) ∧ (w'.heap[s_]? = some (.cells #[.slice none 0 0, .slice none 0 0] 27 (0, 0)))) ?_ ?_
                  rotate_left
                  · intro J01
                    refine two_ (i := 1) (j := 12) (Ni := some 34) (Nj := some 7) #[true, true, true, true, false, true, true, false, false, false, false, false, false, false, false] #[true, false, true, true, false, true, true, false, false, false, false, false, true, false, false] rfl rfl rfl rfl (by kernel_rfl) (by decide) (by decide) (fun K hK => ?_) (fun K hK => ?_)
                    · skip
                      refine goes_ Try.func14 (by kernel_rfl) rfl #[.agg #[.slice A0 l0.length c0, .slice A1 l1.length c1]] (by rfl) rfl rfl (by (try simp only [List.map_toArray, List.map_cons, List.map_nil]); first | done | rfl) ?_
                      with_reducible refine (scarfjointref05_Copied.calls A0 c0 l0 A1 c1 l1 l0 l1 _ (Kd.C_below R0.out BL.out) M0.out (Kd.C_below R1.out BL.out) M1.out hcp).mono ?_
                      rintro e w_ ⟨v0, v1, rfl, ho0, ho1, hb⟩
                      refine ⟨_, rfl, ?_⟩
                      obtain ⟨A4, c4, rfl⟩ := Kd.R_slice ho0
                      obtain ⟨A5, c5, rfl⟩ := Kd.R_slice ho1
                      replace BG := Lib.hid (blk_below BG.out hb)
                      replace BL := Lib.hid (below_then BL.out BL.out.size hb)
                      replace BE := Lib.hid (blk_below BE.out hb)
                      have R4 := Lib.hid (toR ho0)
                      have R5 := Lib.hid (toR ho1)
                      clear ho0 ho1 hb
                      refine hK.out _ _ ⟨(cell2 BG.out).1, (cell2 BG.out).2, (cell2 BE.out).1, (cell2 BE.out).2⟩ (fun hHeld => ?_)
                      clear hK K
                      refine norm_ (a' := ?_) ?_ ?_
                      rotate_left
                      · show Act.put _ (some 34) _ = _
                        simp only [Act.put, List.setIfInBounds_toArray, List.set_cons_zero, List.set_cons_succ, i64_w, i32_w]
                        rfl
                      exact norm_ (by first | (simp only [putAll, Act.put, List.setIfInBounds_toArray, List.set_cons_zero, List.set_cons_succ]; done) | (simp only [putAll, Act.put, List.setIfInBounds_toArray, List.set_cons_zero, List.set_cons_succ]; rfl)) (J10 (A4, c4, A5, c5) _ ⟨hHeld, BG.out, BL.out, BE.out, R4.out, R5.out⟩)
                    · skip
                      refine box_step ?hg (N := 7) ?hd (cs := #[.slice none 0 0, .slice none 0 0]) (t := 27) ?hr ?_; (case hd => rfl); (case hg => rfl); (case hr => first | (go_simp; done) | (go_simp; rfl))
                      intro x hg w_ hbox hb
                      have Hx : h < x := by rw [hg]; exact blk_lt BE.out
                      replace BG := Lib.hid (blk_below BG.out hb)
                      replace BL := Lib.hid (below_then BL.out BL.out.size hb)
                      replace BE := Lib.hid (blk_below BE.out hb)
                      have BX := Lib.hid hbox
                      clear hg hbox hb
                      refine hK.out _ _ ⟨(cell2 BG.out).1, (cell2 BG.out).2, (cell2 BE.out).1, (cell2 BE.out).2⟩ (fun hHeld => ?_)
                      clear hK K
                      refine norm_ (a' := ?_) ?_ ?_
                      rotate_left
                      · show Act.put _ (some 7) _ = _
                        simp only [Act.put, List.setIfInBounds_toArray, List.set_cons_zero, List.set_cons_succ, i64_w, i32_w]
                        rfl
                      exact norm_ (by first | (simp only [putAll, Act.put, List.setIfInBounds_toArray, List.set_cons_zero, List.set_cons_succ]; done) | (simp only [putAll, Act.put, List.setIfInBounds_toArray, List.set_cons_zero, List.set_cons_succ]; rfl)) (J01 x _ ⟨hHeld, Hx, BG.out, BL.out, BE.out, BX.out⟩)
                  rintro x w_ ⟨hHeld, Hx, qBG, qBL, qBE, qBX⟩
                  replace Hx : h < x := Hx
                  replace BG : Hid (w_.heap[g]? = some (.cells #[.slice A0 l0.length c0, .slice A1 l1.length c1] 25 (0, 0))) := Lib.hid qBG; clear qBG
                  replace BL : Hid (Below w.heap.size w w_) := Lib.hid qBL; clear qBL
                  replace BE : Hid (w_.heap[h]? = some (.cells #[.slice A2 l2.length c2, .slice A3 l3.length c3] 27 (0, 0))) := Lib.hid qBE; clear qBE
                  have BX : Hid (w_.heap[x]? = some (.cells #[.slice none 0 0, .slice none 0 0] 27 (0, 0))) := Lib.hid qBX; clear qBX
                  refine norm_ (a' := ?_) ?_ ?_
                  rotate_left
                  · simp only [putAll, Act.put, List.setIfInBounds_toArray, List.set_cons_zero, List.set_cons_succ]
                    rfl
                  refine one_ (i := 1) (N := some 34) #[true, true, true, true, false, true, true, false, false, false, false, false, true, false, false] rfl rfl (by kernel_rfl) (by decide) (fun K hK => ?_)
                  refine goes_ Try.func14 (by kernel_rfl) rfl #[.agg #[.slice A0 l0.length c0, .slice A1 l1.length c1]] (by rfl) rfl rfl (by (try simp only [List.map_toArray, List.map_cons, List.map_nil]); first | done | rfl) ?_
                  with_reducible refine (scarfjointref05_Copied.calls A0 c0 l0 A1 c1 l1 l0 l1 _ (Kd.C_below R0.out BL.out) M0.out (Kd.C_below R1.out BL.out) M1.out hcp).mono ?_
                  rintro e w_ ⟨v0, v1, rfl, ho0, ho1, hb⟩
                  refine ⟨_, rfl, ?_⟩
                  obtain ⟨A4, c4, rfl⟩ := Kd.R_slice ho0
                  obtain ⟨A5, c5, rfl⟩ := Kd.R_slice ho1
                  replace BG := Lib.hid (blk_below BG.out hb)
                  replace BL := Lib.hid (below_then BL.out BL.out.size hb)
                  replace BE := Lib.hid (blk_below BE.out hb)
                  replace BX := Lib.hid (blk_below BX.out hb)
                  have R4 := Lib.hid (toR ho0)
                  have R5 := Lib.hid (toR ho1)
                  clear ho0 ho1 hb
                  refine hK.out _ _ ⟨(cell2 BG.out).1, (cell2 BG.out).2, (cell2 BE.out).1, (cell2 BE.out).2⟩ (fun hHeld => ?_)
                  clear hK K
                  refine norm_ (a' := ?_) ?_ ?_
                  rotate_left
                  · show Act.put _ (some 34) _ = _
                    simp only [Act.put, List.setIfInBounds_toArray, List.set_cons_zero, List.set_cons_succ, i64_w, i32_w]
                    rfl
                  exact norm_ (by first | (simp only [putAll, Act.put, List.setIfInBounds_toArray, List.set_cons_zero, List.set_cons_succ]; done) | (simp only [putAll, Act.put, List.setIfInBounds_toArray, List.set_cons_zero, List.set_cons_succ]; rfl)) (J11 (A4, c4, A5, c5, x) _ ⟨hHeld, Hx, BG.out, BL.out, BE.out, R4.out, R5.out, BX.out⟩)
                rintro ⟨A4, c4, A5, c5⟩ w_ ⟨hHeld, qBG, qBL, qBE, qR4, qR5⟩
                replace BG : Hid (w_.heap[g]? = some (.cells #[.slice A0 l0.length c0, .slice A1 l1.length c1] 25 (0, 0))) := Lib.hid qBG; clear qBG
                replace BL : Hid (Below w.heap.size w w_) := Lib.hid qBL; clear qBL
                replace BE : Hid (w_.heap[h]? = some (.cells #[.slice A2 l2.length c2, .slice A3 l3.length c3] 27 (0, 0))) := Lib.hid qBE; clear qBE
                have R4 : Hid (Kd.R (Kd.int .i64) 3 w_ 0 (fun _ => True) (.slice A4 l0.length c4) l0) := Lib.hid qR4; clear qR4
                have R5 : Hid (Kd.R (k78) 78 w_ 0 (fun _ => True) (.slice A5 l1.length c5) l1) := Lib.hid qR5; clear qR5
                refine norm_ (a' := ?_) ?_ ?_
                rotate_left
                · simp only [putAll, Act.put, List.setIfInBounds_toArray, List.set_cons_zero, List.set_cons_succ]
                  rfl
                refine two_ (i := 4) (j := 12) (Ni := some 37) (Nj := some 7) #[true, true, true, true, true, true, true, false, false, false, false, false, false, false, false] #[true, true, true, true, false, true, true, false, false, false, false, false, true, false, false] rfl rfl rfl rfl (by kernel_rfl) (by decide) (by decide) (fun K hK => ?_) (fun K hK => ?_)
                · skip
                  refine goes_ Try.func15 (by kernel_rfl) rfl #[.slice A2 l2.length c2] (by rfl) rfl rfl (by (try simp only [List.map_toArray, List.map_cons, List.map_nil]); first | done | rfl) ?_
                  with_reducible refine (slices_Clone_int_int.calls A2 c2 l2 l2 _ (Kd.C_below R2.out BL.out) M2.out hc2).mono ?_
                  rintro e w_ ⟨v0, rfl, ho0, hb⟩
                  refine ⟨_, rfl, ?_⟩
                  obtain ⟨A6, c6, rfl⟩ := Kd.R_slice ho0
                  replace BG := Lib.hid (blk_below BG.out hb)
                  replace BL := Lib.hid (below_then BL.out BL.out.size hb)
                  replace BE := Lib.hid (blk_below BE.out hb)
                  replace R4 := Lib.hid (Kd.R_below R4.out hb)
                  replace R5 := Lib.hid (Kd.R_below R5.out hb)
                  have R6 := Lib.hid (toR ho0)
                  clear ho0 hb
                  refine hK.out _ _ ⟨(cell2 BG.out).1, (cell2 BG.out).2, (cell2 BE.out).1, (cell2 BE.out).2⟩ (fun hHeld => ?_)
                  clear hK K
                  refine norm_ (a' := ?_) ?_ ?_
                  rotate_left
                  · show Act.put _ (some 37) _ = _
                    simp only [Act.put, List.setIfInBounds_toArray, List.set_cons_zero, List.set_cons_succ, i64_w, i32_w]
                    rfl
                  exact norm_ (by first | (simp only [putAll, Act.put, List.setIfInBounds_toArray, List.set_cons_zero, List.set_cons_succ]; done) | (simp only [putAll, Act.put, List.setIfInBounds_toArray, List.set_cons_zero, List.set_cons_succ]; rfl)) (J20 (A4, c4, A5, c5, A6, c6) _ ⟨hHeld, BG.out, BL.out, BE.out, R4.out, R5.out, R6.out⟩)
                · skip
                  refine box_step ?hg (N := 7) ?hd (cs := #[.slice none 0 0, .slice none 0 0]) (t := 27) ?hr ?_; (case hd => rfl); (case hg => rfl); (case hr => first | (go_simp; done) | (go_simp; rfl))
                  intro x hg w_ hbox hb
                  have Hx : h < x := by rw [hg]; exact blk_lt BE.out
                  replace BG := Lib.hid (blk_below BG.out hb)
                  replace BL := Lib.hid (below_then BL.out BL.out.size hb)
                  replace BE := Lib.hid (blk_below BE.out hb)
                  replace R4 := Lib.hid (Kd.R_below R4.out hb)
                  replace R5 := Lib.hid (Kd.R_below R5.out hb)
                  have BX := Lib.hid hbox
                  clear hg hbox hb
                  refine hK.out _ _ ⟨(cell2 BG.out).1, (cell2 BG.out).2, (cell2 BE.out).1, (cell2 BE.out).2⟩ (fun hHeld => ?_)
                  clear hK K
                  refine norm_ (a' := ?_) ?_ ?_
                  rotate_left
                  · show Act.put _ (some 7) _ = _
                    simp only [Act.put, List.setIfInBounds_toArray, List.set_cons_zero, List.set_cons_succ, i64_w, i32_w]
                    rfl
                  exact norm_ (by first | (simp only [putAll, Act.put, List.setIfInBounds_toArray, List.set_cons_zero, List.set_cons_succ]; done) | (simp only [putAll, Act.put, List.setIfInBounds_toArray, List.set_cons_zero, List.set_cons_succ]; rfl)) (J11 (A4, c4, A5, c5, x) _ ⟨hHeld, Hx, BG.out, BL.out, BE.out, R4.out, R5.out, BX.out⟩)
              rintro ⟨A4, c4, A5, c5, x⟩ w_ ⟨hHeld, Hx, qBG, qBL, qBE, qR4, qR5, qBX⟩
              replace Hx : h < x := Hx
              replace BG : Hid (w_.heap[g]? = some (.cells #[.slice A0 l0.length c0, .slice A1 l1.length c1] 25 (0, 0))) := Lib.hid qBG; clear qBG
              replace BL : Hid (Below w.heap.size w w_) := Lib.hid qBL; clear qBL
              replace BE : Hid (w_.heap[h]? = some (.cells #[.slice A2 l2.length c2, .slice A3 l3.length c3] 27 (0, 0))) := Lib.hid qBE; clear qBE
              have R4 : Hid (Kd.R (Kd.int .i64) 3 w_ 0 (fun _ => True) (.slice A4 l0.length c4) l0) := Lib.hid qR4; clear qR4
              have R5 : Hid (Kd.R (k78) 78 w_ 0 (fun _ => True) (.slice A5 l1.length c5) l1) := Lib.hid qR5; clear qR5
              have BX : Hid (w_.heap[x]? = some (.cells #[.slice none 0 0, .slice none 0 0] 27 (0, 0))) := Lib.hid qBX; clear qBX
              refine norm_ (a' := ?_) ?_ ?_
              rotate_left
              · simp only [putAll, Act.put, List.setIfInBounds_toArray, List.set_cons_zero, List.set_cons_succ]
                rfl
              refine one_ (i := 4) (N := some 37) #[true, true, true, true, true, true, true, false, false, false, false, false, true, false, false] rfl rfl (by kernel_rfl) (by decide) (fun K hK => ?_)
              refine goes_ Try.func15 (by kernel_rfl) rfl #[.slice A2 l2.length c2] (by rfl) rfl rfl (by (try simp only [List.map_toArray, List.map_cons, List.map_nil]); first | done | rfl) ?_
              with_reducible refine (slices_Clone_int_int.calls A2 c2 l2 l2 _ (Kd.C_below R2.out BL.out) M2.out hc2).mono ?_
              rintro e w_ ⟨v0, rfl, ho0, hb⟩
              refine ⟨_, rfl, ?_⟩
              obtain ⟨A6, c6, rfl⟩ := Kd.R_slice ho0
              replace BG := Lib.hid (blk_below BG.out hb)
              replace BL := Lib.hid (below_then BL.out BL.out.size hb)
              replace BE := Lib.hid (blk_below BE.out hb)
              replace R4 := Lib.hid (Kd.R_below R4.out hb)
              replace R5 := Lib.hid (Kd.R_below R5.out hb)
              replace BX := Lib.hid (blk_below BX.out hb)
              have R6 := Lib.hid (toR ho0)
              clear ho0 hb
              refine hK.out _ _ ⟨(cell2 BG.out).1, (cell2 BG.out).2, (cell2 BE.out).1, (cell2 BE.out).2⟩ (fun hHeld => ?_)
              clear hK K
              refine norm_ (a' := ?_) ?_ ?_
              rotate_left
              · show Act.put _ (some 37) _ = _
                simp only [Act.put, List.setIfInBounds_toArray, List.set_cons_zero, List.set_cons_succ, i64_w, i32_w]
                rfl
              exact norm_ (by first | (simp only [putAll, Act.put, List.setIfInBounds_toArray, List.set_cons_zero, List.set_cons_succ]; done) | (simp only [putAll, Act.put, List.setIfInBounds_toArray, List.set_cons_zero, List.set_cons_succ]; rfl)) (J21 (A4, c4, A5, c5, A6, c6, x) _ ⟨hHeld, Hx, BG.out, BL.out, BE.out, R4.out, R5.out, R6.out, BX.out⟩)
            rintro ⟨A4, c4, A5, c5, A6, c6⟩ w_ ⟨hHeld, qBG, qBL, qBE, qR4, qR5, qR6⟩
            replace BG : Hid (w_.heap[g]? = some (.cells #[.slice A0 l0.length c0, .slice A1 l1.length c1] 25 (0, 0))) := Lib.hid qBG; clear qBG
            replace BL : Hid (Below w.heap.size w w_) := Lib.hid qBL; clear qBL
            replace BE : Hid (w_.heap[h]? = some (.cells #[.slice A2 l2.length c2, .slice A3 l3.length c3] 27 (0, 0))) := Lib.hid qBE; clear qBE
            have R4 : Hid (Kd.R (Kd.int .i64) 3 w_ 0 (fun _ => True) (.slice A4 l0.length c4) l0) := Lib.hid qR4; clear qR4
            have R5 : Hid (Kd.R (k78) 78 w_ 0 (fun _ => True) (.slice A5 l1.length c5) l1) := Lib.hid qR5; clear qR5
            have R6 : Hid (Kd.R (Kd.int .i64) 3 w_ 0 (fun _ => True) (.slice A6 l2.length c6) l2) := Lib.hid qR6; clear qR6
            refine norm_ (a' := ?_) ?_ ?_
            rotate_left
            · simp only [putAll, Act.put, List.setIfInBounds_toArray, List.set_cons_zero, List.set_cons_succ]
              rfl
            refine two_ (i := 7) (j := 12) (Ni := some 40) (Nj := some 7) #[true, true, true, true, true, true, true, true, false, false, false, false, false, false, false] #[true, true, true, true, true, true, true, false, false, false, false, false, true, false, false] rfl rfl rfl rfl (by kernel_rfl) (by decide) (by decide) (fun K hK => ?_) (fun K hK => ?_)
            · skip
              refine goes_ Try.func15 (by kernel_rfl) rfl #[.slice A3 l3.length c3] (by rfl) rfl rfl (by (try simp only [List.map_toArray, List.map_cons, List.map_nil]); first | done | rfl) ?_
              with_reducible refine (slices_Clone_int_int.calls A3 c3 l3 l3 _ (Kd.C_below R3.out BL.out) M3.out hc3).mono ?_
              rintro e w_ ⟨v0, rfl, ho0, hb⟩
              refine ⟨_, rfl, ?_⟩
              obtain ⟨A7, c7, rfl⟩ := Kd.R_slice ho0
              replace BG := Lib.hid (blk_below BG.out hb)
              replace BL := Lib.hid (below_then BL.out BL.out.size hb)
              replace BE := Lib.hid (blk_below BE.out hb)
              replace R4 := Lib.hid (Kd.R_below R4.out hb)
              replace R5 := Lib.hid (Kd.R_below R5.out hb)
              replace R6 := Lib.hid (Kd.R_below R6.out hb)
              have R7 := Lib.hid (toR ho0)
              clear ho0 hb
              refine hK.out _ _ ⟨(cell2 BG.out).1, (cell2 BG.out).2, (cell2 BE.out).1, (cell2 BE.out).2⟩ (fun hHeld => ?_)
              clear hK K
              refine norm_ (a' := ?_) ?_ ?_
              rotate_left
              · show Act.put _ (some 40) _ = _
                simp only [Act.put, List.setIfInBounds_toArray, List.set_cons_zero, List.set_cons_succ, i64_w, i32_w]
                rfl
              exact norm_ (by first | (simp only [putAll, Act.put, List.setIfInBounds_toArray, List.set_cons_zero, List.set_cons_succ]; done) | (simp only [putAll, Act.put, List.setIfInBounds_toArray, List.set_cons_zero, List.set_cons_succ]; rfl)) (J30 (A4, c4, A5, c5, A6, c6, A7, c7) _ ⟨hHeld, BG.out, BL.out, BE.out, R4.out, R5.out, R6.out, R7.out⟩)
            · skip
              refine box_step ?hg (N := 7) ?hd (cs := #[.slice none 0 0, .slice none 0 0]) (t := 27) ?hr ?_; (case hd => rfl); (case hg => rfl); (case hr => first | (go_simp; done) | (go_simp; rfl))
              intro x hg w_ hbox hb
              have Hx : h < x := by rw [hg]; exact blk_lt BE.out
              replace BG := Lib.hid (blk_below BG.out hb)
              replace BL := Lib.hid (below_then BL.out BL.out.size hb)
              replace BE := Lib.hid (blk_below BE.out hb)
              replace R4 := Lib.hid (Kd.R_below R4.out hb)
              replace R5 := Lib.hid (Kd.R_below R5.out hb)
              replace R6 := Lib.hid (Kd.R_below R6.out hb)
              have BX := Lib.hid hbox
              clear hg hbox hb
              refine hK.out _ _ ⟨(cell2 BG.out).1, (cell2 BG.out).2, (cell2 BE.out).1, (cell2 BE.out).2⟩ (fun hHeld => ?_)
              clear hK K
              refine norm_ (a' := ?_) ?_ ?_
              rotate_left
              · show Act.put _ (some 7) _ = _
                simp only [Act.put, List.setIfInBounds_toArray, List.set_cons_zero, List.set_cons_succ, i64_w, i32_w]
                rfl
              exact norm_ (by first | (simp only [putAll, Act.put, List.setIfInBounds_toArray, List.set_cons_zero, List.set_cons_succ]; done) | (simp only [putAll, Act.put, List.setIfInBounds_toArray, List.set_cons_zero, List.set_cons_succ]; rfl)) (J21 (A4, c4, A5, c5, A6, c6, x) _ ⟨hHeld, Hx, BG.out, BL.out, BE.out, R4.out, R5.out, R6.out, BX.out⟩)
          rintro ⟨A4, c4, A5, c5, A6, c6, x⟩ w_ ⟨hHeld, Hx, qBG, qBL, qBE, qR4, qR5, qR6, qBX⟩
          replace Hx : h < x := Hx
          replace BG : Hid (w_.heap[g]? = some (.cells #[.slice A0 l0.length c0, .slice A1 l1.length c1] 25 (0, 0))) := Lib.hid qBG; clear qBG
          replace BL : Hid (Below w.heap.size w w_) := Lib.hid qBL; clear qBL
          replace BE : Hid (w_.heap[h]? = some (.cells #[.slice A2 l2.length c2, .slice A3 l3.length c3] 27 (0, 0))) := Lib.hid qBE; clear qBE
          have R4 : Hid (Kd.R (Kd.int .i64) 3 w_ 0 (fun _ => True) (.slice A4 l0.length c4) l0) := Lib.hid qR4; clear qR4
          have R5 : Hid (Kd.R (k78) 78 w_ 0 (fun _ => True) (.slice A5 l1.length c5) l1) := Lib.hid qR5; clear qR5
          have R6 : Hid (Kd.R (Kd.int .i64) 3 w_ 0 (fun _ => True) (.slice A6 l2.length c6) l2) := Lib.hid qR6; clear qR6
          have BX : Hid (w_.heap[x]? = some (.cells #[.slice none 0 0, .slice none 0 0] 27 (0, 0))) := Lib.hid qBX; clear qBX
          refine norm_ (a' := ?_) ?_ ?_
          rotate_left
          · simp only [putAll, Act.put, List.setIfInBounds_toArray, List.set_cons_zero, List.set_cons_succ]
            rfl
          refine one_ (i := 7) (N := some 40) #[true, true, true, true, true, true, true, true, false, false, false, false, true, false, false] rfl rfl (by kernel_rfl) (by decide) (fun K hK => ?_)
          refine goes_ Try.func15 (by kernel_rfl) rfl #[.slice A3 l3.length c3] (by rfl) rfl rfl (by (try simp only [List.map_toArray, List.map_cons, List.map_nil]); first | done | rfl) ?_
          with_reducible refine (slices_Clone_int_int.calls A3 c3 l3 l3 _ (Kd.C_below R3.out BL.out) M3.out hc3).mono ?_
          rintro e w_ ⟨v0, rfl, ho0, hb⟩
          refine ⟨_, rfl, ?_⟩
          obtain ⟨A7, c7, rfl⟩ := Kd.R_slice ho0
          replace BG := Lib.hid (blk_below BG.out hb)
          replace BL := Lib.hid (below_then BL.out BL.out.size hb)
          replace BE := Lib.hid (blk_below BE.out hb)
          replace R4 := Lib.hid (Kd.R_below R4.out hb)
          replace R5 := Lib.hid (Kd.R_below R5.out hb)
          replace R6 := Lib.hid (Kd.R_below R6.out hb)
          replace BX := Lib.hid (blk_below BX.out hb)
          have R7 := Lib.hid (toR ho0)
          clear ho0 hb
          refine hK.out _ _ ⟨(cell2 BG.out).1, (cell2 BG.out).2, (cell2 BE.out).1, (cell2 BE.out).2⟩ (fun hHeld => ?_)
          clear hK K
          refine norm_ (a' := ?_) ?_ ?_
          rotate_left
          · show Act.put _ (some 40) _ = _
            simp only [Act.put, List.setIfInBounds_toArray, List.set_cons_zero, List.set_cons_succ, i64_w, i32_w]
            rfl
          exact norm_ (by first | (simp only [putAll, Act.put, List.setIfInBounds_toArray, List.set_cons_zero, List.set_cons_succ]; done) | (simp only [putAll, Act.put, List.setIfInBounds_toArray, List.set_cons_zero, List.set_cons_succ]; rfl)) (J31 (A4, c4, A5, c5, A6, c6, A7, c7, x) _ ⟨hHeld, Hx, BG.out, BL.out, BE.out, R4.out, R5.out, R6.out, R7.out, BX.out⟩)
        rintro ⟨A4, c4, A5, c5, A6, c6, A7, c7⟩ w_ ⟨hHeld, qBG, qBL, qBE, qR4, qR5, qR6, qR7⟩
        replace BG : Hid (w_.heap[g]? = some (.cells #[.slice A0 l0.length c0, .slice A1 l1.length c1] 25 (0, 0))) := Lib.hid qBG; clear qBG
        replace BL : Hid (Below w.heap.size w w_) := Lib.hid qBL; clear qBL
        replace BE : Hid (w_.heap[h]? = some (.cells #[.slice A2 l2.length c2, .slice A3 l3.length c3] 27 (0, 0))) := Lib.hid qBE; clear qBE
        have R4 : Hid (Kd.R (Kd.int .i64) 3 w_ 0 (fun _ => True) (.slice A4 l0.length c4) l0) := Lib.hid qR4; clear qR4
        have R5 : Hid (Kd.R (k78) 78 w_ 0 (fun _ => True) (.slice A5 l1.length c5) l1) := Lib.hid qR5; clear qR5
        have R6 : Hid (Kd.R (Kd.int .i64) 3 w_ 0 (fun _ => True) (.slice A6 l2.length c6) l2) := Lib.hid qR6; clear qR6
        have R7 : Hid (Kd.R (Kd.int .i64) 3 w_ 0 (fun _ => True) (.slice A7 l3.length c7) l3) := Lib.hid qR7; clear qR7
        refine norm_ (a' := ?_) ?_ ?_
        rotate_left
        · simp only [putAll, Act.put, List.setIfInBounds_toArray, List.set_cons_zero, List.set_cons_succ]
          rfl
        refine two_ (i := 8) (j := 12) (Ni := some 41) (Nj := some 7) #[true, true, true, true, true, true, true, true, true, false, false, false, false, false, false] #[true, true, true, true, true, true, true, true, false, false, false, false, true, false, false] rfl rfl rfl rfl (by kernel_rfl) (by decide) (by decide) (fun K hK => ?_) (fun K hK => ?_)
        · skip
          refine goes_ Try.func13 (by kernel_rfl) rfl #[.agg #[.slice A4 l0.length c4, .slice A5 l1.length c5], .slice A6 l2.length c6, .slice A7 l3.length c7] (by rfl) rfl rfl (by (try simp only [List.map_toArray, List.map_cons, List.map_nil]); first | done | rfl) ?_
          with_reducible refine (subgraph_Close.calls A4 c4 l0 A5 c5 l1 A6 c6 l2 A7 c7 l3 p0 p1 er _ (Kd.R_reads' R4.out).2.2 (Kd.R_reads' R4.out).2.1 (Kd.R_reads' R5.out).2.2 (Kd.R_reads' R5.out).2.1 (Kd.R_reads' R6.out).2.2 (Kd.R_reads' R6.out).2.1 (Kd.R_reads' R7.out).2.2 (Kd.R_reads' R7.out).2.1 h1).mono ?_
          rintro e w_ ⟨v0, v1, rfl, ho0, ho1, hb⟩
          refine ⟨_, rfl, ?_⟩
          obtain ⟨A8, c8, rfl⟩ := Kd.R_slice ho0
          obtain ⟨A9, c9, rfl⟩ := Kd.R_slice ho1
          replace BG := Lib.hid (blk_below BG.out hb)
          replace BL := Lib.hid (below_then BL.out BL.out.size hb)
          replace BE := Lib.hid (blk_below BE.out hb)
          replace R4 := Lib.hid (Kd.R_below R4.out hb)
          replace R5 := Lib.hid (Kd.R_below R5.out hb)
          replace R6 := Lib.hid (Kd.R_below R6.out hb)
          replace R7 := Lib.hid (Kd.R_below R7.out hb)
          have R8 := Lib.hid (toR ho0)
          have R9 := Lib.hid (toR ho1)
          clear ho0 ho1 hb
          refine hK.out _ _ ⟨(cell2 BG.out).1, (cell2 BG.out).2, (cell2 BE.out).1, (cell2 BE.out).2⟩ (fun hHeld => ?_)
          clear hK K
          refine norm_ (a' := ?_) ?_ ?_
          rotate_left
          · show Act.put _ (some 41) _ = _
            simp only [Act.put, List.setIfInBounds_toArray, List.set_cons_zero, List.set_cons_succ, i64_w, i32_w]
            rfl
          refine pure_ (i := 9) (N := some 32) (v := ?_) (a' := ?_) #[true, true, true, true, true, true, true, true, true, true, false, false, false, false, false] rfl rfl (by kernel_rfl) (fun _ _ _ h => h) (Or.inl ⟨by rfl, ?_⟩) ?_ ?_
          rotate_left
          · intro w'
            go_simp
            with_reducible rfl
          rotate_left
          · simp only [Act.put, List.setIfInBounds_toArray, List.set_cons_zero, List.set_cons_succ, i64_w, i32_w]
            rfl
          refine pure_ (i := 10) (N := some 42) (v := ?_) (a' := ?_) #[true, true, true, true, true, true, true, true, true, true, true, false, false, false, false] rfl rfl (by kernel_rfl) (fun _ _ _ h => h) (Or.inl ⟨by rfl, ?_⟩) ?_ ?_
          rotate_left
          · intro w'
            go_simp
            with_reducible rfl
          rotate_left
          · simp only [Act.put, List.setIfInBounds_toArray, List.set_cons_zero, List.set_cons_succ, i64_w, i32_w]
            rfl
          refine pure_ (i := 11) (N := some 43) (v := ?_) (a' := ?_) #[true, true, true, true, true, true, true, true, true, true, true, true, false, false, false] rfl rfl (by kernel_rfl) (fun _ _ _ h => h) (Or.inl ⟨by rfl, ?_⟩) ?_ ?_
          rotate_left
          · intro w'
            go_simp
            with_reducible rfl
          rotate_left
          · simp only [Act.put, List.setIfInBounds_toArray, List.set_cons_zero, List.set_cons_succ, i64_w, i32_w]
            rfl
          exact norm_ (by first | (simp only [putAll, Act.put, List.setIfInBounds_toArray, List.set_cons_zero, List.set_cons_succ]; done) | (simp only [putAll, Act.put, List.setIfInBounds_toArray, List.set_cons_zero, List.set_cons_succ]; rfl)) (J40 (A4, c4, A5, c5, A6, c6, A7, c7, A8, c8, A9, c9) _ ⟨hHeld, BG.out, BL.out, BE.out, R4.out, R5.out, R6.out, R7.out, R8.out, R9.out⟩)
        · skip
          refine box_step ?hg (N := 7) ?hd (cs := #[.slice none 0 0, .slice none 0 0]) (t := 27) ?hr ?_; (case hd => rfl); (case hg => rfl); (case hr => first | (go_simp; done) | (go_simp; rfl))
          intro x hg w_ hbox hb
          have Hx : h < x := by rw [hg]; exact blk_lt BE.out
          replace BG := Lib.hid (blk_below BG.out hb)
          replace BL := Lib.hid (below_then BL.out BL.out.size hb)
          replace BE := Lib.hid (blk_below BE.out hb)
          replace R4 := Lib.hid (Kd.R_below R4.out hb)
          replace R5 := Lib.hid (Kd.R_below R5.out hb)
          replace R6 := Lib.hid (Kd.R_below R6.out hb)
          replace R7 := Lib.hid (Kd.R_below R7.out hb)
          have BX := Lib.hid hbox
          clear hg hbox hb
          refine hK.out _ _ ⟨(cell2 BG.out).1, (cell2 BG.out).2, (cell2 BE.out).1, (cell2 BE.out).2⟩ (fun hHeld => ?_)
          clear hK K
          refine norm_ (a' := ?_) ?_ ?_
          rotate_left
          · show Act.put _ (some 7) _ = _
            simp only [Act.put, List.setIfInBounds_toArray, List.set_cons_zero, List.set_cons_succ, i64_w, i32_w]
            rfl
          exact norm_ (by first | (simp only [putAll, Act.put, List.setIfInBounds_toArray, List.set_cons_zero, List.set_cons_succ]; done) | (simp only [putAll, Act.put, List.setIfInBounds_toArray, List.set_cons_zero, List.set_cons_succ]; rfl)) (J31 (A4, c4, A5, c5, A6, c6, A7, c7, x) _ ⟨hHeld, Hx, BG.out, BL.out, BE.out, R4.out, R5.out, R6.out, R7.out, BX.out⟩)
      rintro ⟨A4, c4, A5, c5, A6, c6, A7, c7, x⟩ w_ ⟨hHeld, Hx, qBG, qBL, qBE, qR4, qR5, qR6, qR7, qBX⟩
      replace Hx : h < x := Hx
      replace BG : Hid (w_.heap[g]? = some (.cells #[.slice A0 l0.length c0, .slice A1 l1.length c1] 25 (0, 0))) := Lib.hid qBG; clear qBG
      replace BL : Hid (Below w.heap.size w w_) := Lib.hid qBL; clear qBL
      replace BE : Hid (w_.heap[h]? = some (.cells #[.slice A2 l2.length c2, .slice A3 l3.length c3] 27 (0, 0))) := Lib.hid qBE; clear qBE
      have R4 : Hid (Kd.R (Kd.int .i64) 3 w_ 0 (fun _ => True) (.slice A4 l0.length c4) l0) := Lib.hid qR4; clear qR4
      have R5 : Hid (Kd.R (k78) 78 w_ 0 (fun _ => True) (.slice A5 l1.length c5) l1) := Lib.hid qR5; clear qR5
      have R6 : Hid (Kd.R (Kd.int .i64) 3 w_ 0 (fun _ => True) (.slice A6 l2.length c6) l2) := Lib.hid qR6; clear qR6
      have R7 : Hid (Kd.R (Kd.int .i64) 3 w_ 0 (fun _ => True) (.slice A7 l3.length c7) l3) := Lib.hid qR7; clear qR7
      have BX : Hid (w_.heap[x]? = some (.cells #[.slice none 0 0, .slice none 0 0] 27 (0, 0))) := Lib.hid qBX; clear qBX
      refine norm_ (a' := ?_) ?_ ?_
      rotate_left
      · simp only [putAll, Act.put, List.setIfInBounds_toArray, List.set_cons_zero, List.set_cons_succ]
        rfl
      refine one_ (i := 8) (N := some 41) #[true, true, true, true, true, true, true, true, true, false, false, false, true, false, false] rfl rfl (by kernel_rfl) (by decide) (fun K hK => ?_)
      refine goes_ Try.func13 (by kernel_rfl) rfl #[.agg #[.slice A4 l0.length c4, .slice A5 l1.length c5], .slice A6 l2.length c6, .slice A7 l3.length c7] (by rfl) rfl rfl (by (try simp only [List.map_toArray, List.map_cons, List.map_nil]); first | done | rfl) ?_
      with_reducible refine (subgraph_Close.calls A4 c4 l0 A5 c5 l1 A6 c6 l2 A7 c7 l3 p0 p1 er _ (Kd.R_reads' R4.out).2.2 (Kd.R_reads' R4.out).2.1 (Kd.R_reads' R5.out).2.2 (Kd.R_reads' R5.out).2.1 (Kd.R_reads' R6.out).2.2 (Kd.R_reads' R6.out).2.1 (Kd.R_reads' R7.out).2.2 (Kd.R_reads' R7.out).2.1 h1).mono ?_
      rintro e w_ ⟨v0, v1, rfl, ho0, ho1, hb⟩
      refine ⟨_, rfl, ?_⟩
      obtain ⟨A8, c8, rfl⟩ := Kd.R_slice ho0
      obtain ⟨A9, c9, rfl⟩ := Kd.R_slice ho1
      replace BG := Lib.hid (blk_below BG.out hb)
      replace BL := Lib.hid (below_then BL.out BL.out.size hb)
      replace BE := Lib.hid (blk_below BE.out hb)
      replace R4 := Lib.hid (Kd.R_below R4.out hb)
      replace R5 := Lib.hid (Kd.R_below R5.out hb)
      replace R6 := Lib.hid (Kd.R_below R6.out hb)
      replace R7 := Lib.hid (Kd.R_below R7.out hb)
      replace BX := Lib.hid (blk_below BX.out hb)
      have R8 := Lib.hid (toR ho0)
      have R9 := Lib.hid (toR ho1)
      clear ho0 ho1 hb
      refine hK.out _ _ ⟨(cell2 BG.out).1, (cell2 BG.out).2, (cell2 BE.out).1, (cell2 BE.out).2⟩ (fun hHeld => ?_)
      clear hK K
      refine norm_ (a' := ?_) ?_ ?_
      rotate_left
      · show Act.put _ (some 41) _ = _
        simp only [Act.put, List.setIfInBounds_toArray, List.set_cons_zero, List.set_cons_succ, i64_w, i32_w]
        rfl
      refine pure_ (i := 9) (N := some 32) (v := ?_) (a' := ?_) #[true, true, true, true, true, true, true, true, true, true, false, false, true, false, false] rfl rfl (by kernel_rfl) (fun _ _ _ h => h) (Or.inl ⟨by rfl, ?_⟩) ?_ ?_
      rotate_left
      · intro w'
        go_simp
        with_reducible rfl
      rotate_left
      · simp only [Act.put, List.setIfInBounds_toArray, List.set_cons_zero, List.set_cons_succ, i64_w, i32_w]
        rfl
      refine pure_ (i := 10) (N := some 42) (v := ?_) (a' := ?_) #[true, true, true, true, true, true, true, true, true, true, true, false, true, false, false] rfl rfl (by kernel_rfl) (fun _ _ _ h => h) (Or.inl ⟨by rfl, ?_⟩) ?_ ?_
      rotate_left
      · intro w'
        go_simp
        with_reducible rfl
      rotate_left
      · simp only [Act.put, List.setIfInBounds_toArray, List.set_cons_zero, List.set_cons_succ, i64_w, i32_w]
        rfl
      refine pure_ (i := 11) (N := some 43) (v := ?_) (a' := ?_) #[true, true, true, true, true, true, true, true, true, true, true, true, true, false, false] rfl rfl (by kernel_rfl) (fun _ _ _ h => h) (Or.inl ⟨by rfl, ?_⟩) ?_ ?_
      rotate_left
      · intro w'
        go_simp
        with_reducible rfl
      rotate_left
      · simp only [Act.put, List.setIfInBounds_toArray, List.set_cons_zero, List.set_cons_succ, i64_w, i32_w]
        rfl
      exact norm_ (by first | (simp only [putAll, Act.put, List.setIfInBounds_toArray, List.set_cons_zero, List.set_cons_succ]; done) | (simp only [putAll, Act.put, List.setIfInBounds_toArray, List.set_cons_zero, List.set_cons_succ]; rfl)) (J41 (A4, c4, A5, c5, A6, c6, A7, c7, A8, c8, A9, c9, x) _ ⟨hHeld, Hx, BG.out, BL.out, BE.out, R4.out, R5.out, R6.out, R7.out, R8.out, R9.out, BX.out⟩)
    rintro ⟨A4, c4, A5, c5, A6, c6, A7, c7, A8, c8, A9, c9⟩ w_ ⟨hHeld, qBG, qBL, qBE, qR4, qR5, qR6, qR7, qR8, qR9⟩
    replace BG : Hid (w_.heap[g]? = some (.cells #[.slice A0 l0.length c0, .slice A1 l1.length c1] 25 (0, 0))) := Lib.hid qBG; clear qBG
    replace BL : Hid (Below w.heap.size w w_) := Lib.hid qBL; clear qBL
    replace BE : Hid (w_.heap[h]? = some (.cells #[.slice A2 l2.length c2, .slice A3 l3.length c3] 27 (0, 0))) := Lib.hid qBE; clear qBE
    have R4 : Hid (Kd.R (Kd.int .i64) 3 w_ 0 (fun _ => True) (.slice A4 l0.length c4) l0) := Lib.hid qR4; clear qR4
    have R5 : Hid (Kd.R (k78) 78 w_ 0 (fun _ => True) (.slice A5 l1.length c5) l1) := Lib.hid qR5; clear qR5
    have R6 : Hid (Kd.R (Kd.int .i64) 3 w_ 0 (fun _ => True) (.slice A6 l2.length c6) l2) := Lib.hid qR6; clear qR6
    have R7 : Hid (Kd.R (Kd.int .i64) 3 w_ 0 (fun _ => True) (.slice A7 l3.length c7) l3) := Lib.hid qR7; clear qR7
    have R8 : Hid (Kd.R (Kd.int .i64) 3 w_ 0 (fun _ => True) (.slice A8 p0.length c8) p0) := Lib.hid qR8; clear qR8
    have R9 : Hid (Kd.R (Kd.int .i64) 3 w_ 0 (fun _ => True) (.slice A9 p1.length c9) p1) := Lib.hid qR9; clear qR9
    refine norm_ (a' := ?_) ?_ ?_
    rotate_left
    · simp only [putAll, Act.put, List.setIfInBounds_toArray, List.set_cons_zero, List.set_cons_succ]
      rfl
    refine one_ (i := 12) (N := some 7) #[true, true, true, true, true, true, true, true, true, true, true, true, true, false, false] rfl rfl (by kernel_rfl) (by decide) (fun K hK => ?_)
    refine box_step ?hg (N := 7) ?hd (cs := #[.slice none 0 0, .slice none 0 0]) (t := 27) ?hr ?_; (case hd => rfl); (case hg => rfl); (case hr => first | (go_simp; done) | (go_simp; rfl))
    intro x hg w_ hbox hb
    have Hx : h < x := by rw [hg]; exact blk_lt BE.out
    replace BG := Lib.hid (blk_below BG.out hb)
    replace BL := Lib.hid (below_then BL.out BL.out.size hb)
    replace BE := Lib.hid (blk_below BE.out hb)
    replace R4 := Lib.hid (Kd.R_below R4.out hb)
    replace R5 := Lib.hid (Kd.R_below R5.out hb)
    replace R6 := Lib.hid (Kd.R_below R6.out hb)
    replace R7 := Lib.hid (Kd.R_below R7.out hb)
    replace R8 := Lib.hid (Kd.R_below R8.out hb)
    replace R9 := Lib.hid (Kd.R_below R9.out hb)
    have BX := Lib.hid hbox
    clear hg hbox hb
    refine hK.out _ _ ⟨(cell2 BG.out).1, (cell2 BG.out).2, (cell2 BE.out).1, (cell2 BE.out).2⟩ (fun hHeld => ?_)
    clear hK K
    refine norm_ (a' := ?_) ?_ ?_
    rotate_left
    · show Act.put _ (some 7) _ = _
      simp only [Act.put, List.setIfInBounds_toArray, List.set_cons_zero, List.set_cons_succ, i64_w, i32_w]
      rfl
    exact norm_ (by first | (simp only [putAll, Act.put, List.setIfInBounds_toArray, List.set_cons_zero, List.set_cons_succ]; done) | (simp only [putAll, Act.put, List.setIfInBounds_toArray, List.set_cons_zero, List.set_cons_succ]; rfl)) (J41 (A4, c4, A5, c5, A6, c6, A7, c7, A8, c8, A9, c9, x) _ ⟨hHeld, Hx, BG.out, BL.out, BE.out, R4.out, R5.out, R6.out, R7.out, R8.out, R9.out, BX.out⟩)
  rintro ⟨A4, c4, A5, c5, A6, c6, A7, c7, A8, c8, A9, c9, x⟩ w_ ⟨hHeld, Hx, qBG, qBL, qBE, qR4, qR5, qR6, qR7, qR8, qR9, qBX⟩
  replace Hx : h < x := Hx
  replace BG : Hid (w_.heap[g]? = some (.cells #[.slice A0 l0.length c0, .slice A1 l1.length c1] 25 (0, 0))) := Lib.hid qBG; clear qBG
  replace BL : Hid (Below w.heap.size w w_) := Lib.hid qBL; clear qBL
  replace BE : Hid (w_.heap[h]? = some (.cells #[.slice A2 l2.length c2, .slice A3 l3.length c3] 27 (0, 0))) := Lib.hid qBE; clear qBE
  have R4 : Hid (Kd.R (Kd.int .i64) 3 w_ 0 (fun _ => True) (.slice A4 l0.length c4) l0) := Lib.hid qR4; clear qR4
  have R5 : Hid (Kd.R (k78) 78 w_ 0 (fun _ => True) (.slice A5 l1.length c5) l1) := Lib.hid qR5; clear qR5
  have R6 : Hid (Kd.R (Kd.int .i64) 3 w_ 0 (fun _ => True) (.slice A6 l2.length c6) l2) := Lib.hid qR6; clear qR6
  have R7 : Hid (Kd.R (Kd.int .i64) 3 w_ 0 (fun _ => True) (.slice A7 l3.length c7) l3) := Lib.hid qR7; clear qR7
  have R8 : Hid (Kd.R (Kd.int .i64) 3 w_ 0 (fun _ => True) (.slice A8 p0.length c8) p0) := Lib.hid qR8; clear qR8
  have R9 : Hid (Kd.R (Kd.int .i64) 3 w_ 0 (fun _ => True) (.slice A9 p1.length c9) p1) := Lib.hid qR9; clear qR9
  have BX : Hid (w_.heap[x]? = some (.cells #[.slice none 0 0, .slice none 0 0] 27 (0, 0))) := Lib.hid qBX; clear qBX
  refine norm_ (a' := ?_) ?_ ?_
  rotate_left
  · simp only [putAll, Act.put, List.setIfInBounds_toArray, List.set_cons_zero, List.set_cons_succ]
    rfl
  refine one_ (i := 13) (N := none) #[true, true, true, true, true, true, true, true, true, true, true, true, true, true, false] rfl rfl (by kernel_rfl) (by decide) (fun K hK => ?_)
  obtain ⟨y0_, y1_⟩ := cell2 BX.out
  have f0_ := blk_frozen BX.out 0
  have f1_ := blk_frozen BX.out 1
  refine skip_ (w1 := ?_) (by rfl) rfl ?_ ?_
  rotate_left
  · go_simp
    rfl
  clear y0_ y1_ f0_ f1_
  replace BG := Lib.hid (blk_far BG.out (p := ⟨x, 0, none⟩) (by show g ≠ x; omega) (.slice A8 p0.length c8))
  replace BL := Lib.hid (below_set (g := x) (j := 0) (v := .slice A8 p0.length c8) BL.out (by omega))
  replace BE := Lib.hid (blk_far BE.out (p := ⟨x, 0, none⟩) (by show h ≠ x; omega) (.slice A8 p0.length c8))
  replace R4 := Lib.hid (Kd.R_set R4.out BX.out int_ne27 0 (.slice A8 p0.length c8))
  replace R5 := Lib.hid (Kd.R_set R5.out BX.out k78_ne27 0 (.slice A8 p0.length c8))
  replace R6 := Lib.hid (Kd.R_set R6.out BX.out int_ne27 0 (.slice A8 p0.length c8))
  replace R7 := Lib.hid (Kd.R_set R7.out BX.out int_ne27 0 (.slice A8 p0.length c8))
  replace R8 := Lib.hid (Kd.R_set R8.out BX.out int_ne27 0 (.slice A8 p0.length c8))
  replace R9 := Lib.hid (Kd.R_set R9.out BX.out int_ne27 0 (.slice A8 p0.length c8))
  replace BX := Lib.hid (blk_put (cs' := #[.slice A8 p0.length c8, .slice none 0 0]) BX.out 0 (.slice A8 p0.length c8) rfl)
  replace BG := Lib.hid (blk_far BG.out (p := ⟨x, 1, none⟩) (by show g ≠ x; omega) (.slice A9 p1.length c9))
  replace BL := Lib.hid (below_set (g := x) (j := 1) (v := .slice A9 p1.length c9) BL.out (by omega))
  replace BE := Lib.hid (blk_far BE.out (p := ⟨x, 1, none⟩) (by show h ≠ x; omega) (.slice A9 p1.length c9))
  replace R4 := Lib.hid (Kd.R_set R4.out BX.out int_ne27 1 (.slice A9 p1.length c9))
  replace R5 := Lib.hid (Kd.R_set R5.out BX.out k78_ne27 1 (.slice A9 p1.length c9))
  replace R6 := Lib.hid (Kd.R_set R6.out BX.out int_ne27 1 (.slice A9 p1.length c9))
  replace R7 := Lib.hid (Kd.R_set R7.out BX.out int_ne27 1 (.slice A9 p1.length c9))
  replace R8 := Lib.hid (Kd.R_set R8.out BX.out int_ne27 1 (.slice A9 p1.length c9))
  replace R9 := Lib.hid (Kd.R_set R9.out BX.out int_ne27 1 (.slice A9 p1.length c9))
  replace BX := Lib.hid (blk_put (cs' := #[.slice A8 p0.length c8, .slice A9 p1.length c9]) BX.out 1 (.slice A9 p1.length c9) rfl)
  refine hK.out _ _ ⟨(cell2 BG.out).1, (cell2 BG.out).2, (cell2 BE.out).1, (cell2 BE.out).2⟩ (fun hHeld => ?_)
  clear hK K
  refine pure_ (i := 14) (N := some 8) (v := ?_) (a' := ?_) #[true, true, true, true, true, true, true, true, true, true, true, true, true, true, true] rfl rfl (by kernel_rfl) (fun _ _ _ h => h) (Or.inl ⟨by rfl, ?_⟩) ?_ ?_
  rotate_left
  · intro w'
    go_simp
    with_reducible rfl
  rotate_left
  · simp only [Act.put, List.setIfInBounds_toArray, List.set_cons_zero, List.set_cons_succ, i64_w, i32_w]
    rfl
  refine done_ (by kernel_rfl) ?_
  obtain ⟨zBG_0, zBG_1⟩ := cell2 BG.out
  obtain ⟨zBE_0, zBE_1⟩ := cell2 BE.out
  go_upto_region 5 with (first
    | (go_at_call 16; with_reducible refine (scarfjointref07_Close.calls k A0 c0 l0 A1 c1 l1 A2 c2 l2 A3 c3 l3 p0 p1 er _ (Kd.C_below R0.out BL.out) M0.out (Kd.C_below R1.out BL.out) M1.out (Kd.C_below R2.out BL.out) M2.out (Kd.C_below R3.out BL.out) M3.out h2).mono ?_; rintro e w_ ⟨v0, v1, rfl, ho0, ho1, hb⟩; clear zBG_0 zBG_1 zBE_0 zBE_1; obtain ⟨A10, c10, rfl⟩ := Kd.R_slice ho0; obtain ⟨A11, c11, rfl⟩ := Kd.R_slice ho1; replace BG := Lib.hid (blk_below BG.out hb); replace BL := Lib.hid (below_then BL.out BL.out.size hb); replace BE := Lib.hid (blk_below BE.out hb); replace R4 := Lib.hid (Kd.R_below R4.out hb); replace R5 := Lib.hid (Kd.R_below R5.out hb); replace R6 := Lib.hid (Kd.R_below R6.out hb); replace R7 := Lib.hid (Kd.R_below R7.out hb); replace R8 := Lib.hid (Kd.R_below R8.out hb); replace R9 := Lib.hid (Kd.R_below R9.out hb); replace BX := Lib.hid (blk_below BX.out hb); have R10 := Lib.hid (toR (ho0)); have R11 := Lib.hid (toR (ho1)); clear ho0 ho1 hb; obtain ⟨zBG_0, zBG_1⟩ := cell2 BG.out; obtain ⟨zBE_0, zBE_1⟩ := cell2 BE.out)
    | ((with_reducible refine gate_dst (N := 9) rfl ?_); (try (refine gate_guard (by rfl) ?_; dsimp only)); refine box_event ?hg (N := 9) ?hd (cs := #[.slice none 0 0, .slice none 0 0]) (t := 27) ?hr ?_; (case hd => rfl); (case hg => rfl); (case hr => first | (go_simp; done) | (go_simp; rfl)); intro y hg w_ hbox hb; clear zBG_0 zBG_1 zBE_0 zBE_1; have Hy : x < y := (hg ▸ blk_lt BX.out); replace BG := Lib.hid (blk_below BG.out hb); replace BL := Lib.hid (below_then BL.out BL.out.size hb); replace BE := Lib.hid (blk_below BE.out hb); replace R4 := Lib.hid (Kd.R_below R4.out hb); replace R5 := Lib.hid (Kd.R_below R5.out hb); replace R6 := Lib.hid (Kd.R_below R6.out hb); replace R7 := Lib.hid (Kd.R_below R7.out hb); replace R8 := Lib.hid (Kd.R_below R8.out hb); replace R9 := Lib.hid (Kd.R_below R9.out hb); replace BX := Lib.hid (blk_below BX.out hb); replace R10 := Lib.hid (Kd.R_below R10.out hb); replace R11 := Lib.hid (Kd.R_below R11.out hb); have BY := Lib.hid (hbox); clear hg hbox hb; obtain ⟨y0_, y1_⟩ := cell2 BY.out; have f0_ := blk_frozen BY.out 0; have f1_ := blk_frozen BY.out 1))
  clear y0_ y1_ f0_ f1_
  replace BG := Lib.hid (blk_far BG.out (p := ⟨y, 0, none⟩) (by show g ≠ y; omega) (.slice A10 p0.length c10))
  replace BL := Lib.hid (below_set (g := y) (j := 0) (v := .slice A10 p0.length c10) BL.out (by omega))
  replace BE := Lib.hid (blk_far BE.out (p := ⟨y, 0, none⟩) (by show h ≠ y; omega) (.slice A10 p0.length c10))
  replace R4 := Lib.hid (Kd.R_set R4.out BY.out int_ne27 0 (.slice A10 p0.length c10))
  replace R5 := Lib.hid (Kd.R_set R5.out BY.out k78_ne27 0 (.slice A10 p0.length c10))
  replace R6 := Lib.hid (Kd.R_set R6.out BY.out int_ne27 0 (.slice A10 p0.length c10))
  replace R7 := Lib.hid (Kd.R_set R7.out BY.out int_ne27 0 (.slice A10 p0.length c10))
  replace R8 := Lib.hid (Kd.R_set R8.out BY.out int_ne27 0 (.slice A10 p0.length c10))
  replace R9 := Lib.hid (Kd.R_set R9.out BY.out int_ne27 0 (.slice A10 p0.length c10))
  replace BX := Lib.hid (blk_far BX.out (p := ⟨y, 0, none⟩) (by show x ≠ y; omega) (.slice A10 p0.length c10))
  replace R10 := Lib.hid (Kd.R_set R10.out BY.out int_ne27 0 (.slice A10 p0.length c10))
  replace R11 := Lib.hid (Kd.R_set R11.out BY.out int_ne27 0 (.slice A10 p0.length c10))
  replace BY := Lib.hid (blk_put (cs' := #[.slice A10 p0.length c10, .slice none 0 0]) BY.out 0 (.slice A10 p0.length c10) rfl)
  replace BG := Lib.hid (blk_far BG.out (p := ⟨y, 1, none⟩) (by show g ≠ y; omega) (.slice A11 p1.length c11))
  replace BL := Lib.hid (below_set (g := y) (j := 1) (v := .slice A11 p1.length c11) BL.out (by omega))
  replace BE := Lib.hid (blk_far BE.out (p := ⟨y, 1, none⟩) (by show h ≠ y; omega) (.slice A11 p1.length c11))
  replace R4 := Lib.hid (Kd.R_set R4.out BY.out int_ne27 1 (.slice A11 p1.length c11))
  replace R5 := Lib.hid (Kd.R_set R5.out BY.out k78_ne27 1 (.slice A11 p1.length c11))
  replace R6 := Lib.hid (Kd.R_set R6.out BY.out int_ne27 1 (.slice A11 p1.length c11))
  replace R7 := Lib.hid (Kd.R_set R7.out BY.out int_ne27 1 (.slice A11 p1.length c11))
  replace R8 := Lib.hid (Kd.R_set R8.out BY.out int_ne27 1 (.slice A11 p1.length c11))
  replace R9 := Lib.hid (Kd.R_set R9.out BY.out int_ne27 1 (.slice A11 p1.length c11))
  replace BX := Lib.hid (blk_far BX.out (p := ⟨y, 1, none⟩) (by show x ≠ y; omega) (.slice A11 p1.length c11))
  replace R10 := Lib.hid (Kd.R_set R10.out BY.out int_ne27 1 (.slice A11 p1.length c11))
  replace R11 := Lib.hid (Kd.R_set R11.out BY.out int_ne27 1 (.slice A11 p1.length c11))
  replace BY := Lib.hid (blk_put (cs' := #[.slice A10 p0.length c10, .slice A11 p1.length c11]) BY.out 1 (.slice A11 p1.length c11) rfl)
  obtain ⟨zBX_0, zBX_1⟩ := cell2 BX.out
  obtain ⟨zBY_0, zBY_1⟩ := cell2 BY.out
  by_cases he : er = 0
  · subst he
    obtain ⟨o0, o1, b, h5, h6, h7⟩ := h4 rfl
    replace h5 := Lib.hid h5
    replace h6 := Lib.hid h6
    replace h7 := Lib.hid h7
    go_upto_region 7 with (first
      | (go_at_call 17; with_reducible refine (scarfjointref07_Same.calls k A8 c8 p0 A9 c9 p1 A10 c10 p0 A11 c11 p1 true _ (Kd.R_reads' R8.out).2.2 (Kd.R_reads' R8.out).2.1 (Kd.R_reads' R9.out).2.2 (Kd.R_reads' R9.out).2.1 (Kd.R_reads' R10.out).2.2 (Kd.R_reads' R10.out).2.1 (Kd.R_reads' R11.out).2.2 (Kd.R_reads' R11.out).2.1 h3).mono ?_; rintro e w_ ⟨rfl, hb⟩; clear zBX_0 zBX_1 zBY_0 zBY_1; replace BG := Lib.hid (blk_below BG.out hb); replace BL := Lib.hid (below_then BL.out BL.out.size hb); replace BE := Lib.hid (blk_below BE.out hb); replace R4 := Lib.hid (Kd.R_below R4.out hb); replace R5 := Lib.hid (Kd.R_below R5.out hb); replace R6 := Lib.hid (Kd.R_below R6.out hb); replace R7 := Lib.hid (Kd.R_below R7.out hb); replace R8 := Lib.hid (Kd.R_below R8.out hb); replace R9 := Lib.hid (Kd.R_below R9.out hb); replace BX := Lib.hid (blk_below BX.out hb); replace R10 := Lib.hid (Kd.R_below R10.out hb); replace R11 := Lib.hid (Kd.R_below R11.out hb); replace BY := Lib.hid (blk_below BY.out hb); clear hb; obtain ⟨zBX_0, zBX_1⟩ := cell2 BX.out; obtain ⟨zBY_0, zBY_1⟩ := cell2 BY.out))
    clear zBX_0 zBX_1 zBY_0 zBY_1
    obtain ⟨zBG_0, zBG_1⟩ := cell2 BG.out
    go_upto_region 8 with (first
      | (go_at_call 18; with_reducible refine (scarfjointref07_Made.calls k A0 c0 l0 A1 c1 l1 a2 o0 o1 _ (Kd.C_below R0.out BL.out) M0.out (Kd.C_below R1.out BL.out) M1.out h5.out).mono ?_; rintro e w_ ⟨v0, v1, rfl, ho0, ho1, hb⟩; clear zBG_0 zBG_1; obtain ⟨A12, c12, rfl⟩ := Kd.R_slice ho0; obtain ⟨A13, c13, rfl⟩ := Kd.R_slice ho1; replace BG := Lib.hid (blk_below BG.out hb); replace BL := Lib.hid (below_then BL.out BL.out.size hb); replace BE := Lib.hid (blk_below BE.out hb); replace R4 := Lib.hid (Kd.R_below R4.out hb); replace R5 := Lib.hid (Kd.R_below R5.out hb); replace R6 := Lib.hid (Kd.R_below R6.out hb); replace R7 := Lib.hid (Kd.R_below R7.out hb); replace R8 := Lib.hid (Kd.R_below R8.out hb); replace R9 := Lib.hid (Kd.R_below R9.out hb); replace BX := Lib.hid (blk_below BX.out hb); replace R10 := Lib.hid (Kd.R_below R10.out hb); replace R11 := Lib.hid (Kd.R_below R11.out hb); replace BY := Lib.hid (blk_below BY.out hb); have R12 := Lib.hid (toR (ho0)); have R13 := Lib.hid (toR (ho1)); clear ho0 ho1 hb; obtain ⟨zBG_0, zBG_1⟩ := cell2 BG.out)
      | ((with_reducible refine gate_dst (N := 11) rfl ?_); (try (refine gate_guard (by rfl) ?_; dsimp only)); refine box_event ?hg (N := 11) ?hd (cs := #[.slice none 0 0, .slice none 0 0]) (t := 27) ?hr ?_; (case hd => rfl); (case hg => rfl); (case hr => first | (go_simp; done) | (go_simp; rfl)); intro z hg w_ hbox hb; clear zBG_0 zBG_1; have Hz : y < z := (hg ▸ blk_lt BY.out); replace BG := Lib.hid (blk_below BG.out hb); replace BL := Lib.hid (below_then BL.out BL.out.size hb); replace BE := Lib.hid (blk_below BE.out hb); replace R4 := Lib.hid (Kd.R_below R4.out hb); replace R5 := Lib.hid (Kd.R_below R5.out hb); replace R6 := Lib.hid (Kd.R_below R6.out hb); replace R7 := Lib.hid (Kd.R_below R7.out hb); replace R8 := Lib.hid (Kd.R_below R8.out hb); replace R9 := Lib.hid (Kd.R_below R9.out hb); replace BX := Lib.hid (blk_below BX.out hb); replace R10 := Lib.hid (Kd.R_below R10.out hb); replace R11 := Lib.hid (Kd.R_below R11.out hb); replace BY := Lib.hid (blk_below BY.out hb); replace R12 := Lib.hid (Kd.R_below R12.out hb); replace R13 := Lib.hid (Kd.R_below R13.out hb); have BZ := Lib.hid (hbox); clear hg hbox hb; obtain ⟨y0_, y1_⟩ := cell2 BZ.out; have f0_ := blk_frozen BZ.out 0; have f1_ := blk_frozen BZ.out 1))
    clear y0_ y1_ f0_ f1_
    replace BG := Lib.hid (blk_far BG.out (p := ⟨z, 0, none⟩) (by show g ≠ z; omega) (.slice A12 o0.length c12))
    replace BL := Lib.hid (below_set (g := z) (j := 0) (v := .slice A12 o0.length c12) BL.out (by omega))
    replace BE := Lib.hid (blk_far BE.out (p := ⟨z, 0, none⟩) (by show h ≠ z; omega) (.slice A12 o0.length c12))
    replace R4 := Lib.hid (Kd.R_set R4.out BZ.out int_ne27 0 (.slice A12 o0.length c12))
    replace R5 := Lib.hid (Kd.R_set R5.out BZ.out k78_ne27 0 (.slice A12 o0.length c12))
    replace R6 := Lib.hid (Kd.R_set R6.out BZ.out int_ne27 0 (.slice A12 o0.length c12))
    replace R7 := Lib.hid (Kd.R_set R7.out BZ.out int_ne27 0 (.slice A12 o0.length c12))
    replace R8 := Lib.hid (Kd.R_set R8.out BZ.out int_ne27 0 (.slice A12 o0.length c12))
    replace R9 := Lib.hid (Kd.R_set R9.out BZ.out int_ne27 0 (.slice A12 o0.length c12))
    replace BX := Lib.hid (blk_far BX.out (p := ⟨z, 0, none⟩) (by show x ≠ z; omega) (.slice A12 o0.length c12))
    replace R10 := Lib.hid (Kd.R_set R10.out BZ.out int_ne27 0 (.slice A12 o0.length c12))
    replace R11 := Lib.hid (Kd.R_set R11.out BZ.out int_ne27 0 (.slice A12 o0.length c12))
    replace BY := Lib.hid (blk_far BY.out (p := ⟨z, 0, none⟩) (by show y ≠ z; omega) (.slice A12 o0.length c12))
    replace R12 := Lib.hid (Kd.R_set R12.out BZ.out int_ne27 0 (.slice A12 o0.length c12))
    replace R13 := Lib.hid (Kd.R_set R13.out BZ.out int_ne27 0 (.slice A12 o0.length c12))
    replace BZ := Lib.hid (blk_put (cs' := #[.slice A12 o0.length c12, .slice none 0 0]) BZ.out 0 (.slice A12 o0.length c12) rfl)
    replace BG := Lib.hid (blk_far BG.out (p := ⟨z, 1, none⟩) (by show g ≠ z; omega) (.slice A13 o1.length c13))
    replace BL := Lib.hid (below_set (g := z) (j := 1) (v := .slice A13 o1.length c13) BL.out (by omega))
    replace BE := Lib.hid (blk_far BE.out (p := ⟨z, 1, none⟩) (by show h ≠ z; omega) (.slice A13 o1.length c13))
    replace R4 := Lib.hid (Kd.R_set R4.out BZ.out int_ne27 1 (.slice A13 o1.length c13))
    replace R5 := Lib.hid (Kd.R_set R5.out BZ.out k78_ne27 1 (.slice A13 o1.length c13))
    replace R6 := Lib.hid (Kd.R_set R6.out BZ.out int_ne27 1 (.slice A13 o1.length c13))
    replace R7 := Lib.hid (Kd.R_set R7.out BZ.out int_ne27 1 (.slice A13 o1.length c13))
    replace R8 := Lib.hid (Kd.R_set R8.out BZ.out int_ne27 1 (.slice A13 o1.length c13))
    replace R9 := Lib.hid (Kd.R_set R9.out BZ.out int_ne27 1 (.slice A13 o1.length c13))
    replace BX := Lib.hid (blk_far BX.out (p := ⟨z, 1, none⟩) (by show x ≠ z; omega) (.slice A13 o1.length c13))
    replace R10 := Lib.hid (Kd.R_set R10.out BZ.out int_ne27 1 (.slice A13 o1.length c13))
    replace R11 := Lib.hid (Kd.R_set R11.out BZ.out int_ne27 1 (.slice A13 o1.length c13))
    replace BY := Lib.hid (blk_far BY.out (p := ⟨z, 1, none⟩) (by show y ≠ z; omega) (.slice A13 o1.length c13))
    replace R12 := Lib.hid (Kd.R_set R12.out BZ.out int_ne27 1 (.slice A13 o1.length c13))
    replace R13 := Lib.hid (Kd.R_set R13.out BZ.out int_ne27 1 (.slice A13 o1.length c13))
    replace BZ := Lib.hid (blk_put (cs' := #[.slice A12 o0.length c12, .slice A13 o1.length c13]) BZ.out 1 (.slice A13 o1.length c13) rfl)
    obtain ⟨zBE_0, zBE_1⟩ := cell2 BE.out
    obtain ⟨zBZ_0, zBZ_1⟩ := cell2 BZ.out
    obtain ⟨zBX_0, zBX_1⟩ := cell2 BX.out
    cases b
    · skip
      go_wp2_with (first
        | (go_at_call 19; with_reducible refine (scarfjointref07_In.calls k A2 c2 l2 A3 c3 l3 A12 c12 o0 A13 c13 o1 false _ (Kd.C_below R2.out BL.out) M2.out (Kd.C_below R3.out BL.out) M3.out (Kd.R_reads' R12.out).2.2 (Kd.R_reads' R12.out).2.1 (Kd.R_reads' R13.out).2.2 (Kd.R_reads' R13.out).2.1 h6.out).mono ?_; rintro e w_ ⟨rfl, hb⟩; clear zBE_0 zBE_1 zBZ_0 zBZ_1 zBX_0 zBX_1; replace BG := Lib.hid (blk_below BG.out hb); replace BL := Lib.hid (below_then BL.out BL.out.size hb); replace BE := Lib.hid (blk_below BE.out hb); replace R4 := Lib.hid (Kd.R_below R4.out hb); replace R5 := Lib.hid (Kd.R_below R5.out hb); replace R6 := Lib.hid (Kd.R_below R6.out hb); replace R7 := Lib.hid (Kd.R_below R7.out hb); replace R8 := Lib.hid (Kd.R_below R8.out hb); replace R9 := Lib.hid (Kd.R_below R9.out hb); replace BX := Lib.hid (blk_below BX.out hb); replace R10 := Lib.hid (Kd.R_below R10.out hb); replace R11 := Lib.hid (Kd.R_below R11.out hb); replace BY := Lib.hid (blk_below BY.out hb); replace R12 := Lib.hid (Kd.R_below R12.out hb); replace R13 := Lib.hid (Kd.R_below R13.out hb); replace BZ := Lib.hid (blk_below BZ.out hb); clear hb; obtain ⟨zBE_0, zBE_1⟩ := cell2 BE.out; obtain ⟨zBZ_0, zBZ_1⟩ := cell2 BZ.out; obtain ⟨zBX_0, zBX_1⟩ := cell2 BX.out))
      exact bodyPost_ret (v := .bool true) (by simp [results, Try.f3, go_sem]) rfl ⟨rfl, BL.out⟩
    · skip
      replace h7 := Lib.hid (h7.out rfl)
      go_wp2_with (first
        | (go_at_call 19; with_reducible refine (scarfjointref07_In.calls k A2 c2 l2 A3 c3 l3 A12 c12 o0 A13 c13 o1 true _ (Kd.C_below R2.out BL.out) M2.out (Kd.C_below R3.out BL.out) M3.out (Kd.R_reads' R12.out).2.2 (Kd.R_reads' R12.out).2.1 (Kd.R_reads' R13.out).2.2 (Kd.R_reads' R13.out).2.1 h6.out).mono ?_; rintro e w_ ⟨rfl, hb⟩; clear zBE_0 zBE_1 zBZ_0 zBZ_1 zBX_0 zBX_1; replace BG := Lib.hid (blk_below BG.out hb); replace BL := Lib.hid (below_then BL.out BL.out.size hb); replace BE := Lib.hid (blk_below BE.out hb); replace R4 := Lib.hid (Kd.R_below R4.out hb); replace R5 := Lib.hid (Kd.R_below R5.out hb); replace R6 := Lib.hid (Kd.R_below R6.out hb); replace R7 := Lib.hid (Kd.R_below R7.out hb); replace R8 := Lib.hid (Kd.R_below R8.out hb); replace R9 := Lib.hid (Kd.R_below R9.out hb); replace BX := Lib.hid (blk_below BX.out hb); replace R10 := Lib.hid (Kd.R_below R10.out hb); replace R11 := Lib.hid (Kd.R_below R11.out hb); replace BY := Lib.hid (blk_below BY.out hb); replace R12 := Lib.hid (Kd.R_below R12.out hb); replace R13 := Lib.hid (Kd.R_below R13.out hb); replace BZ := Lib.hid (blk_below BZ.out hb); clear hb; obtain ⟨zBE_0, zBE_1⟩ := cell2 BE.out; obtain ⟨zBZ_0, zBZ_1⟩ := cell2 BZ.out; obtain ⟨zBX_0, zBX_1⟩ := cell2 BX.out)
        | (go_at_call 19; with_reducible refine (scarfjointref07_In.calls k A8 c8 p0 A9 c9 p1 A12 c12 o0 A13 c13 o1 true _ (Kd.R_reads' R8.out).2.2 (Kd.R_reads' R8.out).2.1 (Kd.R_reads' R9.out).2.2 (Kd.R_reads' R9.out).2.1 (Kd.R_reads' R12.out).2.2 (Kd.R_reads' R12.out).2.1 (Kd.R_reads' R13.out).2.2 (Kd.R_reads' R13.out).2.1 h7.out).mono ?_; rintro e w_ ⟨rfl, hb⟩; clear zBE_0 zBE_1 zBZ_0 zBZ_1 zBX_0 zBX_1; replace BG := Lib.hid (blk_below BG.out hb); replace BL := Lib.hid (below_then BL.out BL.out.size hb); replace BE := Lib.hid (blk_below BE.out hb); replace R4 := Lib.hid (Kd.R_below R4.out hb); replace R5 := Lib.hid (Kd.R_below R5.out hb); replace R6 := Lib.hid (Kd.R_below R6.out hb); replace R7 := Lib.hid (Kd.R_below R7.out hb); replace R8 := Lib.hid (Kd.R_below R8.out hb); replace R9 := Lib.hid (Kd.R_below R9.out hb); replace BX := Lib.hid (blk_below BX.out hb); replace R10 := Lib.hid (Kd.R_below R10.out hb); replace R11 := Lib.hid (Kd.R_below R11.out hb); replace BY := Lib.hid (blk_below BY.out hb); replace R12 := Lib.hid (Kd.R_below R12.out hb); replace R13 := Lib.hid (Kd.R_below R13.out hb); replace BZ := Lib.hid (blk_below BZ.out hb); clear hb; obtain ⟨zBE_0, zBE_1⟩ := cell2 BE.out; obtain ⟨zBZ_0, zBZ_1⟩ := cell2 BZ.out; obtain ⟨zBX_0, zBX_1⟩ := cell2 BX.out))
      exact bodyPost_ret (v := .bool true) (by simp [results, Try.f3, go_sem]) rfl ⟨rfl, BL.out⟩
  · skip
    have e1 : (er != 0) = true := by simpa using he
    have e2 : (er == 0) = false := by simpa using he
    have e3 : decide (er = 0) = false := by simpa using he
    go_upto_region 6 with (first
      | (go_at_call 17; with_reducible refine (scarfjointref07_Same.calls k A8 c8 p0 A9 c9 p1 A10 c10 p0 A11 c11 p1 true _ (Kd.R_reads' R8.out).2.2 (Kd.R_reads' R8.out).2.1 (Kd.R_reads' R9.out).2.2 (Kd.R_reads' R9.out).2.1 (Kd.R_reads' R10.out).2.2 (Kd.R_reads' R10.out).2.1 (Kd.R_reads' R11.out).2.2 (Kd.R_reads' R11.out).2.1 h3).mono ?_; rintro e w_ ⟨rfl, hb⟩; clear zBX_0 zBX_1 zBY_0 zBY_1; replace BG := Lib.hid (blk_below BG.out hb); replace BL := Lib.hid (below_then BL.out BL.out.size hb); replace BE := Lib.hid (blk_below BE.out hb); replace R4 := Lib.hid (Kd.R_below R4.out hb); replace R5 := Lib.hid (Kd.R_below R5.out hb); replace R6 := Lib.hid (Kd.R_below R6.out hb); replace R7 := Lib.hid (Kd.R_below R7.out hb); replace R8 := Lib.hid (Kd.R_below R8.out hb); replace R9 := Lib.hid (Kd.R_below R9.out hb); replace BX := Lib.hid (blk_below BX.out hb); replace R10 := Lib.hid (Kd.R_below R10.out hb); replace R11 := Lib.hid (Kd.R_below R11.out hb); replace BY := Lib.hid (blk_below BY.out hb); clear hb; obtain ⟨zBX_0, zBX_1⟩ := cell2 BX.out; obtain ⟨zBY_0, zBY_1⟩ := cell2 BY.out))
    go_wp2_with (first
      | (go_at_call 17; with_reducible refine (scarfjointref07_Same.calls k A8 c8 p0 A9 c9 p1 A10 c10 p0 A11 c11 p1 true _ (Kd.R_reads' R8.out).2.2 (Kd.R_reads' R8.out).2.1 (Kd.R_reads' R9.out).2.2 (Kd.R_reads' R9.out).2.1 (Kd.R_reads' R10.out).2.2 (Kd.R_reads' R10.out).2.1 (Kd.R_reads' R11.out).2.2 (Kd.R_reads' R11.out).2.1 h3).mono ?_; rintro e w_ ⟨rfl, hb⟩; clear zBX_0 zBX_1 zBY_0 zBY_1; replace BG := Lib.hid (blk_below BG.out hb); replace BL := Lib.hid (below_then BL.out BL.out.size hb); replace BE := Lib.hid (blk_below BE.out hb); replace R4 := Lib.hid (Kd.R_below R4.out hb); replace R5 := Lib.hid (Kd.R_below R5.out hb); replace R6 := Lib.hid (Kd.R_below R6.out hb); replace R7 := Lib.hid (Kd.R_below R7.out hb); replace R8 := Lib.hid (Kd.R_below R8.out hb); replace R9 := Lib.hid (Kd.R_below R9.out hb); replace BX := Lib.hid (blk_below BX.out hb); replace R10 := Lib.hid (Kd.R_below R10.out hb); replace R11 := Lib.hid (Kd.R_below R11.out hb); replace BY := Lib.hid (blk_below BY.out hb); clear hb; obtain ⟨zBX_0, zBX_1⟩ := cell2 BX.out; obtain ⟨zBY_0, zBY_1⟩ := cell2 BY.out))
    exact bodyPost_ret (v := .bool true) (by simp [results, Try.f3, go_sem]) rfl ⟨rfl, BL.out⟩
set_option maxHeartbeats 4000000 in
set_option maxRecDepth 100000 in
theorem scarfjointlaw07_SubgraphClose.big (A0 : Option Addr) (c0 : Nat) (l0 : List Int) (A1 : Option Addr) (c1 : Nat) (l1 : List S78) (A2 : Option Addr) (c2 : Nat) (l2 : List Int) (A3 : Option Addr) (c3 : Nat) (l3 : List Int) (a2 : Int) (w : World)
    (r0 : Kd.C (Kd.int .i64) w A0 l0.length l0) (m0 : l0.length ≤ c0) (r1 : Kd.C k78 w A1 l1.length l1) (m1 : l1.length ≤ c1)
    (hbad : (∃ d, scarfjointlaw07_small.f l0 l1 [] = some d ∧ d = false) ∨ (∃ d, scarfjointlaw07_small.f l0 l1 [] = some d ∧ d = true ∧ 100 < l2.length) ∨ (∃ d, scarfjointlaw07_small.f l0 l1 [] = some d ∧ d = true ∧ l2.length ≤ 100 ∧ 100 < l3.length)) :
    Calls Try.prog 3 #[.agg #[.slice A0 l0.length c0, .slice A1 l1.length c1], .agg #[.slice A2 l2.length c2, .slice A3 l3.length c3], .int .u64 a2] w fun e w' => e = .returned (.bool true) ∧ Below w.heap.size w w' := by
  have hu25 := Try.underlying25
  have hu27 := Try.underlying27
  have R0 := Lib.hid r0
  have R1 := Lib.hid r1
  have M0 := Lib.hid m0
  have M1 := Lib.hid m1
  clear r0 r1 m0 m1
  go_enter Try.func3, Try.ntmps3
  go_upto_region 1 with (first
    | ((with_reducible refine gate_dst (N := 3) rfl ?_); (try (refine gate_guard (by rfl) ?_; dsimp only)); refine box_event ?hg (N := 3) ?hd (cs := #[.slice A0 l0.length c0, .slice A1 l1.length c1]) (t := 25) ?hr ?_; (case hd => rfl); (case hg => rfl); (case hr => first | (go_simp; done) | (go_simp; rfl)); intro g hg w_ hbox hb; have HG : w.heap.size ≤ g := (hg ▸ Nat.le_refl _); have BG := Lib.hid hbox; have BL := Lib.hid hb; clear hg hbox hb)
    | ((with_reducible refine gate_dst (N := 4) rfl ?_); (try (refine gate_guard (by rfl) ?_; dsimp only)); refine box_event ?hg (N := 4) ?hd (cs := #[.slice A2 l2.length c2, .slice A3 l3.length c3]) (t := 27) ?hr ?_; (case hd => rfl); (case hg => rfl); (case hr => first | (go_simp; done) | (go_simp; rfl)); intro h hg w_ hbox hb; have HH : g < h := (hg ▸ blk_lt BG.out); replace BG := Lib.hid (blk_below BG.out hb); replace BL := Lib.hid (below_then BL.out BL.out.size hb); have BE := Lib.hid hbox; clear hg hbox hb))
  obtain ⟨zBG_0, zBG_1⟩ := cell2 BG.out
  obtain ⟨zBE_0, zBE_1⟩ := cell2 BE.out
  rcases hbad with ⟨d, hsm, rfl⟩ | ⟨d, hsm, rfl, hn⟩ | ⟨d, hsm, rfl, hn, hm⟩
  · skip
    go_wp2_with (first
      | (go_at_call 11; with_reducible refine (scarfjointlaw07_awake.calls0 _).mono ?_; rintro e w_ ⟨rfl, hb⟩; clear zBG_0 zBG_1 zBE_0 zBE_1; replace BG := Lib.hid (blk_below BG.out hb); replace BL := Lib.hid (below_then BL.out BL.out.size hb); replace BE := Lib.hid (blk_below BE.out hb); clear hb; obtain ⟨zBG_0, zBG_1⟩ := cell2 BG.out; obtain ⟨zBE_0, zBE_1⟩ := cell2 BE.out)
      | (go_at_call 12; refine (scarfjointlaw07_small.calls A0 c0 l0 A1 c1 l1 none 0 [] false _ (Kd.C_below R0.out BL.out) M0.out (Kd.C_below R1.out BL.out) M1.out (Kd.C_nil _ _) (Nat.le_refl _) hsm).mono ?_; rintro e w_ ⟨rfl, hb⟩; clear zBG_0 zBG_1 zBE_0 zBE_1; replace BG := Lib.hid (blk_below BG.out hb); replace BL := Lib.hid (below_then BL.out BL.out.size hb); replace BE := Lib.hid (blk_below BE.out hb); clear hb; obtain ⟨zBG_0, zBG_1⟩ := cell2 BG.out; obtain ⟨zBE_0, zBE_1⟩ := cell2 BE.out))
    exact bodyPost_ret (v := .bool true) (by simp [results, Try.f3, go_sem]) rfl ⟨rfl, BL.out⟩
  · skip
    have d2 : decide (100 < (l2.length : Int)) = true := decide_eq_true (by omega)
    go_wp2_with (first
      | (go_at_call 11; with_reducible refine (scarfjointlaw07_awake.calls0 _).mono ?_; rintro e w_ ⟨rfl, hb⟩; clear zBG_0 zBG_1 zBE_0 zBE_1; replace BG := Lib.hid (blk_below BG.out hb); replace BL := Lib.hid (below_then BL.out BL.out.size hb); replace BE := Lib.hid (blk_below BE.out hb); clear hb; obtain ⟨zBG_0, zBG_1⟩ := cell2 BG.out; obtain ⟨zBE_0, zBE_1⟩ := cell2 BE.out)
      | (go_at_call 12; refine (scarfjointlaw07_small.calls A0 c0 l0 A1 c1 l1 none 0 [] true _ (Kd.C_below R0.out BL.out) M0.out (Kd.C_below R1.out BL.out) M1.out (Kd.C_nil _ _) (Nat.le_refl _) hsm).mono ?_; rintro e w_ ⟨rfl, hb⟩; clear zBG_0 zBG_1 zBE_0 zBE_1; replace BG := Lib.hid (blk_below BG.out hb); replace BL := Lib.hid (below_then BL.out BL.out.size hb); replace BE := Lib.hid (blk_below BE.out hb); clear hb; obtain ⟨zBG_0, zBG_1⟩ := cell2 BG.out; obtain ⟨zBE_0, zBE_1⟩ := cell2 BE.out))
    exact bodyPost_ret (v := .bool true) (by simp [results, Try.f3, go_sem]) rfl ⟨rfl, BL.out⟩
  · skip
    have d2 : decide (100 < (l2.length : Int)) = false := decide_eq_false (by omega)
    have d3 : decide (100 < (l3.length : Int)) = true := decide_eq_true (by omega)
    go_wp2_with (first
      | (go_at_call 11; with_reducible refine (scarfjointlaw07_awake.calls0 _).mono ?_; rintro e w_ ⟨rfl, hb⟩; clear zBG_0 zBG_1 zBE_0 zBE_1; replace BG := Lib.hid (blk_below BG.out hb); replace BL := Lib.hid (below_then BL.out BL.out.size hb); replace BE := Lib.hid (blk_below BE.out hb); clear hb; obtain ⟨zBG_0, zBG_1⟩ := cell2 BG.out; obtain ⟨zBE_0, zBE_1⟩ := cell2 BE.out)
      | (go_at_call 12; refine (scarfjointlaw07_small.calls A0 c0 l0 A1 c1 l1 none 0 [] true _ (Kd.C_below R0.out BL.out) M0.out (Kd.C_below R1.out BL.out) M1.out (Kd.C_nil _ _) (Nat.le_refl _) hsm).mono ?_; rintro e w_ ⟨rfl, hb⟩; clear zBG_0 zBG_1 zBE_0 zBE_1; replace BG := Lib.hid (blk_below BG.out hb); replace BL := Lib.hid (below_then BL.out BL.out.size hb); replace BE := Lib.hid (blk_below BE.out hb); clear hb; obtain ⟨zBG_0, zBG_1⟩ := cell2 BG.out; obtain ⟨zBE_0, zBE_1⟩ := cell2 BE.out))
    exact bodyPost_ret (v := .bool true) (by simp [results, Try.f3, go_sem]) rfl ⟨rfl, BL.out⟩
end Go.Proofs.Ytonipihlpbaknaa.Print
namespace Go.Proofs.Ytonipihlpbaknaa.Print
set_option linter.unusedVariables false
set_option linter.unusedSimpArgs false
open Go.RowKit Go.Proofs.YtonipihlpbaknaaW.PrintWords Go.Proofs.YtonipihlpbaknaaW.PrintLast Go.Proofs.YtonipihlpbaknaaW.PrintMore
theorem asc_nodup {l : List Int} (h : l.Pairwise (· < ·)) : l.Nodup := h.imp (fun h => Int.ne_of_lt h)
theorem asc_ext {a b : List Int} (ha : a.Pairwise (· < ·)) (hb : b.Pairwise (· < ·)) (h : ∀ x, x ∈ a ↔ x ∈ b) : a = b := by
  refine List.Perm.eq_of_pairwise (le := fun x y => x < y) ?_ ha hb ((List.perm_ext_iff_of_nodup (asc_nodup ha) (asc_nodup hb)).2 h)
  intro x y _ _ p q
  omega
theorem mem_sortI {l : List Int} {x : Int} : x ∈ sortI l ↔ x ∈ l := (List.mergeSort_perm _ _).mem_iff
theorem sortI_pw (l : List Int) : (sortI l).Pairwise (· ≤ ·) := by
  have h := List.pairwise_mergeSort (le := fun x y : Int => decide (x ≤ y)) (by intro a b c; simp; omega) (by intro a b; simp; omega) l
  exact h.imp (by simp)
theorem mem_compact {l : List Int} {x : Int} : x ∈ Lib.compact l ↔ x ∈ l := by
  unfold Lib.compact Lib.compactUpTo
  constructor
  · intro h
    obtain ⟨j, hj, rfl⟩ := List.mem_map.1 h
    have hj := List.mem_range.1 (List.mem_filter.1 hj).1
    simp [hj]
  · intro h
    obtain ⟨j, hj, rfl⟩ := List.mem_iff_getElem.1 h
    clear h
    induction j with
    | zero => exact List.mem_map.2 ⟨0, by simp [Lib.keeps, hj], by simp [hj]⟩
    | succ j ih =>
      by_cases hk : Lib.keeps l.toArray (j + 1) = true
      · exact List.mem_map.2 ⟨j + 1, by simp [hk, hj], by simp [hj]⟩
      · have ih := ih (by omega)
        have e : l[j + 1] = l[j] := by
          simp [Lib.keeps, hj, show j < l.length by omega] at hk
          exact hk
        rw [e]
        exact ih
theorem compact_asc {l : List Int} (h : l.Pairwise (· ≤ ·)) : (Lib.compact l).Pairwise (· < ·) := by
  unfold Lib.compact Lib.compactUpTo
  rw [List.pairwise_map]
  refine (List.Pairwise.imp_of_mem ?_ ((List.pairwise_lt_range (n := l.length)).filter _))
  intro i j hi hj hij
  have hk := (List.mem_filter.1 hj).2
  have hj := List.mem_range.1 (List.mem_filter.1 hj).1
  have hi := List.mem_range.1 (List.mem_filter.1 hi).1
  obtain ⟨j, rfl⟩ : ∃ k, j = k + 1 := ⟨j - 1, by omega⟩
  simp [Lib.keeps, hj, show j < l.length by omega] at hk
  have h1 : l[i] ≤ l[j] := by
    rcases Nat.lt_or_ge i j with h2 | h2
    · exact List.pairwise_iff_getElem.1 h i j (by omega) (by omega) h2
    · have : i = j := by omega
      subst this
      exact Int.le_refl _
  have h2 : l[j] ≤ l[j + 1] := List.pairwise_iff_getElem.1 h j (j + 1) (by omega) hj (by omega)
  simp [hi, hj]
  omega
theorem comp_asc (l : List Int) : (Lib.compact (sortI l)).Pairwise (· < ·) := compact_asc (sortI_pw l)
theorem mem_comp {l : List Int} {x : Int} : x ∈ Lib.compact (sortI l) ↔ x ∈ l := mem_compact.trans mem_sortI
def markedL (bs : List Bool) : List Int := ((List.range bs.length).filter fun i => bs.getD i false).map Int.ofNat
theorem markedL_asc (bs : List Bool) : (markedL bs).Pairwise (· < ·) := by
  unfold markedL
  rw [List.pairwise_map]
  exact ((List.pairwise_lt_range (n := bs.length)).filter _).imp (fun h => by simpa using h)
theorem mem_markedL {bs : List Bool} {x : Int} : x ∈ markedL bs ↔ 0 ≤ x ∧ x < bs.length ∧ bs.getD x.toNat false = true := by
  unfold markedL
  simp only [List.mem_map, List.mem_filter, List.mem_range]
  constructor
  · rintro ⟨a, ⟨h1, h2⟩, rfl⟩
    refine ⟨by simp, by simpa using h1, by simpa using h2⟩
  · rintro ⟨h1, h2, h3⟩
    exact ⟨x.toNat, ⟨by omega, h3⟩, by simp; omega⟩
theorem markedL_len (bs : List Bool) : (markedL bs).length ≤ bs.length := by
  unfold markedL
  rw [List.length_map]
  exact Nat.le_trans (List.length_filter_le _ _) (by simp)
theorem has_l (x0 : List Int) (x1 : Int) (hn : x0.length < 9223372036854775807) : ∀ (d k i : Nat), i + d = x0.length → d < k → scarfjointref07_has.l0 k x0 x1 i = some (decide (x1 ∈ x0.drop i)) := by
  intro d
  induction d with
  | zero =>
    intro k i hi hk
    obtain ⟨k, rfl⟩ : ∃ m, k = m + 1 := ⟨k - 1, by omega⟩
    rw [scarfjointref07_has.l0, if_neg (by omega), List.drop_of_length_le (by omega)]
    simp
  | succ d ih =>
    intro k i hi hk
    obtain ⟨k, rfl⟩ : ∃ m, k = m + 1 := ⟨k - 1, by omega⟩
    have hlt : i < x0.length := by omega
    rw [scarfjointref07_has.l0, if_pos (by omega), if_pos (by omega), rd_get x0 i hlt, List.drop_eq_getElem_cons hlt]
    by_cases h : x0[i] = x1
    · rw [if_pos h]
      simp [h]
    · rw [if_neg h, succ_ok i (by omega), ih k (i + 1) (by omega) (by omega)]
      generalize x0.drop (i + 1) = tl
      simp [Ne.symm h]
theorem rhas_ok (x0 : List Int) (x1 : Int) (k : Nat) (hn : x0.length < 9223372036854775807) (hk : x0.length < k) : scarfjointref07_has.f k x0 x1 = some (decide (x1 ∈ x0)) := by
  have h := has_l x0 x1 hn x0.length k 0 (by omega) hk
  simpa [scarfjointref07_has.f] using h
theorem into_l (x0 x1 : List Int) (hn : x0.length < 17592186044416) (hn1 : x1.length < 9223372036854775807) : ∀ (d k i : Nat) (x5 : List Int), i + d = x0.length → d + x1.length + 1 < k → x5.length ≤ i →
    ∃ r, scarfjointref07_into.l0 k x0 x1 x5 i = some (x5 ++ r) ∧ r.length = (x0.drop i).countP (fun x => decide (x ∈ x1)) := by
  intro d
  induction d with
  | zero =>
    intro k i x5 hi hk hx
    obtain ⟨k, rfl⟩ : ∃ m, k = m + 1 := ⟨k - 1, by omega⟩
    refine ⟨[], ?_, ?_⟩
    · rw [scarfjointref07_into.l0, if_neg (by omega)]
      simp
    · rw [List.drop_of_length_le (by omega)]
      simp
  | succ d ih =>
    intro k i x5 hi hk hx
    obtain ⟨k, rfl⟩ : ∃ m, k = m + 1 := ⟨k - 1, by omega⟩
    have hlt : i < x0.length := by omega
    rw [scarfjointref07_into.l0, if_pos (by omega), if_pos (by omega), rd_get x0 i hlt, List.drop_eq_getElem_cons hlt, rhas_ok x1 _ k hn1 (by omega), Option.bind_some]
    by_cases h : x0[i] ∈ x1
    · rw [if_pos (by simp [h]), if_pos (by omega), succ_ok i (by omega)]
      obtain ⟨r, h1, h2⟩ := ih k (i + 1) (x5 ++ [(i : Int)]) (by omega) (by omega) (by simp; omega)
      refine ⟨(i : Int) :: r, ?_, ?_⟩
      · rw [h1]
        simp
      · rw [List.length_cons, h2, List.countP_cons, if_pos (by simp [h])]
    · rw [if_neg (by simp [h]), succ_ok i (by omega)]
      obtain ⟨r, h1, h2⟩ := ih k (i + 1) x5 (by omega) (by omega) (by omega)
      exact ⟨r, h1, by rw [h2, List.countP_cons, if_neg (by simp [h])]; rfl⟩
theorem into_ok (x0 x1 : List Int) (k : Nat) (hn : x0.length < 17592186044416) (hn1 : x1.length < 9223372036854775807) (hk : x0.length + x1.length + 1 < k) :
    ∃ r, scarfjointref07_into.f k x0 x1 = some r ∧ ((r.length : Int) = (x0.length : Int) ↔ ∀ x ∈ x0, x ∈ x1) := by
  obtain ⟨r, h1, h2⟩ := into_l x0 x1 hn hn1 x0.length k 0 [] (by omega) (by omega) (by simp)
  refine ⟨r, by simpa [scarfjointref07_into.f] using h1, ?_⟩
  rw [h2, List.drop_zero, Int.ofNat_inj, List.countP_eq_length]
  simp
theorem in_ok (a b c d : List Int) (k : Nat) (ha : a.length < 17592186044416) (hb : b.length < 17592186044416) (hc : c.length < 17592186044416) (hd : d.length < 17592186044416) (hk : a.length + b.length + c.length + d.length + 1 < k) :
    scarfjointref07_In.f k a b c d = some (decide ((∀ x ∈ a, x ∈ c) ∧ (∀ x ∈ b, x ∈ d))) := by
  obtain ⟨r, h1, h2⟩ := into_ok a c k ha (by omega) (by omega)
  obtain ⟨s, h3, h4⟩ := into_ok b d k hb (by omega) (by omega)
  unfold scarfjointref07_In.f
  rw [h1, Option.bind_some, h3, Option.bind_some]
  by_cases h : (r.length : Int) = (a.length : Int)
  · rw [if_pos h]
    have h5 := h2.1 h
    congr 1
    by_cases h6 : (s.length : Int) = (b.length : Int)
    · rw [decide_eq_true ⟨h5, h4.1 h6⟩, h6]
      simp
    · rw [decide_eq_false (fun q => h6 (h4.2 q.2))]
      simp only [beq_eq_false_iff_ne]
      exact h6
  · rw [if_neg h, decide_eq_false (fun q => h (h2.2 q.1))]
theorem sameI_l (x0 x1 : List Int) (hn : x0.length < 9223372036854775807) (hl : x0.length = x1.length) : ∀ (d k i : Nat), i + d = x0.length → d < k → scarfjointref05_SameInts.l0 k x0 x1 i = some (decide (x0.drop i = x1.drop i)) := by
  intro d
  induction d with
  | zero =>
    intro k i hi hk
    obtain ⟨k, rfl⟩ : ∃ m, k = m + 1 := ⟨k - 1, by omega⟩
    rw [scarfjointref05_SameInts.l0, if_neg (by omega), List.drop_of_length_le (by omega), List.drop_of_length_le (by omega)]
    simp
  | succ d ih =>
    intro k i hi hk
    obtain ⟨k, rfl⟩ : ∃ m, k = m + 1 := ⟨k - 1, by omega⟩
    have hlt : i < x0.length := by omega
    have hlt1 : i < x1.length := by omega
    rw [scarfjointref05_SameInts.l0, if_pos (by omega), if_pos (by omega), if_pos (by omega), rd_get x0 i hlt, rd_get x1 i hlt1, List.drop_eq_getElem_cons hlt, List.drop_eq_getElem_cons hlt1]
    by_cases h : x0[i] = x1[i]
    · rw [if_pos h, succ_ok i (by omega), ih k (i + 1) (by omega) (by omega)]
      generalize x0.drop (i + 1) = t0
      generalize x1.drop (i + 1) = t1
      simp [h]
    · rw [if_neg h]
      generalize x0.drop (i + 1) = t0
      generalize x1.drop (i + 1) = t1
      simp [h]
theorem sameI_ok (x0 x1 : List Int) (k : Nat) (hn : x0.length < 9223372036854775807) (hk : x0.length < k) : scarfjointref05_SameInts.f k x0 x1 = some (decide (x0 = x1)) := by
  unfold scarfjointref05_SameInts.f
  by_cases h : (x0.length : Int) = (x1.length : Int)
  · rw [if_pos h]
    have h1 := sameI_l x0 x1 hn (by omega) x0.length k 0 (by omega) hk
    simpa using h1
  · rw [if_neg h, decide_eq_false (fun e => h (by rw [e]))]
theorem same_ok (a b c d : List Int) (k : Nat) (ha : a.length < 9223372036854775807) (hb : b.length < 9223372036854775807) (hk : a.length + b.length < k) : scarfjointref07_Same.f k a b c d = some (decide (a = c ∧ b = d)) := by
  unfold scarfjointref07_Same.f
  rw [sameI_ok a c k ha (by omega), Option.bind_some, sameI_ok b d k hb (by omega), Option.bind_some]
  by_cases h : a = c
  · simp [h]
  · simp [h]
theorem marked_l (bs : List Bool) (hn : bs.length < 17592186044416) : ∀ (d k i : Nat) (acc : List Int), i + d = bs.length → d < k → acc.length ≤ i →
    scarfjointref07_marked.l0 k bs acc i = some (acc ++ ((List.range' i d).filter fun j => bs.getD j false).map Int.ofNat) := by
  intro d
  induction d with
  | zero =>
    intro k i acc hi hk ha
    obtain ⟨k, rfl⟩ : ∃ m, k = m + 1 := ⟨k - 1, by omega⟩
    rw [scarfjointref07_marked.l0, if_neg (by omega)]
    simp
  | succ d ih =>
    intro k i acc hi hk ha
    obtain ⟨k, rfl⟩ : ∃ m, k = m + 1 := ⟨k - 1, by omega⟩
    have hlt : i < bs.length := by omega
    rw [scarfjointref07_marked.l0, if_pos (by omega), if_pos (by omega), List.range'_succ, List.filter_cons]
    have e : rdOf false bs (i : Int) = bs.getD i false := by simp [rdOf]
    rw [e]
    by_cases h : bs.getD i false = true
    · rw [if_pos h, if_pos (by omega), if_pos h, succ_ok i (by omega), ih k (i + 1) _ (by omega) (by omega) (by simp; omega)]
      simp
    · rw [if_neg h, if_neg h, succ_ok i (by omega), ih k (i + 1) _ (by omega) (by omega) (by omega)]
theorem marked_ok (bs : List Bool) (k : Nat) (hn : bs.length < 17592186044416) (hk : bs.length < k) : scarfjointref07_marked.f k bs = some (markedL bs) := by
  have h := marked_l bs hn bs.length k 0 [] (by omega) hk (by simp)
  simpa [scarfjointref07_marked.f, markedL, List.range_eq_range'] using h
end Go.Proofs.Ytonipihlpbaknaa.Print
namespace Go.Proofs.Ytonipihlpbaknaa.Print
set_option linter.unusedVariables false
set_option linter.unusedSimpArgs false
open Go.RowKit Go.Proofs.YtonipihlpbaknaaW.PrintWords Go.Proofs.YtonipihlpbaknaaW.PrintLast Go.Proofs.YtonipihlpbaknaaW.PrintMore
theorem rdT_get (l : List S78) (i : Nat) (h : i < l.length) : rd_T78 l (i : Int) = l[i] := by simp [rd_T78, List.getD_eq_getElem?_getD, h]
theorem kind_ok (a : Int) : scarfjointref05_kind.f a = some (withinB a 99) := by
  unfold scarfjointref05_kind.f withinB
  by_cases h : a ≥ 0
  · rw [if_pos h]
    simp [h]
  · rw [if_neg h]
    simp; omega
theorem right_ok (e : S78) (n : Int) : scarfjointref05_right.f e.f0 e.f1 e.f2 n = some (fitsB e n) := by
  unfold scarfjointref05_right.f fitsB
  rw [kind_ok, Option.bind_some]
  by_cases h0 : withinB e.f0 99 = true
  · rw [if_pos h0, h0]
    by_cases h1 : e.f1 ≥ 0
    · rw [if_pos h1]
      by_cases h2 : e.f1 < n
      · rw [if_pos h2]
        by_cases h3 : e.f2 ≥ 0
        · rw [if_pos h3]
          simp only [withinB, Bool.true_and, Option.some.injEq]
          rw [decide_eq_true (show 0 ≤ e.f1 ∧ e.f1 ≤ n - 1 by omega), Bool.true_and]
          by_cases h4 : e.f2 < n
          · rw [decide_eq_true h4, decide_eq_true (by omega)]
          · rw [decide_eq_false h4, decide_eq_false (by omega)]
        · rw [if_neg h3]
          simp only [withinB, Bool.true_and, Option.some.injEq]
          rw [decide_eq_false (show ¬(0 ≤ e.f2 ∧ e.f2 ≤ n - 1) by omega), Bool.and_false]
      · rw [if_neg h2]
        simp only [withinB, Bool.true_and, Option.some.injEq]
        rw [decide_eq_false (show ¬(0 ≤ e.f1 ∧ e.f1 ≤ n - 1) by omega), Bool.false_and]
    · rw [if_neg h1]
      simp only [withinB, Bool.true_and, Option.some.injEq]
      rw [decide_eq_false (show ¬(0 ≤ e.f1 ∧ e.f1 ≤ n - 1) by omega), Bool.false_and]
  · rw [if_neg h0]
    simp only [Bool.not_eq_true] at h0
    rw [h0]
    rfl
theorem rvalid1 (l0 : List Int) (l1 : List S78) (hn : l1.length < 9223372036854775807) : ∀ (d k i : Nat), i + d = l1.length → d < k → scarfjointref05_Valid.l1 k i l0 l1 = some (if (l1.drop i).any (fun e => !fitsB e l0.length) then 6 else 0) := by
  intro d
  induction d with
  | zero =>
    intro k i hi hk
    obtain ⟨k, rfl⟩ : ∃ m, k = m + 1 := ⟨k - 1, by omega⟩
    rw [scarfjointref05_Valid.l1, if_neg (by omega), List.drop_of_length_le (by omega)]
    simp
  | succ d ih =>
    intro k i hi hk
    obtain ⟨k, rfl⟩ : ∃ m, k = m + 1 := ⟨k - 1, by omega⟩
    have hlt : i < l1.length := by omega
    rw [scarfjointref05_Valid.l1, if_pos (by omega), if_pos (by omega), rdT_get l1 i hlt, right_ok, Option.bind_some, List.drop_eq_getElem_cons hlt]
    by_cases h : fitsB l1[i] l0.length = true
    · rw [if_pos h, succ_ok i (by omega), ih k (i + 1) (by omega) (by omega)]
      generalize l1.drop (i + 1) = t1
      simp [h]
    · rw [if_neg h]
      generalize l1.drop (i + 1) = t1
      simp [h]
theorem rvalid0 (l0 : List Int) (l1 : List S78) (hn0 : l0.length < 9223372036854775807) (hn : l1.length < 9223372036854775807) : ∀ (d k i : Nat), i + d = l0.length → d + l1.length + 1 < k →
    scarfjointref05_Valid.l0 k i l0 l1 = some (if (l0.drop i).any (fun t => !withinB t 99) then 6 else if l1.any (fun e => !fitsB e l0.length) then 6 else 0) := by
  intro d
  induction d with
  | zero =>
    intro k i hi hk
    obtain ⟨k, rfl⟩ : ∃ m, k = m + 1 := ⟨k - 1, by omega⟩
    have h1 := rvalid1 l0 l1 hn l1.length k 0 (by omega) (by omega)
    rw [scarfjointref05_Valid.l0, if_neg (by omega), List.drop_of_length_le (by omega)]
    simpa using h1
  | succ d ih =>
    intro k i hi hk
    obtain ⟨k, rfl⟩ : ∃ m, k = m + 1 := ⟨k - 1, by omega⟩
    have hlt : i < l0.length := by omega
    rw [scarfjointref05_Valid.l0, if_pos (by omega), if_pos (by omega), rd_get l0 i hlt, kind_ok, Option.bind_some, List.drop_eq_getElem_cons hlt]
    by_cases h : withinB l0[i] 99 = true
    · rw [if_pos h, succ_ok i (by omega), ih k (i + 1) (by omega) (by omega)]
      generalize l0.drop (i + 1) = t1
      simp [h]
    · rw [if_neg h]
      generalize l0.drop (i + 1) = t1
      simp [h]
theorem rvalid_ok (l0 : List Int) (l1 : List S78) (k : Nat) (hn0 : l0.length < 9223372036854775807) (hn : l1.length < 9223372036854775807) (hk : l0.length + l1.length + 2 < k) : scarfjointref05_Valid.f k l0 l1 = some (validB l0 l1) := by
  obtain ⟨k, rfl⟩ : ∃ m, k = m + 1 := ⟨k - 1, by omega⟩
  have h0 := rvalid0 l0 l1 hn0 hn l0.length k 0 (by omega) (by omega)
  unfold scarfjointref05_Valid.f validB
  by_cases h1 : 40 < l0.length
  · rw [if_pos (by omega), if_pos h1, scarfjointref05_Valid.j0, if_pos rfl]
  · rw [if_neg (by omega), if_neg h1, scarfjointref05_Valid.j0]
    by_cases h2 : 80 < l1.length
    · rw [if_pos h2, if_pos (by simp; omega)]
    · rw [if_neg h2, if_neg (by simp; omega)]
      simpa using h0
theorem fits_of {l0 : List Int} {l1 : List S78} (h : validB l0 l1 = 0) (j : Nat) (hj : j < l1.length) : 0 ≤ l1[j].f1 ∧ l1[j].f1 < l0.length ∧ 0 ≤ l1[j].f2 ∧ l1[j].f2 < l0.length := by
  unfold validB at h
  split at h
  · omega
  · split at h
    · omega
    · split at h
      · omega
      · split at h
        · omega
        · rename_i h4
          simp only [List.any_eq_true, not_exists, not_and, Bool.not_eq_true, Bool.not_eq_false'] at h4
          have h5 := h4 l1[j] (List.getElem_mem hj)
          simp [fitsB, withinB] at h5
          omega
theorem getD_set2 (bs : List Bool) (a v : Nat) (ha : a < bs.length) : (bs.set a true).getD v false = true ↔ (bs.getD v false = true ∨ a = v) := by
  simp only [List.getD_eq_getElem?_getD, List.getElem?_set]
  by_cases h : a = v
  · subst h
    simp [ha]
  · simp [h]
theorem least_l (l0 : List Int) (l1 : List S78) (x2 : List Bool) (hx : x2.length = l1.length) (hn : l1.length < 17592186044416) (hn0 : l0.length < 17592186044416)
    (hf : ∀ j, (hj : j < l1.length) → 0 ≤ l1[j].f1 ∧ l1[j].f1 < l0.length ∧ 0 ≤ l1[j].f2 ∧ l1[j].f2 < l0.length) : ∀ (d k i : Nat) (bs : List Bool), i + d = x2.length → d + l0.length + l1.length + 1 < k → bs.length = l0.length →
    ∃ bs' : List Bool, scarfjointref07_Least.l0 k x2 bs i l0 l1 = some (markedL bs', markedL x2) ∧ bs'.length = bs.length ∧
      ∀ v : Nat, bs'.getD v false = true ↔ (bs.getD v false = true ∨ ∃ j, i ≤ j ∧ ∃ hj : j < l1.length, x2.getD j false = true ∧ (l1[j].f1 = v ∨ l1[j].f2 = v)) := by
  intro d
  induction d with
  | zero =>
    intro k i bs hi hk hb
    obtain ⟨k, rfl⟩ : ∃ m, k = m + 1 := ⟨k - 1, by omega⟩
    refine ⟨bs, ?_, rfl, fun v => ⟨Or.inl, ?_⟩⟩
    · rw [scarfjointref07_Least.l0, if_neg (by omega), marked_ok bs k (by omega) (by omega), Option.bind_some, marked_ok x2 k (by omega) (by omega), Option.bind_some]
    · rintro (h | ⟨j, h1, h2, _⟩)
      · exact h
      · omega
  | succ d ih =>
    intro k i bs hi hk hb
    obtain ⟨k, rfl⟩ : ∃ m, k = m + 1 := ⟨k - 1, by omega⟩
    have hlt : i < l1.length := by omega
    have e : rdOf false x2 (i : Int) = x2.getD i false := by simp [rdOf]
    rw [scarfjointref07_Least.l0, if_pos (by omega), if_pos (by omega), e]
    by_cases h : x2.getD i false = true
    · obtain ⟨f1, f2, f3, f4⟩ := hf i hlt
      rw [if_pos h, if_pos (by omega), rdT_get l1 i hlt, if_pos f1, if_pos (by omega), if_pos f3, if_pos (by omega), succ_ok i (by omega)]
      obtain ⟨bs', h1, h2, h3⟩ := ih k (i + 1) ((bs.set l1[i].f1.toNat true).set l1[i].f2.toNat true) (by omega) (by omega) (by simp [hb])
      refine ⟨bs', h1, by rw [h2]; simp, fun v => ?_⟩
      rw [h3 v, getD_set2 _ _ _ (by simp; omega), getD_set2 _ _ _ (by omega)]
      constructor
      · rintro (((h4 | h4) | h4) | ⟨j, h4, h5, h6⟩)
        · exact .inl h4
        · exact .inr ⟨i, Nat.le_refl _, hlt, h, .inl (by omega)⟩
        · exact .inr ⟨i, Nat.le_refl _, hlt, h, .inr (by omega)⟩
        · exact .inr ⟨j, by omega, h5, h6⟩
      · rintro (h4 | ⟨j, h4, h5, h6, h7⟩)
        · exact .inl (.inl (.inl h4))
        · rcases Nat.lt_or_ge i j with h8 | h8
          · exact .inr ⟨j, by omega, h5, h6, h7⟩
          · have : i = j := by omega
            subst this
            rcases h7 with h7 | h7
            · exact .inl (.inl (.inr (by omega)))
            · exact .inl (.inr (by omega))
    · rw [if_neg h, succ_ok i (by omega)]
      obtain ⟨bs', h1, h2, h3⟩ := ih k (i + 1) bs (by omega) (by omega) hb
      refine ⟨bs', h1, h2, fun v => ?_⟩
      rw [h3 v]
      constructor
      · rintro (h4 | ⟨j, h4, h5, h6⟩)
        · exact .inl h4
        · exact .inr ⟨j, by omega, h5, h6⟩
      · rintro (h4 | ⟨j, h4, h5, h6, h7⟩)
        · exact .inl h4
        · rcases Nat.lt_or_ge i j with h8 | h8
          · exact .inr ⟨j, by omega, h5, h6, h7⟩
          · have : i = j := by omega
            subst this
            exact absurd h6 h
theorem least_ok (l0 : List Int) (l1 : List S78) (ns es : List Bool) (k : Nat) (he : es.length = l1.length) (hs : ns.length = l0.length) (hn : l1.length < 17592186044416) (hn0 : l0.length < 17592186044416)
    (hf : ∀ j, (hj : j < l1.length) → 0 ≤ l1[j].f1 ∧ l1[j].f1 < l0.length ∧ 0 ≤ l1[j].f2 ∧ l1[j].f2 < l0.length) (hk : l0.length + 2 * l1.length + 1 < k) :
    ∃ bs' : List Bool, scarfjointref07_Least.f k l0 l1 ns es = some (markedL bs', markedL es) ∧ bs'.length = l0.length ∧
      ∀ v : Nat, bs'.getD v false = true ↔ (ns.getD v false = true ∨ ∃ j, ∃ hj : j < l1.length, es.getD j false = true ∧ (l1[j].f1 = v ∨ l1[j].f2 = v)) := by
  obtain ⟨bs', h1, h2, h3⟩ := least_l l0 l1 es he hn hn0 hf es.length k 0 ns (by omega) (by omega) hs
  refine ⟨bs', ?_, by omega, fun v => ?_⟩
  · unfold scarfjointref07_Least.f
    rw [Option.bind_some, if_pos (by simp; omega)]
    exact h1
  · rw [h3 v]
    simp
end Go.Proofs.Ytonipihlpbaknaa.Print
namespace Go.Proofs.Ytonipihlpbaknaa.Print
set_option linter.unusedVariables false
set_option linter.unusedSimpArgs false
open Go.RowKit Go.Proofs.YtonipihlpbaknaaW.PrintWords Go.Proofs.YtonipihlpbaknaaW.PrintLast Go.Proofs.YtonipihlpbaknaaW.PrintMore
theorem beyond_no {n : Nat} {a : Int} : beyondB n a = false ↔ 0 ≤ a ∧ a < n := by
  simp [beyondB]
theorem cl1 (l0 : List Int) (l1 : List S78) (x2 : List Int) (x9 : List Bool) (hx9 : x9.length = l0.length) (hn : l1.length < 17592186044416) (hn0 : l0.length < 17592186044416) (hn2 : x2.length < 17592186044416)
    (hf : ∀ j, (hj : j < l1.length) → 0 ≤ l1[j].f1 ∧ l1[j].f1 < l0.length ∧ 0 ≤ l1[j].f2 ∧ l1[j].f2 < l0.length) : ∀ (d k i : Nat) (x10 : List Bool), i + d = x2.length → 2 * d + l0.length + 2 * l1.length + 4 < k → x10.length = l1.length →
    ((x2.drop i).any (beyondB l1.length) = true → scarfjointref07_Close.l1 k x2 x9 x10 i l0 l1 = some ([], [], 6)) ∧
    ((x2.drop i).any (beyondB l1.length) = false → ∃ bs' es' : List Bool, scarfjointref07_Close.l1 k x2 x9 x10 i l0 l1 = some (markedL bs', markedL es', 0) ∧ bs'.length = l0.length ∧ es'.length = l1.length ∧
      (∀ v : Nat, es'.getD v false = true ↔ (x10.getD v false = true ∨ (v : Int) ∈ x2.drop i)) ∧
      (∀ v : Nat, bs'.getD v false = true ↔ (x9.getD v false = true ∨ ∃ j, ∃ hj : j < l1.length, es'.getD j false = true ∧ (l1[j].f1 = v ∨ l1[j].f2 = v)))) := by
  intro d
  induction d with
  | zero =>
    intro k i x10 hi hk hx
    obtain ⟨k, rfl⟩ : ∃ m, k = m + 1 := ⟨k - 1, by omega⟩
    rw [List.drop_of_length_le (by omega)]
    refine ⟨by simp, fun _ => ?_⟩
    obtain ⟨bs', h1, h2, h3⟩ := least_ok l0 l1 x9 x10 k hx hx9 hn hn0 hf (by omega)
    refine ⟨bs', x10, ?_, h2, hx, by simp, h3⟩
    rw [scarfjointref07_Close.l1, if_neg (by omega), h1, Option.bind_some]
  | succ d ih =>
    intro k i x10 hi hk hx
    obtain ⟨k, rfl⟩ : ∃ m, k = m + 1 + 1 := ⟨k - 2, by omega⟩
    have hlt : i < x2.length := by omega
    rw [scarfjointref07_Close.l1, if_pos (by omega), if_pos (by omega), rd_get x2 i hlt, List.drop_eq_getElem_cons hlt, List.any_cons]
    generalize hy : x2[i] = y
    by_cases hb : beyondB l1.length y = true
    · rw [hb, Bool.true_or]
      refine ⟨fun _ => ?_, fun h => by simp at h⟩
      by_cases h0 : y < 0
      · rw [if_pos h0, scarfjointref07_Close.j3, if_pos rfl]
      · rw [if_neg h0, scarfjointref07_Close.j3, if_pos (by simp [beyondB] at hb; simp; omega)]
    · simp only [Bool.not_eq_true] at hb
      obtain ⟨h0, h1⟩ := beyond_no.1 hb
      rw [hb, Bool.false_or, if_neg (by omega), scarfjointref07_Close.j3, if_neg (by simp; omega), if_pos (by omega), if_pos (by omega), rd_get x2 i hlt, hy, if_pos h0, if_pos (by omega), succ_ok i (by omega)]
      obtain ⟨g1, g2⟩ := ih k (i + 1) (x10.set y.toNat true) (by omega) (by omega) (by simp [hx])
      refine ⟨g1, fun h => ?_⟩
      obtain ⟨bs', es', q1, q2, q3, q4, q5⟩ := g2 h
      refine ⟨bs', es', q1, q2, q3, fun v => ?_, q5⟩
      rw [q4 v, getD_set2 _ _ _ (by omega), List.mem_cons]
      constructor
      · rintro ((h | h) | h)
        · exact .inl h
        · exact .inr (.inl (by omega))
        · exact .inr (.inr h)
      · rintro (h | h | h)
        · exact .inl (.inl h)
        · exact .inl (.inr (by omega))
        · exact .inr h
theorem cl0 (l0 : List Int) (l1 : List S78) (x1 x2 : List Int) (x10 : List Bool) (B : Nat) (hn1 : x1.length < 17592186044416) : ∀ (d k i : Nat) (x9 : List Bool), i + d = x1.length → 2 * d + B + 1 < k → x9.length = l0.length →
    ((x1.drop i).any (beyondB l0.length) = true → scarfjointref07_Close.l0 k x1 x2 x9 x10 i l0 l1 = some ([], [], 6)) ∧
    ((x1.drop i).any (beyondB l0.length) = false → ∃ (k' : Nat) (x9' : List Bool), B < k' ∧ scarfjointref07_Close.l0 k x1 x2 x9 x10 i l0 l1 = scarfjointref07_Close.l1 k' x2 x9' x10 0 l0 l1 ∧ x9'.length = l0.length ∧
      (∀ v : Nat, x9'.getD v false = true ↔ (x9.getD v false = true ∨ (v : Int) ∈ x1.drop i))) := by
  intro d
  induction d with
  | zero =>
    intro k i x9 hi hk hx
    obtain ⟨k, rfl⟩ : ∃ m, k = m + 1 := ⟨k - 1, by omega⟩
    rw [List.drop_of_length_le (by omega)]
    refine ⟨by simp, fun _ => ⟨k, x9, by omega, ?_, hx, by simp⟩⟩
    rw [scarfjointref07_Close.l0, if_neg (by omega)]
  | succ d ih =>
    intro k i x9 hi hk hx
    obtain ⟨k, rfl⟩ : ∃ m, k = m + 1 + 1 := ⟨k - 2, by omega⟩
    have hlt : i < x1.length := by omega
    rw [scarfjointref07_Close.l0, if_pos (by omega), if_pos (by omega), rd_get x1 i hlt, List.drop_eq_getElem_cons hlt, List.any_cons]
    generalize hy : x1[i] = y
    by_cases hb : beyondB l0.length y = true
    · rw [hb, Bool.true_or]
      refine ⟨fun _ => ?_, fun h => by simp at h⟩
      by_cases h0 : y < 0
      · rw [if_pos h0, scarfjointref07_Close.j1, if_pos rfl]
      · rw [if_neg h0, scarfjointref07_Close.j1, if_pos (by simp [beyondB] at hb; simp; omega)]
    · simp only [Bool.not_eq_true] at hb
      obtain ⟨h0, h1⟩ := beyond_no.1 hb
      rw [hb, Bool.false_or, if_neg (by omega), scarfjointref07_Close.j1, if_neg (by simp; omega), if_pos (by omega), if_pos (by omega), rd_get x1 i hlt, hy, if_pos h0, if_pos (by omega), succ_ok i (by omega)]
      obtain ⟨g1, g2⟩ := ih k (i + 1) (x9.set y.toNat true) (by omega) (by omega) (by simp [hx])
      refine ⟨g1, fun h => ?_⟩
      obtain ⟨k', x9', q0, q1, q2, q4⟩ := g2 h
      refine ⟨k', x9', q0, q1, q2, fun v => ?_⟩
      rw [q4 v, getD_set2 _ _ _ (by omega), List.mem_cons]
      constructor
      · rintro ((h | h) | h)
        · exact .inl h
        · exact .inr (.inl (by omega))
        · exact .inr (.inr h)
      · rintro (h | h | h)
        · exact .inl (.inl h)
        · exact .inl (.inr (by omega))
        · exact .inr h
theorem getD_repl (n v : Nat) : (List.replicate n false).getD v false = false := by
  simp only [List.getD_eq_getElem?_getD, List.getElem?_replicate]
  split <;> rfl
theorem rclose_ok (l0 : List Int) (l1 : List S78) (n m : List Int) (k : Nat) (hn0 : l0.length ≤ 100) (hn : l1.length ≤ 100) (hnn : n.length ≤ 100) (hmm : m.length ≤ 100) (hk : 1000 < k) :
    (validB l0 l1 ≠ 0 → scarfjointref07_Close.f k l0 l1 n m = some ([], [], validB l0 l1)) ∧
    (validB l0 l1 = 0 → (n.any (beyondB l0.length) = true ∨ m.any (beyondB l1.length) = true) → scarfjointref07_Close.f k l0 l1 n m = some ([], [], 6)) ∧
    (validB l0 l1 = 0 → n.any (beyondB l0.length) = false → m.any (beyondB l1.length) = false → ∃ bs' es' : List Bool, scarfjointref07_Close.f k l0 l1 n m = some (markedL bs', markedL es', 0) ∧ bs'.length = l0.length ∧ es'.length = l1.length ∧
      (∀ v : Nat, es'.getD v false = true ↔ (v : Int) ∈ m) ∧
      (∀ v : Nat, bs'.getD v false = true ↔ ((v : Int) ∈ n ∨ ∃ j, ∃ hj : j < l1.length, es'.getD j false = true ∧ (l1[j].f1 = v ∨ l1[j].f2 = v)))) := by
  have hv := rvalid_ok l0 l1 k (by omega) (by omega) (by omega)
  refine ⟨fun h => ?_, ?_⟩
  · unfold scarfjointref07_Close.f
    rw [hv, Option.bind_some, if_neg h]
  · by_cases h : validB l0 l1 = 0
    · have e : scarfjointref07_Close.f k l0 l1 n m = scarfjointref07_Close.l0 k n m (List.replicate l0.length false) (List.replicate l1.length false) 0 l0 l1 := by
        unfold scarfjointref07_Close.f
        rw [hv, Option.bind_some, if_pos h, if_pos (by omega), if_pos (by omega), if_pos (by omega), if_pos (by omega)]
        rfl
      obtain ⟨g1, g2⟩ := cl0 l0 l1 n m (List.replicate l1.length false) 700 (by omega) n.length k 0 (List.replicate l0.length false) (by omega) (by omega) (by simp)
      rw [List.drop_zero] at g1 g2
      have hfit := fits_of h
      have c1 : ∀ (x9 : List Bool) (k' : Nat), x9.length = l0.length → 700 < k' → _ := fun x9 k' h9 hk' => cl1 l0 l1 m x9 h9 (by omega) (by omega) (by omega) hfit m.length k' 0 (List.replicate l1.length false) (by omega) (by omega) (by simp)
      rw [List.drop_zero] at c1
      rw [e]
      refine ⟨fun _ hor => ?_, fun _ ha hb => ?_⟩
      · by_cases ha : n.any (beyondB l0.length) = true
        · exact g1 ha
        · simp only [Bool.not_eq_true] at ha
          obtain ⟨k', x9', q0, q1, q2, q4⟩ := g2 ha
          have hb : m.any (beyondB l1.length) = true := hor.resolve_left (by simp [ha])
          rw [Int.natCast_zero] at *
          rw [q1]
          exact (c1 x9' k' q2 q0).1 hb
      · obtain ⟨k', x9', q0, q1, q2, q4⟩ := g2 ha
        rw [Int.natCast_zero] at *
        rw [q1]
        obtain ⟨bs', es', r1, r2, r3, r4, r5⟩ := (c1 x9' k' q2 q0).2 hb
        refine ⟨bs', es', r1, r2, r3, fun v => ?_, fun v => ?_⟩
        · rw [r4 v, getD_repl]
          simp
        · rw [r5 v, q4 v, getD_repl]
          simp
    · exact ⟨fun h' => absurd h' h, fun h' => absurd h' h⟩
theorem tmod_nn (a : Nat) : 0 ≤ Int.tmod (a : Int) 64 := Int.tmod_nonneg _ (by omega)
theorem mk1 (l0 : List Int) (l1 : List S78) (a : Int) (x5 : List Bool) (hx5 : x5.length = l0.length) (hn0 : l0.length ≤ 1000) (hn : l1.length ≤ 1000)
    (hf : ∀ j, (hj : j < l1.length) → 0 ≤ l1[j].f1 ∧ l1[j].f1 < l0.length ∧ 0 ≤ l1[j].f2 ∧ l1[j].f2 < l0.length) : ∀ (d k i : Nat) (x6 : List Bool), i + d = l1.length → d + l0.length + 2 * l1.length + 2 < k → x6.length = l1.length →
    ∃ bs' es' : List Bool, scarfjointref07_Made.l1 k a x5 x6 i l0 l1 = some (markedL bs', markedL es') ∧ bs'.length = l0.length ∧ es'.length = l1.length ∧
      (∀ v : Nat, bs'.getD v false = true ↔ (x5.getD v false = true ∨ ∃ j, ∃ hj : j < l1.length, es'.getD j false = true ∧ (l1[j].f1 = v ∨ l1[j].f2 = v))) := by
  intro d
  induction d with
  | zero =>
    intro k i x6 hi hk hx
    obtain ⟨k, rfl⟩ : ∃ m, k = m + 1 := ⟨k - 1, by omega⟩
    obtain ⟨bs', h1, h2, h3⟩ := least_ok l0 l1 x5 x6 k hx hx5 (by omega) (by omega) hf (by omega)
    refine ⟨bs', x6, ?_, h2, hx, h3⟩
    rw [scarfjointref07_Made.l1, if_neg (by omega), h1, Option.bind_some]
  | succ d ih =>
    intro k i x6 hi hk hx
    obtain ⟨k, rfl⟩ : ∃ m, k = m + 1 := ⟨k - 1, by omega⟩
    have e : wrap64 ((x5.length : Int) + i) = ((x5.length + i : Nat) : Int) := by unfold wrap64; omega
    rw [scarfjointref07_Made.l1, if_pos (by omega), e, if_pos (tmod_nn _), if_pos (by omega), succ_ok i (by omega)]
    exact ih k (i + 1) _ (by omega) (by omega) (by simp [hx])
theorem mk0 (l0 : List Int) (l1 : List S78) (a : Int) (x6 : List Bool) (hx6 : x6.length = l1.length) (hn0 : l0.length ≤ 1000) (hn : l1.length ≤ 1000)
    (hf : ∀ j, (hj : j < l1.length) → 0 ≤ l1[j].f1 ∧ l1[j].f1 < l0.length ∧ 0 ≤ l1[j].f2 ∧ l1[j].f2 < l0.length) : ∀ (d k i : Nat) (x5 : List Bool), i + d = l0.length → d + l0.length + 3 * l1.length + 3 < k → x5.length = l0.length →
    ∃ bs' es' : List Bool, scarfjointref07_Made.l0 k a x5 x6 i l0 l1 = some (markedL bs', markedL es') ∧ bs'.length = l0.length ∧ es'.length = l1.length ∧
      (∀ j, (hj : j < l1.length) → es'.getD j false = true → bs'.getD l1[j].f1.toNat false = true ∧ bs'.getD l1[j].f2.toNat false = true) := by
  intro d
  induction d with
  | zero =>
    intro k i x5 hi hk hx
    obtain ⟨k, rfl⟩ : ∃ m, k = m + 1 := ⟨k - 1, by omega⟩
    obtain ⟨bs', es', h1, h2, h3, h4⟩ := mk1 l0 l1 a x5 hx hn0 hn hf l1.length k 0 x6 (by omega) (by omega) hx6
    refine ⟨bs', es', ?_, h2, h3, fun j hj h => ⟨(h4 _).2 (.inr ⟨j, hj, h, .inl ?_⟩), (h4 _).2 (.inr ⟨j, hj, h, .inr ?_⟩)⟩⟩
    · rw [scarfjointref07_Made.l0, if_neg (by omega)]
      exact h1
    · have := hf j hj
      omega
    · have := hf j hj
      omega
  | succ d ih =>
    intro k i x5 hi hk hx
    obtain ⟨k, rfl⟩ : ∃ m, k = m + 1 := ⟨k - 1, by omega⟩
    rw [scarfjointref07_Made.l0, if_pos (by omega), if_pos (tmod_nn _), if_pos (by omega), succ_ok i (by omega)]
    exact ih k (i + 1) _ (by omega) (by omega) (by simp [hx])
theorem made_ok (l0 : List Int) (l1 : List S78) (a : Int) (k : Nat) (hv : validB l0 l1 = 0) (hk : 1000 < k) :
    ∃ bs' es' : List Bool, scarfjointref07_Made.f k l0 l1 a = some (markedL bs', markedL es') ∧ bs'.length = l0.length ∧ es'.length = l1.length ∧
      (∀ j, (hj : j < l1.length) → es'.getD j false = true → bs'.getD l1[j].f1.toNat false = true ∧ bs'.getD l1[j].f2.toNat false = true) := by
  obtain ⟨hs0, hs1⟩ := validB_sizes l0 l1 hv
  obtain ⟨bs', es', h1, h2⟩ := mk0 l0 l1 a (List.replicate l1.length false) (by simp) (by omega) (by omega) (fits_of hv) l0.length k 0 (List.replicate l0.length false) (by omega) (by omega) (by simp)
  refine ⟨bs', es', ?_, h2⟩
  unfold scarfjointref07_Made.f
  rw [if_pos (by omega), if_pos (by omega), if_pos (by omega), if_pos (by omega)]
  exact h1
theorem mem_endsOf {l1 : List S78} {m : List Int} {x : Int} : x ∈ endsOf l1 m ↔ ∃ y ∈ m, x = (rd_T78 l1 y).f1 ∨ x = (rd_T78 l1 y).f2 := by
  unfold endsOf
  rw [List.mem_flatMap]
  simp
theorem close_law (l0 : List Int) (l1 : List S78) (n m : List Int) (a : Int) (hn0 : l0.length ≤ 100) (hn : l1.length ≤ 100) (hnn : n.length ≤ 100) (hmm : m.length ≤ 100) (k : Nat) (hk : 2000 < k) :
    ∃ p0 p1 er, subgraph_Close.f l0 l1 n m = some (p0, p1, er) ∧ scarfjointref07_Close.f k l0 l1 n m = some (p0, p1, er) ∧ scarfjointref07_Same.f k p0 p1 p0 p1 = some true ∧
      (er = 0 → ∃ o0 o1 b, scarfjointref07_Made.f k l0 l1 a = some (o0, o1) ∧ scarfjointref07_In.f k n m o0 o1 = some b ∧ (b = true → scarfjointref07_In.f k p0 p1 o0 o1 = some true)) := by
  obtain ⟨c1, c2, c3⟩ := rclose_ok l0 l1 n m k hn0 hn hnn hmm (by omega)
  have s0 : scarfjointref07_Same.f k [] [] [] [] = some true := by
    rw [same_ok _ _ _ _ k (by simp) (by simp) (by simp; omega)]
    simp
  unfold subgraph_Close.f
  rw [if_pos (by omega)]
  by_cases hv : validB l0 l1 = 0
  · rw [if_pos hv]
    by_cases ha : n.any (beyondB l0.length) = true
    · rw [if_pos ha]
      exact ⟨[], [], 6, rfl, c2 hv (.inl ha), s0, fun h => by omega⟩
    · rw [if_neg ha]
      by_cases hb : m.any (beyondB l1.length) = true
      · rw [if_pos hb]
        exact ⟨[], [], 6, rfl, c2 hv (.inr hb), s0, fun h => by omega⟩
      · rw [if_neg hb]
        simp only [Bool.not_eq_true] at ha hb
        obtain ⟨bs', es', r1, r2, r3, r4, r5⟩ := c3 hv ha hb
        have hn_in : ∀ x ∈ n, 0 ≤ x ∧ x < l0.length := fun x hx => beyond_no.1 (by simpa using List.any_eq_false.1 ha x hx)
        have hm_in : ∀ x ∈ m, 0 ≤ x ∧ x < l1.length := fun x hx => beyond_no.1 (by simpa using List.any_eq_false.1 hb x hx)
        have hfit := fits_of hv
        have e1 : markedL es' = Lib.compact (sortI m) := by
          refine asc_ext (markedL_asc _) (comp_asc _) (fun x => ?_)
          rw [mem_markedL, mem_comp, r3]
          constructor
          · rintro ⟨h1, h2, h3⟩
            have := (r4 x.toNat).1 h3
            rwa [Int.toNat_of_nonneg h1] at this
          · intro h
            obtain ⟨h1, h2⟩ := hm_in x h
            refine ⟨h1, h2, (r4 x.toNat).2 ?_⟩
            rwa [Int.toNat_of_nonneg h1]
        have e0 : markedL bs' = Lib.compact (sortI (n ++ endsOf l1 m)) := by
          refine asc_ext (markedL_asc _) (comp_asc _) (fun x => ?_)
          rw [mem_markedL, mem_comp, r2, List.mem_append, mem_endsOf]
          constructor
          · rintro ⟨h1, h2, h3⟩
            rcases (r5 x.toNat).1 h3 with h4 | ⟨j, hj, h4, h5⟩
            · rw [Int.toNat_of_nonneg h1] at h4
              exact .inl h4
            · refine .inr ⟨(j : Int), (r4 j).1 h4, ?_⟩
              rw [rdT_get l1 j hj]
              omega
          · rintro (h | ⟨y, hy, h⟩)
            · obtain ⟨h1, h2⟩ := hn_in x h
              refine ⟨h1, h2, (r5 x.toNat).2 (.inl ?_)⟩
              rwa [Int.toNat_of_nonneg h1]
            · obtain ⟨h1, h2⟩ := hm_in y hy
              obtain ⟨j, rfl⟩ : ∃ j : Nat, y = j := ⟨y.toNat, by omega⟩
              have hj : j < l1.length := by omega
              rw [rdT_get l1 j hj] at h
              have := hfit j hj
              exact ⟨by omega, by omega, (r5 x.toNat).2 (.inr ⟨j, hj, (r4 j).2 hy, by omega⟩)⟩
        refine ⟨markedL bs', markedL es', 0, by rw [e0, e1], r1, ?_, fun _ => ?_⟩
        · have l1' := markedL_len bs'
          have l2' := markedL_len es'
          rw [same_ok _ _ _ _ k (by omega) (by omega) (by omega)]
          simp
        · obtain ⟨os, ps, m1, m2, m3, m4⟩ := made_ok l0 l1 a k hv (by omega)
          have l1' := markedL_len bs'
          have l2' := markedL_len es'
          have l3' := markedL_len os
          have l4' := markedL_len ps
          refine ⟨markedL os, markedL ps, _, m1, in_ok n m _ _ k (by omega) (by omega) (by omega) (by omega) (by omega), fun hb' => ?_⟩
          obtain ⟨i0, i1⟩ := of_decide_eq_true hb'
          rw [in_ok _ _ _ _ k (by omega) (by omega) (by omega) (by omega) (by omega)]
          have p1 : ∀ x ∈ markedL es', x ∈ markedL ps := fun x hx => i1 x (by rw [e1, mem_comp] at hx; exact hx)
          refine congrArg some (decide_eq_true ⟨fun x hx => ?_, p1⟩)
          rw [e0, mem_comp, List.mem_append, mem_endsOf] at hx
          rcases hx with hx | ⟨y, hy, hx⟩
          · exact i0 x hx
          · obtain ⟨h1, h2⟩ := hm_in y hy
            obtain ⟨j, rfl⟩ : ∃ j : Nat, y = j := ⟨y.toNat, by omega⟩
            have hj : j < l1.length := by omega
            rw [rdT_get l1 j hj] at hx
            have hfj := hfit j hj
            obtain ⟨z1, z2, z3⟩ := mem_markedL.1 (i1 _ hy)
            rw [Int.toNat_natCast] at z3
            obtain ⟨w1, w2⟩ := m4 j hj z3
            rw [mem_markedL]
            rcases hx with rfl | rfl
            · exact ⟨hfj.1, by omega, w1⟩
            · exact ⟨hfj.2.2.1, by omega, w2⟩
  · rw [if_neg hv]
    exact ⟨[], [], _, rfl, c1 hv, s0, fun h => absurd h hv⟩
end Go.Proofs.Ytonipihlpbaknaa.Print
namespace Go.Proofs.Ytonipihlpbaknaa.Print
open Go.RowKit Go.Proofs.YtonipihlpbaknaaW.PrintWords Go.Proofs.YtonipihlpbaknaaW.PrintLast Go.Proofs.YtonipihlpbaknaaW.PrintMore
theorem smallG_len {l0 : List Int} {l1 : List S78} (h : smallG l0 l1 = true) : l0.length ≤ 45 ∧ l1.length ≤ 90 := by
  simp [smallG] at h
  omega
theorem copied_ok (l0 : List Int) (l1 : List S78) (h0 : l0.length ≤ 1000) (h1 : l1.length ≤ 1000) : scarfjointref05_Copied.f l0 l1 = some (l0, l1) := by
  unfold scarfjointref05_Copied.f
  rw [Option.bind_some, if_pos (by simp; omega), Option.bind_some, if_pos (by simp; omega)]
  rfl
theorem clone_ok (l : List Int) (h : l.length ≤ 1000) : slices_Clone_int_int.f l = some l := by
  unfold slices_Clone_int_int.f
  rw [if_pos (by omega)]
theorem small_nil (l0 : List Int) (l1 : List S78) : scarfjointlaw07_small.f l0 l1 [] = some (smallG l0 l1) := by simp [scarfjointlaw07_small.f]
theorem scarfjointlaw07_SubgraphClose.whole (A0 : Option Addr) (c0 : Nat) (l0 : List Int) (A1 : Option Addr) (c1 : Nat) (l1 : List S78) (A2 : Option Addr) (c2 : Nat) (l2 : List Int) (A3 : Option Addr) (c3 : Nat) (l3 : List Int) (a2 : Int) (w : World)
    (r0 : Kd.C (Kd.int .i64) w A0 l0.length l0) (m0 : l0.length ≤ c0) (r1 : Kd.C k78 w A1 l1.length l1) (m1 : l1.length ≤ c1) (r2 : Kd.C (Kd.int .i64) w A2 l2.length l2) (m2 : l2.length ≤ c2) (r3 : Kd.C (Kd.int .i64) w A3 l3.length l3) (m3 : l3.length ≤ c3) :
    Calls Try.prog 3 #[.agg #[.slice A0 l0.length c0, .slice A1 l1.length c1], .agg #[.slice A2 l2.length c2, .slice A3 l3.length c3], .int .u64 a2] w fun e w' => e = .returned (.bool true) ∧ Below w.heap.size w w' := by
  have hsm := small_nil l0 l1
  by_cases hb : smallG l0 l1 = true
  · by_cases hn : l2.length ≤ 100
    · by_cases hm : l3.length ≤ 100
      · obtain ⟨q0, q1⟩ := smallG_len hb
        obtain ⟨p0, p1, er, h1, h2, h3, h4⟩ := close_law l0 l1 l2 l3 a2 (by omega) (by omega) hn hm 3000 (by omega)
        exact scarfjointlaw07_SubgraphClose.ok 3000 A0 c0 l0 A1 c1 l1 A2 c2 l2 A3 c3 l3 a2 p0 p1 er w r0 m0 r1 m1 r2 m2 r3 m3 (by rw [hsm, hb]) hn hm (copied_ok l0 l1 (by omega) (by omega)) (clone_ok l2 (by omega)) (clone_ok l3 (by omega)) h1 h2 h3 h4
      · exact scarfjointlaw07_SubgraphClose.big A0 c0 l0 A1 c1 l1 A2 c2 l2 A3 c3 l3 a2 w r0 m0 r1 m1 (.inr (.inr ⟨_, hsm, hb, hn, by omega⟩))
    · exact scarfjointlaw07_SubgraphClose.big A0 c0 l0 A1 c1 l1 A2 c2 l2 A3 c3 l3 a2 w r0 m0 r1 m1 (.inr (.inl ⟨_, hsm, hb, by omega⟩))
  · exact scarfjointlaw07_SubgraphClose.big A0 c0 l0 A1 c1 l1 A2 c2 l2 A3 c3 l3 a2 w r0 m0 r1 m1 (.inl ⟨_, hsm, by simpa using hb⟩)
end Go.Proofs.Ytonipihlpbaknaa.Print
namespace Go.Proofs.Ytonipihlpbaknaa.subgraphClose
open Go.ChangeShapes Go.WideShapes Go.ChangeAt Go.RowKit Go.Proofs.Ytonipihlpbaknaa.Print
set_option linter.unusedVariables false
theorem own : ownKnob Try.prog.godebug = none := by kernel_rfl
theorem laidOut : laidOutB Try.prog = true := by kernel_rfl
set_option maxRecDepth 100000 in
theorem lifted (os : Os) (started : os.Started) (H : Type) (enc : TypeId × Value → H) :
    ReturnsInHanded {} Try.checked os 3 .any (Rows.subgraphCloseSpec.pre6 enc Try.prog Try.f3 Rows.subgraphCloseRow.domain false) (Rows.subgraphCloseSpec.post enc Try.prog Try.f3 false true false false) := by
  refine returnsInHanded_of_change_sized (C := Try.checked) own started (by kernel_rfl) Try.func3
    (ChangeSpec.witness6 (enc := enc) (C := Try.checked) false ⟨#[], #[.agg #[.slice none 0 0, .slice none 0 0], .agg #[.slice none 0 0, .slice none 0 0], .int .u64 0], []⟩ 8 (by kernel_rfl) (by kernel_rfl) (by kernel_rfl) (by kernel_rfl)) ?_
  intro W base args ds gs before hval0 hW hcnd hsz0 _
  have hval : ∀ (j : Nat) t v, Try.f3.params[j]? = some t → args[j]? = some v → Value.okWide Try.prog W .any base t v := hval0
  have hW' := hW
  obtain ⟨p, q, hA0, hV, rfl, hfz, hnd⟩ := hW
  have hA : DataW.TrodAll enc Try.prog W 0 (fun _ => true) true Try.f3.params.toList args.toList ds p := hA0
  rw [Try.params3] at hA hval
  obtain ⟨v0, vs0, d0, ds0, p0, q0, hargs, rfl, rfl, h0, r0⟩ := trodAll_cons hA
  obtain ⟨v1, vs1, d1, ds1, p1, q1, rfl, rfl, rfl, h1, r1⟩ := trodAll_cons r0
  obtain ⟨v2, vs2, d2, ds2, p2, q2, rfl, rfl, rfl, h2, r2⟩ := trodAll_cons r1
  obtain ⟨rfl, rfl, rfl⟩ := trodAll_nil r2
  obtain rfl : args = #[v0, v1, v2] := by cases args; simp_all
  obtain ⟨rfl, rfl⟩ := trodVars_none hV
  have k0 := h0
  have lt0 : ∀ x ∈ p0, x.block < W.heap.size := by obtain ⟨m, hm⟩ := k0; exact DataW.trod_lt m _ _ _ hm
  obtain ⟨A0a, c0a, l0a, A0b, c0b, l0b, rfl, ra0, ma0, rb0, mb0⟩ := open_graph (hval 0 25 v0 rfl rfl) h0
  have k1 := h1
  have lt1 : ∀ x ∈ p1, x.block < W.heap.size := by obtain ⟨m, hm⟩ := k1; exact DataW.trod_lt m _ _ _ hm
  obtain ⟨A1a, c1a, l1a, A1b, c1b, l1b, rfl, ra1, ma1, rb1, mb1⟩ := open_part (hval 1 27 v1 rfl rfl) h1
  obtain ⟨a2, rfl, rfl, rfl, w2⟩ := open_int Try.underlying28 (hval 2 28 v2 rfl rfl) h2
  clear hA0 hval0 hsz0
  refine (scarfjointlaw07_SubgraphClose.whole A0a c0a l0a A0b c0b l0b A1a c1a l1a A1b c1b l1b a2 W ra0 ma0 rb0 mb0 ra1 ma1 rb1 mb1).mono fun e W' ⟨he, bel⟩ => ?_
  subst he
  exact ⟨_, rfl, _, _, _, [], _, [], hW', trodAll_mk1 (shut_bool Try.underlying4 _), (trodAll_cons_mk (Below.trod laidOut (by kernel_rfl) (of_decide_eq_true (by kernel_rfl)) k0 bel lt0) (trodAll_cons_mk (Below.trod laidOut (by kernel_rfl) (of_decide_eq_true (by kernel_rfl)) k1 bel lt1) (trodAll_cons_mk (shut_int Try.underlying28 w2) trodAll_mk0))), rfl, bel.frame _, fun h => by cases h⟩
theorem over : Rows.subgraphCloseRow.holds Try.pinned (OpenSpec.ofChange Rows.subgraphCloseSpec) :=
  OpenClaim.holds_of_wide 3 Try.f3 rfl rfl rfl rfl rfl rfl rfl ⟨rfl, rfl, rfl, rfl, rfl⟩ rfl rfl rfl rfl rfl (by kernel_rfl) Try.func3 (by kernel_rfl)
    (of_decide_eq_true (by kernel_rfl)) (by unfold Func.isWrapper; first | (rw [if_pos (by decide +kernel)]; kernel_rfl) | (rw [if_neg (by decide +kernel)]; exact ⟨rfl, rfl⟩))
    (fun os started H enc _ => lifted os started H enc)
theorem proved : Rows.SubgraphCloseSaid := over
#print axioms proved
end Go.Proofs.Ytonipihlpbaknaa.subgraphClose
namespace Go.Proofs.Ytonipihlpbaknaa
/-- The row, under a short name, for the claim. -/
theorem subgraphClose_holds : Rows.SubgraphCloseSaid := subgraphClose.proved
end Go.Proofs.Ytonipihlpbaknaa

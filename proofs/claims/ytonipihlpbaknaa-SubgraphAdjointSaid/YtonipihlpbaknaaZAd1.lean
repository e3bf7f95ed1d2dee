/- A part of the proof that the law returns true at every input; what the walked functions compute. -/
import Derived.Laws.StructEq
import Derived.Test.YtonipihlpbaknaaProg
import Derived.Below
import Derived.Deep.Draws
import Derived.Deep.AppendLies
import Derived.Maps.AppendAt
import Derived.OwnWalk
import Derived.Laws.BytesArg
import Derived.Laws.MakeOwn
import Derived.Laws.OwnMore
import Derived.Deep.OwnRows
import Derived.Tactics
import Derived.Lib.ConvBytes
import Derived.Laws.Slices
import Derived.WalkKit
import Derived.KernelRfl
import Derived.RowKit3
import Derived.Deep.LoopGhost
import Derived.Deep.QuietTactic
import Derived.BigQuiet
import Derived.WideLaws
import Derived.Deep.DeepCutAuto
import Derived.Deep.CutBlock
import Derived.Deep.RegionHeld3
import Derived.Laws.Rows
import Derived.Lib.AppendStr
import Derived.ArgAppend
import Derived.Laws.IdiomCopy
import Derived.OrdersHeld
import Derived.Laws.BitsLemmas
import Derived.RowKit
import Derived.Deep.Slices
import Derived.Deep.Strs
import Derived.Lib.SmallJoins
import Derived.ChangeSlices
import Derived.ChangeArms
import Derived.Lib.Hide
import Derived.Shelf.Abstract
import Derived.WalkSpells
import Derived.Shelf.Sort.Plain
import Derived.Shelf.Slices.CompactI
import Derived.Shelf.Slices.In.SortNone
import Derived.Shelf.SlicesE.IndexFunc
import Derived.Shelf.SlicesE.DeleteFunc
import Derived.Shelf.SlSortCmp.Whole1
import Derived.Shelf.SlSortCmp.NoneTotal
import Derived.Lib.OwnBridge
import Derived.Test.YtonipihlpbaknaaZAd0
namespace Go.Proofs.YtonipihlpbaknaaW.PrintWords
open Go.RowKit
namespace Kd
/-- An element with its index: its blocks are those that f gives to it. -/
def tag {α : Type} (f : Nat → Nat) (d : Kd α) : Kd (α × Nat) where
  sz := d.sz
  E := d.E
  K := fun w x cs => d.K w x.1 cs
  M := fun w base ok x cs => d.M w base (fun k => ok k ∧ f k = x.2) x.1 cs
  K_len := fun h => d.K_len h
  K_one := fun h => d.K_one h
  K_below := fun hb h => d.K_below hb h
  K_of_M := fun h => d.K_of_M h
  M_mono := fun hok h => d.M_mono (fun k hk => ⟨hok k hk.1, hk.2⟩) h
  M_bound := fun h => d.M_mono (fun _ hk => ⟨⟨hk.1.1, hk.2⟩, hk.1.2⟩) (d.M_bound h)
  M_move := fun hm h => d.M_move (fun k hk => hm k hk.1) h
  M_lower := fun hb h => d.M_lower hb h
/-- The cells themselves. -/
def raw (sz : Nat) : Kd (List Value) where
  sz := sz
  E := []
  K := fun _ x cs => cs = x ∧ cs.length = sz ∧ ∀ u ∈ cs, u.oneCell' = true
  M := fun _ _ _ x cs => cs = x ∧ cs.length = sz ∧ ∀ u ∈ cs, u.oneCell' = true
  K_len := fun h => h.2.1
  K_one := fun h => h.2.2
  K_below := fun _ h => h
  K_of_M := fun h => h
  M_mono := fun _ h => h
  M_bound := fun h => h
  M_move := fun _ h => h
  M_lower := fun _ h => h
/-- A row of elements (type e) of the call's own, no two of which lead to one block. -/
def S {α : Type} (d : Kd α) (e : Nat) (w : World) (base : Nat) (ok : Nat → Prop) (v : Value) (xs : List α) : Prop := ∃ f, (tag f d).R e w base ok v xs.zipIdx
section
variable {α β : Type} {d : Kd α} {d' : Kd β} {e e' : Nat} {w w1 W : World} {base b : Nat} {ok ok' okv oku : Nat → Prop} {u v : Value} {xs : List α} {ys : List β}
/-- A row whose elements lead to nothing: its blocks are its own one. -/
theorem R_tight (hE : d.E = []) (h : d.R e w base ok v xs) : d.R e w base (fun k => some k = v.ownBlock) v xs := by
  obtain ⟨h0, inner, ho, hr⟩ := h
  refine ⟨fun k hk => hk.symm, inner, ho, hr.imp_ (fun p c hp => d.M_mono (fun k hk => ?_) (d.M_bound hp))⟩
  obtain ⟨_, _, _, q, hq, _⟩ := hk; rw [hE] at hq; cases hq
theorem S_nil (d : Kd α) (e : Nat) (w : World) (base : Nat) (ok : Nat → Prop) : S d e w base ok (.slice none 0 0) [] := ⟨fun _ => 0, R_nil _ _ _ _ _⟩
end
section
variable {α β : Type} {d : Kd α} {d' : Kd β} {e e' g : Nat} {w w1 W : World} {base b : Nat} {ok ok' okv oku : Nat → Prop} {u v : Value} {xs : List α} {ys : List β}
end
section
variable {P : Program} {ops : Array Oper} {rest : List Oper} {o : Oper} {a : Act} {Q : Exit → Act → World → Prop} {Kc : Act → World → Prop} {α : Type}
end
/-- Element i is these cells; the others are d's. -/
def gap {α : Type} (f : Nat → Nat) (d : Kd α) (i : Nat) (c : List Value) : Kd (α × Nat) where
  sz := d.sz
  E := d.E
  K := fun w x cs => (x.2 = i → cs = c ∧ cs.length = d.sz ∧ ∀ u ∈ cs, u.oneCell' = true) ∧ (x.2 ≠ i → d.K w x.1 cs)
  M := fun w base ok x cs => (x.2 = i → cs = c ∧ cs.length = d.sz ∧ ∀ u ∈ cs, u.oneCell' = true) ∧ (x.2 ≠ i → d.M w base (fun k => ok k ∧ f k = x.2) x.1 cs)
  K_len := fun {w x cs} h => by
    by_cases hx : x.2 = i
    · exact (h.1 hx).2.1
    · exact d.K_len (h.2 hx)
  K_one := fun {w x cs} h => by
    by_cases hx : x.2 = i
    · exact (h.1 hx).2.2
    · exact d.K_one (h.2 hx)
  K_below := fun hb h => ⟨h.1, fun hx => d.K_below hb (h.2 hx)⟩
  K_of_M := fun h => ⟨h.1, fun hx => d.K_of_M (h.2 hx)⟩
  M_mono := fun hok h => ⟨h.1, fun hx => d.M_mono (fun k hk => ⟨hok k hk.1, hk.2⟩) (h.2 hx)⟩
  M_bound := fun h => ⟨h.1, fun hx => d.M_mono (fun _ hk => ⟨⟨hk.1.1, hk.2⟩, hk.1.2⟩) (d.M_bound (h.2 hx))⟩
  M_move := fun hm h => ⟨h.1, fun hx => d.M_move (fun k hk => hm k hk.1) (h.2 hx)⟩
  M_lower := fun hb h => ⟨h.1, fun hx => d.M_lower hb (h.2 hx)⟩
def H {α : Type} (d : Kd α) (e : Nat) (w : World) (base : Nat) (ok : Nat → Prop) (v : Value) (xs : List α) (i : Int) (oki : Nat → Prop) (c : List Value) : Prop :=
  (∀ k, oki k → ok k) ∧ ∃ f, (gap f d i.toNat c).R e w base (fun k => ok k ∧ ¬ oki k) v xs.zipIdx
section
variable {α β : Type} {d : Kd α} {e e' g n cap : Nat} {w w1 W : World} {base : Nat} {ok ok' oki okp : Nat → Prop} {u v : Value} {xs : List α} {i : Int} {c : List Value}
end
section
variable {P : Program} {ops : Array Oper} {rest : List Oper} {o : Oper} {a : Act} {Q : Exit → Act → World → Prop} {α : Type}
end
end Kd
end Go.Proofs.YtonipihlpbaknaaW.PrintWords
namespace Go.Proofs.YtonipihlpbaknaaW.PrintWords
open Go.RowKit
namespace Kd
/-- What a kind reads lies in the blocks: nothing else of the world is looked at. -/
structure Heap {α : Type} (d : Kd α) : Prop where
  K : ∀ {w w1 : World} {x : α} {cs : List Value}, (∀ k, k < w.heap.size → w1.heap[k]? = w.heap[k]?) → d.K w x cs → d.K w1 x cs
theorem cell_heap {w w1 : World} (hb : ∀ k, k < w.heap.size → w1.heap[k]? = w.heap[k]?) {a : Addr} {v : Value} (h : w.cell? a = some v) : w1.cell? a = some v := by
  have := hb a.block (World.block_lt_of_cell? w a h)
  simpa [World.cell?, this] using h
theorem Heap.C {α : Type} {d : Kd α} (hd : Heap d) {w w1 : World} {A : Option Addr} {n : Nat} {xs : List α} (hb : ∀ k, k < w.heap.size → w1.heap[k]? = w.heap[k]?) (h : d.C w A n xs) : d.C w1 A n xs :=
  ⟨h.1, h.2.1, fun hn => by
    obtain ⟨ad, e, hc⟩ := h.2.2 hn
    refine ⟨ad, e, fun j p hj => ?_⟩
    obtain ⟨c, hs, hr, hcell⟩ := hc j p hj
    exact ⟨c, hs, hd.K hb hr, fun i u hu => cell_heap hb (hcell i u hu)⟩⟩
section
variable {α : Type} {d : Kd α} {e base g n c : Nat} {ok : Nat → Prop} {w w0 W : World} {A : Option Addr} {xs : List α}
end
end Kd
end Go.Proofs.YtonipihlpbaknaaW.PrintWords
namespace Go.Proofs.YtonipihlpbaknaaW.PrintWords
open Go.RowKit
def Kept (w W : World) (S : Nat → Prop) : Prop := w.heap.size ≤ W.heap.size ∧ ∀ i, i < w.heap.size → ¬ S i → W.heap[i]? = w.heap[i]?
section
variable {w W W2 : World} {S S2 S' : Nat → Prop}
theorem Kept.refl (w : World) (S : Nat → Prop) : Kept w w S := ⟨Nat.le_refl _, fun _ _ _ => rfl⟩
theorem Kept.of_below (h : Below w.heap.size w W) (S : Nat → Prop) : Kept w W S := ⟨h.size, fun i hi _ => h.block i hi⟩
theorem Kept.mono (h : Kept w W S) (hs : ∀ k, S k → S' k) : Kept w W S' := ⟨h.1, fun i hi hn => h.2 i hi (fun hk => hn (hs i hk))⟩
theorem Kept.then_ (h : Kept w W S) (k : Kept W W2 S2) (hs : ∀ k, S2 k → S k ∨ w.heap.size ≤ k) : Kept w W2 S :=
  ⟨Nat.le_trans h.1 k.1, fun i hi hn => (k.2 i (Nat.lt_of_lt_of_le hi h.1) (fun h2 => (hs i h2).elim hn (fun h3 => by omega))).trans (h.2 i hi hn)⟩
theorem Kept.of_grown {row : Option Nat} (hg : W.grownBy W2 row) (h : Kept w W S) (hr : ∀ k, row = some k → S k ∨ w.heap.size ≤ k) : Kept w W2 S :=
  h.then_ (S2 := fun k => row = some k) ⟨hg.size, fun i hi hn => hg.block i hi (fun he => hn he.symm)⟩ hr
theorem Kept.below (h : Kept w W S) (hb : Below W.heap.size W W2) : Kept w W2 S := h.then_ (Kept.of_below hb (fun _ => False)) (fun _ hk => hk.elim)
theorem Kept.alloc (h : Kept w W S) (o : Obj) : Kept w (W.alloc o) S := h.below (below_alloc (Below.refl _ _) o)
theorem Kept.drew (h : Kept w W S) : Kept w W.drew S := h
theorem Kept.drewN (h : Kept w W S) (m : Nat) : Kept w (W.drewN m) S := h
theorem Kept.setCell (h : Kept w W S) {p : Addr} (hp : S p.block ∨ w.heap.size ≤ p.block) (u : Value) : Kept w (W.setCell p u) S :=
  h.then_ (S2 := fun k => k = p.block) ⟨by simp [World.setCell], fun i _ hn => Below.heap_setCell W p u i hn⟩ (fun k hk => by rw [hk]; exact hp)
/-- A state's call that keeps all but the state's block. -/
theorem Kept.of_keep {g : Nat} (h : Kept w W S) (k : KeepBut W W2 g none) (hg : S g ∨ w.heap.size ≤ g) : Kept w W2 S :=
  h.then_ (S2 := fun k => k = g) ⟨k.1, fun i hi hn => k.2 i hi hn (by simp)⟩ (fun k hk => by rw [hk]; exact hg)
/-- Beside a state: what was written is new since. -/
theorem Kept.keep {g : Nat} (h : KeepBut w W g none) (k : Kept W W2 S2) (hs : ∀ k, S2 k → w.heap.size ≤ k) : KeepBut w W2 g none :=
  ⟨Nat.le_trans h.1 k.1, fun i hi hg hr => (k.2 i (Nat.lt_of_lt_of_le hi h.1) (fun h2 => by have := hs i h2; omega)).trans (h.2 i hi hg hr)⟩
theorem blk_kept {g : Nat} {o : Obj} (hb : W.heap[g]? = some o) (hk : Kept W W2 S) (hne : ¬ S g) : W2.heap[g]? = some o := (hk.2 g (blk_lt hb) hne).trans hb
end
namespace Kd
section
variable {α : Type} {d : Kd α} {e base n c : Nat} {ok oki S S2 : Nat → Prop} {w w0 W W1 W2 : World} {v : Value} {A : Option Addr} {xs : List α} {i : Int} {cs : List Value}
theorem R_kept (h : d.R e W base ok v xs) (hk : Kept W W2 S) (hne : ∀ k, ok k → ¬ S k) : d.R e W2 base ok v xs := R_step h (fun k ho hlt => hk.2 k hlt (hne k ho))
end
end Kd
end Go.Proofs.YtonipihlpbaknaaW.PrintWords
namespace Go.Proofs.YtonipihlpbaknaaW.PrintWords
open Go.RowKit
/-- P holds in W and in every world that has W's blocks of ok. -/
def Foot (P : World → Prop) (W : World) (ok : Nat → Prop) : Prop := ∀ W' : World, (∀ k, ok k → k < W.heap.size → W'.heap[k]? = W.heap[k]?) → P W'
theorem heap_lt {W W1 : World} {k : Nat} (h : W1.heap[k]? = W.heap[k]?) (hlt : k < W.heap.size) : k < W1.heap.size := by
  rw [Array.getElem?_eq_getElem hlt] at h; exact (Array.getElem?_eq_some_iff.1 h).1
namespace Foot
variable {P Q : World → Prop} {W W1 : World} {ok ok' : Nat → Prop}
theorem now (h : Foot P W ok) : P W := h W (fun _ _ _ => rfl)
theorem mono (h : Foot P W ok) (hok : ∀ k, ok k → ok' k) : Foot P W ok' := fun W' hW => h W' (fun k hk hlt => hW k (hok k hk) hlt)
theorem bound (h : Foot P W ok) : Foot P W (fun k => ok k ∧ k < W.heap.size) := fun W' hW => h W' (fun k hk hlt => hW k ⟨hk, hlt⟩ hlt)
theorem step (h : Foot P W ok) (hm : ∀ k, ok k → k < W.heap.size → W1.heap[k]? = W.heap[k]?) : Foot P W1 ok := fun W' hW => h W' (fun k hk hlt => (hW k hk (heap_lt (hm k hk hlt) hlt)).trans (hm k hk hlt))
theorem imp (h : Foot P W ok) (hi : ∀ W', P W' → Q W') : Foot Q W ok := fun W' hW => hi W' (h W' hW)
/-- Moved, and still elder than what is new since W. -/
theorem old (h : Foot P W ok) (hb : Below W.heap.size W W1) : Foot P W1 (fun k => ok k ∧ k < W.heap.size) := (h.bound).step (fun k _ hlt => hb.block k hlt)
end Foot
namespace Kd
/-- A row that is only read: what it leads to lies in ok. -/
def F {α : Type} (d : Kd α) (W : World) (ok : Nat → Prop) (A : Option Addr) (n : Nat) (xs : List α) : Prop := Foot (fun W => d.C W A n xs) W ok
/-- An element's cells: what they lead to lies in ok. -/
def FK {α : Type} (d : Kd α) (W : World) (ok : Nat → Prop) (x : α) (c : List Value) : Prop := Foot (fun W => d.K W x c) W ok
section
variable {α β : Type} {d : Kd α} {e base n n' cc g N : Nat} {ok ok' okp S : Nat → Prop} {w w0 w1 W W1 : World} {A A' : Option Addr} {u v v1 : Value} {xs : List α} {xs' : List β} {d' : Kd β} {x : α} {c : List Value}
theorem F_nil (d : Kd α) (W : World) (ok : Nat → Prop) : F d W ok none ([] : List α).length [] := fun W' _ => C_nil d W'
theorem FK_of_M (h : d.M W base ok x c) : FK d W ok x c := fun _ hW => d.K_of_M (M_step h hW)
end
end Kd
end Go.Proofs.YtonipihlpbaknaaW.PrintWords
namespace Go.Proofs.YtonipihlpbaknaaW.PrintWords
open Go.RowKit
namespace Kd
/-- The cells one behind the other, element by element. -/
def chunks (sz : Nat) (n : Nat) (inner : List Value) : List (List Value) := (List.range n).map fun j => (inner.drop (j * sz)).take sz
theorem chunks_length (sz n : Nat) (inner : List Value) : (chunks sz n inner).length = n := by simp [chunks]
theorem chunks_at {sz n : Nat} {inner : List Value} {j : Nat} (hj : j < n) : (chunks sz n inner)[j]? = some ((inner.drop (j * sz)).take sz) := by simp [chunks, hj]
theorem chunks_get {sz n : Nat} {inner : List Value} {j : Nat} {c : List Value} (h : (chunks sz n inner)[j]? = some c) : c = (inner.drop (j * sz)).take sz := by
  have hj : j < n := by have := (List.getElem?_eq_some_iff.1 h).1; rwa [chunks_length] at this
  rw [chunks_at hj] at h
  injection h with h
  exact h.symm
theorem reps_raw {α : Type} {Rr : α → List Value → Prop} {sz : Nat} {xs : List α} {inner : List Value} (h : Reps Rr sz xs inner) (hR : ∀ x c, Rr x c → c.length = sz ∧ ∀ u ∈ c, u.oneCell' = true) : Reps (fun x cs => cs = x ∧ cs.length = sz ∧ ∀ u ∈ cs, u.oneCell' = true) sz (chunks sz xs.length inner) inner := by
  refine ⟨by rw [chunks_length]; exact h.1, fun j p hj => ?_⟩
  have hjl : j < xs.length := by have := (List.getElem?_eq_some_iff.1 hj).1; rwa [chunks_length] at this
  have hp := chunks_get hj; exact ⟨hp.symm, hR _ _ (h.2 j _ (List.getElem?_eq_getElem hjl))⟩
section
variable {α : Type} {d : Kd α} {e base n cc g : Nat} {ok ok' okp S : Nat → Prop} {w w1 W W1 : World} {A : Option Addr} {u v v1 : Value} {xs : List α} {x : α} {c : List Value}
/-- A row of elements (type e) of the call's own; what the elements lead to is only read, and is not this row. -/
def N {α : Type} (d : Kd α) (e : Nat) (w : World) (base : Nat) (ok : Nat → Prop) (v : Value) (xs : List α) : Prop :=
  (∀ k, v.ownBlock = some k → ok k) ∧ ∃ rows : List (List Value), rows.length = xs.length ∧ (raw d.sz).R e w base (fun k => some k = v.ownBlock) v rows ∧ ∀ (j : Nat) (x : α) (c : List Value), xs[j]? = some x → rows[j]? = some c → FK d w (fun k => ok k ∧ some k ≠ v.ownBlock) x c
theorem R_N (h : d.R e w base ok v xs) : N d e w base ok v xs := by
  obtain ⟨h0, inner, ho, hr⟩ := h
  refine ⟨h0, chunks d.sz xs.length inner, chunks_length _ _ _, ⟨fun k hk => hk.symm, inner, by rw [chunks_length]; exact ho, reps_raw hr (fun x c hp => ⟨d.K_len (d.K_of_M hp), d.K_one (d.K_of_M hp)⟩)⟩, fun j x c hx hc => ?_⟩
  rw [chunks_get hc]; exact FK_of_M (hr.2 j x hx)
theorem N_nil (d : Kd α) (e : Nat) (w : World) (base : Nat) (ok : Nat → Prop) : N d e w base ok (.slice none 0 0) [] := R_N (R_nil _ _ _ _ _)
end
end Kd
end Go.Proofs.YtonipihlpbaknaaW.PrintWords
namespace Go.Proofs.YtonipihlpbaknaaW.PrintWords
open Go.RowKit
section
variable {P : Program} {d : Nat} {xs ys : Array Value} {f : Field} {fs : List Field} {a b : Value} {r s : Bool} {w : World}
/-- The last field that counts. -/
theorem eqf_last (hn : (f.name == "_") = false) (ha : (part f.type xs f.offset).run P w = .ok a w) (hb : (part f.type ys f.offset).run P w = .ok b w) (he : (Op.equalIn d f.type a b).run P w = .ok r w) : (Op.eqFields d xs ys [f]).run P w = .ok r w := by
  have hn' : f.name ≠ "_" := by simpa using hn
  simp only [Op.eqFields, if_pos hn', Sem.run_bind, ha, hb, he, Result.andThen_ok]
  cases r <;> simp
theorem eqf_cons (hn : (f.name == "_") = false) (ha : (part f.type xs f.offset).run P w = .ok a w) (hb : (part f.type ys f.offset).run P w = .ok b w) (he : (Op.equalIn d f.type a b).run P w = .ok r w) (hr : (Op.eqFields d xs ys fs).run P w = .ok s w) : (Op.eqFields d xs ys (f :: fs)).run P w = .ok (r && s) w := by
  have hn' : f.name ≠ "_" := by simpa using hn
  rw [Op.eqFields]; simp only [if_pos hn', Sem.run_bind, ha, hb, he, Result.andThen_ok]; cases r
  · simp
  · simpa using hr
theorem eqA_of {t : TypeId} {fs : Array Field} (hu : P.underlying t = some (.struct fs)) (hp : P.stoodInHeld t = false) (h : (Op.eqFields d xs ys fs.toList).run P w = .ok r w) : (Op.equalIn (d + 1) t (.agg xs) (.agg ys)).run P w = .ok r w := by
  have hf : P.fieldsOf t = fs := by simp [Program.fieldsOf, hu]
  rw [run_equalIn_struct (P := P) w d t xs ys (by rw [hf]; exact hu) hp, hf]; exact h
end
end Go.Proofs.YtonipihlpbaknaaW.PrintWords
namespace Go.Proofs.YtonipihlpbaknaaW.PrintWords
/-- One cell an element. -/
theorem Reps.one {α : Type} {R : α → List Value → Prop} {ps : List α} {cs : List Value} {p : α} {v : Value} (hp : R p [v]) (h : Reps R 1 ps cs) : Reps R 1 (p :: ps) (v :: cs) := by
  refine ⟨by simp [h.1], fun j q hq => ?_⟩
  cases j with
  | zero =>
    simp only [List.getElem?_cons_zero, Option.some.injEq] at hq; subst hq
    simpa using hp
  | succ j =>
    simp only [List.getElem?_cons_succ] at hq; have h1 := h.2 j q hq
    simpa [Nat.mul_one] using h1
/-- More cells an element: told apart by the cells' list. -/
theorem Reps.front {α : Type} {R : α → List Value → Prop} {size : Nat} {ps : List α} {cs c all : List Value} {p : α} (hp : R p c) (hc : c.length = size) (h : Reps R size ps cs) (ha : c ++ cs = all) : Reps R size (p :: ps) all := by
  subst ha
  refine ⟨by rw [List.length_append, hc, h.1, List.length_cons, Nat.succ_mul, Nat.add_comm], fun j q hq => ?_⟩
  cases j with
  | zero =>
    simp only [List.getElem?_cons_zero, Option.some.injEq] at hq; subst hq; rw [Nat.zero_mul, List.drop_zero, List.take_append_of_le_length (by omega), List.take_of_length_le (by omega)]; exact hp
  | succ j =>
    simp only [List.getElem?_cons_succ] at hq; have h1 := h.2 j q hq; rw [Nat.succ_mul, List.drop_append, List.drop_of_length_le (by rw [hc]; exact Nat.le_add_left _ _), List.nil_append, hc, Nat.add_sub_cancel]; exact h1
theorem Reps.c2 {α : Type} {R : α → List Value → Prop} {ps : List α} {cs : List Value} {p : α} {va vb : Value} (hp : R p [va, vb]) (h : Reps R 2 ps cs) : Reps R 2 (p :: ps) (va :: vb :: cs) := Reps.front hp rfl h rfl
theorem Reps.c3 {α : Type} {R : α → List Value → Prop} {ps : List α} {cs : List Value} {p : α} {va vb vc : Value} (hp : R p [va, vb, vc]) (h : Reps R 3 ps cs) : Reps R 3 (p :: ps) (va :: vb :: vc :: cs) := Reps.front hp rfl h rfl
theorem Reps.c4 {α : Type} {R : α → List Value → Prop} {ps : List α} {cs : List Value} {p : α} {va vb vc vd : Value} (hp : R p [va, vb, vc, vd]) (h : Reps R 4 ps cs) : Reps R 4 (p :: ps) (va :: vb :: vc :: vd :: cs) := Reps.front hp rfl h rfl
theorem Reps.c5 {α : Type} {R : α → List Value → Prop} {ps : List α} {cs : List Value} {p : α} {va vb vc vd ve : Value} (hp : R p [va, vb, vc, vd, ve]) (h : Reps R 5 ps cs) : Reps R 5 (p :: ps) (va :: vb :: vc :: vd :: ve :: cs) := Reps.front hp rfl h rfl
theorem Reps.c6 {α : Type} {R : α → List Value → Prop} {ps : List α} {cs : List Value} {p : α} {va vb vc vd ve vf : Value} (hp : R p [va, vb, vc, vd, ve, vf]) (h : Reps R 6 ps cs) : Reps R 6 (p :: ps) (va :: vb :: vc :: vd :: ve :: vf :: cs) := Reps.front hp rfl h rfl
theorem Reps.c7 {α : Type} {R : α → List Value → Prop} {ps : List α} {cs : List Value} {p : α} {va vb vc vd ve vf vg : Value} (hp : R p [va, vb, vc, vd, ve, vf, vg]) (h : Reps R 7 ps cs) : Reps R 7 (p :: ps) (va :: vb :: vc :: vd :: ve :: vf :: vg :: cs) := Reps.front hp rfl h rfl
theorem Reps.c8 {α : Type} {R : α → List Value → Prop} {ps : List α} {cs : List Value} {p : α} {va vb vc vd ve vf vg vh : Value} (hp : R p [va, vb, vc, vd, ve, vf, vg, vh]) (h : Reps R 8 ps cs) : Reps R 8 (p :: ps) (va :: vb :: vc :: vd :: ve :: vf :: vg :: vh :: cs) := Reps.front hp rfl h rfl
theorem Reps.c9 {α : Type} {R : α → List Value → Prop} {ps : List α} {cs : List Value} {p : α} {va vb vc vd ve vf vg vh vi : Value} (hp : R p [va, vb, vc, vd, ve, vf, vg, vh, vi]) (h : Reps R 9 ps cs) : Reps R 9 (p :: ps) (va :: vb :: vc :: vd :: ve :: vf :: vg :: vh :: vi :: cs) := Reps.front hp rfl h rfl
theorem Reps.c10 {α : Type} {R : α → List Value → Prop} {ps : List α} {cs : List Value} {p : α} {va vb vc vd ve vf vg vh vi vj : Value} (hp : R p [va, vb, vc, vd, ve, vf, vg, vh, vi, vj]) (h : Reps R 10 ps cs) : Reps R 10 (p :: ps) (va :: vb :: vc :: vd :: ve :: vf :: vg :: vh :: vi :: vj :: cs) := Reps.front hp rfl h rfl
end Go.Proofs.YtonipihlpbaknaaW.PrintWords
namespace Go.Proofs.YtonipihlpbaknaaW.PrintLast
/-- Number i is listed too. -/
def up (b : Nat → Bool) (i : Nat) : Nat → Bool := fun j => if j = i then true else b j
section
variable {P : Program} {ops : Array Oper} {Q : Exit → Act → World → Prop} {md : Region.Mode} {T : Bool × List (List Nat × List Nat)} {B : List Nat} {O : List Nat} {b : Nat → Bool} {i j n : Nat}
end
end Go.Proofs.YtonipihlpbaknaaW.PrintLast
namespace Go.Proofs.YtonipihlpbaknaaW.PrintWords
open Go.RowKit
/-- A row that isn't empty: its address. -/
theorem Kd.R_slice1 {α : Type} {d : Kd α} {e base : Nat} {ok : Nat → Prop} {w : World} {v : Value} {xs : List α} (h : d.R e w base ok v xs) (hn : 0 < xs.length) : ∃ (ad : Addr) (c : Nat), v = .slice (some ad) xs.length c := by
  obtain ⟨A, c, rfl⟩ := Kd.R_slice h; have h2 := (Kd.R_reads' h).2.2; obtain ⟨ad, he, _⟩ := h2.2.2 hn; subst he; exact ⟨ad, c, rfl⟩
/-- A flat row (its elements are told by no ok): ok may be told anew of its own block alone. hd: 'fun h => h'. -/
theorem Kd.R_flat {α : Type} {d : Kd α} {e base : Nat} {ok ok' : Nat → Prop} {w : World} {v : Value} {xs : List α} (hd : ∀ {ok1 ok2 : Nat → Prop} {x : α} {cs : List Value}, d.M w base ok1 x cs → d.M w base ok2 x cs) (h : d.R e w base ok v xs) (hok : ∀ k, v.ownBlock = some k → ok k → ok' k) : d.R e w base ok' v xs := by
  obtain ⟨h0, inner, hown, hr⟩ := h; exact ⟨fun k hk => hok k hk (h0 k hk), inner, hown, hr.imp_ (fun _ _ hm => hd hm)⟩
end Go.Proofs.YtonipihlpbaknaaW.PrintWords
namespace Go.Proofs.YtonipihlpbaknaaW.PrintLast
section
variable {ops : Array Oper} {a : Act} {o og : Oper} {g : Nat} {t : Tmp} {u : Bool}
end
end Go.Proofs.YtonipihlpbaknaaW.PrintLast
namespace Go.Proofs.YtonipihlpbaknaaW.PrintWords
open Go.RowKit
section
variable {P : Program} {ops : Array Oper} {rest : List Oper} {o : Oper} {a : Act} {Q : Exit → Act → World → Prop} {W : World}
/-- The gate takes the guard off (hw: 'by rfl', 'by kernel_rfl': the guard's slot holds what is wanted). -/
theorem gate_guard (hw : Region.wanted o (yielded ops a.tmps) = true) (h : wpList P ops Q ({ o with guard := none } :: rest) a W) : wpList P ops Q (o :: rest) a W := by
  have h1 : Region.wanted { o with guard := none } (yielded ops a.tmps) = true := rfl; unfold wpList at h ⊢; rw [if_pos h1] at h; rw [if_pos hw]; exact h
end
end Go.Proofs.YtonipihlpbaknaaW.PrintWords
namespace Go.Proofs.YtonipihlpbaknaaW.PrintMore
open Go.RowKit Go.Proofs.YtonipihlpbaknaaW.PrintWords
namespace Kd
open Go.Proofs.YtonipihlpbaknaaW.PrintWords.Kd
end Kd
namespace Kd
open Go.Proofs.YtonipihlpbaknaaW.PrintWords.Kd
section
variable {α : Type} {d : Kd α} {e base g N : Nat} {ok : Nat → Prop} {W w1 : World} {u v : Value} {xs : List α}
end
end Kd
/-- 'max' and 'min' of two whole numbers. -/
theorem max2_int (k k' : IntKind) (x y : Int) : Builtin.max2 (.int k x) (.int k' y) = pure (.int k (if x < y then y else x)) := by simp only [Builtin.max2, gt_iff_lt]
theorem min2_int (k k' : IntKind) (x y : Int) : Builtin.min2 (.int k x) (.int k' y) = pure (.int k (if y < x then y else x)) := by simp only [Builtin.min2]
theorem max_two (ats : Array TypeId) (ty : TypeId) (a b : Value) : Builtin.max_ ats ty #[a, b] = (Builtin.max2 a b >>= fun s => pure s) := by simp only [Builtin.max_, List.foldlM_cons, List.foldlM_nil]
theorem min_two (ats : Array TypeId) (ty : TypeId) (a b : Value) : Builtin.min_ ats ty #[a, b] = (Builtin.min2 a b >>= fun s => pure s) := by simp only [Builtin.min_, List.foldlM_cons, List.foldlM_nil]
theorem max_three (ats : Array TypeId) (ty : TypeId) (a b c : Value) : Builtin.max_ ats ty #[a, b, c] = (Builtin.max2 a b >>= fun s => Builtin.max2 s c >>= fun s => pure s) := by simp only [Builtin.max_, List.foldlM_cons, List.foldlM_nil]
theorem min_three (ats : Array TypeId) (ty : TypeId) (a b c : Value) : Builtin.min_ ats ty #[a, b, c] = (Builtin.min2 a b >>= fun s => Builtin.min2 s c >>= fun s => pure s) := by simp only [Builtin.min_, List.foldlM_cons, List.foldlM_nil]
theorem max_four (ats : Array TypeId) (ty : TypeId) (a b c d : Value) : Builtin.max_ ats ty #[a, b, c, d] = (Builtin.max2 a b >>= fun s => Builtin.max2 s c >>= fun s => Builtin.max2 s d >>= fun s => pure s) := by simp only [Builtin.max_, List.foldlM_cons, List.foldlM_nil]
theorem min_four (ats : Array TypeId) (ty : TypeId) (a b c d : Value) : Builtin.min_ ats ty #[a, b, c, d] = (Builtin.min2 a b >>= fun s => Builtin.min2 s c >>= fun s => Builtin.min2 s d >>= fun s => pure s) := by simp only [Builtin.min_, List.foldlM_cons, List.foldlM_nil]
end Go.Proofs.YtonipihlpbaknaaW.PrintMore
namespace Go.Proofs.YtonipihlpbaknaaW.PrintWords
open Go.RowKit
section
variable {P : Program} {ops : Array Oper} {rest : List Oper} {o : Oper} {a : Act} {Q : Exit → Act → World → Prop} {W : World}
/-- The operation is a call of this function (a cheap look ahead of a dear step). -/
theorem gate_callee {f : FuncId} {«as» : Array Operand} {ts : Array TypeId} (_ho : o.op = .call { callee := .value (.func f), args := «as», argTypes := ts }) (h : wpList P ops Q (o :: rest) a W) : wpList P ops Q (o :: rest) a W := h
/-- The operation is a builtin over these places. -/
theorem gate_builtin {b : Builtin} {xs : Array Operand} {ts : Array TypeId} (_ho : o.op = .call { callee := .builtin b, args := xs, argTypes := ts }) (h : wpList P ops Q (o :: rest) a W) : wpList P ops Q (o :: rest) a W := h
end
/-- A shift to the right: a count beyond the width leaves the sign. -/
def shr (k : IntKind) (x y : Int) : Int := x / 2 ^ min y.toNat k.bits
theorem shr_small {k : IntKind} {x y j : Int} (h : shr k x y = j) (hy : y ≤ k.bits) : x / 2 ^ y.toNat = j := by rw [← h]; unfold shr; rw [Nat.min_eq_left (by omega)]
namespace Kd
section
variable {α : Type} {d : Kd α} {e base : Nat} {ok : Nat → Prop} {W w1 : World} {v : Value} {xs : List α}
end
section
variable {α : Type} {d : Kd α} {e base g n cap : Nat} {ok oki okp : Nat → Prop} {W : World} {xs : List α} {i : Int} {c : List Value}
end
section
variable {α : Type} {d : Kd α} {e base b b' g N : Nat} {ok ok1 : Nat → Prop} {W W2 w1 : World} {u v : Value} {xs ys : List α} {S : Nat → Prop}
theorem R_keptB (h : d.R e W base ok v xs) (hk : Kept W W2 S) (hne : ∀ k, ok k → ¬ S k) : d.R e W2 base (fun k => ok k ∧ (¬ S k ∧ k < W.heap.size)) v xs :=
  R_kept (R_mono (R_bound h) (fun k hk => ⟨hk.1, hne k hk.1, hk.2.2.1⟩)) hk (fun _ hk => hk.2.1)
end
end Kd
end Go.Proofs.YtonipihlpbaknaaW.PrintWords
namespace Go.Proofs.YtonipihlpbaknaaW.PrintWords
open Go.RowKit
/-- Beside a state: what was written is the state's, or new since. -/
theorem Kept.keepG {w W W2 : World} {S2 : Nat → Prop} {g : Nat} (h : KeepBut w W g none) (k : Kept W W2 S2) (hs : ∀ k, S2 k → k = g ∨ w.heap.size ≤ k) : KeepBut w W2 g none :=
  ⟨Nat.le_trans h.1 k.1, fun i hi hg hr => (k.2 i (Nat.lt_of_lt_of_le hi h.1) (fun h2 => (hs i h2).elim hg (fun h3 => by omega))).trans (h.2 i hi hg hr)⟩
namespace Kd
/-- A row that is only read, told by its value: its form, its length, what it leads to (in ok). e and base say nothing; they make it as the others are. -/
def V {α : Type} (d : Kd α) (_e : Nat) (W : World) (_base : Nat) (ok : Nat → Prop) (v : Value) (xs : List α) : Prop := ∃ A c, v = .slice A xs.length c ∧ xs.length ≤ c ∧ F d W ok A xs.length xs
section
variable {α β : Type} {d : Kd α} {e base base' n m c g N' lo hi : Nat} {ok ok' S : Nat → Prop} {w W w1 : World} {A : Option Addr} {ad : Addr} {u v v1 : Value} {xs : List α}
theorem V_nil (d : Kd α) (e : Nat) (W : World) (base : Nat) (ok : Nat → Prop) : V d e W base ok (.slice none 0 0) [] := ⟨none, 0, rfl, Nat.le_refl _, F_nil d W ok⟩
end
end Kd
end Go.Proofs.YtonipihlpbaknaaW.PrintWords
namespace Go.Proofs.Ytonipihlpbaknaa.Print
open Go.Proofs.YtonipihlpbaknaaW.PrintWords
theorem bN_ : type_of% @blk_drewN := @blk_drewN
theorem bD_ : type_of% @blk_drew := @blk_drew
theorem bA_ : type_of% @blk_alloc := @blk_alloc
theorem lA_ : type_of% @below_alloc := @below_alloc
theorem lN_ : type_of% @pw_below_drewN := @pw_below_drewN
theorem lD_ : type_of% @below_drew1 := @below_drew1
theorem sI_ : type_of% @List.setIfInBounds_toArray := @List.setIfInBounds_toArray
theorem s0_ : type_of% @List.set_cons_zero := @List.set_cons_zero
theorem sS_ : type_of% @List.set_cons_succ := @List.set_cons_succ
theorem rA_ : type_of% @Kd.R_alloc := @Kd.R_alloc
theorem rN_ : type_of% @Kd.R_drewN := @Kd.R_drewN
theorem rD_ : type_of% @Kd.R_drew := @Kd.R_drew
end Go.Proofs.Ytonipihlpbaknaa.Print
namespace Go.Proofs.Ytonipihlpbaknaa.Print
open Go.RowKit Go.Proofs.YtonipihlpbaknaaW.PrintWords Go.Proofs.YtonipihlpbaknaaW.PrintLast Go.Proofs.YtonipihlpbaknaaW.PrintMore
attribute [local go_sem] max2_int min2_int max_two min_two max_three min_three max_four min_four   -- for this text's walks alone
set_option linter.unusedVariables false
set_option linter.unusedSimpArgs false
def errW : Option Int → Value
  | none => .nilIface
  | some c => .iface 0 (.int .i64 c)
theorem errW_none : errW none = .nilIface := rfl
theorem errW_some (c : Int) : errW (some c) = .iface 0 (.int .i64 c) := rfl
theorem info3 : (Try.prog.info? 3).map (fun i => (i.zero, i.size, i.bytes)) = some (some (.int .i64 0), 1, 8) := by kernel_rfl
theorem info4 : (Try.prog.info? 4).map (fun i => (i.zero, i.size, i.bytes)) = some (some (.bool false), 1, 1) := by kernel_rfl
theorem info22 : (Try.prog.info? 22).map (fun i => (i.zero, i.size, i.bytes)) = some (some (.slice none 0 0), 1, 24) := by kernel_rfl
theorem info27 : (Try.prog.info? 27).map (fun i => (i.zero, i.size, i.bytes)) = some (some (.agg #[(.slice none 0 0), (.slice none 0 0)]), 2, 48) := by kernel_rfl
theorem info78 : (Try.prog.info? 78).map (fun i => (i.zero, i.size, i.bytes)) = some (some (.agg #[(.int .i64 0), (.int .i64 0), (.int .i64 0)]), 3, 24) := by kernel_rfl
/-! #### struct type 78 -/
structure S78 where
  f0 : Int
  f1 : Int
  f2 : Int
def z78 : S78 := ⟨(0 : Int), (0 : Int), (0 : Int)⟩
def k78 : Kd S78 := Kd.iso (Kd.pair (Kd.int .i64) (Kd.pair (Kd.int .i64) (Kd.int .i64))) (fun x : S78 => (x.f0, x.f1, x.f2))
theorem k78_open {w : World} {x : S78} {cs : List Value} (h : k78.K w x cs) : cs = [.int .i64 x.f0, .int .i64 x.f1, .int .i64 x.f2] := by
  obtain ⟨_, _, rfl, rfl, ⟨_, _, rfl, rfl, rfl⟩⟩ := h; exact rfl
theorem k78_mk (w : World) (x : S78)  : k78.K w x [.int .i64 x.f0, .int .i64 x.f1, .int .i64 x.f2] := ⟨[.int .i64 x.f0], [.int .i64 x.f1, .int .i64 x.f2], rfl, rfl, ⟨[.int .i64 x.f1], [.int .i64 x.f2], rfl, rfl, rfl⟩⟩
theorem k78_mkM (w : World) (base : Nat) (ok : Nat → Prop) (x : S78)  : k78.M w base ok x [.int .i64 x.f0, .int .i64 x.f1, .int .i64 x.f2] := ⟨[.int .i64 x.f0], [.int .i64 x.f1, .int .i64 x.f2], rfl, rfl, ⟨[.int .i64 x.f1], [.int .i64 x.f2], rfl, rfl, rfl⟩⟩
def rd_T78 (xs : List S78) (i : Int) : S78 := xs.getD i.toNat z78
theorem at_T78 {w : World} {A : Option Addr} {n : Nat} {xs : List S78} (h : Kd.C k78 w A n xs) (i : Int) (h0 : 0 ≤ i) (h1 : i < n) : ∃ ad , A = some ad ∧ w.cell? (ad.add (i.toNat * 3)) = some (.int .i64 (rd_T78 xs i).f0) ∧ w.cell? ⟨(ad.add (i.toNat * 3)).block, (ad.add (i.toNat * 3)).off + 1, none⟩ = some (.int .i64 (rd_T78 xs i).f1) ∧ w.cell? ⟨(ad.add (i.toNat * 3)).block, (ad.add (i.toNat * 3)).off + 2, none⟩ = some (.int .i64 (rd_T78 xs i).f2) := by
  obtain ⟨ad, c, e, _, hK, hc0⟩ := Kd.C_get h z78 i h0 h1
  have hc : ∀ j u, c[j]? = some u → w.cell? (ad.add (i.toNat * 3 + j)) = some u := hc0
  obtain rfl := k78_open hK; exact ⟨ad, e, hc 0 _ rfl, by rw [← add_field _ _ 1 (by omega)]; exact hc 1 _ rfl, by rw [← add_field _ _ 2 (by omega)]; exact hc 2 _ rfl⟩
structure S27 where
  f0 : (List Int)
  f1 : (List Int)
def k27 : Kd S27 := Kd.iso (Kd.pair (Kd.slice 3 (Kd.int .i64)) (Kd.slice 3 (Kd.int .i64))) (fun x : S27 => (x.f0, x.f1))
theorem k27_mkM (w : World) (base : Nat) (ok : Nat → Prop) (x : S27) {v0 : Value} (g0 : (Kd.int .i64).R 3 w base ok v0 x.f0) {v1 : Value} (g1 : (Kd.int .i64).R 3 w base ok v1 x.f1) : k27.M w base ok x [v0, v1] := ⟨[v0], [v1], rfl, ⟨v0, rfl, g0⟩, ⟨v1, rfl, g1⟩⟩
end Go.Proofs.Ytonipihlpbaknaa.Print
namespace Go.Proofs.Ytonipihlpbaknaa.Print
set_option linter.unusedVariables false
set_option linter.unusedSimpArgs false
open Go.RowKit Go.ChangeShapes Go.WideShapes Go.Deep Go.Joins Go.Proofs.YtonipihlpbaknaaW.PrintWords Go.Proofs.YtonipihlpbaknaaW.PrintLast Go.Proofs.YtonipihlpbaknaaW.PrintMore
section
variable {H : Type} {enc : TypeId × Value → H} {w : World}
/-- An argument of type []int. -/
theorem open_row {n : Nat} {v : Value} {x : DataW H × List MemPlace} (h : DataW.trod enc Try.prog w 0 (fun _ => true) true n 22 [v] = some x) :
    ∃ A c l, v = .slice A (l : List Int).length c ∧ Kd.C (Kd.int .i64) w A l.length l ∧ l.length ≤ c := by
  rcases open_ints Try.underlying22 Try.underlying3 (by kernel_rfl) h with ⟨hcs, _⟩ | ⟨a, len, cap, zs, hcs, _, hl, hm, hz, _, hcell, hwz⟩
  · obtain rfl : v = .slice none 0 0 := by simpa using hcs
    exact ⟨none, 0, [], rfl, Kd.C_nil _ _, Nat.le_refl _⟩
  · obtain rfl : v = .slice (some a) len cap := by simpa using hcs
    obtain ⟨l, rfl, hr, _, _, hc⟩ := ReadsInt.ofRowC (w := w) (a := some a) (len := len) (cap := cap) (zs := zs) (.inr ⟨a, rfl, hl, hm, by simpa using hz, hcell, hwz⟩); exact ⟨some a, cap, l, rfl, Kd.C_of_reads (d := (0 : Int)) (h1 := fun _ => rfl) hr, hc⟩
theorem list3 {l : List Value} (h : l.length = 3) : ∃ a b c, l = [a, b, c] := by
  match l, h with
  | [a, b, c], _ => exact ⟨a, b, c, rfl⟩
/-- One edge. -/
theorem open_edge {n : Nat} {cs : List Value} {x : DataW H × List MemPlace} (h : DataW.trod enc Try.prog w 0 (fun _ => true) true n 78 cs = some x) : ∃ e : S78, cs = [.int .i64 e.f0, .int .i64 e.f1, .int .i64 e.f2] := by
  obtain ⟨y0, y1, y2, n, _, hl, h0, h1, h2⟩ := trod_struct3 Try.underlying78 h
  have hC : Try.prog.cellsOf 78 = 3 := by kernel_rfl
  have h3 : Try.prog.cellsOf 3 = 1 := by kernel_rfl
  rw [hC] at hl; obtain ⟨m0, e0, _, _⟩ := DataW.trod_int Try.underlying3 h0; obtain ⟨m1, e1, _, _⟩ := DataW.trod_int Try.underlying3 h1; obtain ⟨m2, e2, _, _⟩ := DataW.trod_int Try.underlying3 h2; rw [h3] at e0 e1 e2; clear h h0 h1 h2; obtain ⟨a, b, c, rfl⟩ := list3 hl; exact ⟨⟨m0, m1, m2⟩, by simp at e0 e1 e2; simp [e0, e1, e2]⟩
/-- An argument of type []Edge. -/
theorem open_edges {n : Nat} {v : Value} {x : DataW H × List MemPlace} (h : DataW.trod enc Try.prog w 0 (fun _ => true) true n 23 [v] = some x) :
    ∃ A c l, v = .slice A (l : List S78).length c ∧ Kd.C k78 w A l.length l ∧ l.length ≤ c := by
  rcases open_slice Try.underlying23 h with ⟨hcs, _⟩ | ⟨a, len, cap, m, n, D, Pl, hcs, _, hl, hm, hmm, _, hi⟩
  · obtain rfl : v = .slice none 0 0 := by simpa using hcs
    exact ⟨none, 0, [], rfl, Kd.C_nil _ _, Nat.le_refl _⟩
  · obtain rfl : v = .slice (some a) len cap := by simpa using hcs
    have hC : Try.prog.cellsOf 78 = 3 := by kernel_rfl
    rw [if_pos rfl] at hmm
    have hx : ∀ i, i < len → ∃ e : S78, w.cells? 0 (a.add (i * 3)) 3 = some [.int .i64 e.f0, .int .i64 e.f1, .int .i64 e.f2] := by
      intro i hlt; obtain ⟨cs, h1, h2⟩ := hi i (by omega); rw [hC] at h1; obtain ⟨e, rfl⟩ := open_edge h2; exact ⟨e, h1⟩
    let f : Nat → S78 := fun i => if hlt : i < len then (hx i hlt).choose else z78
    have hf : ∀ i, i < len → w.cells? 0 (a.add (i * 3)) 3 = some [.int .i64 (f i).f0, .int .i64 (f i).f1, .int .i64 (f i).f2] := by
      intro i hlt; have := (hx i hlt).choose_spec; simp only [f, dif_pos hlt]; exact this
    refine ⟨some a, cap, (List.range len).map f, by simp, ?_, by simpa using hl⟩
    refine ⟨rfl, by simp [maxLen] at hm ⊢; omega, fun _ => ⟨a, rfl, fun j p hp => ?_⟩⟩
    have hj : j < len := by
      rcases Nat.lt_or_ge j len with hj | hj
      · exact hj
      · rw [List.getElem?_eq_none (by simpa using hj)] at hp
        simp at hp
    obtain rfl : f j = p := by simpa [hj] using hp
    refine ⟨_, rfl, k78_mk w (f j), fun i u hu => ?_⟩
    obtain ⟨_, hlen, hat⟩ := World.cells?_some (hf j hj)
    have h3 : i < 3 := by
      rcases Nat.lt_or_ge i 3 with h3 | h3
      · exact h3
      · rw [List.getElem?_eq_none (by simpa using h3)] at hu
        simp at hu
    have h4 := hat i h3; rw [← Go.Deep.add_add]; exact h4.trans hu
end
end Go.Proofs.Ytonipihlpbaknaa.Print
namespace Go.Proofs.Ytonipihlpbaknaa.Print
set_option linter.unusedVariables false
set_option linter.unusedSimpArgs false
open Go.RowKit Go.ChangeShapes Go.WideShapes Go.Deep Go.Joins Go.Proofs.YtonipihlpbaknaaW.PrintWords Go.Proofs.YtonipihlpbaknaaW.PrintLast Go.Proofs.YtonipihlpbaknaaW.PrintMore
section
variable {H : Type} {enc : TypeId × Value → H} {w : World}
theorem array6 {cs : Array Value} (h : cs.size = 6) : ∃ a b c d e f, cs = #[a, b, c, d, e, f] := by
  obtain ⟨l⟩ := cs
  match l, h with
  | [a, b, c, d, e, f], _ => exact ⟨a, b, c, d, e, f, rfl⟩
theorem cells_graph {n : Nat} {a b : Value} {x : DataW H × List MemPlace} (h : DataW.trod enc Try.prog w 0 (fun _ => true) true n 25 [a, b] = some x) :
    ∃ A0 c0 l0 A1 c1 l1, a = .slice A0 (l0 : List Int).length c0 ∧ b = .slice A1 (l1 : List S78).length c1 ∧ Kd.C (Kd.int .i64) w A0 l0.length l0 ∧ l0.length ≤ c0 ∧ Kd.C k78 w A1 l1.length l1 ∧ l1.length ≤ c1 := by
  have h22 : Try.prog.cellsOf 22 = 1 := by kernel_rfl
  have h23 : Try.prog.cellsOf 23 = 1 := by kernel_rfl
  obtain ⟨y0, y1, m, _, _, h0, h1⟩ := trod_struct2 Try.underlying25 h; obtain ⟨A0, c0, l0, rfl, r0, m0⟩ := open_row (by simpa [h22] using h0); obtain ⟨A1, c1, l1, rfl, r1, m1⟩ := open_edges (by simpa [h23] using h1); exact ⟨A0, c0, l0, A1, c1, l1, rfl, rfl, r0, m0, r1, m1⟩
theorem cells_morph {n : Nat} {a b : Value} {x : DataW H × List MemPlace} (h : DataW.trod enc Try.prog w 0 (fun _ => true) true n 51 [a, b] = some x) :
    ∃ A0 c0 l0 A1 c1 l1, a = .slice A0 (l0 : List Int).length c0 ∧ b = .slice A1 (l1 : List Int).length c1 ∧ Kd.C (Kd.int .i64) w A0 l0.length l0 ∧ l0.length ≤ c0 ∧ Kd.C (Kd.int .i64) w A1 l1.length l1 ∧ l1.length ≤ c1 := by
  have h22 : Try.prog.cellsOf 22 = 1 := by kernel_rfl
  obtain ⟨y0, y1, m, _, _, h0, h1⟩ := trod_struct2 Try.underlying51 h; obtain ⟨A0, c0, l0, rfl, r0, m0⟩ := open_row (by simpa [h22] using h0); obtain ⟨A1, c1, l1, rfl, r1, m1⟩ := open_row (by simpa [h22] using h1); exact ⟨A0, c0, l0, A1, c1, l1, rfl, rfl, r0, m0, r1, m1⟩
set_option maxRecDepth 100000 in
/-- An arrow that came in. -/
theorem open_arrow {r : Reach} {b : Nat} {v : Value} {d : DataW H} {p : List MemPlace} (hv : Value.okWide Try.prog w r b 63 v) (h : DataW.Trod enc Try.prog w 0 (fun _ => true) true 63 v d p) :
    ∃ A0 c0 l0 A1 c1 l1 A2 c2 l2 A3 c3 l3 A4 c4 l4 A5 c5 l5, v = .agg #[.slice A0 (l0 : List Int).length c0, .slice A1 (l1 : List S78).length c1, .slice A2 (l2 : List Int).length c2, .slice A3 (l3 : List S78).length c3, .slice A4 (l4 : List Int).length c4, .slice A5 (l5 : List Int).length c5] ∧
      Kd.C (Kd.int .i64) w A0 l0.length l0 ∧ l0.length ≤ c0 ∧ Kd.C k78 w A1 l1.length l1 ∧ l1.length ≤ c1 ∧ Kd.C (Kd.int .i64) w A2 l2.length l2 ∧ l2.length ≤ c2 ∧ Kd.C k78 w A3 l3.length l3 ∧ l3.length ≤ c3 ∧ Kd.C (Kd.int .i64) w A4 l4.length l4 ∧ l4.length ≤ c4 ∧ Kd.C (Kd.int .i64) w A5 l5.length l5 ∧ l5.length ≤ c5 := by
  have h25 : Try.prog.cellsOf 25 = 2 := by kernel_rfl
  have h51 : Try.prog.cellsOf 51 = 2 := by kernel_rfl
  have hC : Try.prog.cellsOf 63 = 6 := by kernel_rfl
  obtain ⟨cs, rfl, hsz⟩ := okWide_struct Try.underlying63 hv; obtain ⟨a0, a1, a2, a3, a4, a5, rfl⟩ := array6 (hsz.trans hC); obtain ⟨fuel, hf⟩ := h; obtain ⟨y0, y1, y2, n, _, _, h0, h1, h2⟩ := trod_struct3 Try.underlying63 hf; obtain ⟨A0, c0, l0, A1, c1, l1, rfl, rfl, r0, m0, r1, m1⟩ := cells_graph (by simpa [Value.cells, h25] using h0); obtain ⟨A2, c2, l2, A3, c3, l3, rfl, rfl, r2, m2, r3, m3⟩ := cells_graph (by simpa [Value.cells, h25] using h1); obtain ⟨A4, c4, l4, A5, c5, l5, rfl, rfl, r4, m4, r5, m5⟩ := cells_morph (by simpa [Value.cells, h51] using h2); exact ⟨A0, c0, l0, A1, c1, l1, A2, c2, l2, A3, c3, l3, A4, c4, l4, A5, c5, l5, rfl, r0, m0, r1, m1, r2, m2, r3, m3, r4, m4, r5, m5⟩
end
end Go.Proofs.Ytonipihlpbaknaa.Print
namespace Go.Proofs.Ytonipihlpbaknaa.Print
set_option linter.unusedVariables false
open Go.RowKit Go.Proofs.YtonipihlpbaknaaW.PrintWords Go.Proofs.YtonipihlpbaknaaW.PrintLast Go.Proofs.YtonipihlpbaknaaW.PrintMore
def withinB (a b : Int) : Bool := decide (0 ≤ a ∧ a ≤ b)
def fitsB (e : S78) (n : Int) : Bool := withinB e.f0 99 && (withinB e.f1 (n - 1) && withinB e.f2 (n - 1))
theorem graph_within.calls (a b : Int) (w : World) : Calls Try.prog 87 #[.int .i64 a, .int .i64 b] w fun e w' => e = .returned (.bool (withinB a b)) ∧ w = w' := by
  unfold withinB
  by_cases h : 0 ≤ a
  · go_enter Try.func87, Try.ntmps87
    go_wp2
    go_ret
    exact ⟨by simp [h], rfl⟩
  · go_enter Try.func87, Try.ntmps87
    go_wp2
    go_ret
    exact ⟨by simp; omega, rfl⟩
theorem graph_Valid1.calls (a : Int) (w : World) : Calls Try.prog 86 #[.int .i64 a] w fun e w' => e = .returned (.bool (!withinB a 99)) ∧ w = w' := by
  go_enter Try.func86, Try.ntmps86
  go_wp2_with (go_at_call 87; refine (graph_within.calls _ _ _).mono ?_; rintro e w' ⟨rfl, rfl⟩)
  go_ret
  exact ⟨rfl, rfl⟩
theorem graph_fits.calls (e : S78) (n : Int) (h0 : 0 ≤ n) (h1 : n ≤ 9223372036854775807) (w : World) : Calls Try.prog 90 #[.agg #[.int .i64 e.f0, .int .i64 e.f1, .int .i64 e.f2], .int .i64 n] w fun en w' => en = .returned (.bool (fitsB e n)) ∧ Below w.heap.size w w' := by
  unfold fitsB; obtain ⟨a, b, c⟩ := e
  cases ha : withinB a 99 with
  | true => 
    cases hb : withinB b (n - 1) with
    | true =>
      go_enter Try.func90, Try.ntmps90
      go_wp2_with (first | (go_at_call 87; refine (graph_within.calls _ _ _).mono ?_; rintro e w' ⟨rfl, rfl⟩))
      go_ret
      exact ⟨rfl, below_alloc (Below.refl _ _) _⟩
    | false => 
      go_enter Try.func90, Try.ntmps90
      go_wp2_with (first | (go_at_call 87; refine (graph_within.calls _ _ _).mono ?_; rintro e w' ⟨rfl, rfl⟩))
      go_ret
      exact ⟨rfl, below_alloc (Below.refl _ _) _⟩
  | false => 
    go_enter Try.func90, Try.ntmps90
    go_wp2_with (first | (go_at_call 87; refine (graph_within.calls _ _ _).mono ?_; rintro e w' ⟨rfl, rfl⟩))
    go_ret
    exact ⟨rfl, below_alloc (Below.refl _ _) _⟩
theorem graph_Valid2.calls (e : S78) (gb : Nat) (A : Option Addr) (n c : Nat) (h1 : n ≤ 9223372036854775807) (w : World) (hb : w.cell? ⟨gb, 0, none⟩ = some (.slice A n c)) :
    Calls Try.prog 89 #[.agg #[.int .i64 e.f0, .int .i64 e.f1, .int .i64 e.f2], .pointer (some ⟨gb, 0, none⟩)] w fun en w' => en = .returned (.bool (!fitsB e n)) ∧ Below w.heap.size w w' := by
  obtain ⟨x, y, z⟩ := e
  have hlt : gb < w.heap.size := World.block_lt_of_cell? w _ hb
  go_enter Try.func89, Try.ntmps89
  go_wp2_with (go_at_call 90; refine (graph_fits.calls ⟨x, y, z⟩ n (by omega) (by omega) _).mono ?_; rintro e w' ⟨rfl, hb'⟩)
  go_ret
  exact ⟨rfl, below_then (below_alloc (Below.refl _ _) _) (by simp) hb'⟩
set_option maxHeartbeats 1000000 in
theorem idx_edges (g : Nat) (lb : Array Value) (eg : ∀ args w, (callFunc g args).run Try.prog w = .ok (.enter g args) w) (p : S78 → Bool) (A : Option Addr) (c : Nat) (l : List S78) (w0 w : World) (hb : Below w0.heap.size w0 w) (hr : Kd.C k78 w0 A l.length l)
  (hp : ∀ (W : World) (x : S78), Below w0.heap.size w0 W → Calls Try.prog g (#[.agg #[.int .i64 x.f0, .int .i64 x.f1, .int .i64 x.f2]] ++ lb) W fun e w' => e = .returned (.bool (p x)) ∧ Below w0.heap.size w0 w') :
  Calls Try.prog 108 #[.slice A l.length c, .func (.func g) #[] lb] w fun e w' => (∃ n : Int, e = .returned (.int .i64 n) ∧ decide (0 ≤ n) = l.any p) ∧ Below w0.heap.size w0 w' := by
 have hmx := Kd.C_max hr; have HR := Lib.hid hr; have HB := Lib.hid hb; have HP := Lib.hid hp; clear hr hb hp
 go_enter Try.func108, Try.ntmps108
 go_wp2
 go_loopg [5, 8] l.length (fun gg _ s8 wr => ∃ k : Nat, k ≤ l.length ∧ l.length - k ≤ gg ∧ s8 = .int .i64 k ∧ Aside0 (Below w0.heap.size w0 wr) ∧ Aside0 ((l.take k).any p = false))
 case atStart => exact ⟨0, Nat.zero_le _, by omega, rfl, ⟨HB.out⟩, ⟨by simp⟩⟩
 case round =>
  obtain ⟨k, hk, hg, rfl, BW, A1⟩ := hrel
  by_cases hlt : k < l.length
  ·obtain ⟨ad, rfl, h0, h1, h2⟩ := at_T78 HR.out (k : Int) (by omega) (by omega)
   have h0' := (BW.out.cell (World.block_lt_of_cell? w0 _ h0)).trans h0; have h1' := (BW.out.cell (World.block_lt_of_cell? w0 _ h1)).trans h1; have h2' := (BW.out.cell (World.block_lt_of_cell? w0 _ h2)).trans h2; clear h0 h1 h2; simp only [Int.toNat_natCast] at h0' h1' h2'
   have hltz : (k : Int) < (l.length : Int) := by omega
   have hcall := HP.out wr (rd_T78 l k) BW.out
   have hel : rd_T78 l k = l[k] := by simp [rd_T78, List.getD_eq_getElem?_getD, hlt]
   generalize rd_T78 l k = y at hel hcall h0' h1' h2'; have E1 := Lib.hid hel; clear hel
   cases hq : p y with
   | true =>
    rw [hq] at hcall; have E2 := Lib.hid hq; clear hq
    go_wp2_with (go_at_fn g; refine hcall.mono ?_; rintro e w' ⟨rfl, hb'⟩)
    go_ret
    refine ⟨⟨k, rfl, ?_⟩, hb'⟩
    have : l.any p = true := List.any_eq_true.2 ⟨l[k], List.getElem_mem _, by rw [← E1.out]; exact E2.out⟩; rw [this]
    simp
   | false =>
    rw [hq] at hcall; have E2 := Lib.hid hq; clear hq
    go_wp2_with (go_at_fn g; refine hcall.mono ?_; rintro e w' ⟨rfl, hb'⟩)
    go_roundg (l.length - (k + 1))
    case measure => omega
    case rel =>
     refine ⟨k + 1, by omega, by omega, by go_num, ⟨hb'⟩, ⟨?_⟩⟩
     rw [List.take_succ_eq_append_getElem hlt, List.any_append, A1.out, ← E1.out]
     simp [E2.out]
  ·have hltz : ¬ (k : Int) < (l.length : Int) := by omega
   go_wp2
   go_ret
   refine ⟨⟨-1, rfl, ?_⟩, BW.out⟩
   have := A1.out; rw [List.take_of_length_le (by omega)] at this; rw [this]
   rfl
theorem contains_edges (g : Nat) (lb : Array Value) (eg : ∀ args w, (callFunc g args).run Try.prog w = .ok (.enter g args) w) (p : S78 → Bool) (A : Option Addr) (c : Nat) (l : List S78) (w0 w : World) (hb : Below w0.heap.size w0 w) (hr : Kd.C k78 w0 A l.length l)
    (hp : ∀ (W : World) (x : S78), Below w0.heap.size w0 W → Calls Try.prog g (#[.agg #[.int .i64 x.f0, .int .i64 x.f1, .int .i64 x.f2]] ++ lb) W fun e w' => e = .returned (.bool (p x)) ∧ Below w0.heap.size w0 w') :
    Calls Try.prog 88 #[.slice A l.length c, .func (.func g) #[] lb] w fun e w' => e = .returned (.bool (l.any p)) ∧ Below w0.heap.size w0 w' := by
  have H := idx_edges g lb eg p A c l w0 w hb hr hp; clear hb hr hp eg
  go_enter Try.func88, Try.ntmps88
  go_wp2_with (go_at_call 108; refine H.mono ?_; rintro e w' ⟨⟨n, rfl, hn⟩, hb'⟩)
  go_ret
  exact ⟨by first | rfl | simp_all, hb'⟩
theorem at_int {w : World} {k : IntKind} {A : Option Addr} {n : Nat} {xs : List Int} (h : Kd.C (Kd.int k) w A n xs) (i : Int) (h0 : 0 ≤ i) (h1 : i < n) : ∃ ad, A = some ad ∧ w.cell? (ad.add i.toNat) = some (.int k (rd xs i)) := by
  obtain ⟨ad, c, e, _, hK, hc⟩ := Kd.C_get h 0 i h0 h1; have hK' : c = [.int k (rd xs i)] := hK; subst hK'
  refine ⟨ad, e, ?_⟩
  have := hc 0 _ rfl
  rwa [Nat.add_zero, show (Kd.int k).sz = 1 from rfl, Nat.mul_one] at this
set_option maxHeartbeats 1000000 in
theorem idx_ints (g : Nat) (lb : Array Value) (eg : ∀ args w, (callFunc g args).run Try.prog w = .ok (.enter g args) w) (p : Int → Bool) (A : Option Addr) (c : Nat) (l : List Int) (w0 w : World) (hb : Below w0.heap.size w0 w) (hr : Kd.C (Kd.int .i64) w0 A l.length l)
  (hp : ∀ (W : World) (x : Int), Below w0.heap.size w0 W → Calls Try.prog g (#[.int .i64 x] ++ lb) W fun e w' => e = .returned (.bool (p x)) ∧ Below w0.heap.size w0 w') :
  Calls Try.prog 91 #[.slice A l.length c, .func (.func g) #[] lb] w fun e w' => (∃ n : Int, e = .returned (.int .i64 n) ∧ decide (0 ≤ n) = l.any p) ∧ Below w0.heap.size w0 w' := by
 have hmx := Kd.C_max hr; have HR := Lib.hid hr; have HB := Lib.hid hb; have HP := Lib.hid hp; clear hr hb hp
 go_enter Try.func91, Try.ntmps91
 go_wp2
 go_loopg [5, 8] l.length (fun gg _ s8 wr => ∃ k : Nat, k ≤ l.length ∧ l.length - k ≤ gg ∧ s8 = .int .i64 k ∧ Aside0 (Below w0.heap.size w0 wr) ∧ Aside0 ((l.take k).any p = false))
 case atStart => exact ⟨0, Nat.zero_le _, by omega, rfl, ⟨HB.out⟩, ⟨by simp⟩⟩
 case round =>
  obtain ⟨k, hk, hg, rfl, BW, A1⟩ := hrel
  by_cases hlt : k < l.length
  ·obtain ⟨ad, rfl, h0⟩ := at_int HR.out (k : Int) (by omega) (by omega)
   have h0' := (BW.out.cell (World.block_lt_of_cell? w0 _ h0)).trans h0; clear h0; simp only [Int.toNat_natCast] at h0'
   have hltz : (k : Int) < (l.length : Int) := by omega
   have hcall := HP.out wr (rd l k) BW.out
   have hel : rd l k = l[k] := by simp [rd, List.getD_eq_getElem?_getD, hlt]
   generalize rd l k = y at hel hcall h0'; have E1 := Lib.hid hel; clear hel
   cases hq : p y with
   | true =>
    rw [hq] at hcall; have E2 := Lib.hid hq; clear hq
    go_wp2_with (go_at_fn g; refine hcall.mono ?_; rintro e w' ⟨rfl, hb'⟩)
    go_ret
    refine ⟨⟨k, rfl, ?_⟩, hb'⟩
    have : l.any p = true := List.any_eq_true.2 ⟨l[k], List.getElem_mem _, by rw [← E1.out]; exact E2.out⟩; rw [this]
    simp
   | false =>
    rw [hq] at hcall; have E2 := Lib.hid hq; clear hq
    go_wp2_with (go_at_fn g; refine hcall.mono ?_; rintro e w' ⟨rfl, hb'⟩)
    go_roundg (l.length - (k + 1))
    case measure => omega
    case rel =>
     refine ⟨k + 1, by omega, by omega, by go_num, ⟨hb'⟩, ⟨?_⟩⟩
     rw [List.take_succ_eq_append_getElem hlt, List.any_append, A1.out, ← E1.out]
     simp [E2.out]
  ·have hltz : ¬ (k : Int) < (l.length : Int) := by omega
   go_wp2
   go_ret
   refine ⟨⟨-1, rfl, ?_⟩, BW.out⟩
   have := A1.out; rw [List.take_of_length_le (by omega)] at this; rw [this]
   rfl
theorem contains_ints (g : Nat) (lb : Array Value) (eg : ∀ args w, (callFunc g args).run Try.prog w = .ok (.enter g args) w) (p : Int → Bool) (A : Option Addr) (c : Nat) (l : List Int) (w0 w : World) (hb : Below w0.heap.size w0 w) (hr : Kd.C (Kd.int .i64) w0 A l.length l)
    (hp : ∀ (W : World) (x : Int), Below w0.heap.size w0 W → Calls Try.prog g (#[.int .i64 x] ++ lb) W fun e w' => e = .returned (.bool (p x)) ∧ Below w0.heap.size w0 w') :
    Calls Try.prog 56 #[.slice A l.length c, .func (.func g) #[] lb] w fun e w' => e = .returned (.bool (l.any p)) ∧ Below w0.heap.size w0 w' := by
  have H := idx_ints g lb eg p A c l w0 w hb hr hp; clear hb hr hp eg
  go_enter Try.func56, Try.ntmps56
  go_wp2_with (go_at_call 91; refine H.mono ?_; rintro e w' ⟨⟨n, rfl, hn⟩, hb'⟩)
  go_ret
  exact ⟨by first | rfl | simp_all, hb'⟩
def validB (l0 : List Int) (l1 : List S78) : Int :=
  if 40 < l0.length then 3 else if 80 < l1.length then 3 else if l0.any (fun t => !withinB t 99) then 6 else if l1.any (fun e => !fitsB e l0.length) then 6 else 0
set_option maxHeartbeats 1000000 in
theorem graph_Valid.calls0 (A0 : Option Addr) (c0 : Nat) (l0 : List Int) (A1 : Option Addr) (c1 : Nat) (l1 : List S78) (w : World) (hr0 : Kd.C (Kd.int .i64) w A0 l0.length l0) (hr1 : Kd.C k78 w A1 l1.length l1) :
  Calls Try.prog 53 #[.agg #[.slice A0 l0.length c0, .slice A1 l1.length c1]] w fun e w' => e = .returned (.int .i64 (validB l0 l1)) ∧ Below w.heap.size w w' := by
 have hm0 := Kd.C_max hr0; have hm1 := Kd.C_max hr1
 by_cases g0 : 40 < l0.length
 ·have V : validB l0 l1 = 3 := if_pos g0
  rw [V]; clear V
  go_enter Try.func53, Try.ntmps53
  go_wp2
  go_ret
  exact ⟨rfl, below_alloc (Below.refl _ _) _⟩
 ·by_cases g1 : 80 < l1.length
  ·have V : validB l0 l1 = 3 := (if_neg g0).trans (if_pos g1)
   rw [V]; clear V
   go_enter Try.func53, Try.ntmps53
   go_wp2
   go_ret
   exact ⟨rfl, below_alloc (Below.refl _ _) _⟩
  ·have V := Lib.hid (show validB l0 l1 = if l0.any (fun t => !withinB t 99) then 6 else if l1.any (fun e => !fitsB e l0.length) then 6 else 0 from (if_neg g0).trans (if_neg g1))
   have C0 : ∀ W, Below w.heap.size w W → Calls Try.prog 56 #[.slice A0 l0.length c0, .func (.func 86) #[] #[]] W fun e w' => e = .returned (.bool (l0.any fun t => !withinB t 99)) ∧ Below W.heap.size W w' := fun W hb =>
    contains_ints 86 #[] (enters_of Try.func86 (by kernel_rfl) rfl) (fun t => !withinB t 99) A0 c0 l0 W W (Below.refl _ _) (Kd.C_below hr0 hb) (fun W x hb => (graph_Valid1.calls x W).mono (by rintro e w' ⟨rfl, rfl⟩; exact ⟨rfl, hb⟩))
   have D0 := Lib.hid C0
   have C1 : ∀ W, Below w.heap.size w W → W.heap[w.heap.size]? = some (.cells #[.slice A0 l0.length c0, .slice A1 l1.length c1] 25 (0, 0)) → Calls Try.prog 88 #[.slice A1 l1.length c1, .func (.func 89) #[] #[.pointer (some ⟨w.heap.size, 0, none⟩)]] W fun e w' => e = .returned (.bool (l1.any fun e => !fitsB e l0.length)) ∧ Below W.heap.size W w' := by
    intro W hb hblk
    refine contains_edges 89 _ (enters_of Try.func89 (by kernel_rfl) rfl) (fun e => !fitsB e l0.length) A1 c1 l1 W W (Below.refl _ _) (Kd.C_below hr1 hb) (fun W x hbx => ?_)
    refine (graph_Valid2.calls x w.heap.size A0 l0.length c0 hm0 W ?_).mono (by rintro e w' ⟨rfl, h⟩; exact ⟨rfl, below_then hbx hbx.size h⟩)
    have := hbx.block w.heap.size (by exact (Array.getElem?_eq_some_iff.1 hblk).1); rw [hblk] at this; exact (blk_cell this 0).trans rfl
   have D1 := Lib.hid C1; clear hr0 hr1 C0 C1
   have g0' : decide ((40 : Int) < l0.length) = false := by simp; omega
   have g1' : decide ((80 : Int) < l1.length) = false := by simp; omega
   clear g0 g1
   go_enter Try.func53, Try.ntmps53
   go_wp2_with fail
   refine (D0.out _ (by exact below_alloc (Below.refl _ _) _)).mono ?_
   rintro e w1 ⟨rfl, hb⟩; have HB := Lib.hid (below_then (below_alloc (Below.refl w.heap.size w) (.cells #[.slice A0 l0.length c0, .slice A1 l1.length c1] 25)) (by simp) hb); have HK : Hid (w1.heap[w.heap.size]? = some (.cells #[.slice A0 l0.length c0, .slice A1 l1.length c1] 25 (0, 0))) := (hb.block w.heap.size (by simp)).trans (heap_alloc_new _ _); have hc := (blk_cell HK.out 1).trans rfl; clear hb; generalize (l0.any fun t => !withinB t 99) = b0 at V ⊢
   cases b0 with
   | true =>
    go_wp2_with fail
    go_ret
    exact ⟨congrArg (fun x => Ending.returned (.int .i64 x)) V.out.symm, HB.out⟩
   | false =>
    go_wp2_with fail
    refine (D1.out _ HB.out HK.out).mono ?_
    rintro e w2 ⟨rfl, hb⟩; have HB2 := Lib.hid (below_then HB.out HB.out.size hb); clear hb D1; generalize (l1.any fun e => !fitsB e l0.length) = b1 at V ⊢
    cases b1 with
    | true =>
     go_wp2_with fail
     go_ret
     exact ⟨congrArg (fun x => Ending.returned (.int .i64 x)) V.out.symm, HB2.out⟩
    | false =>
     go_wp2_with fail
     go_ret
     exact ⟨congrArg (fun x => Ending.returned (.int .i64 x)) V.out.symm, HB2.out⟩
def graph_Valid.f (l0_0 : List Int) (l0_1 : List S78) : Option Int := some (validB l0_0 l0_1)
theorem graph_Valid.calls (A0_0 : Option Addr) (c0_0 : Nat) (l0_0 : List Int) (A0_1 : Option Addr) (c0_1 : Nat) (l0_1 : List (S78)) (r : Int) (w : World) (hr0_0 : Kd.C (Kd.int .i64) w A0_0 l0_0.length l0_0) (hc0_0 : l0_0.length ≤ c0_0) (hr0_1 : Kd.C k78 w A0_1 l0_1.length l0_1) (hc0_1 : l0_1.length ≤ c0_1) (h : graph_Valid.f l0_0 l0_1 = some r) :
    Calls Try.prog 53 #[.agg #[.slice A0_0 l0_0.length c0_0, .slice A0_1 l0_1.length c0_1]] w fun e w' => e = .returned (.int .i64 r) ∧ Below w.heap.size w w' := by
  obtain rfl := Option.some.inj h; exact graph_Valid.calls0 A0_0 c0_0 l0_0 A0_1 c0_1 l0_1 w hr0_0 hr0_1
end Go.Proofs.Ytonipihlpbaknaa.Print
namespace Go.Proofs.Ytonipihlpbaknaa.Print
set_option linter.unusedVariables false
open Go.RowKit Go.Proofs.YtonipihlpbaknaaW.PrintWords Go.Proofs.YtonipihlpbaknaaW.PrintLast Go.Proofs.YtonipihlpbaknaaW.PrintMore
def slices_Clone_int_int.f (l0 : List Int) : Option (List Int) := if l0.length < 17592186044416 then some l0 else none
set_option maxHeartbeats 1000000 in
theorem slices_Clone_int_int.calls (A0 : Option Addr) (c0 : Nat) (l0 : List Int) (r : List Int) (w : World) (hr0 : Kd.C (Kd.int .i64) w A0 l0.length l0) (hc0 : l0.length ≤ c0) (h : slices_Clone_int_int.f l0 = some r) :
  Calls Try.prog 15 #[.slice A0 l0.length c0] w fun e w' => ∃ v0_ : Value, e = .returned (v0_) ∧ Kd.R (Kd.int .i64) 3 w' w.heap.size (fun _ => True) v0_ r ∧ Below w.heap.size w w' := by
 unfold slices_Clone_int_int.f at h
 split at h
 case isFalse => exact absurd h (by simp)
 rename_i hl
 have hl := Lib.hid hl
 rename_i hl0
 clear hl0; obtain rfl := Option.some.inj h; clear h
 have hq : ∀ (w : World) (a : Option Addr) (n c n' c' : Nat), (binOp .eql 22 (.slice a n c) (.slice none n' c')).run Try.prog w = .ok (.bool a.isNone) w := fun w a n c n' c' => Lib.run_eql_slice_nil w _ _ a n c n' c' Try.underlying22
 cases A0 with
 | none =>
  obtain rfl : l0 = [] := by
   cases l0 with
   | nil => rfl
   | cons x l =>
    obtain ⟨ad, e, _⟩ := Kd.at_int hr0 0 (by omega) (by simp); cases e
  clear hr0
  go_enter Try.func15, Try.ntmps15
  go_wp2
  go_ret
  exact ⟨_, rfl, Kd.R_nil _ _ _ _ _, Below.refl _ _⟩
 | some ad =>
  have HR := Lib.hid hr0; clear hr0
  go_enter Try.func15, Try.ntmps15
  go_wp2_with (first
   | ((with_reducible refine gate_dst (N := 5) rfl ?_); refine Kd.R_lit (Kd.int .i64) (w0 := w) w.heap.size 3 ?hg (N := 5) ?hd (xs := ([] : List Int)) (inner := []) (ok := fun _ => True) (okp := fun _ => True) ?hr ?hp (fun _ hk => hk) trivial (Below.refl _ _) (Nat.le_refl _) (by simp) ?_; (case hd => rfl); (case hg => rfl); (case hr => first | (go_simp; done) | (go_simp; rfl)); (case hp => exact (Reps.none _ _)); intro v1 w1 ho hb hg_ hne; have HO := Lib.hid ho; have HB := Lib.hid hb; clear ho hb hg_ hne)
   | ((with_reducible refine gate_builtin (b := .append) (xs := #[.tmp 5, .tmp 6]) rfl ?_); at_builtin; refine Kd.R_append_rows (Kd.int .i64) (w0 := w) w.heap.size rfl (.tmp 5) (.tmp 6) 22 3 (.int .i64 0) 8 rfl Try.underlying22 info3 rfl (by decide) (by omega) v1 [] l0 _ _ _ (fun _ => True) (fun _ => False) rfl rfl ?aO ?aR (fun _ _ h => h) (fun _ h => h.elim) ?aF ?aB ?aS ?aL ?_; (case aR => exact Kd.C_below HR.out HB.out); (case aB => exact HB.out); (case aF => exact (fun _ _ => trivial)); (case aO => exact HO.out); (case aS => exact HB.out.size); (case aL => have := hl.out; simp; omega); intro v2 w2 ho hb hg hat; have HO2 := Lib.hid ho; have HB2 := Lib.hid hb; clear ho hb hg hat))
  go_ret
  exact ⟨_, rfl, by simpa using HO2.out, HB2.out⟩
end Go.Proofs.Ytonipihlpbaknaa.Print
namespace Go.Proofs
open Go.Shelf
def Try.lays189_ren : Go.Shelf.Ren := ⟨fun | 189 => 92 | 125 => 110 | 257 => 109 | 128 => 121 | 129 => 122 | 294 => 113 | 295 => 114 | 296 => 115 | 297 => 116 | 298 => 117 | 299 => 118 | 216 => 104 | 300 => 119 | 301 => 120 | 328 => 131 | 329 => 132 | 330 => 133 | 331 => 134 | 332 => 135 | 215 => 112 | 343 => 139 | n => n, fun | 28 => 22 | 3 => 3 | 46 => 111 | 0 => 0 | 51 => 125 | 53 => 28 | 4 => 4 | 183 => 119 | 182 => 118 | 131 => 90 | 5 => 5 | 9 => 9 | 218 => 132 | 222 => 136 | 228 => 140 | 229 => 141 | n => n, fun | n => n⟩
theorem Try.lays189 : Go.Proofs.Lays.n189 Try.prog Try.lays189_ren := {
 mixed := by kernel_rfl
 f125 := Try.func110.trans (congrArg some (by kernel_rfl))
 f128 := Try.func121.trans (congrArg some (by kernel_rfl))
 f129 := Try.func122.trans (congrArg some (by kernel_rfl))
 f189 := Try.func92.trans (congrArg some (by kernel_rfl))
 f215 := Try.func112.trans (congrArg some (by kernel_rfl))
 f216 := Try.func104.trans (congrArg some (by kernel_rfl))
 f257 := Try.func109.trans (congrArg some (by kernel_rfl))
 f294 := Try.func113.trans (congrArg some (by kernel_rfl))
 f295 := Try.func114.trans (congrArg some (by kernel_rfl))
 f296 := Try.func115.trans (congrArg some (by kernel_rfl))
 f297 := Try.func116.trans (congrArg some (by kernel_rfl))
 f298 := Try.func117.trans (congrArg some (by kernel_rfl))
 f299 := Try.func118.trans (congrArg some (by kernel_rfl))
 f300 := Try.func119.trans (congrArg some (by kernel_rfl))
 f301 := Try.func120.trans (congrArg some (by kernel_rfl))
 f328 := Try.func131.trans (congrArg some (by kernel_rfl))
 f329 := Try.func132.trans (congrArg some (by kernel_rfl))
 f330 := Try.func133.trans (congrArg some (by kernel_rfl))
 f331 := Try.func134.trans (congrArg some (by kernel_rfl))
 f332 := Try.func135.trans (congrArg some (by kernel_rfl))
 f343 := Try.func139.trans (congrArg some (by kernel_rfl))
 t0 := Try.underlying0
 a0 := Try.isAgg0
 z0 := Try.sizeOf0
 v0 := Try.zeroValue0
 t3 := Try.underlying3
 a3 := Try.isAgg3
 z3 := Try.sizeOf3
 v3 := Try.zeroValue3
 t4 := Try.underlying4
 a4 := Try.isAgg4
 z4 := Try.sizeOf4
 v4 := Try.zeroValue4
 t5 := Try.underlying5
 a5 := Try.isAgg5
 z5 := Try.sizeOf5
 v5 := Try.zeroValue5
 t9 := Try.underlying9
 a9 := Try.isAgg9
 z9 := Try.sizeOf9
 v9 := Try.zeroValue9
 t28 := Try.underlying22
 a28 := Try.isAgg22
 z28 := Try.sizeOf22
 v28 := Try.zeroValue22
 t46 := Try.underlying111
 a46 := Try.isAgg111
 z46 := Try.sizeOf111
 v46 := Try.zeroValue111
 t51 := Try.underlying125
 a51 := Try.isAgg125
 z51 := Try.sizeOf125
 v51 := Try.zeroValue125
 t53 := Try.underlying28
 a53 := Try.isAgg28
 z53 := Try.sizeOf28
 v53 := Try.zeroValue28
 t131 := Try.underlying90
 a131 := Try.isAgg90
 z131 := Try.sizeOf90
 v131 := Try.zeroValue90
 t182 := Try.underlying118
 a182 := Try.isAgg118
 z182 := Try.sizeOf118
 v182 := Try.zeroValue118
 t183 := Try.underlying119
 a183 := Try.isAgg119
 z183 := Try.sizeOf119
 v183 := Try.zeroValue119
 t218 := Try.underlying132
 a218 := Try.isAgg132
 z218 := Try.sizeOf132
 v218 := Try.zeroValue132
 t222 := Try.underlying136
 a222 := Try.isAgg136
 z222 := Try.sizeOf136
 v222 := Try.zeroValue136
 t228 := Try.underlying140
 a228 := Try.isAgg140
 z228 := Try.sizeOf140
 v228 := Try.zeroValue140
 t229 := Try.underlying141
 a229 := Try.isAgg141
 z229 := Try.sizeOf141
 v229 := Try.zeroValue141 }
open Go.Sort Go.RowKit in
theorem Try.slices_Sort_int (blk off cap : Nat) (zs : List Int) (w : World) (hH : Holds (Value.int .i64) w blk off zs.toArray) (hblk : blk < w.heap.size) (hsz : zs.length < 4611686018427387904) :
    Calls Try.prog 92 #[.slice (some ⟨blk, off, none⟩) zs.length cap] w fun e w' =>
      e = .returned (.tuple #[]) ∧ ∃ n os, w' = grow (putRow (Value.int .i64) (Sort.ahead w n) blk off (zs.mergeSort fun x y => decide (x ≤ y)).toArray) os := Any.slices_Sort_int Try.lays189 blk off cap zs w hH hblk hsz
def Try.laysNm220_ren : Go.Shelf.Ren := ⟨fun | 20 => 93 | n => n, fun | 22 => 22 | 3 => 3 | 4 => 4 | 0 => 0 | n => n, fun | n => n⟩
theorem Try.laysNm220 : Go.Proofs.Lays2.n20 Try.prog Try.laysNm220_ren := {
  mixed := by kernel_rfl
  f20 := Try.func93.trans (congrArg some (by kernel_rfl))
  t0 := Try.underlying0
  a0 := Try.isAgg0
  z0 := Try.sizeOf0
  v0 := Try.zeroValue0
  t3 := Try.underlying3
  a3 := Try.isAgg3
  z3 := Try.sizeOf3
  v3 := Try.zeroValue3
  t4 := Try.underlying4
  a4 := Try.isAgg4
  z4 := Try.sizeOf4
  v4 := Try.zeroValue4
  t22 := Try.underlying22
  a22 := Try.isAgg22
  z22 := Try.sizeOf22
  v22 := Try.zeroValue22
  i3 := by kernel_rfl }
open Go.RowKit Go.Lib Go.Sort in
theorem Try.slices_Compact_int (blk off cap : Nat) (zs : List Int) (w : World) (hH : Holds (Value.int .i64) w blk off zs.toArray) (hsz : zs.length ≤ 9223372036854775807) (hcap : zs.length ≤ cap) :
    Calls Try.prog 93 #[.slice (some ⟨blk, off, none⟩) zs.length cap] w fun e w' => e = .returned (.slice (some ⟨blk, off, none⟩) (Lib.compact zs).length cap) ∧ ∃ q, w' = putRow (Value.int .i64) (Sort.ahead w q) blk off (Lib.compact zs ++ List.replicate (zs.length - (Lib.compact zs).length) 0).toArray := Any.slices_Compact_int Try.laysNm220 blk off cap zs w hH hsz hcap
open Go.RowKit Go.Lib Go.Sort in
theorem Try.slices_Compact_int_empty (a : Option Addr) (cap : Nat) (w : World) :
    Calls Try.prog 93 #[.slice a 0 cap] w fun e w' => e = .returned (.slice a 0 cap) ∧ w' = w := Any.slices_Compact_int_empty Try.laysNm220 a cap w
open Go.RowKit Go.Sort in
theorem Try.slices_Sort_int_none (p : Option Addr) (cap : Nat) (w : World) :
    Calls Try.prog 92 #[.slice p 0 cap] w fun e w' => e = .returned (.tuple #[]) ∧ w' = w := Any.slices_Sort_int_none Try.lays189 p cap w
def Try.laysSlH6_f91_ren : Go.Shelf.Ren := ⟨fun | 6 => 91 | n => n, fun | 22 => 22 | 23 => 3 | 25 => 74 | 3 => 3 | 0 => 0 | 4 => 4 | n => n, fun | n => n⟩
theorem Try.laysSlH6_f91 : Go.Proofs.SlLaysH.n6 Try.prog Try.laysSlH6_f91_ren := {
  mixed := by kernel_rfl
  f6 := ⟨Try.f91.name, by decide, Try.func91.trans (congrArg some (by kernel_rfl))⟩
  t0 := Try.underlying0
  a0 := Try.isAgg0
  z0 := Try.sizeOf0
  v0 := Try.zeroValue0
  t3 := Try.underlying3
  a3 := Try.isAgg3
  z3 := Try.sizeOf3
  v3 := Try.zeroValue3
  t4 := Try.underlying4
  a4 := Try.isAgg4
  z4 := Try.sizeOf4
  v4 := Try.zeroValue4
  t22 := Try.underlying22
  a22 := Try.isAgg22
  z22 := Try.sizeOf22
  v22 := Try.zeroValue22
  a23 := Try.isAgg3
  z23 := Try.sizeOf3
  t25 := Try.underlying74
  a25 := Try.isAgg74
  z25 := Try.sizeOf74
  v25 := Try.zeroValue74 }
open Go.RowKit Go.Lib in
theorem Try.slices_IndexFunc_empty {α : Type} [Inhabited α] (a : Option Addr) (c : Nat) (fv : Value) (w : World) :
    Calls Try.prog 91 #[.slice a 0 c, fv] w fun e w' => e = .returned (.int .i64 (-1)) ∧ w' = w := AnyE.slices_IndexFunc_empty Try.laysSlH6_f91 a c fv w
def Try.laysSlH10_f94_ren : Go.Shelf.Ren := ⟨fun | 10 => 94 | 6 => 91 | n => n, fun | 22 => 22 | 23 => 3 | 25 => 74 | 3 => 3 | 4 => 4 | 0 => 0 | n => n, fun | n => n⟩
theorem Try.laysSlH10_f94 : Go.Proofs.SlLaysH.n10 Try.prog Try.laysSlH10_f94_ren := {
  mixed := by kernel_rfl
  f6 := ⟨Try.f91.name, by decide, Try.func91.trans (congrArg some (by kernel_rfl))⟩
  f10 := ⟨Try.f94.name, by decide, Try.func94.trans (congrArg some (by kernel_rfl))⟩
  t0 := Try.underlying0
  a0 := Try.isAgg0
  z0 := Try.sizeOf0
  v0 := Try.zeroValue0
  t3 := Try.underlying3
  a3 := Try.isAgg3
  z3 := Try.sizeOf3
  v3 := Try.zeroValue3
  t4 := Try.underlying4
  a4 := Try.isAgg4
  z4 := Try.sizeOf4
  v4 := Try.zeroValue4
  t22 := Try.underlying22
  a22 := Try.isAgg22
  z22 := Try.sizeOf22
  v22 := Try.zeroValue22
  a23 := Try.isAgg3
  z23 := Try.sizeOf3
  t25 := Try.underlying74
  a25 := Try.isAgg74
  z25 := Try.sizeOf74
  v25 := Try.zeroValue74 }
open Go.RowKit Go.Lib Go.Sort in
theorem Try.slices_DeleteFunc {α : Type} [Inhabited α] (enc : α → Value) (hO : OneCell enc) (p : α → Bool) (g : Nat) (lb : Array Value) (eg : ∀ args w, (callFunc g args).run Try.prog w = .ok (.enter g args) w) (zr : α) (v23 : ∀ w, (zeroValue 3).run Try.prog w = .ok (enc zr) w) (blk off cap : Nat) (d : Array α) (w : World) (hp : PredAt Try.prog g lb enc p w) (hpo : PredOver Try.prog g lb enc p blk off d.size w) (hH : Holds enc w blk off d) (hsz : d.size ≤ 9223372036854775807) (hcap : d.size ≤ cap) :
    Calls Try.prog 94 #[.slice (some ⟨blk, off, none⟩) d.size cap, .func (.func g) #[] lb] w fun e w' => e = .returned (.slice (some ⟨blk, off, none⟩) (d.toList.filter fun x => !p x).length cap) ∧ ∃ q, w' = putRow enc (Sort.ahead w q) blk off ((d.toList.filter fun x => !p x) ++ List.replicate (d.size - (d.toList.filter fun x => !p x).length) zr).toArray := AnyE.slices_DeleteFunc Try.laysSlH10_f94 enc hO p g lb eg zr v23 blk off cap d w hp hpo hH hsz hcap
def Try.laysSlF6_f97_ren : Go.Shelf.Ren := ⟨fun | 6 => 97 | 15 => 110 | 14 => 111 | 28 => 121 | 29 => 122 | 20 => 123 | 21 => 124 | 22 => 125 | 23 => 126 | 24 => 127 | 25 => 128 | 26 => 129 | 27 => 130 | 46 => 136 | 47 => 132 | 48 => 133 | 49 => 137 | 50 => 138 | 57 => 140 | n => n, fun | 22 => 87 | 24 => 22 | 25 => 89 | 3 => 3 | 39 => 111 | 0 => 0 | 53 => 125 | 55 => 28 | 4 => 4 | 46 => 119 | 45 => 118 | 50 => 90 | 5 => 5 | 9 => 9 | 66 => 132 | 70 => 136 | 76 => 140 | 77 => 141 | n => n, fun | n => n⟩
theorem Try.laysSlF6_f97 : Go.Proofs.SlLaysF.n6 Try.prog Try.laysSlF6_f97_ren := {
 mixed := by kernel_rfl
 f6 := ⟨Try.f97.name, by decide, Try.func97.trans (congrArg some (by kernel_rfl))⟩
 f14 := ⟨Try.f111.name, by decide, Try.func111.trans (congrArg some (by kernel_rfl))⟩
 f15 := Try.func110.trans (congrArg some (by kernel_rfl))
 f20 := ⟨Try.f123.name, by decide, Try.func123.trans (congrArg some (by kernel_rfl))⟩
 f21 := ⟨Try.f124.name, by decide, Try.func124.trans (congrArg some (by kernel_rfl))⟩
 f22 := ⟨Try.f125.name, by decide, Try.func125.trans (congrArg some (by kernel_rfl))⟩
 f23 := ⟨Try.f126.name, by decide, Try.func126.trans (congrArg some (by kernel_rfl))⟩
 f24 := ⟨Try.f127.name, by decide, Try.func127.trans (congrArg some (by kernel_rfl))⟩
 f25 := ⟨Try.f128.name, by decide, Try.func128.trans (congrArg some (by kernel_rfl))⟩
 f26 := ⟨Try.f129.name, by decide, Try.func129.trans (congrArg some (by kernel_rfl))⟩
 f27 := ⟨Try.f130.name, by decide, Try.func130.trans (congrArg some (by kernel_rfl))⟩
 f28 := Try.func121.trans (congrArg some (by kernel_rfl))
 f29 := Try.func122.trans (congrArg some (by kernel_rfl))
 f46 := ⟨Try.f136.name, by decide, Try.func136.trans (congrArg some (by kernel_rfl))⟩
 f47 := Try.func132.trans (congrArg some (by kernel_rfl))
 f48 := Try.func133.trans (congrArg some (by kernel_rfl))
 f49 := ⟨Try.f137.name, by decide, Try.func137.trans (congrArg some (by kernel_rfl))⟩
 f50 := ⟨Try.f138.name, by decide, Try.func138.trans (congrArg some (by kernel_rfl))⟩
 f57 := ⟨Try.f140.name, by decide, Try.func140.trans (congrArg some (by kernel_rfl))⟩
 t0 := Try.underlying0
 a0 := Try.isAgg0
 z0 := Try.sizeOf0
 v0 := Try.zeroValue0
 t3 := Try.underlying3
 a3 := Try.isAgg3
 z3 := Try.sizeOf3
 v3 := Try.zeroValue3
 t4 := Try.underlying4
 a4 := Try.isAgg4
 z4 := Try.sizeOf4
 v4 := Try.zeroValue4
 t5 := Try.underlying5
 a5 := Try.isAgg5
 z5 := Try.sizeOf5
 v5 := Try.zeroValue5
 t9 := Try.underlying9
 a9 := Try.isAgg9
 z9 := Try.sizeOf9
 v9 := Try.zeroValue9
 t22 := Try.underlying87
 a22 := Try.isAgg87
 z22 := Try.sizeOf87
 v22 := Try.zeroValue87
 a24 := Try.isAgg22
 z24 := Try.sizeOf22
 t25 := Try.underlying89
 a25 := Try.isAgg89
 z25 := Try.sizeOf89
 v25 := Try.zeroValue89
 t39 := Try.underlying111
 a39 := Try.isAgg111
 z39 := Try.sizeOf111
 v39 := Try.zeroValue111
 t45 := Try.underlying118
 a45 := Try.isAgg118
 z45 := Try.sizeOf118
 v45 := Try.zeroValue118
 t46 := Try.underlying119
 a46 := Try.isAgg119
 z46 := Try.sizeOf119
 v46 := Try.zeroValue119
 t50 := Try.underlying90
 a50 := Try.isAgg90
 z50 := Try.sizeOf90
 v50 := Try.zeroValue90
 t53 := Try.underlying125
 a53 := Try.isAgg125
 z53 := Try.sizeOf125
 v53 := Try.zeroValue125
 t55 := Try.underlying28
 a55 := Try.isAgg28
 z55 := Try.sizeOf28
 v55 := Try.zeroValue28
 t66 := Try.underlying132
 a66 := Try.isAgg132
 z66 := Try.sizeOf132
 v66 := Try.zeroValue132
 t70 := Try.underlying136
 a70 := Try.isAgg136
 z70 := Try.sizeOf136
 v70 := Try.zeroValue136
 t76 := Try.underlying140
 a76 := Try.isAgg140
 z76 := Try.sizeOf140
 v76 := Try.zeroValue140
 t77 := Try.underlying141
 a77 := Try.isAgg141
 z77 := Try.sizeOf141
 v77 := Try.zeroValue141 }
open Go.RowKit Go.Lib Go.Sort in
theorem Try.slices_SortFunc_eq {α : Type} [Inhabited α] (enc : α → Value) (h1 : OneCell enc) (cf : α → α → Int) (hO : SWO (ltOf cf)) (g : Nat) (cb : Array Value) (blk off cap : Nat) (d : Array α) (w : World) (eg : ∀ args w, (callFunc g args).run Try.prog w = .ok (.enter g args) w) (hcmp : CmpLays1 Try.prog g cb enc cf blk off d.size w) (hH : Holds enc w blk off d) (hblk : blk < w.heap.size) (hsz : d.size < 4611686018427387904) :
    Calls Try.prog 97 #[.slice (some ⟨blk, off, none⟩) d.size cap, .func (.func g) #[] cb] w fun e w' =>
      e = .returned (.tuple #[]) ∧ ∃ n os, w' = sortWorld enc w blk off n (pdq (ltOf cf) d 0 d.size (Lib.bitLen d.size) true true) os := Any.slices_SortFunc_eq Try.laysSlF6_f97 enc h1 cf hO g cb blk off cap d w eg hcmp hH hblk hsz
open Go.RowKit Go.Lib Go.Sort in
theorem Try.slices_SortFunc {α : Type} [Inhabited α] (enc : α → Value) (h1 : OneCell enc) (cf : α → α → Int) (hO : SWO (ltOf cf)) (g : Nat) (cb : Array Value) (blk off cap : Nat) (d : Array α) (w : World) (eg : ∀ args w, (callFunc g args).run Try.prog w = .ok (.enter g args) w) (hcmp : CmpLays1 Try.prog g cb enc cf blk off d.size w) (hH : Holds enc w blk off d) (hblk : blk < w.heap.size) (hsz : d.size < 4611686018427387904) :
    Calls Try.prog 97 #[.slice (some ⟨blk, off, none⟩) d.size cap, .func (.func g) #[] cb] w fun e w' =>
      e = .returned (.tuple #[]) ∧ ∃ d' n os, PermIn 0 d.size d d' ∧ SortedIn (ltOf cf) 0 d.size d' ∧ w' = sortWorld enc w blk off n d' os := Any.slices_SortFunc Try.laysSlF6_f97 enc h1 cf hO g cb blk off cap d w eg hcmp hH hblk hsz
def Try.laysSlF06_f97_ren : Go.Shelf.Ren := ⟨fun | 6 => 97 | 15 => 110 | 14 => 111 | 28 => 121 | 29 => 122 | 20 => 123 | 21 => 124 | 22 => 125 | 23 => 126 | 24 => 127 | 25 => 128 | 26 => 129 | 27 => 130 | 46 => 136 | 47 => 132 | 48 => 133 | 49 => 137 | 50 => 138 | 57 => 140 | n => n, fun | 22 => 87 | 24 => 22 | 25 => 89 | 3 => 3 | 39 => 111 | 0 => 0 | 53 => 125 | 55 => 28 | 4 => 4 | 46 => 119 | 45 => 118 | 50 => 90 | 5 => 5 | 9 => 9 | 66 => 132 | 70 => 136 | 76 => 140 | 77 => 141 | n => n, fun | n => n⟩
theorem Try.laysSlF06_f97 : Go.Proofs.SlLaysF0.n6 Try.prog Try.laysSlF06_f97_ren := {
 mixed := by kernel_rfl
 f6 := ⟨Try.f97.name, by decide, Try.func97.trans (congrArg some (by kernel_rfl))⟩
 f14 := ⟨Try.f111.name, by decide, Try.func111.trans (congrArg some (by kernel_rfl))⟩
 f15 := Try.func110.trans (congrArg some (by kernel_rfl))
 f20 := ⟨Try.f123.name, by decide, Try.func123.trans (congrArg some (by kernel_rfl))⟩
 f21 := ⟨Try.f124.name, by decide, Try.func124.trans (congrArg some (by kernel_rfl))⟩
 f22 := ⟨Try.f125.name, by decide, Try.func125.trans (congrArg some (by kernel_rfl))⟩
 f23 := ⟨Try.f126.name, by decide, Try.func126.trans (congrArg some (by kernel_rfl))⟩
 f24 := ⟨Try.f127.name, by decide, Try.func127.trans (congrArg some (by kernel_rfl))⟩
 f25 := ⟨Try.f128.name, by decide, Try.func128.trans (congrArg some (by kernel_rfl))⟩
 f26 := ⟨Try.f129.name, by decide, Try.func129.trans (congrArg some (by kernel_rfl))⟩
 f27 := ⟨Try.f130.name, by decide, Try.func130.trans (congrArg some (by kernel_rfl))⟩
 f28 := Try.func121.trans (congrArg some (by kernel_rfl))
 f29 := Try.func122.trans (congrArg some (by kernel_rfl))
 f46 := ⟨Try.f136.name, by decide, Try.func136.trans (congrArg some (by kernel_rfl))⟩
 f47 := Try.func132.trans (congrArg some (by kernel_rfl))
 f48 := Try.func133.trans (congrArg some (by kernel_rfl))
 f49 := ⟨Try.f137.name, by decide, Try.func137.trans (congrArg some (by kernel_rfl))⟩
 f50 := ⟨Try.f138.name, by decide, Try.func138.trans (congrArg some (by kernel_rfl))⟩
 f57 := ⟨Try.f140.name, by decide, Try.func140.trans (congrArg some (by kernel_rfl))⟩
 t0 := Try.underlying0
 a0 := Try.isAgg0
 z0 := Try.sizeOf0
 v0 := Try.zeroValue0
 t3 := Try.underlying3
 a3 := Try.isAgg3
 z3 := Try.sizeOf3
 v3 := Try.zeroValue3
 t4 := Try.underlying4
 a4 := Try.isAgg4
 z4 := Try.sizeOf4
 v4 := Try.zeroValue4
 t5 := Try.underlying5
 a5 := Try.isAgg5
 z5 := Try.sizeOf5
 v5 := Try.zeroValue5
 t9 := Try.underlying9
 a9 := Try.isAgg9
 z9 := Try.sizeOf9
 v9 := Try.zeroValue9
 t22 := Try.underlying87
 a22 := Try.isAgg87
 z22 := Try.sizeOf87
 v22 := Try.zeroValue87
 t25 := Try.underlying89
 a25 := Try.isAgg89
 z25 := Try.sizeOf89
 v25 := Try.zeroValue89
 t39 := Try.underlying111
 a39 := Try.isAgg111
 z39 := Try.sizeOf111
 v39 := Try.zeroValue111
 t45 := Try.underlying118
 a45 := Try.isAgg118
 z45 := Try.sizeOf118
 v45 := Try.zeroValue118
 t46 := Try.underlying119
 a46 := Try.isAgg119
 z46 := Try.sizeOf119
 v46 := Try.zeroValue119
 t50 := Try.underlying90
 a50 := Try.isAgg90
 z50 := Try.sizeOf90
 v50 := Try.zeroValue90
 t53 := Try.underlying125
 a53 := Try.isAgg125
 z53 := Try.sizeOf125
 v53 := Try.zeroValue125
 t55 := Try.underlying28
 a55 := Try.isAgg28
 z55 := Try.sizeOf28
 v55 := Try.zeroValue28
 t66 := Try.underlying132
 a66 := Try.isAgg132
 z66 := Try.sizeOf132
 v66 := Try.zeroValue132
 t70 := Try.underlying136
 a70 := Try.isAgg136
 z70 := Try.sizeOf136
 v70 := Try.zeroValue136
 t76 := Try.underlying140
 a76 := Try.isAgg140
 z76 := Try.sizeOf140
 v76 := Try.zeroValue140
 t77 := Try.underlying141
 a77 := Try.isAgg141
 z77 := Try.sizeOf141
 v77 := Try.zeroValue141 }
open Go.RowKit Go.Lib Go.Sort in
theorem Try.slices_SortFunc_none {α : Type} [Inhabited α] (p : Option Addr) (cap : Nat) (fv : Value) (w : World) :
    Calls Try.prog 97 #[.slice p 0 cap, fv] w fun e w' => e = .returned (.tuple #[]) ∧ w' = w := AnyF.slices_SortFunc_none Try.laysSlF06_f97 p cap fv w
end Go.Proofs
namespace Go.Proofs.Ytonipihlpbaknaa.Print
set_option linter.unusedVariables false
open Go.RowKit Go.Sort Go.Proofs.YtonipihlpbaknaaW.PrintWords Go.Proofs.YtonipihlpbaknaaW.PrintLast Go.Proofs.YtonipihlpbaknaaW.PrintMore
def sortI (l : List Int) : List Int := l.mergeSort fun x y => decide (x ≤ y)
def subgraph_sorted.f (l0 : List Int) : Option (List Int) := if l0.length < 17592186044416 then some (Lib.compact (sortI l0)) else none
theorem heap_putRow_ne {α : Type} [Inhabited α] (enc : α → Value) (w : World) (g : Nat) (d : Array α) (k : Nat) (hk : k ≠ g) : (putRow enc w g 0 d).heap[k]? = w.heap[k]? := by
  simp [putRow, mapBlock, Array.getElem?_modify, Ne.symm hk]
theorem grownBy_putRow {α : Type} [Inhabited α] (enc : α → Value) (w : World) (g n : Nat) (d : Array α) : w.grownBy (putRow enc (Sort.ahead w n) g 0 d) (some g) := by
  refine ⟨rfl, rfl, rfl, by simp [putRow, mapBlock, Sort.ahead], fun k hk hne => ?_⟩
  rw [heap_putRow_ne enc _ g d k (fun e => hne (by rw [e]))]
  rfl
theorem below_grow (w : World) (os : Array Obj) : Below w.heap.size w (grow w os) :=
  ⟨rfl, rfl, rfl, by simp, fun _ hj => heap_grow_old _ _ hj⟩
/-- What sort and compact leave of the world. -/
def sortedW (w : World) (g : Nat) (l0 : List Int) (w' : World) : Prop :=
  ∃ n os q, w' = putRow (Value.int .i64) (Sort.ahead (grow (putRow (Value.int .i64) (Sort.ahead w n) g 0 (sortI l0).toArray) os) q) g 0 (Lib.compact (sortI l0) ++ List.replicate (l0.length - (Lib.compact (sortI l0)).length) 0).toArray
set_option maxHeartbeats 1000000 in
theorem sorted_some (g cap : Nat) (l0 : List Int) (w : World) (hH : Holds (Value.int .i64) w g 0 l0.toArray) (hg : g < w.heap.size) (hl : l0.length < 17592186044416) (hc : l0.length ≤ cap) :
    Calls Try.prog 57 #[.slice (some ⟨g, 0, none⟩) l0.length cap] w fun e w' => e = .returned (.slice (some ⟨g, 0, none⟩) (Lib.compact (sortI l0)).length cap) ∧ sortedW w g l0 w' := by
  have hsort := Lib.hid (Try.slices_Sort_int g 0 cap l0 w hH hg (by omega)); have hl2 : (sortI l0).length = l0.length := List.length_mergeSort l0
  have hcomp : ∀ n os, Calls Try.prog 93 #[.slice (some ⟨g, 0, none⟩) l0.length cap] (grow (putRow (Value.int .i64) (Sort.ahead w n) g 0 (sortI l0).toArray) os) fun e w' => e = .returned (.slice (some ⟨g, 0, none⟩) (Lib.compact (sortI l0)).length cap) ∧ sortedW w g l0 w' := by
    intro n os
    have hH2 : Holds (Value.int .i64) (grow (putRow (Value.int .i64) (Sort.ahead w n) g 0 (sortI l0).toArray) os) g 0 (sortI l0).toArray :=
      holds_grow _ _ os g 0 _ (by simpa [putRow, mapBlock, Sort.ahead] using hg) (holds_putRow _ _ g 0 _ _ (holds_ahead _ w n g 0 _ hH) (by simp [hl2]))
    have := Try.slices_Compact_int g 0 cap (sortI l0) _ hH2 (by omega) (by omega); rw [hl2] at this
    refine this.mono ?_
    rintro e w' ⟨rfl, q, rfl⟩; exact ⟨rfl, n, os, q, rfl⟩
  have HC := Lib.hid hcomp; clear hcomp hH hl2 hl
  go_enter Try.func57, Try.ntmps57
  go_wp2_with fail
  refine hsort.out.mono ?_
  rintro e w1 ⟨rfl, n, os, rfl⟩; have HC2 := Lib.hid (HC.out n os); unfold sortI at HC2; generalize grow (putRow (Value.int .i64) (Sort.ahead w n) g 0 (l0.mergeSort fun x y => decide (x ≤ y)).toArray) os = w2 at HC2 ⊢
  go_wp2_with fail
  refine HC2.out.mono ?_
  rintro e w3 ⟨rfl, hw⟩
  go_wp2_with fail
  go_ret
  exact ⟨rfl, hw⟩
set_option maxHeartbeats 1000000 in
theorem sorted_nil (w : World) : Calls Try.prog 57 #[.slice none 0 0] w fun e w' => e = .returned (.slice none 0 0) ∧ w' = w := by
  go_enter Try.func57, Try.ntmps57
  go_wp2_with (first | (go_at_call 92; refine (Try.slices_Sort_int_none none 0 w).mono ?_; rintro e w' ⟨rfl, rfl⟩) | (go_at_call 93; refine (Try.slices_Compact_int_empty none 0 _).mono ?_; rintro e w' ⟨rfl, rfl⟩))
  go_ret
  exact ⟨rfl, rfl⟩
theorem compact_sortI_le (l : List Int) : (Lib.compact (sortI l)).length ≤ l.length := by
  have := Lib.compact_length_le (sortI l)
  rwa [show (sortI l).length = l.length from List.length_mergeSort l] at this
theorem subgraph_sorted.calls (P0_ : Nat → Prop) (u9000_ : Value) (l0 : List Int) (r : List Int) (w0 w : World) (hB : Below w0.heap.size w0 w) (ho0 : Kd.R (Kd.int .i64) 3 w w0.heap.size P0_ u9000_ l0) (h : subgraph_sorted.f l0 = some r) :
  Calls Try.prog 57 #[u9000_] w fun e w' => ∃ v0_ : Value, e = .returned (v0_) ∧ Kd.R (Kd.int .i64) 3 w' w0.heap.size (fun k_ => (P0_ k_ ∨ w.heap.size ≤ k_)) v0_ r ∧ Below w0.heap.size w0 w' ∧ Kept w w' (fun k_ => P0_ k_) := by
 unfold subgraph_sorted.f at h
 split at h
 case isFalse => exact absurd h (by simp)
 rename_i hl
 obtain rfl := Option.some.inj h; have hown : w.ownsRow w0.heap.size 3 1 u9000_ l0.length (l0.map (Value.int .i64)) := Kd.own_of_R ho0; have hP := ho0.1
 rcases hown.2 with ⟨rfl, hn⟩ | ⟨g, cap, cur, rfl, hbase, hb, h1, h2, h3, h4⟩
 ·obtain rfl : l0 = [] := List.eq_nil_of_length_eq_zero hn
  refine (sorted_nil w).mono ?_
  rintro e w' ⟨rfl, rfl⟩; have e : Lib.compact (sortI []) = [] := List.eq_nil_of_length_eq_zero (by have := compact_sortI_le []; simpa using this); rw [e]; exact ⟨_, rfl, Kd.R_nil _ _ _ _ _, hB, Kept.refl _ _⟩
 ·have hPg : P0_ g := hP g rfl
  obtain ⟨g', cap', hv, _, hlt, _, _, _, hH⟩ := Lib.holds_of_ownsRow hown (by simp); cases hv
  refine (sorted_some g cap l0 w hH hlt hl h1).mono ?_
  rintro e w' ⟨rfl, n, os, q, rfl⟩; have hl2 : (sortI l0).length = l0.length := List.length_mergeSort l0; have o1 := Lib.ownsRow_putRow (q := n) (k := l0.length) (ys := sortI l0) hown hl2 (Nat.le_refl _); rw [show (sortI l0).take l0.length = sortI l0 from List.take_of_length_le (by omega)] at o1; have o2 := pw_own_below o1 (below_grow _ os); have hle := compact_sortI_le l0; have o3 := Lib.ownsRow_putRow (q := q) (k := (Lib.compact (sortI l0)).length) (ys := Lib.compact (sortI l0) ++ List.replicate (l0.length - (Lib.compact (sortI l0)).length) 0) o2 (by simp; omega) hle; rw [List.take_left] at o3; have k1 : Kept w (putRow (Value.int .i64) (Sort.ahead w n) g 0 (sortI l0).toArray) (fun k_ => P0_ k_) := Kept.of_grown (grownBy_putRow _ w g n _) (Kept.refl _ _) (fun k hk => by cases hk; exact .inl hPg); have k2 := Kept.below k1 (below_grow _ os); have k3 := Kept.of_grown (grownBy_putRow (Value.int .i64) _ g q (Lib.compact (sortI l0) ++ List.replicate (l0.length - (Lib.compact (sortI l0)).length) 0).toArray) k2 (fun k hk => by cases hk; exact .inl hPg); have b1 : Below w0.heap.size w0 (putRow (Value.int .i64) (Sort.ahead w n) g 0 (sortI l0).toArray) := Lib.below_putRow hB hbase; have b2 := below_then b1 b1.size (below_grow _ os); have b3 : Below w0.heap.size w0 _ := Lib.below_putRow (q := q) (enc := Value.int .i64) (d := (Lib.compact (sortI l0) ++ List.replicate (l0.length - (Lib.compact (sortI l0)).length) 0).toArray) b2 hbase; exact ⟨_, rfl, Kd.R_of_own o3 (fun k hk => by cases hk; exact .inl hPg), b3, k3⟩
end Go.Proofs.Ytonipihlpbaknaa.Print
namespace Go.Proofs.Ytonipihlpbaknaa.Print
set_option linter.unusedVariables false
set_option linter.unusedSimpArgs false
open Go.RowKit Go.Proofs.YtonipihlpbaknaaW.PrintWords Go.Proofs.YtonipihlpbaknaaW.PrintLast Go.Proofs.YtonipihlpbaknaaW.PrintMore
def beyondB (n a : Int) : Bool := decide (a < 0 ∨ n ≤ a)
def endsOf (es : List S78) (l : List Int) : List Int := l.flatMap fun k => [(rd_T78 es k).f1, (rd_T78 es k).f2]
def subgraph_Close.f (l0_0 : List Int) (l0_1 : List S78) (l1 l2 : List Int) : Option (List Int × List Int × Int) :=
  if l1.length + 2 * l2.length < 17592186044416 then
    if validB l0_0 l0_1 = 0 then
      if l1.any (beyondB l0_0.length) then some ([], [], 6) else if l2.any (beyondB l0_1.length) then some ([], [], 6)
      else some (Lib.compact (sortI (l1 ++ endsOf l0_1 l2)), Lib.compact (sortI l2), 0)
    else some ([], [], validB l0_0 l0_1)
  else none
theorem close1 (n : Int) (w : World) : Calls Try.prog 54 #[.int .i64 n] w fun e w' => e = .returned (.func (.func 55) #[] #[.pointer (some ⟨w.heap.size, 0, none⟩)]) ∧ w' = w.alloc (.cells #[.int .i64 n] 3) := by
  go_enter Try.func54, Try.ntmps54
  go_wp2
  go_ret
  exact ⟨rfl, rfl⟩
theorem close2 (n a : Int) (gb : Nat) (w : World) (hc : w.cell? ⟨gb, 0, none⟩ = some (.int .i64 n)) : Calls Try.prog 55 #[.int .i64 a, .pointer (some ⟨gb, 0, none⟩)] w fun e w' => e = .returned (.bool (beyondB n a)) ∧ w = w' := by
  unfold beyondB
  by_cases h : a < 0
  · go_enter Try.func55, Try.ntmps55
    go_wp2
    go_ret
    exact ⟨by simp [h], rfl⟩
  · go_enter Try.func55, Try.ntmps55
    go_wp2
    go_ret
    exact ⟨by simp; omega, rfl⟩
/-- ContainsFunc with the closure that 'beyond' gives. -/
theorem close3 (A : Option Addr) (c : Nat) (l : List Int) (n : Int) (gb : Nat) (W : World) (hr : Kd.C (Kd.int .i64) W A l.length l) (hk : W.heap[gb]? = some (.cells #[.int .i64 n] 3 (0, 0))) :
    Calls Try.prog 56 #[.slice A l.length c, .func (.func 55) #[] #[.pointer (some ⟨gb, 0, none⟩)]] W fun e w' => e = .returned (.bool (l.any (beyondB n))) ∧ Below W.heap.size W w' :=
  contains_ints 55 _ (enters_of Try.func55 (by kernel_rfl) rfl) (beyondB n) A c l W W (Below.refl _ _) hr (fun W' x hb => (close2 n x gb W' ((blk_cell ((hb.block gb (Array.getElem?_eq_some_iff.1 hk).1).trans hk) 0).trans rfl)).mono (by rintro e w' ⟨rfl, rfl⟩; exact ⟨rfl, hb⟩))
theorem blk2 {w w1 : World} {X Y : Obj} (hb : Below ((w.alloc X).alloc Y).heap.size ((w.alloc X).alloc Y) w1) : w1.heap[w.heap.size]? = some X ∧ w1.heap[w.heap.size + 1]? = some Y := by
  have h1 := blk_below (blk_alloc (blk_new w X) Y) hb; have h2 := blk_below (blk_new (w.alloc X) Y) hb; rw [show (w.alloc X).heap.size = w.heap.size + 1 by simp] at h2; exact ⟨h1, h2⟩
theorem bel2 {w w1 : World} {X Y : Obj} (hb : Below ((w.alloc X).alloc Y).heap.size ((w.alloc X).alloc Y) w1) : Below w.heap.size w w1 :=
  below_then (below_alloc (below_alloc (Below.refl w.heap.size w) X) Y) (by simp; omega) hb
set_option maxHeartbeats 1000000 in
theorem Close_a (A0 : Option Addr) (c0 : Nat) (l0 : List Int) (A1 : Option Addr) (c1 : Nat) (l1 : List S78) (v1 v2 : Value) (w : World) (hr0 : Kd.C (Kd.int .i64) w A0 l0.length l0) (hr1 : Kd.C k78 w A1 l1.length l1) (e : Int) (he : validB l0 l1 = e) (hne : (e == 0) = false) :
    Calls Try.prog 13 #[.agg #[.slice A0 l0.length c0, .slice A1 l1.length c1], v1, v2] w fun en w' => en = .returned (.tuple #[.agg #[.slice none 0 0, .slice none 0 0], .int .i64 e]) ∧ Below w.heap.size w w' := by
  have H0 := fun (W : World) (hb : Below w.heap.size w W) => graph_Valid.calls0 A0 c0 l0 A1 c1 l1 W (Kd.C_below hr0 hb) (Kd.C_below hr1 hb)
  rw [he] at H0; have D0 := Lib.hid H0
  have hne2 : (e != 0) = true := by simpa [bne] using hne
  clear H0 hr0 hr1 he
  go_enter Try.func13, Try.ntmps13
  go_wp2_with fail
  refine (D0.out _ (by exact below_alloc (below_alloc (Below.refl _ _) _) _)).mono ?_
  rintro en w1 ⟨rfl, hb⟩; have HB := Lib.hid (bel2 hb); have HK := Lib.hid (blk2 hb).2; clear hb; have k0 := (blk_cell HK.out 0).trans rfl; have k1 := (blk_cell HK.out 1).trans rfl; have f0 := blk_frozen HK.out 0; have f1 := blk_frozen HK.out 1
  go_wp2_with fail
  refine bodyPost_ret (v := .tuple #[.agg #[.slice none 0 0, .slice none 0 0], .int .i64 e]) (by simp [results, Try.results13, go_sem, k0, k1]) rfl ⟨rfl, ?_⟩
  exact below_set (below_set HB.out (by simp)) (by simp)
set_option maxHeartbeats 2000000 in
theorem Close_b (A0 : Option Addr) (c0 : Nat) (l0 : List Int) (A1 : Option Addr) (c1 : Nat) (l1 : List S78) (A2 : Option Addr) (c2 : Nat) (l2 : List Int) (A3 : Option Addr) (c3 : Nat) (l3 : List Int) (w : World) (hr0 : Kd.C (Kd.int .i64) w A0 l0.length l0) (hr1 : Kd.C k78 w A1 l1.length l1)
  (hr2 : Kd.C (Kd.int .i64) w A2 l2.length l2) (hr3 : Kd.C (Kd.int .i64) w A3 l3.length l3)
  (he : validB l0 l1 = 0) (hb0 : l2.any (beyondB l0.length) = true ∨ l2.any (beyondB l0.length) = false ∧ l3.any (beyondB l1.length) = true) :
  Calls Try.prog 13 #[.agg #[.slice A0 l0.length c0, .slice A1 l1.length c1], .slice A2 l2.length c2, .slice A3 l3.length c3] w fun en w' => en = .returned (.tuple #[.agg #[.slice none 0 0, .slice none 0 0], .int .i64 6]) ∧ Below w.heap.size w w' := by
 have H0 := fun (W : World) (hb : Below w.heap.size w W) => graph_Valid.calls0 A0 c0 l0 A1 c1 l1 W (Kd.C_below hr0 hb) (Kd.C_below hr1 hb)
 rw [he] at H0; have D0 := Lib.hid H0; have hm0 := Kd.C_max hr0; have hm1 := Kd.C_max hr1
 have H1 := fun (W : World) (hb : Below w.heap.size w W) => close3 A2 c2 l2 l0.length W.heap.size (W.alloc (.cells #[.int .i64 l0.length] 3)) (Kd.C_below hr2 (below_alloc hb _)) (blk_new W _)
 have H2 := fun (W : World) (hb : Below w.heap.size w W) => close3 A3 c3 l3 l1.length W.heap.size (W.alloc (.cells #[.int .i64 l1.length] 3)) (Kd.C_below hr3 (below_alloc hb _)) (blk_new W _)
 have D1 := Lib.hid H1; have D2 := Lib.hid H2; clear H0 H1 H2 hr0 hr1 hr2 hr3 he; generalize l2.any (beyondB l0.length) = b0 at D1 hb0; generalize l3.any (beyondB l1.length) = b1 at D2 hb0
 rcases hb0 with rfl | ⟨rfl, rfl⟩
 ·go_enter Try.func13, Try.ntmps13
  go_wp2_with fail
  refine (D0.out _ (by exact below_alloc (below_alloc (Below.refl _ _) _) _)).mono ?_
  rintro en w1 ⟨rfl, hb⟩; have HB := Lib.hid (bel2 hb); have HG := Lib.hid (blk2 hb).1; have HK := Lib.hid (blk2 hb).2; clear hb D0; have k0 := (blk_cell HG.out 0).trans rfl; have k1 := (blk_cell HG.out 1).trans rfl
  go_wp2_with fail
  refine (close1 _ _).mono ?_
  rintro en w2 ⟨rfl, rfl⟩
  go_wp2_with fail
  refine (D1.out _ HB.out).mono ?_
  rintro en w3 ⟨rfl, hb⟩; have HB3 := Lib.hid (below_then (below_alloc HB.out (.cells #[.int .i64 l0.length] 3)) (by have := HB.out.size; simp; omega) hb); have HG3 := Lib.hid (blk_below (blk_alloc HG.out _) hb); have HK3 := Lib.hid (blk_below (blk_alloc HK.out _) hb); clear hb k0 k1; have k0 := (blk_cell HK3.out 0).trans rfl; have k1 := (blk_cell HK3.out 1).trans rfl; have f0 := blk_frozen HK3.out 0; have f1 := blk_frozen HK3.out 1
  go_wp2_with fail
  refine bodyPost_ret (v := .tuple #[.agg #[.slice none 0 0, .slice none 0 0], .int .i64 6]) (by simp [results, Try.results13, go_sem, k0, k1]) rfl ⟨rfl, ?_⟩
  exact below_set (below_set HB3.out (by simp)) (by simp)
 ·go_enter Try.func13, Try.ntmps13
  go_wp2_with fail
  refine (D0.out _ (by exact below_alloc (below_alloc (Below.refl _ _) _) _)).mono ?_
  rintro en w1 ⟨rfl, hb⟩; have HB := Lib.hid (bel2 hb); have HG := Lib.hid (blk2 hb).1; have HK := Lib.hid (blk2 hb).2; clear hb D0; have k0 := (blk_cell HG.out 0).trans rfl; have k1 := (blk_cell HG.out 1).trans rfl
  go_wp2_with fail
  refine (close1 _ _).mono ?_
  rintro en w2 ⟨rfl, rfl⟩
  go_wp2_with fail
  refine (D1.out _ HB.out).mono ?_
  rintro en w3 ⟨rfl, hb⟩; have HB3 := Lib.hid (below_then (below_alloc HB.out (.cells #[.int .i64 l0.length] 3)) (by have := HB.out.size; simp; omega) hb); have HG3 := Lib.hid (blk_below (blk_alloc HG.out _) hb); have HK3 := Lib.hid (blk_below (blk_alloc HK.out _) hb); clear hb k0 k1; have k0 := (blk_cell HG3.out 0).trans rfl; have k1 := (blk_cell HG3.out 1).trans rfl
  go_wp2_with fail
  refine (close1 _ _).mono ?_
  rintro en w4 ⟨rfl, rfl⟩
  go_wp2_with fail
  refine (D2.out _ HB3.out).mono ?_
  rintro en w5 ⟨rfl, hb⟩; have HB5 := Lib.hid (below_then (below_alloc HB3.out (.cells #[.int .i64 l1.length] 3)) (by have := HB3.out.size; simp; omega) hb); have HK5 := Lib.hid (blk_below (blk_alloc HK3.out _) hb); clear hb k0 k1; have k0 := (blk_cell HK5.out 0).trans rfl; have k1 := (blk_cell HK5.out 1).trans rfl; have f0 := blk_frozen HK5.out 0; have f1 := blk_frozen HK5.out 1
  go_wp2_with fail
  refine bodyPost_ret (v := .tuple #[.agg #[.slice none 0 0, .slice none 0 0], .int .i64 6]) (by simp [results, Try.results13, go_sem, k0, k1]) rfl ⟨rfl, ?_⟩
  exact below_set (below_set HB5.out (by simp)) (by simp)
theorem R_low {α : Type} {d : Kd α} {e base g : Nat} {ok : Nat → Prop} {w : World} {v : Value} {xs : List α} (h : d.R e w base ok v xs) (hg : g < base) (j : Nat) (u : Value) : d.R e (w.setCell ⟨g, j, none⟩ u) base ok v xs :=
  Kd.R_mono (Kd.R_far (p := ⟨g, j, none⟩) (Kd.R_mono (Kd.R_bound h) (ok' := fun k => ok k ∧ base ≤ k) (fun k hk => ⟨hk.1, hk.2.1⟩)) (fun k hk e => by have := hk.2; have : k = g := e; omega) u) (fun k hk => hk.1)
theorem endsOf_snoc (es : List S78) (l : List Int) (k : Nat) (h : k < l.length) : endsOf es (l.take (k + 1)) = endsOf es (l.take k) ++ [(rd_T78 es (rd l k)).f1, (rd_T78 es (rd l k)).f2] := by
  unfold endsOf; rw [List.take_succ_eq_append_getElem h, List.flatMap_append]
  simp [rd, List.getD_eq_getElem?_getD, h]
theorem endsOf_len (es : List S78) (l : List Int) : (endsOf es l).length = 2 * l.length := by
  unfold endsOf
  induction l with
  | nil => rfl
  | cons x l ih => simp only [List.flatMap_cons, List.length_append, ih, List.length_cons, List.length_nil]; omega
set_option maxHeartbeats 4000000 in
set_option maxRecDepth 100000 in
theorem Close_c (A0 : Option Addr) (c0 : Nat) (l0 : List Int) (A1 : Option Addr) (c1 : Nat) (l1 : List S78) (A2 : Option Addr) (c2 : Nat) (l2 : List Int) (A3 : Option Addr) (c3 : Nat) (l3 : List Int) (w : World) (hr0 : Kd.C (Kd.int .i64) w A0 l0.length l0) (hr1 : Kd.C k78 w A1 l1.length l1)
  (hr2 : Kd.C (Kd.int .i64) w A2 l2.length l2) (hc2 : l2.length ≤ c2) (hr3 : Kd.C (Kd.int .i64) w A3 l3.length l3) (hc3 : l3.length ≤ c3)
  (he : validB l0 l1 = 0) (hb0 : l2.any (beyondB l0.length) = false) (hb1 : l3.any (beyondB l1.length) = false) (hlen : l2.length + 2 * l3.length < 17592186044416) :
  Calls Try.prog 13 #[.agg #[.slice A0 l0.length c0, .slice A1 l1.length c1], .slice A2 l2.length c2, .slice A3 l3.length c3] w fun en w' => ∃ v0_ v1_ : Value, en = .returned (.tuple #[.agg #[v0_, v1_], .int .i64 0]) ∧
   Kd.R (Kd.int .i64) 3 w' w.heap.size (fun k_ => some k_ ≠ (v1_ : Value).ownBlock) v0_ (Lib.compact (sortI (l2 ++ endsOf l1 l3))) ∧ Kd.R (Kd.int .i64) 3 w' w.heap.size (fun k_ => some k_ ≠ (v0_ : Value).ownBlock) v1_ (Lib.compact (sortI l3)) ∧ Below w.heap.size w w' := by
 have H0 := fun (W : World) (hb : Below w.heap.size w W) => graph_Valid.calls0 A0 c0 l0 A1 c1 l1 W (Kd.C_below hr0 hb) (Kd.C_below hr1 hb)
 rw [he] at H0; have D0 := Lib.hid H0; have hm0 := Kd.C_max hr0; have hm1 := Kd.C_max hr1; have hm3 := Kd.C_max hr3
 have H1 := fun (W : World) (hb : Below w.heap.size w W) => close3 A2 c2 l2 l0.length W.heap.size (W.alloc (.cells #[.int .i64 l0.length] 3)) (Kd.C_below hr2 (below_alloc hb _)) (blk_new W _)
 have H2 := fun (W : World) (hb : Below w.heap.size w W) => close3 A3 c3 l3 l1.length W.heap.size (W.alloc (.cells #[.int .i64 l1.length] 3)) (Kd.C_below hr3 (below_alloc hb _)) (blk_new W _)
 rw [hb0] at H1; rw [hb1] at H2; have D1 := Lib.hid H1; have D2 := Lib.hid H2
 have H3 := fun (W : World) (hb : Below w.heap.size w W) => slices_Clone_int_int.calls A2 c2 l2 l2 W (Kd.C_below hr2 hb) hc2 (if_pos (by omega))
 have H4 := fun (W : World) (hb : Below w.heap.size w W) => slices_Clone_int_int.calls A3 c3 l3 l3 W (Kd.C_below hr3 hb) hc3 (if_pos (by omega))
 have D3 := Lib.hid H3; have D4 := Lib.hid H4; have R1 := Lib.hid hr1; have R3 := Lib.hid hr3
 have IN : Hid (∀ k, (h : k < l3.length) → 0 ≤ rd l3 k ∧ rd l3 k < l1.length) := fun k h => by
  have := List.any_eq_false.1 hb1 l3[k] (List.getElem_mem h)
  have e : rd l3 k = l3[k] := by simp [rd, List.getD_eq_getElem?_getD, h]
  rw [e]; simp only [beyondB, decide_eq_true_eq] at this
  omega
 have LN := Lib.hid hlen; clear H0 H1 H2 H3 H4 hr0 hr1 hr2 hr3 he hb0 hb1 hlen
 go_enter Try.func13, Try.ntmps13
 go_wp2_with fail
 refine (D0.out _ (by exact below_alloc (below_alloc (Below.refl _ _) _) _)).mono ?_
 rintro en w1 ⟨rfl, hb⟩; have HB := Lib.hid (bel2 hb); have HG := Lib.hid (blk2 hb).1; have HK := Lib.hid (blk2 hb).2; clear hb D0; have k0 := (blk_cell HG.out 0).trans rfl; have k1 := (blk_cell HG.out 1).trans rfl
 go_wp2_with fail
 refine (close1 _ _).mono ?_
 rintro en w2 ⟨rfl, rfl⟩
 go_wp2_with fail
 refine (D1.out _ HB.out).mono ?_
 rintro en w3 ⟨rfl, hb⟩; have HB3 := Lib.hid (below_then (below_alloc HB.out (.cells #[.int .i64 l0.length] 3)) (by have := HB.out.size; simp; omega) hb); have HG3 := Lib.hid (blk_below (blk_alloc HG.out _) hb); have HK3 := Lib.hid (blk_below (blk_alloc HK.out _) hb); clear hb k0 k1; have k0 := (blk_cell HG3.out 0).trans rfl; have k1 := (blk_cell HG3.out 1).trans rfl
 go_wp2_with fail
 refine (close1 _ _).mono ?_
 rintro en w4 ⟨rfl, rfl⟩
 go_wp2_with fail
 refine (D2.out _ HB3.out).mono ?_
 rintro en w5 ⟨rfl, hb⟩; have HB5 := Lib.hid (below_then (below_alloc HB3.out (.cells #[.int .i64 l1.length] 3)) (by have := HB3.out.size; simp; omega) hb); have HG5 := Lib.hid (blk_below (blk_alloc HG3.out _) hb); have HK5 := Lib.hid (blk_below (blk_alloc HK3.out _) hb); clear hb k0 k1 HB HG HK HB3 HG3 HK3 D1 D2
 go_wp2_with fail
 refine (D3.out _ HB5.out).mono ?_
 rintro en w6 ⟨v6, rfl, ho, hb⟩; have HO6 := Lib.hid ho; have HB6 := Lib.hid (below_then HB5.out HB5.out.size hb); have HC6 := Lib.hid hb
 have hz6 : w.heap.size + 2 ≤ w5.heap.size := by have := blk_lt HK5.out; omega
 clear ho hb D3
 go_wp2_with fail
 go_loopg [10, 12, 40] l3.length (fun gg s10 _ s40 wr => ∃ k : Nat, k ≤ l3.length ∧ l3.length - k ≤ gg ∧ s40 = .int .i64 k ∧ Aside0 (Kd.R (Kd.int .i64) 3 wr w5.heap.size (fun _ => True) s10 (l2 ++ endsOf l1 (l3.take k))) ∧ Aside0 (Below w5.heap.size w5 wr))
 case atStart => exact ⟨0, Nat.zero_le _, by omega, rfl, ⟨by simpa [endsOf] using HO6.out⟩, ⟨HC6.out⟩⟩
 case round =>
  obtain ⟨k, hk, hg, rfl, BO, BW⟩ := hrel
  by_cases hlt : k < l3.length
  ·have hxx := IN.out k hlt
   obtain ⟨ad3, rfl, q3⟩ := Kd.at_int R3.out (k : Int) (by omega) (by omega)
   have hxe : ∃ x, Hid (rd l3 (k : Int) = x) := ⟨_, rfl⟩
   obtain ⟨x, EX⟩ := hxe; rw [show rd l3 (k : Int) = x from EX] at q3 hxx; obtain ⟨hx0, hx1⟩ := hxx; obtain ⟨ad1, rfl, p0, p1, p2⟩ := at_T78 R1.out x hx0 hx1; have BWw := Lib.hid (below_then HB5.out HB5.out.size BW.out); have q3' := (BWw.out.cell (World.block_lt_of_cell? w _ q3)).trans q3; have p1' := (BWw.out.cell (World.block_lt_of_cell? w _ p1)).trans p1; have p2' := (BWw.out.cell (World.block_lt_of_cell? w _ p2)).trans p2; have HGr := Lib.hid (blk_below HG5.out BW.out); have g1 := (blk_cell HGr.out 1).trans rfl; simp only [Int.toNat_natCast] at q3'; have P1 := Lib.hid p1; have P2 := Lib.hid p2; clear q3 p0 p1 p2
   have hltz : (k : Int) < (l3.length : Int) := by omega
   go_wp2_with fail
   have BO2 := Lib.hid (Kd.R_drew BO.out); have BW2 := Lib.hid (below_drew1 BW.out); clear BO BW
   try go_wp2
   refine start_ (n := 16) (S := fun w' => w'.cell? ⟨w.heap.size, 1, none⟩ = some (.slice (some ad1) l1.length c1) ∧ w'.cell? ⟨(ad1.add (x.toNat * 3)).block, (ad1.add (x.toNat * 3)).off + 1, none⟩ = some (.int .i64 (rd_T78 l1 x).f1) ∧ w'.cell? ⟨(ad1.add (x.toNat * 3)).block, (ad1.add (x.toNat * 3)).off + 2, none⟩ = some (.int .i64 (rd_T78 l1 x).f2)) (ds := []) #[false, false, false, false, false, false, false, false, false, false, false, false, false, false, false, false] (by kernel_rfl) rfl rfl ⟨g1, p1', p2'⟩ (fun hHeld => ?_)
   generalize wr.drew = wd at BO2 BW2 hHeld ⊢
   refine pure_ (i := 0) (N := some 44) (v := ?_) (a' := ?_) #[true, false, false, false, false, false, false, false, false, false, false, false, false, false, false, false] rfl rfl (by kernel_rfl) (fun _ _ _ h => h) (Or.inl ⟨by rfl, ?_⟩) ?_ ?_
   rotate_left
   ·intro w'
    go_simp
    with_reducible rfl
   rotate_left
   ·simp only [Act.put, sI_, s0_, sS_, i64_w, i32_w]
    rfl
   refine pure_ (i := 1) (N := some 45) (v := ?_) (a' := ?_) #[true, true, false, false, false, false, false, false, false, false, false, false, false, false, false, false] rfl rfl (by kernel_rfl) (fun _ _ _ h => h) (Or.inl ⟨by rfl, ?_⟩) ?_ ?_
   rotate_left
   ·intro w'
    go_simp
    with_reducible rfl
   rotate_left
   ·simp only [Act.put, sI_, s0_, sS_, i64_w, i32_w]
    rfl
   refine pure_ (i := 3) (N := some 47) (v := ?_) (a' := ?_) #[true, true, false, true, false, false, false, false, false, false, false, false, false, false, false, false] rfl rfl (by kernel_rfl) (fun _ _ _ h => h) (Or.inl ⟨by rfl, ?_⟩) ?_ ?_
   rotate_left
   ·intro w'
    go_simp
    with_reducible rfl
   rotate_left
   ·simp only [Act.put, sI_, s0_, sS_, i64_w, i32_w]
    rfl
   refine take_ (i := 2) (N := some 46) (v := ?_) (a' := ?_) #[true, true, true, true, false, false, false, false, false, false, false, false, false, false, false, false] rfl rfl (by kernel_rfl) (fun _ _ _ h => h) (Or.inl ⟨by rfl, ?_⟩) hHeld ?_ ?_
   rotate_left
   ·rintro w' ⟨s0, s1, s2⟩
    go_simp
    with_reducible rfl
   rotate_left
   ·simp only [Act.put, sI_, s0_, sS_, i64_w, i32_w]
    rfl
   refine pure_ (i := 4) (N := some 48) (v := ?_) (a' := ?_) #[true, true, true, true, true, false, false, false, false, false, false, false, false, false, false, false] rfl rfl (by kernel_rfl) (fun _ _ _ h => h) (Or.inl ⟨by rfl, ?_⟩) ?_ ?_
   rotate_left
   ·intro w'
    go_simp
    with_reducible rfl
   rotate_left
   ·simp only [Act.put, sI_, s0_, sS_, i64_w, i32_w]
    rfl
   refine pure_ (i := 5) (N := some 49) (v := ?_) (a' := ?_) #[true, true, true, true, true, true, false, false, false, false, false, false, false, false, false, false] rfl rfl (by kernel_rfl) (fun _ _ _ h => h) (Or.inl ⟨by rfl, ?_⟩) ?_ ?_
   rotate_left
   ·intro w'
    go_simp
    with_reducible rfl
   rotate_left
   ·simp only [Act.put, sI_, s0_, sS_, i64_w, i32_w]
    rfl
   refine take_ (i := 6) (N := some 50) (v := ?_) (a' := ?_) #[true, true, true, true, true, true, true, false, false, false, false, false, false, false, false, false] rfl rfl (by kernel_rfl) (fun _ _ _ h => h) (Or.inl ⟨by rfl, ?_⟩) hHeld ?_ ?_
   rotate_left
   ·rintro w' ⟨s0, s1, s2⟩
    go_simp
    with_reducible rfl
   rotate_left
   ·simp only [Act.put, sI_, s0_, sS_, i64_w, i32_w]
    rfl
   refine pure_ (i := 7) (N := some 51) (v := ?_) (a' := ?_) #[true, true, true, true, true, true, true, true, false, false, false, false, false, false, false, false] rfl rfl (by kernel_rfl) (fun _ _ _ h => h) (Or.inl ⟨by rfl, ?_⟩) ?_ ?_
   rotate_left
   ·intro w'
    go_simp
    with_reducible rfl
   rotate_left
   ·simp only [Act.put, sI_, s0_, sS_, i64_w, i32_w]
    rfl
   refine take_ (i := 8) (N := some 52) (v := ?_) (a' := ?_) #[true, true, true, true, true, true, true, true, true, false, false, false, false, false, false, false] rfl rfl (by kernel_rfl) (fun _ _ _ h => h) (Or.inl ⟨by rfl, ?_⟩) hHeld ?_ ?_
   rotate_left
   ·rintro w' ⟨s0, s1, s2⟩
    go_simp
    with_reducible rfl
   rotate_left
   ·simp only [Act.put, sI_, s0_, sS_, i64_w, i32_w]
    rfl
   refine pure_ (i := 9) (N := some 53) (v := ?_) (a' := ?_) #[true, true, true, true, true, true, true, true, true, true, false, false, false, false, false, false] rfl rfl (by kernel_rfl) (fun _ _ _ h => h) (Or.inl ⟨by rfl, ?_⟩) ?_ ?_
   rotate_left
   ·intro w'
    go_simp
    with_reducible rfl
   rotate_left
   ·simp only [Act.put, sI_, s0_, sS_, i64_w, i32_w]
    rfl
   refine pure_ (i := 10) (N := some 54) (v := ?_) (a' := ?_) #[true, true, true, true, true, true, true, true, true, true, true, false, false, false, false, false] rfl rfl (by kernel_rfl) (fun _ _ _ h => h) (Or.inl ⟨by rfl, ?_⟩) ?_ ?_
   rotate_left
   ·intro w'
    go_simp
    with_reducible rfl
   rotate_left
   ·simp only [Act.put, sI_, s0_, sS_, i64_w, i32_w]
    rfl
   refine pure_ (i := 11) (N := some 55) (v := ?_) (a' := ?_) #[true, true, true, true, true, true, true, true, true, true, true, true, false, false, false, false] rfl rfl (by kernel_rfl) (fun _ _ _ h => h) (Or.inl ⟨by rfl, ?_⟩) ?_ ?_
   rotate_left
   ·intro w'
    go_simp
    with_reducible rfl
   rotate_left
   ·simp only [Act.put, sI_, s0_, sS_, i64_w, i32_w]
    rfl
   refine take_ (i := 12) (N := some 56) (v := ?_) (a' := ?_) #[true, true, true, true, true, true, true, true, true, true, true, true, true, false, false, false] rfl rfl (by kernel_rfl) (fun _ _ _ h => h) (Or.inl ⟨by rfl, ?_⟩) hHeld ?_ ?_
   rotate_left
   ·rintro w' ⟨s0, s1, s2⟩
    go_simp
    with_reducible rfl
   rotate_left
   ·simp only [Act.put, sI_, s0_, sS_, i64_w, i32_w]
    rfl
   refine one_ (i := 13) (N := some 57) #[true, true, true, true, true, true, true, true, true, true, true, true, true, true, false, false] rfl rfl (by kernel_rfl) (by decide) (fun K hK => ?_)
   refine Kd.R_lit_step (Kd.int .i64) _ 3 ?hg (N := 57) ?hd (xs := [(rd_T78 l1 x).f1, (rd_T78 l1 x).f2]) (inner := [.int .i64 (rd_T78 l1 x).f1, .int .i64 (rd_T78 l1 x).f2]) (ok := fun _ => True) (okp := fun _ => True) ?hr ?hp (fun _ hk => hk) trivial (Below.refl _ _) (Nat.le_refl _) (by simp) ?_; (case hd => rfl); (case hg => rfl); (case hr => first | (go_simp; done) | (go_simp; rfl)); (case hp => exact (Reps.one (show Kd.M (Kd.int .i64) _ _ _ ((rd_T78 l1 x).f1) [.int .i64 (rd_T78 l1 x).f1] from rfl) (Reps.one (show Kd.M (Kd.int .i64) _ _ _ ((rd_T78 l1 x).f2) [.int .i64 (rd_T78 l1 x).f2] from rfl) (Reps.none _ _))))
   intro v7 w7 ho hb hg_ hne; obtain ⟨A7, c7, rfl, _, hC7⟩ := Kd.R_reads ho; have HO7 := Lib.hid hC7; have BO7 := Lib.hid (Kd.R_below BO2.out hb); have BW7 := Lib.hid (below_then BW2.out BW2.out.size hb); have p1b := (hb.cell (World.block_lt_of_cell? _ _ hHeld.2.1)).trans hHeld.2.1; have p2b := (hb.cell (World.block_lt_of_cell? _ _ hHeld.2.2)).trans hHeld.2.2; have g1b := (hb.cell (World.block_lt_of_cell? _ _ hHeld.1)).trans hHeld.1; clear ho hb hg_ hne hC7
   refine hK.out _ _ ⟨g1b, p1b, p2b⟩ (fun hHeld => ?_)
   clear hK K
   refine norm_ (a' := ?_) ?_ ?_
   rotate_left
   ·show Act.put _ (some 57) _ = _
    simp only [Act.put, sI_, s0_, sS_, i64_w, i32_w]
    rfl
   refine one_ (i := 14) (N := some 58) #[true, true, true, true, true, true, true, true, true, true, true, true, true, true, true, false] rfl rfl (by kernel_rfl) (by decide) (fun K hK => ?_)
   refine Kd.R_append_rows_step (Kd.int .i64) (w0 := w5) w5.heap.size (by rfl) (.tmp 44) (.tmp 57) 22 3 (.int .i64 0) 8 rfl Try.underlying22 info3 rfl (by decide) (by omega) u10 (l2 ++ endsOf l1 (List.take k l3)) [(rd_T78 l1 x).f1, (rd_T78 l1 x).f2] _ _ _ (fun _ => True) (fun _ => False) rfl rfl ?aO ?aR (fun _ _ h => h) (fun _ h => h.elim) ?aF ?aB ?aS ?aL ?_
   (case aR => exact HO7.out)
   (case aB => exact BW7.out)
   (case aF => exact (fun _ _ => trivial))
   (case aO => exact BO7.out)
   (case aS => exact BW7.out.size)
   (case aL => have := LN.out; rw [List.length_append, endsOf_len, List.length_take]; simp; omega)
   intro v8 w8 ho hb hg hat; have HO8 := Lib.hid ho; have BW8 := Lib.hid hb; have BWw8 := below_then HB5.out HB5.out.size hb; have p1c := (BWw8.cell (World.block_lt_of_cell? w _ P1.out)).trans P1.out; have p2c := (BWw8.cell (World.block_lt_of_cell? w _ P2.out)).trans P2.out; have g1c := (blk_cell (blk_below HG5.out hb) 1).trans rfl; clear ho hb hg hat BWw8
   refine hK.out _ _ ⟨g1c, p1c, p2c⟩ (fun hHeld => ?_)
   clear hK K
   refine norm_ (a' := ?_) ?_ ?_
   rotate_left
   ·show Act.put _ (some 58) _ = _
    simp only [Act.put, sI_, s0_, sS_, i64_w, i32_w]
    rfl
   refine pure_ (i := 15) (N := some 10) (v := ?_) (a' := ?_) #[true, true, true, true, true, true, true, true, true, true, true, true, true, true, true, true] rfl rfl (by kernel_rfl) (fun _ _ _ h => h) (Or.inl ⟨by rfl, ?_⟩) ?_ ?_
   rotate_left
   ·intro w'
    go_simp
    with_reducible rfl
   rotate_left
   ·simp only [Act.put, sI_, s0_, sS_, i64_w, i32_w]
    rfl
   refine done_ (by kernel_rfl) ?_
   try go_wp2
   go_roundg (l3.length - (k + 1))
   case measure => omega
   case rel => exact ⟨k + 1, by omega, by omega, by go_num, ⟨by rw [endsOf_snoc l1 l3 k hlt, show rd l3 (k : Int) = x from EX, ← List.append_assoc]; exact HO8.out⟩, ⟨BW8.out⟩⟩
  ·have hltz : ¬ (k : Int) < (l3.length : Int) := by omega
   obtain rfl : k = l3.length := by omega
   have BO9 : Hid (Kd.R (Kd.int .i64) 3 wr w5.heap.size (fun x => True) u10 (l2 ++ endsOf l1 l3)) := by
    have := BO.out; rw [List.take_length] at this; exact this
   have HK9 := Lib.hid (blk_below HK5.out BW.out); have BWw := Lib.hid (below_then HB5.out HB5.out.size BW.out); have BW9 := Lib.hid BW.out; clear BO BW hlt
   go_wp2_with fail
   refine (subgraph_sorted.calls (fun _ => True) u10 (l2 ++ endsOf l1 l3) _ w5 wr BW9.out BO9.out (if_pos (by rw [List.length_append, endsOf_len]; exact LN.out))).mono ?_
   rintro en w10 ⟨v10, rfl, ho, hb, _⟩; obtain ⟨A10, c10, rfl⟩ := Kd.R_slice ho; have HO10 := Lib.hid ho; have HB10 := Lib.hid (below_then HB5.out HB5.out.size hb); have HK10 := Lib.hid (blk_below HK5.out hb); have hz10 := hb.size; clear ho hb BO9
   go_wp2_with fail
   refine (D4.out _ HB10.out).mono ?_
   rintro en w11 ⟨v11, rfl, ho, hb⟩; have HO11 := Lib.hid ho; have HB11 := Lib.hid hb; clear ho hb
   go_wp2_with fail
   refine (subgraph_sorted.calls (fun _ => True) v11 l3 _ w10 w11 HB11.out HO11.out (if_pos (by have := LN.out; omega))).mono ?_
   rintro en w12 ⟨v12, rfl, ho, hb, _⟩; obtain ⟨A12, c12, rfl⟩ := Kd.R_slice ho; have HO12 := Lib.hid ho; have HB12 := Lib.hid (below_then HB10.out HB10.out.size hb); have HK12 := Lib.hid (blk_below HK10.out hb); have E1 := Lib.hid (Kd.R_elder HO10.out ho hb); obtain ⟨inner, hown⟩ := Kd.R_own HO10.out; have E2 := Lib.hid (Kd.R_new ho hown); clear ho hb hown; have k0 := (blk_cell HK12.out 0).trans rfl; have k1 := (blk_cell HK12.out 1).trans rfl; have f0 := blk_frozen HK12.out 0; have f1 := blk_frozen HK12.out 1
   go_wp2_with fail
   refine bodyPost_ret (v := .tuple #[.agg #[.slice A10 (Lib.compact (sortI (l2 ++ endsOf l1 l3))).length c10, .slice A12 (Lib.compact (sortI l3)).length c12], .int .i64 0]) (by simp [results, Try.results13, go_sem, k0, k1]) rfl ⟨_, _, rfl, ?_, ?_, ?_⟩
   ·exact Kd.R_lower (R_low (R_low (Kd.R_mono E1.out (fun k hk => hk.2)) (by omega) _ _) (by omega) _ _) (by omega)
   ·exact Kd.R_lower (R_low (R_low (Kd.R_mono E2.out (fun k hk => hk.2)) (by omega) _ _) (by omega) _ _) (by omega)
   ·exact below_set (below_set HB12.out (by simp)) (by simp)
theorem subgraph_Close.calls (A0_0 : Option Addr) (c0_0 : Nat) (l0_0 : List Int) (A0_1 : Option Addr) (c0_1 : Nat) (l0_1 : List (S78)) (A1 : Option Addr) (c1 : Nat) (l1 : List Int) (A2 : Option Addr) (c2 : Nat) (l2 : List Int) (r1 : List Int) (r2 : List Int) (r3 : Int) (w : World) (hr0_0 : Kd.C (Kd.int .i64) w A0_0 l0_0.length l0_0) (hc0_0 : l0_0.length ≤ c0_0) (hr0_1 : Kd.C k78 w A0_1 l0_1.length l0_1) (hc0_1 : l0_1.length ≤ c0_1) (hr1 : Kd.C (Kd.int .i64) w A1 l1.length l1) (hc1 : l1.length ≤ c1) (hr2 : Kd.C (Kd.int .i64) w A2 l2.length l2) (hc2 : l2.length ≤ c2) (h : subgraph_Close.f l0_0 l0_1 l1 l2 = some (r1, r2, r3)) :
  Calls Try.prog 13 #[.agg #[.slice A0_0 l0_0.length c0_0, .slice A0_1 l0_1.length c0_1], .slice A1 l1.length c1, .slice A2 l2.length c2] w fun e w' => ∃ v0_ v1_ : Value, e = .returned (.tuple #[.agg #[v0_, v1_], .int .i64 r3]) ∧ Kd.R (Kd.int .i64) 3 w' w.heap.size (fun k_ => some k_ ≠ (v1_ : Value).ownBlock) v0_ r1 ∧ Kd.R (Kd.int .i64) 3 w' w.heap.size (fun k_ => some k_ ≠ (v0_ : Value).ownBlock) v1_ r2 ∧ Below w.heap.size w w' := by
 unfold subgraph_Close.f at h
 split at h
 case isFalse => exact absurd h (by simp)
 rename_i hlen
 have fin : ∀ e : Int, (∀ en w', (en = Ending.returned (.tuple #[.agg #[.slice none 0 0, .slice none 0 0], .int .i64 e]) ∧ Below w.heap.size w w') → (some (([] : List Int), ([] : List Int), e)) = some (r1, r2, r3) → ∃ v0_ v1_ : Value, en = .returned (.tuple #[.agg #[v0_, v1_], .int .i64 r3]) ∧ Kd.R (Kd.int .i64) 3 w' w.heap.size (fun k_ => some k_ ≠ (v1_ : Value).ownBlock) v0_ r1 ∧ Kd.R (Kd.int .i64) 3 w' w.heap.size (fun k_ => some k_ ≠ (v0_ : Value).ownBlock) v1_ r2 ∧ Below w.heap.size w w') := by
  intro e en w' ⟨he, hb⟩ hs; simp only [Option.some.injEq, Prod.mk.injEq] at hs; obtain ⟨rfl, rfl, rfl⟩ := hs; exact ⟨_, _, he, Kd.R_nil _ _ _ _ _, Kd.R_nil _ _ _ _ _, hb⟩
 by_cases hv : validB l0_0 l0_1 = 0
 ·rw [if_pos hv] at h
  by_cases h1 : l1.any (beyondB l0_0.length) = true
  ·rw [if_pos h1] at h
   exact (Close_b A0_0 c0_0 l0_0 A0_1 c0_1 l0_1 A1 c1 l1 A2 c2 l2 w hr0_0 hr0_1 hr1 hr2 hv (.inl h1)).mono fun en w' hx => fin 6 en w' hx h
  ·rw [if_neg h1] at h
   have h1 := Bool.eq_false_iff.2 h1
   by_cases h2 : l2.any (beyondB l0_1.length) = true
   ·rw [if_pos h2] at h
    exact (Close_b A0_0 c0_0 l0_0 A0_1 c0_1 l0_1 A1 c1 l1 A2 c2 l2 w hr0_0 hr0_1 hr1 hr2 hv (.inr ⟨h1, h2⟩)).mono fun en w' hx => fin 6 en w' hx h
   ·rw [if_neg h2] at h
    have h2 := Bool.eq_false_iff.2 h2; simp only [Option.some.injEq, Prod.mk.injEq] at h; obtain ⟨rfl, rfl, rfl⟩ := h; exact Close_c A0_0 c0_0 l0_0 A0_1 c0_1 l0_1 A1 c1 l1 A2 c2 l2 w hr0_0 hr0_1 hr1 hc1 hr2 hc2 hv h1 h2 hlen
 ·rw [if_neg hv] at h
  exact (Close_a A0_0 c0_0 l0_0 A0_1 c0_1 l0_1 _ _ w hr0_0 hr0_1 _ rfl (beq_eq_false_iff_ne.2 hv)).mono fun en w' hx => fin _ en w' hx h
end Go.Proofs.Ytonipihlpbaknaa.Print
namespace Go.Proofs.Ytonipihlpbaknaa.Print
open Go.RowKit Go.Proofs.YtonipihlpbaknaaW.PrintWords Go.Proofs.YtonipihlpbaknaaW.PrintLast Go.Proofs.YtonipihlpbaknaaW.PrintMore
attribute [local go_sem] max2_int min2_int max_two min_two max_three min_three max_four min_four   -- for this text's walks alone
set_option linter.unusedVariables false
set_option linter.unusedSimpArgs false
def cmp_isNaN_int.f (a0 : Int) : Option (Bool) := some (a0 != a0)
set_option maxHeartbeats 8000000 in
set_option maxRecDepth 100000 in
theorem cmp_isNaN_int.calls (a0 : Int) (r : Bool) (w : World) (h : cmp_isNaN_int.f a0 = some r) :
    Calls Try.prog 112 #[.int .i64 a0] w fun e w' => e = .returned (.bool r) ∧ Drawn0 w w' := by
  have H : (some (a0 != a0)) = some r := h; clear h; obtain rfl := Option.some.inj H
  go_enter Try.func112, Try.ntmps112
  go_wp2
  go_ret
  exact ⟨by first | rfl | (simp; done) | (simp [*]; done), by repeat (first | exact Drawn0.refl _ | apply Drawn0.step)⟩
end Go.Proofs.Ytonipihlpbaknaa.Print
namespace Go.Proofs.Ytonipihlpbaknaa.Print
open Go.RowKit Go.Proofs.YtonipihlpbaknaaW.PrintWords Go.Proofs.YtonipihlpbaknaaW.PrintLast Go.Proofs.YtonipihlpbaknaaW.PrintMore
attribute [local go_sem] max2_int min2_int max_two min_two max_three min_three max_four min_four   -- for this text's walks alone
set_option linter.unusedVariables false
set_option linter.unusedSimpArgs false
def cmp_Less_int.f (a0 : Int) (a1 : Int) : Option (Bool) := (cmp_isNaN_int.f a0).bind fun t101 => (if t101 = true then ((cmp_isNaN_int.f a1).bind fun t102 => (if t102 = true then (some (decide (a0 < a1))) else (some true))) else (some (decide (a0 < a1))))
set_option maxHeartbeats 8000000 in
set_option maxRecDepth 100000 in
theorem cmp_Less_int.calls (a0 : Int) (a1 : Int) (r : Bool) (w : World) (h : cmp_Less_int.f a0 a1 = some r) :
  Calls Try.prog 104 #[.int .i64 a0, .int .i64 a1] w fun e w' => e = .returned (.bool r) ∧ Drawn0 w w' := by
 have H : ((cmp_isNaN_int.f a0).bind fun t101 => (if t101 = true then ((cmp_isNaN_int.f a1).bind fun t102 => (if t102 = true then (some (decide (a0 < a1))) else (some true))) else (some (decide (a0 < a1))))) = some r := h; clear h; replace H := Option.bind_eq_some_iff.mp H; obtain ⟨t101, A30, H⟩ := H; replace H : (if t101 = true then ((cmp_isNaN_int.f a1).bind fun t102 => (if t102 = true then (some (decide (a0 < a1))) else (some true))) else (some (decide (a0 < a1)))) = some r := H; have A3 := Aside0.mk A30; clear A30
 by_cases c4 : t101 = true
 ·subst c4
  have H1 : ((cmp_isNaN_int.f a1).bind fun t102 => (if t102 = true then (some (decide (a0 < a1))) else (some true))) = some r := by rw [if_pos rfl] at H; exact H
  clear H; have H := H1; clear H1; replace H := Option.bind_eq_some_iff.mp H; obtain ⟨t102, A50, H⟩ := H; replace H : (if t102 = true then (some (decide (a0 < a1))) else (some true)) = some r := H; have A5 := Aside0.mk A50; clear A50
  by_cases c6 : t102 = true
  ·subst c6
   have H1 : (some (decide (a0 < a1))) = some r := by rw [if_pos rfl] at H; exact H
   clear H; have H := H1; clear H1; obtain rfl := Option.some.inj H
   go_enter Try.func104, Try.ntmps104
   go_wp2_with (first | ((with_reducible refine gate_callee (f := 112) rfl ?_); refine goesL_ (some 6) rfl rfl Try.func112 (by kernel_rfl) rfl #[.int .i64 a0] rfl (by (try simp only [List.map_toArray, List.map_cons, List.map_nil]); first | done | rfl | (simp only [List.length_drop, List.length_take]; rfl)) ?_; (with_reducible refine (cmp_isNaN_int.calls a0 true _ A3.out).mono ?_); rintro e w' ⟨rfl, ⟨nd, rfl⟩⟩; refine ⟨_, rfl, ?_⟩) | (go_at_call 112; (with_reducible refine (cmp_isNaN_int.calls a1 true _ A5.out).mono ?_); rintro e w' ⟨rfl, ⟨nd, rfl⟩⟩))
   go_ret
   exact ⟨by first | rfl | (simp; done) | (simp [*]; done), by repeat (first | exact Drawn0.refl _ | apply Drawn0.step)⟩
  ·replace c6 := Bool.eq_false_iff.mpr c6
   subst c6
   have H1 : (some true) = some r := by rw [if_neg (show ¬ (false = true) by decide)] at H; exact H
   clear H; have H := H1; clear H1; obtain rfl := Option.some.inj H
   go_enter Try.func104, Try.ntmps104
   go_wp2_with (first | ((with_reducible refine gate_callee (f := 112) rfl ?_); refine goesL_ (some 6) rfl rfl Try.func112 (by kernel_rfl) rfl #[.int .i64 a0] rfl (by (try simp only [List.map_toArray, List.map_cons, List.map_nil]); first | done | rfl | (simp only [List.length_drop, List.length_take]; rfl)) ?_; (with_reducible refine (cmp_isNaN_int.calls a0 true _ A3.out).mono ?_); rintro e w' ⟨rfl, ⟨nd, rfl⟩⟩; refine ⟨_, rfl, ?_⟩) | (go_at_call 112; (with_reducible refine (cmp_isNaN_int.calls a1 false _ A5.out).mono ?_); rintro e w' ⟨rfl, ⟨nd, rfl⟩⟩))
   go_ret
   exact ⟨by first | rfl | (simp; done) | (simp [*]; done), by repeat (first | exact Drawn0.refl _ | apply Drawn0.step)⟩
 ·replace c4 := Bool.eq_false_iff.mpr c4
  subst c4
  have H1 : (some (decide (a0 < a1))) = some r := by rw [if_neg (show ¬ (false = true) by decide)] at H; exact H
  clear H; have H := H1; clear H1; obtain rfl := Option.some.inj H
  go_enter Try.func104, Try.ntmps104
  go_wp2_with (first | ((with_reducible refine gate_callee (f := 112) rfl ?_); refine goesL_ (some 6) rfl rfl Try.func112 (by kernel_rfl) rfl #[.int .i64 a0] rfl (by (try simp only [List.map_toArray, List.map_cons, List.map_nil]); first | done | rfl | (simp only [List.length_drop, List.length_take]; rfl)) ?_; (with_reducible refine (cmp_isNaN_int.calls a0 false _ A3.out).mono ?_); rintro e w' ⟨rfl, ⟨nd, rfl⟩⟩; refine ⟨_, rfl, ?_⟩))
  go_ret
  exact ⟨by first | rfl | (simp; done) | (simp [*]; done), by repeat (first | exact Drawn0.refl _ | apply Drawn0.step)⟩
end Go.Proofs.Ytonipihlpbaknaa.Print
namespace Go.Proofs.Ytonipihlpbaknaa.Print
open Go.RowKit Go.Proofs.YtonipihlpbaknaaW.PrintWords Go.Proofs.YtonipihlpbaknaaW.PrintLast Go.Proofs.YtonipihlpbaknaaW.PrintMore
attribute [local go_sem] max2_int min2_int max_two min_two max_three min_three max_four min_four   -- for this text's walks alone
set_option linter.unusedVariables false
set_option linter.unusedSimpArgs false
def slices_isNaN_int.f (a0 : Int) : Option (Bool) := some (a0 != a0)
set_option maxHeartbeats 8000000 in
set_option maxRecDepth 100000 in
theorem slices_isNaN_int.calls (a0 : Int) (r : Bool) (w : World) (h : slices_isNaN_int.f a0 = some r) :
    Calls Try.prog 105 #[.int .i64 a0] w fun e w' => e = .returned (.bool r) ∧ Drawn0 w w' := by
  have H : (some (a0 != a0)) = some r := h; clear h; obtain rfl := Option.some.inj H
  go_enter Try.func105, Try.ntmps105
  go_wp2
  go_ret
  exact ⟨by first | rfl | (simp; done) | (simp [*]; done), by repeat (first | exact Drawn0.refl _ | apply Drawn0.step)⟩
end Go.Proofs.Ytonipihlpbaknaa.Print
namespace Go.Proofs.Ytonipihlpbaknaa.Print
open Go.RowKit Go.Proofs.YtonipihlpbaknaaW.PrintWords Go.Proofs.YtonipihlpbaknaaW.PrintLast Go.Proofs.YtonipihlpbaknaaW.PrintMore
attribute [local go_sem] max2_int min2_int max_two min_two max_three min_three max_four min_four   -- for this text's walks alone
set_option linter.unusedVariables false
set_option linter.unusedSimpArgs false
def slices_BinarySearch_int_int.l0 : Nat → List Int → Int → Int → Int → Int → Option (Int × Bool)
  | 0, _, _, _, _, _ => none
  | k + 1, x0, x1, x6, x7, x8 => if x7 < x8 then (if 0 ≤ (wrap64 ((IntKind.u64.wrap (wrap64 (x7 + x8))) / 2)) then (if (wrap64 ((IntKind.u64.wrap (wrap64 (x7 + x8))) / 2)) < (x0.length : Int) then ((cmp_Less_int.f (rd x0 (wrap64 ((IntKind.u64.wrap (wrap64 (x7 + x8))) / 2))) x1).bind fun t102 => (if t102 = true then (slices_BinarySearch_int_int.l0 k x0 x1 x6 (wrap64 ((wrap64 ((IntKind.u64.wrap (wrap64 (x7 + x8))) / 2)) + 1)) x8) else (slices_BinarySearch_int_int.l0 k x0 x1 x6 x7 (wrap64 ((IntKind.u64.wrap (wrap64 (x7 + x8))) / 2))))) else (none)) else (none)) else (if x7 < x6 then (if 0 ≤ x7 then (if x7 < (x0.length : Int) then (if (rd x0 x7) = x1 then (some (x7, true)) else ((slices_isNaN_int.f (rd x0 x7)).bind fun t105 => (if t105 = true then ((slices_isNaN_int.f x1).bind fun t106 => (some (x7, t106))) else (some (x7, false))))) else (none)) else (none)) else (some (x7, false)))
def slices_BinarySearch_int_int.f (k : Nat) (l0 : List Int) (a1 : Int) : Option (Int × Bool) := slices_BinarySearch_int_int.l0 k l0 a1 (l0.length : Int) 0 (l0.length : Int)
set_option maxHeartbeats 8000000 in
set_option maxRecDepth 100000 in
theorem slices_BinarySearch_int_int.calls (k : Nat) (A0 : Option Addr) (c0 : Nat) (l0 : List Int) (a1 : Int) (r1 : Int) (r2 : Bool) (w : World) (hr0 : Kd.C (Kd.int .i64) w A0 l0.length l0) (hc0 : l0.length ≤ c0) (h : slices_BinarySearch_int_int.f k l0 a1 = some (r1, r2)) :
  Calls Try.prog 72 #[.slice A0 l0.length c0, .int .i64 a1] w fun e w' => e = .returned (.tuple #[.int .i64 r1, .bool r2]) ∧ Drawn0 w w' := by
 have HR0 := Aside0.mk hr0; have HC0 := Aside0.mk hc0; clear hr0 hc0; have H : (slices_BinarySearch_int_int.l0 k l0 a1 (l0.length : Int) 0 (l0.length : Int)) = some (r1, r2) := h; clear h; have H' := Aside0.mk H; clear H
 go_enter Try.func72, Try.ntmps72
 go_wp2
 go_loopg [7, 8] k (fun kq v7 v8 w' => ∃ (x7_1 : Int) (x8_1 : Int), v7 = .int .i64 x7_1 ∧ v8 = .int .i64 x8_1 ∧ Aside0 (slices_BinarySearch_int_int.l0 kq l0 a1 (l0.length : Int) x7_1 x8_1 = some (r1, r2)) ∧ Aside0 (kq ≤ k) ∧ Drawn0 w w')
 case atStart => exact ⟨(0), ((l0.length : Int)), (by first | rfl | (simp; done) | (simp [*]; done)), (by first | rfl | (simp; done) | (simp [*]; done)), H', ⟨Nat.le_refl _⟩, by repeat (first | exact Drawn0.refl _ | apply Drawn0.step)⟩
 case round =>
  clear H'; (try clear p2); obtain ⟨x7_1, x8_1, rfl, rfl, HA, HK1, ⟨m1, rfl⟩⟩ := hrel
  cases gk with
  | zero => exact absurd HA.out (by simp [slices_BinarySearch_int_int.l0])
  | succ k1 =>
   have H := HA.out; clear HA; simp only [slices_BinarySearch_int_int.l0] at H
   by_cases c3 : x7_1 < x8_1
   ·rw [if_pos c3] at H
    have c3b0 : decide (x7_1 < x8_1) = true := decide_eq_true c3; clear c3
    obtain ⟨ji4, hji4⟩ : ∃ j_ : Int, (wrap64 ((IntKind.u64.wrap (wrap64 (x7_1 + x8_1))) / 2)) = j_ := ⟨_, rfl⟩
    replace H : (if 0 ≤ (ji4) then (if (ji4) < (l0.length : Int) then ((cmp_Less_int.f (rd l0 (ji4)) a1).bind fun t102 => (if t102 = true then (slices_BinarySearch_int_int.l0 k1 l0 a1 (l0.length : Int) (wrap64 ((ji4) + 1)) x8_1) else (slices_BinarySearch_int_int.l0 k1 l0 a1 (l0.length : Int) x7_1 ji4))) else (none)) else (none)) = some (r1, r2) := by first | (rw [hji4] at H; exact H) | (simp only [hji4] at H ⊢; exact H)
    have hji4w : (IntKind.i64.wrap ((IntKind.u64.wrap (wrap64 (x7_1 + x8_1))) / 2)) = ji4 := (i64_w _).trans hji4
    by_cases c5 : 0 ≤ (ji4)
    ·rw [if_pos c5] at H
     have c5b0 : decide (0 ≤ (ji4)) = true := decide_eq_true c5; clear c5
     by_cases c6 : (ji4) < (l0.length : Int)
     ·rw [if_pos c6] at H
      have c6b0 : decide ((ji4) < (l0.length : Int)) = true := decide_eq_true c6; clear c6; replace H := Option.bind_eq_some_iff.mp H; obtain ⟨t102, A70, H⟩ := H; replace H : (if t102 = true then (slices_BinarySearch_int_int.l0 k1 l0 a1 (l0.length : Int) (wrap64 ((ji4) + 1)) x8_1) else (slices_BinarySearch_int_int.l0 k1 l0 a1 (l0.length : Int) x7_1 ji4)) = some (r1, r2) := H; have A7 := Aside0.mk A70; clear A70
      by_cases c8 : t102 = true
      ·subst c8
       have H1 : (slices_BinarySearch_int_int.l0 k1 l0 a1 (l0.length : Int) (wrap64 ((ji4) + 1)) x8_1) = some (r1, r2) := by rw [if_pos rfl] at H; exact H
       clear H; have H := H1; clear H1; have H' := Aside0.mk H; clear H; have p101 : 0 ≤ ((ji4) : Int) := of_decide_eq_true (by first | (with_reducible assumption) | assumption); have q101 : (ji4) < (l0.length : Int) := of_decide_eq_true (by first | (with_reducible assumption) | assumption); obtain ⟨ad101, e101, hx101_0⟩ := Kd.at_int HR0.out (ji4) p101 q101; cases e101; replace p101 := eq_true p101; replace q101 := eq_true q101
       go_wp2_with (first | ((with_reducible refine gate_callee (f := 104) rfl ?_); refine goesL_ (some 27) rfl rfl Try.func104 (by kernel_rfl) rfl #[.int .i64 (rd l0 (ji4)), .int .i64 a1] rfl (by (try simp only [List.map_toArray, List.map_cons, List.map_nil]); first | done | (simp only [hji4]; rfl) | rfl | (simp only [List.length_drop, List.length_take]; rfl)) ?_; (with_reducible refine (cmp_Less_int.calls (rd l0 (ji4)) a1 true _ A7.out).mono ?_); rintro e w' ⟨rfl, ⟨nd, rfl⟩⟩; refine ⟨_, rfl, ?_⟩))
       go_roundg k1
       case measure => have := HK1.out; omega
       case rel => exact ⟨(wrap64 ((ji4) + 1)), (x8_1), (by first | rfl | (simp; done) | (simp only [← hji4] <;> (first | rfl | simp)) | (simp [*]; done)), (by first | rfl | (simp; done) | (simp [*]; done)), H', ⟨by have := HK1.out; omega⟩, by repeat (first | exact Drawn0.refl _ | apply Drawn0.step)⟩
      ·replace c8 := Bool.eq_false_iff.mpr c8
       subst c8
       have H1 : (slices_BinarySearch_int_int.l0 k1 l0 a1 (l0.length : Int) x7_1 ji4) = some (r1, r2) := by rw [if_neg (show ¬ (false = true) by decide)] at H; exact H
       clear H; have H := H1; clear H1; have H' := Aside0.mk H; clear H; have p101 : 0 ≤ ((ji4) : Int) := of_decide_eq_true (by first | (with_reducible assumption) | assumption); have q101 : (ji4) < (l0.length : Int) := of_decide_eq_true (by first | (with_reducible assumption) | assumption); obtain ⟨ad101, e101, hx101_0⟩ := Kd.at_int HR0.out (ji4) p101 q101; cases e101; replace p101 := eq_true p101; replace q101 := eq_true q101
       go_wp2_with (first | ((with_reducible refine gate_callee (f := 104) rfl ?_); refine goesL_ (some 27) rfl rfl Try.func104 (by kernel_rfl) rfl #[.int .i64 (rd l0 (ji4)), .int .i64 a1] rfl (by (try simp only [List.map_toArray, List.map_cons, List.map_nil]); first | done | (simp only [hji4]; rfl) | rfl | (simp only [List.length_drop, List.length_take]; rfl)) ?_; (with_reducible refine (cmp_Less_int.calls (rd l0 (ji4)) a1 false _ A7.out).mono ?_); rintro e w' ⟨rfl, ⟨nd, rfl⟩⟩; refine ⟨_, rfl, ?_⟩))
       go_roundg k1
       case measure => have := HK1.out; omega
       case rel => exact ⟨(x7_1), (ji4), (by first | rfl | (simp; done) | (simp [*]; done)), (by first | rfl | (simp; done) | (simp only [← hji4] <;> (first | rfl | simp)) | (simp [*]; done)), H', ⟨by have := HK1.out; omega⟩, by repeat (first | exact Drawn0.refl _ | apply Drawn0.step)⟩
     ·rw [if_neg c6] at H
      exact absurd H (by simp)
    ·rw [if_neg c5] at H
     exact absurd H (by simp)
   ·rw [if_neg c3] at H
    have c3b0 : decide (x7_1 < x8_1) = false := decide_eq_false c3; clear c3
    by_cases c9 : x7_1 < (l0.length : Int)
    ·rw [if_pos c9] at H
     have c9b0 : decide (x7_1 < (l0.length : Int)) = true := decide_eq_true c9; clear c9
     by_cases c10 : 0 ≤ x7_1
     ·rw [if_pos c10] at H
      have c10b0 : decide (0 ≤ x7_1) = true := decide_eq_true c10; clear c10
      by_cases c11 : x7_1 < (l0.length : Int)
      ·rw [if_pos c11] at H
       have c11b0 : decide (x7_1 < (l0.length : Int)) = true := decide_eq_true c11; clear c11
       by_cases c12 : (rd l0 x7_1) = a1
       ·rw [if_pos c12] at H
        have c12b0 : ((rd l0 x7_1) == a1) = true := beq_iff_eq.mpr c12; have c12b1 : ((rd l0 x7_1) != a1) = false := bne_eq_false_iff_eq.mpr c12; clear c12; simp only [Option.some.injEq, Prod.mk.injEq] at H; obtain ⟨rfl, rfl⟩ := H; have p103 : 0 ≤ (x7_1 : Int) := of_decide_eq_true (by first | (with_reducible assumption) | assumption); have q103 : x7_1 < (l0.length : Int) := of_decide_eq_true (by first | (with_reducible assumption) | assumption); obtain ⟨ad103, e103, hx103_0⟩ := Kd.at_int HR0.out x7_1 p103 q103; cases e103; replace p103 := eq_true p103; replace q103 := eq_true q103
        go_wp2
        go_ret2
        exact ⟨by first | rfl | (simp; done) | (simp [*]; done), by repeat (first | exact Drawn0.refl _ | apply Drawn0.step)⟩
       ·rw [if_neg c12] at H
        have c12b0 : ((rd l0 x7_1) == a1) = false := beq_eq_false_iff_ne.mpr c12; have c12b1 : ((rd l0 x7_1) != a1) = true := bne_iff_ne.mpr c12; replace H := Option.bind_eq_some_iff.mp H; obtain ⟨t105, A130, H⟩ := H; replace H : (if t105 = true then ((slices_isNaN_int.f a1).bind fun t106 => (some (x7_1, t106))) else (some (x7_1, false))) = some (r1, r2) := H; have A13 := Aside0.mk A130; clear A130
        by_cases c14 : t105 = true
        ·subst c14
         have H1 : ((slices_isNaN_int.f a1).bind fun t106 => (some (x7_1, t106))) = some (r1, r2) := by rw [if_pos rfl] at H; exact H
         clear H; have H := H1; clear H1; replace H := Option.bind_eq_some_iff.mp H; obtain ⟨t106, A150, H⟩ := H; replace H : (some (x7_1, t106)) = some (r1, r2) := H; have A15 := Aside0.mk A150; clear A150; simp only [Option.some.injEq, Prod.mk.injEq] at H; obtain ⟨rfl, rfl⟩ := H; have p103 : 0 ≤ (x7_1 : Int) := of_decide_eq_true (by first | (with_reducible assumption) | assumption); have q103 : x7_1 < (l0.length : Int) := of_decide_eq_true (by first | (with_reducible assumption) | assumption); obtain ⟨ad103, e103, hx103_0⟩ := Kd.at_int HR0.out x7_1 p103 q103; cases e103; replace p103 := eq_true p103; replace q103 := eq_true q103; have p104 : 0 ≤ (x7_1 : Int) := of_decide_eq_true (by first | (with_reducible assumption) | assumption); have q104 : x7_1 < (l0.length : Int) := of_decide_eq_true (by first | (with_reducible assumption) | assumption); obtain ⟨ad104, e104, hx104_0⟩ := Kd.at_int HR0.out x7_1 p104 q104
         obtain rfl : ad103 = ad104 := (by injection e104)
         replace p104 := eq_true p104; replace q104 := eq_true q104
         go_wp2_with (first | (go_at_call 105; (with_reducible refine (slices_isNaN_int.calls (rd l0 x7_1) true _ A13.out).mono ?_); rintro e w' ⟨rfl, ⟨nd, rfl⟩⟩) | (go_at_call 105; (with_reducible refine (slices_isNaN_int.calls a1 t106 _ A15.out).mono ?_); rintro e w' ⟨rfl, ⟨nd, rfl⟩⟩))
         go_ret2
         exact ⟨by first | rfl | (simp; done) | (simp [*]; done), by repeat (first | exact Drawn0.refl _ | apply Drawn0.step)⟩
        ·replace c14 := Bool.eq_false_iff.mpr c14
         subst c14
         have H1 : (some (x7_1, false)) = some (r1, r2) := by rw [if_neg (show ¬ (false = true) by decide)] at H; exact H
         clear H; have H := H1; clear H1; simp only [Option.some.injEq, Prod.mk.injEq] at H; obtain ⟨rfl, rfl⟩ := H; have p103 : 0 ≤ (x7_1 : Int) := of_decide_eq_true (by first | (with_reducible assumption) | assumption); have q103 : x7_1 < (l0.length : Int) := of_decide_eq_true (by first | (with_reducible assumption) | assumption); obtain ⟨ad103, e103, hx103_0⟩ := Kd.at_int HR0.out x7_1 p103 q103; cases e103; replace p103 := eq_true p103; replace q103 := eq_true q103; have p104 : 0 ≤ (x7_1 : Int) := of_decide_eq_true (by first | (with_reducible assumption) | assumption); have q104 : x7_1 < (l0.length : Int) := of_decide_eq_true (by first | (with_reducible assumption) | assumption); obtain ⟨ad104, e104, hx104_0⟩ := Kd.at_int HR0.out x7_1 p104 q104
         obtain rfl : ad103 = ad104 := (by injection e104)
         replace p104 := eq_true p104; replace q104 := eq_true q104
         go_wp2_with (first | (go_at_call 105; (with_reducible refine (slices_isNaN_int.calls (rd l0 x7_1) false _ A13.out).mono ?_); rintro e w' ⟨rfl, ⟨nd, rfl⟩⟩))
         go_ret2
         exact ⟨by first | rfl | (simp; done) | (simp [*]; done), by repeat (first | exact Drawn0.refl _ | apply Drawn0.step)⟩
      ·rw [if_neg c11] at H
       exact absurd H (by simp)
     ·rw [if_neg c10] at H
      exact absurd H (by simp)
    ·rw [if_neg c9] at H
     have c9b0 : decide (x7_1 < (l0.length : Int)) = false := decide_eq_false c9; clear c9; simp only [Option.some.injEq, Prod.mk.injEq] at H; obtain ⟨rfl, rfl⟩ := H
     go_wp2
     go_ret2
     exact ⟨by first | rfl | (simp; done) | (simp [*]; done), by repeat (first | exact Drawn0.refl _ | apply Drawn0.step)⟩
end Go.Proofs.Ytonipihlpbaknaa.Print
namespace Go.Proofs.Ytonipihlpbaknaa.Print
open Go.RowKit Go.Proofs.YtonipihlpbaknaaW.PrintWords Go.Proofs.YtonipihlpbaknaaW.PrintLast Go.Proofs.YtonipihlpbaknaaW.PrintMore
attribute [local go_sem] max2_int min2_int max_two min_two max_three min_three max_four min_four   -- for this text's walks alone
set_option linter.unusedVariables false
set_option linter.unusedSimpArgs false
def subgraph_has.f (k : Nat) (l0 : List Int) (a1 : Int) : Option (Bool) := (slices_BinarySearch_int_int.f k l0 a1).bind fun bt101 => (some bt101.2)
set_option maxHeartbeats 8000000 in
set_option maxRecDepth 100000 in
theorem subgraph_has.calls (k : Nat) (A0 : Option Addr) (c0 : Nat) (l0 : List Int) (a1 : Int) (r : Bool) (w : World) (hr0 : Kd.C (Kd.int .i64) w A0 l0.length l0) (hc0 : l0.length ≤ c0) (h : subgraph_has.f k l0 a1 = some r) :
    Calls Try.prog 63 #[.slice A0 l0.length c0, .int .i64 a1] w fun e w' => e = .returned (.bool r) ∧ Drawn0 w w' := by
  have HR0 := Aside0.mk hr0; have HC0 := Aside0.mk hc0; clear hr0 hc0; have H : ((slices_BinarySearch_int_int.f k l0 a1).bind fun bt101 => (some bt101.2)) = some r := h; clear h; replace H := Option.bind_eq_some_iff.mp H; obtain ⟨⟨t101, t102⟩, A30, H⟩ := H; replace H : (some t102) = some r := H; have A3 := Aside0.mk A30; clear A30; obtain rfl := Option.some.inj H
  go_enter Try.func63, Try.ntmps63
  go_wp2_with (first | ((with_reducible refine gate_callee (f := 72) rfl ?_); refine goesL_ (some 10) rfl rfl Try.func72 (by kernel_rfl) rfl #[.slice A0 l0.length c0, .int .i64 a1] rfl (by (try simp only [List.map_toArray, List.map_cons, List.map_nil]); first | done | rfl | (simp only [List.length_drop, List.length_take]; rfl)) ?_; (with_reducible refine (slices_BinarySearch_int_int.calls k _ _ l0 a1 t101 t102 _ ?side1 ?side2 A3.out).mono ?_); (case side1 => repeat (first | exact HR0.out | (with_reducible refine Kd.C_alloc ?_ _) | (with_reducible refine Kd.C_drewN ?_ _) | (with_reducible refine Kd.C_drew ?_))); (case side2 => exact HC0.out); rintro e w' ⟨rfl, ⟨nd, rfl⟩⟩; refine ⟨_, rfl, ?_⟩))
  go_ret
  exact ⟨by first | rfl | (simp; done) | (simp [*]; done), by repeat (first | exact Drawn0.refl _ | apply Drawn0.step)⟩
end Go.Proofs.Ytonipihlpbaknaa.Print
namespace Go.Proofs.Ytonipihlpbaknaa.Print
set_option linter.unusedVariables false
open Go.RowKit Go.Proofs.YtonipihlpbaknaaW.PrintWords Go.Proofs.YtonipihlpbaknaaW.PrintLast Go.Proofs.YtonipihlpbaknaaW.PrintMore
theorem less_int (a b : Int) : cmp_Less_int.f a b = some (decide (a < b)) := by
  simp [cmp_Less_int.f, cmp_isNaN_int.f]
theorem isNaN_int (a : Int) : slices_isNaN_int.f a = some false := by simp [slices_isNaN_int.f]
/-- How many elements are less. -/
def lowB (l : List Int) (x : Int) : Nat := l.countP fun y => decide (y < x)
theorem rd_get (l : List Int) (i : Nat) (h : i < l.length) : rd l (i : Int) = l[i] := by simp [rd, List.getD_eq_getElem?_getD, h]
theorem asc_get {l : List Int} (h : l.Pairwise (· < ·)) {i j : Nat} (hij : i < j) (hj : j < l.length) : l[i] < l[j] := List.pairwise_iff_getElem.1 h i j (by omega) hj hij
theorem lowB_split {l : List Int} {x : Int} {i : Nat} (hi : i ≤ l.length) (h1 : ∀ m, (h : m < l.length) → m < i → l[m] < x) (h2 : ∀ m, (h : m < l.length) → i ≤ m → x ≤ l[m]) : lowB l x = i := by
  unfold lowB; rw [← List.take_append_drop i l, List.countP_append]
  have e1 : (l.take i).countP (fun y => decide (y < x)) = (l.take i).length := by
    rw [List.countP_eq_length]; intro a ha; obtain ⟨m, hm, rfl⟩ := List.mem_iff_getElem.1 ha; simp only [List.length_take] at hm
    simpa using h1 m (by omega) (by omega)
  have e2 : (l.drop i).countP (fun y => decide (y < x)) = 0 := by
    rw [List.countP_eq_zero]; intro a ha; obtain ⟨m, hm, rfl⟩ := List.mem_iff_getElem.1 ha; simp only [List.length_drop] at hm; have := h2 (i + m) (by omega) (by omega); simp only [List.getElem_drop, decide_eq_true_eq]
    omega
  rw [e1, e2, List.length_take]
  omega
theorem mid_ok (i j : Nat) (hij : i + j < 9223372036854775807) : wrap64 ((IntKind.u64.wrap (wrap64 ((i : Int) + j))) / 2) = (((i + j) / 2 : Nat) : Int) := by
  have e1 : wrap64 ((i : Int) + j) = ((i + j : Nat) : Int) := by unfold wrap64; omega
  rw [e1]
  have e2 : IntKind.u64.wrap ((i + j : Nat) : Int) = ((i + j : Nat) : Int) := by simp [IntKind.wrap, IntKind.bits, IntKind.signed]; omega
  rw [e2]; unfold wrap64
  omega
theorem succ_ok (i : Nat) (h : i < 9223372036854775807) : wrap64 ((i : Int) + 1) = ((i + 1 : Nat) : Int) := by unfold wrap64; omega
theorem bs_ends (l : List Int) (x : Int) (hl : l.Pairwise (· < ·)) (hn : l.length < 4611686018427387904) : ∀ (d k i j : Nat), i ≤ j → j ≤ l.length → j - i ≤ d → d < k →
  (∀ m, (h : m < l.length) → m < i → l[m] < x) → (∀ m, (h : m < l.length) → j ≤ m → x ≤ l[m]) →
  slices_BinarySearch_int_int.l0 k l x l.length i j = some ((lowB l x : Int), decide (x ∈ l)) := by
 intro d
 induction d with
 | zero =>
  intro k i j hij hj hd hk h1 h2
  obtain ⟨k, rfl⟩ : ∃ m, k = m + 1 := ⟨k - 1, by omega⟩
  obtain rfl : i = j := by omega
  have hlow := lowB_split hj h1 h2; simp only [slices_BinarySearch_int_int.l0]; rw [if_neg (by omega), hlow]
  by_cases c : i < l.length
  ·rw [if_pos (by omega), if_pos (by omega), if_pos (by omega), rd_get l i c]
   by_cases e : l[i] = x
   ·rw [if_pos e]
    have : x ∈ l := e ▸ List.getElem_mem c
    simp [this]
   ·rw [if_neg e]
    have : ¬ x ∈ l := by
     intro hm; obtain ⟨m, hq, rfl⟩ := List.mem_iff_getElem.1 hm
     rcases Nat.lt_trichotomy m i with h | h | h
     ·have := h1 m hq h; omega
     ·subst h; exact e rfl
     ·have := h2 i c (Nat.le_refl _)
      have := asc_get hl h hq
      omega
    simp [isNaN_int, this]
  ·rw [if_neg (by omega)]
   have : ¬ x ∈ l := by
    intro hm; obtain ⟨m, hq, rfl⟩ := List.mem_iff_getElem.1 hm; have := h1 m hq (by omega)
    omega
   simp [this]
 | succ d ih =>
  intro k i j hij hj hd hk h1 h2
  by_cases c : i < j
  ·obtain ⟨k, rfl⟩ : ∃ m, k = m + 1 := ⟨k - 1, by omega⟩
   simp only [slices_BinarySearch_int_int.l0]; rw [if_pos (by omega), mid_ok i j (by omega), if_pos (by omega), if_pos (by omega), less_int, rd_get l _ (by omega)]; simp only [Option.bind_some, decide_eq_true_eq]
   by_cases c2 : l[(i + j) / 2] < x
   ·rw [if_pos c2]
    rw [succ_ok ((i + j) / 2) (by omega)]
    have h3 : ∀ m, (h : m < l.length) → m < (i + j) / 2 + 1 → l[m] < x := fun m hm hmi => by
     rcases Nat.lt_or_eq_of_le (show m ≤ (i + j) / 2 by omega) with h | h
     ·have := asc_get hl h (by omega)
      omega
     ·subst h
      exact c2
    have := ih k ((i + j) / 2 + 1) j (by omega) hj (by omega) (by omega) h3 h2; exact this
   ·rw [if_neg c2]
    have h3 : ∀ m, (h : m < l.length) → (i + j) / 2 ≤ m → x ≤ l[m] := fun m hm hmj => by
     rcases Nat.lt_or_eq_of_le hmj with h | h
     ·have := asc_get hl h hm
      omega
     ·subst h
      omega
    have := ih k i ((i + j) / 2) (by omega) (by omega) (by omega) (by omega) h1 h3; exact this
  ·exact ih k i j hij hj (by omega) (by omega) h1 h2
theorem bs_ok (l : List Int) (x : Int) (hl : l.Pairwise (· < ·)) (hn : l.length < 4611686018427387904) (k : Nat) (hk : l.length < k) : slices_BinarySearch_int_int.f k l x = some ((lowB l x : Int), decide (x ∈ l)) := by
  unfold slices_BinarySearch_int_int.f; exact bs_ends l x hl hn l.length k 0 l.length (Nat.zero_le _) (Nat.le_refl _) (by omega) hk (fun m h hm => absurd hm (by omega)) (fun m h hm => absurd hm (by omega))
theorem has_ok (l : List Int) (x : Int) (hl : l.Pairwise (· < ·)) (hn : l.length < 4611686018427387904) (k : Nat) (hk : l.length < k) : subgraph_has.f k l x = some (decide (x ∈ l)) := by
  unfold subgraph_has.f; rw [bs_ok l x hl hn k hk]
  rfl
end Go.Proofs.Ytonipihlpbaknaa.Print
namespace Go.Proofs.Ytonipihlpbaknaa.Print
open Go.RowKit Go.Proofs.YtonipihlpbaknaaW.PrintWords Go.Proofs.YtonipihlpbaknaaW.PrintLast Go.Proofs.YtonipihlpbaknaaW.PrintMore
attribute [local go_sem] max2_int min2_int max_two min_two max_three min_three max_four min_four   -- for this text's walks alone
set_option linter.unusedVariables false
set_option linter.unusedSimpArgs false
def scarfjointref07_has.l0 : Nat → List Int → Int → Int → Option (Bool)
  | 0, _, _, _ => none
  | k + 1, x0, x1, x5 => if x5 < (x0.length : Int) then (if 0 ≤ x5 then (if (rd x0 x5) = x1 then (some true) else (scarfjointref07_has.l0 k x0 x1 (wrap64 (x5 + 1)))) else (none)) else (some false)
def scarfjointref07_has.f (k : Nat) (l0 : List Int) (a1 : Int) : Option (Bool) := scarfjointref07_has.l0 k l0 a1 0
set_option maxHeartbeats 8000000 in
set_option maxRecDepth 100000 in
theorem scarfjointref07_has.calls (k : Nat) (A0 : Option Addr) (c0 : Nat) (l0 : List Int) (a1 : Int) (r : Bool) (w : World) (hr0 : Kd.C (Kd.int .i64) w A0 l0.length l0) (hc0 : l0.length ≤ c0) (h : scarfjointref07_has.f k l0 a1 = some r) :
  Calls Try.prog 74 #[.slice A0 l0.length c0, .int .i64 a1] w fun e w' => e = .returned (.bool r) ∧ Drawn0 w w' := by
 have HR0 := Aside0.mk hr0; have HC0 := Aside0.mk hc0; clear hr0 hc0; have H : (scarfjointref07_has.l0 k l0 a1 0) = some r := h; clear h; have H' := Aside0.mk H; clear H
 go_enter Try.func74, Try.ntmps74
 go_wp2
 go_loopg [5] k (fun kq v5 w' => ∃ (x5_1 : Int), v5 = .int .i64 x5_1 ∧ Aside0 (scarfjointref07_has.l0 kq l0 a1 x5_1 = some r) ∧ Aside0 (kq ≤ k) ∧ Drawn0 w w')
 case atStart => exact ⟨(0), (by first | rfl | (simp; done) | (simp [*]; done)), H', ⟨Nat.le_refl _⟩, by repeat (first | exact Drawn0.refl _ | apply Drawn0.step)⟩
 case round =>
  clear H'; (try clear p2); obtain ⟨x5_1, rfl, HA, HK1, ⟨m1, rfl⟩⟩ := hrel
  cases gk with
  | zero => exact absurd HA.out (by simp [scarfjointref07_has.l0])
  | succ k1 =>
   have H := HA.out; clear HA; simp only [scarfjointref07_has.l0] at H
   by_cases c3 : x5_1 < (l0.length : Int)
   ·rw [if_pos c3] at H
    have c3b0 : decide (x5_1 < (l0.length : Int)) = true := decide_eq_true c3; clear c3
    by_cases c4 : 0 ≤ x5_1
    ·rw [if_pos c4] at H
     have c4b0 : decide (0 ≤ x5_1) = true := decide_eq_true c4; clear c4
     by_cases c5 : (rd l0 x5_1) = a1
     ·rw [if_pos c5] at H
      have c5b0 : ((rd l0 x5_1) == a1) = true := beq_iff_eq.mpr c5; have c5b1 : ((rd l0 x5_1) != a1) = false := bne_eq_false_iff_eq.mpr c5; clear c5; obtain rfl := Option.some.inj H; have p101 : 0 ≤ (x5_1 : Int) := of_decide_eq_true (by first | (with_reducible assumption) | assumption); have q101 : x5_1 < (l0.length : Int) := of_decide_eq_true (by first | (with_reducible assumption) | assumption); obtain ⟨ad101, e101, hx101_0⟩ := Kd.at_int HR0.out x5_1 p101 q101; cases e101; replace p101 := eq_true p101; replace q101 := eq_true q101
      go_wp2
      go_ret
      exact ⟨by first | rfl | (simp; done) | (simp [*]; done), by repeat (first | exact Drawn0.refl _ | apply Drawn0.step)⟩
     ·rw [if_neg c5] at H
      have c5b0 : ((rd l0 x5_1) == a1) = false := beq_eq_false_iff_ne.mpr c5; have c5b1 : ((rd l0 x5_1) != a1) = true := bne_iff_ne.mpr c5; have H' := Aside0.mk H; clear H; have p101 : 0 ≤ (x5_1 : Int) := of_decide_eq_true (by first | (with_reducible assumption) | assumption); have q101 : x5_1 < (l0.length : Int) := of_decide_eq_true (by first | (with_reducible assumption) | assumption); obtain ⟨ad101, e101, hx101_0⟩ := Kd.at_int HR0.out x5_1 p101 q101; cases e101; replace p101 := eq_true p101; replace q101 := eq_true q101
      go_wp2
      go_roundg k1
      case measure => have := HK1.out; omega
      case rel => exact ⟨(wrap64 (x5_1 + 1)), (by first | rfl | (simp; done) | (simp [*]; done)), H', ⟨by have := HK1.out; omega⟩, by repeat (first | exact Drawn0.refl _ | apply Drawn0.step)⟩
    ·rw [if_neg c4] at H
     exact absurd H (by simp)
   ·rw [if_neg c3] at H
    have c3b0 : decide (x5_1 < (l0.length : Int)) = false := decide_eq_false c3; clear c3; obtain rfl := Option.some.inj H
    go_wp2
    go_ret
    exact ⟨by first | rfl | (simp; done) | (simp [*]; done), by repeat (first | exact Drawn0.refl _ | apply Drawn0.step)⟩
end Go.Proofs.Ytonipihlpbaknaa.Print

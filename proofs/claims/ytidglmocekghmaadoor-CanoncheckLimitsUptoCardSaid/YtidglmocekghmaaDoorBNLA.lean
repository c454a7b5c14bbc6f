/- A part of the proof of YtidglmocekghmaaDoorLimitsCard (the texts that it stands on, gathered; declarations that nothing uses are left out). -/
import Derived.Below
import Derived.Deep.Draws
import Derived.Deep.AppendLies
import Derived.Maps.AppendAt
import Derived.OwnWalk
import Derived.Laws.BytesArg
import Derived.Laws.MakeOwn
import Derived.Laws.OwnMore
import Derived.Deep.OwnRows
import Derived.Tactics
import Derived.Lib.ConvBytes
import Derived.Laws.Slices
import Derived.WalkKit
import Derived.KernelRfl
import Derived.RowKit3
import Derived.Deep.LoopGhost
import Derived.Deep.QuietTactic
import Derived.BigQuiet
import Derived.WideLaws
import Derived.Deep.DeepCutAuto
import Derived.Deep.CutBlock
import Derived.Deep.RegionHeld3
import Derived.Laws.Rows
import Derived.Lib.AppendStr
import Derived.ArgAppend
import Derived.Laws.IdiomCopy
import Derived.RowKit
import Derived.OrdersHeld
import Derived.Laws.BitsLemmas
import Derived.Laws.StructEq
import Derived.SizedLaws
import Derived.ChangeSlices
import Derived.Test.YtidglmocekghmaaDoorProg
import Derived.Lib.Hide
import Derived.WalkLawsBesides
import Derived.WalkSpells
import Derived.Outline
import Derived.IntWalk
import Derived.Laws.AppendOwn
set_option linter.unusedVariables false
set_option linter.unusedSimpArgs false
section
set_option linter.unusedVariables false
set_option linter.unusedSimpArgs false
namespace Go.Proofs.YtidglmocekghmaaDoorW.PrintWords
open Go.RowKit
structure Aside0 (p : Prop) : Prop where mk :: (out : p)
structure Drawn0 (w w' : World) : Prop where mk :: (out : ∃ n, w' = w.drewN n)
theorem Drawn0.refl (w : World) : Drawn0 w w := ⟨⟨0, rfl⟩⟩
theorem Drawn0.step {w w' : World} (h : Drawn0 w w') (n : Nat) : Drawn0 w (w'.drewN n) := by
 obtain ⟨m, rfl⟩ := h
 exact ⟨⟨m + n, World.drewN_drewN ..⟩⟩
theorem Drawn0.grown {w w' : World} (h : Drawn0 w w') : Grown w w' := by
 obtain ⟨n, rfl⟩ := h
 induction n with
 | zero => exact Grown.refl _
 | succ n ih => rw [← World.drew_drewN]; exact Grown.drew ih
theorem Drawn0.below {w w' : World} (h : Drawn0 w w') : Below w.heap.size w w' := by
 obtain ⟨n, rfl⟩ := h
 induction n with
 | zero => exact Below.refl _ _
 | succ n ih => rw [← World.drew_drewN]; exact ih.drew
def rd (xs : List Int) (i : Int) : Int := xs.getD i.toNat 0
def bt (s : ByteArray) (i : Int) : Int := if h : i.toNat < s.size then ((s[i.toNat]'h).toNat : Int) else 0
def nums (k : IntKind) (xs : List Int) : List Value := xs.map fun x => .int k x
theorem below_alloc {w W : World} (h : Below w.heap.size w W) (o : Obj) : Below w.heap.size w (W.alloc o) := h.alloc h.size o
theorem below_drew {B : Nat} {w W : World} (h : Below B w W) : Below B w W.drew := ⟨h.os, h.tape, h.output, h.size, h.block⟩
theorem pw_below_drewN {B : Nat} {w W : World} (h : Below B w W) (n : Nat) : Below B w (W.drewN n) := ⟨h.os, h.tape, h.output, h.size, h.block⟩
theorem below_then {B : Nat} {w w1 w2 : World} (h : Below B w w1) (hB : B ≤ w1.heap.size) (k : Below w1.heap.size w1 w2) : Below B w w2 :=
 h.trans ⟨k.os, k.tape, k.output, k.size, fun i hi => k.block i (Nat.lt_of_lt_of_le hi hB)⟩
theorem grown_of_below {w w1 : World} (h : Below w.heap.size w w1) (row : Option Nat) : w.grownBy w1 row := ⟨h.os, h.tape, h.output, h.size, fun i hi _ => h.block i hi⟩
theorem pw_cell_below {w w1 : World} (h : Below w.heap.size w w1) {a : Addr} {v : Value} (hc : w.cell? a = some v) : w1.cell? a = some v := (h.cell (World.block_lt_of_cell? w a hc)).trans hc
theorem add_plain (g j : Nat) : (⟨g, 0, none⟩ : Addr).add j = ⟨g, j, none⟩ := by unfold Addr.add; split <;> simp_all
def ReadsInt (w : World) (k : IntKind) (A : Option Addr) (n : Nat) (xs : List Int) : Prop :=
 xs.length = n ∧ n ≤ 9223372036854775807 ∧ (0 < n → ∃ ad, A = some ad ∧ ∀ j, j < n → w.cell? (ad.add j) = some (.int k (xs.getD j 0)))
theorem ReadsInt.at_ {w : World} {k : IntKind} {A : Option Addr} {n : Nat} {xs : List Int} (h : ReadsInt w k A n xs) (i : Int) (h0 : 0 ≤ i) (h1 : i < n) : ∃ ad, A = some ad ∧ w.cell? (ad.add i.toNat) = some (.int k (rd xs i)) := by
 obtain ⟨ad, e, hc⟩ := h.2.2 (by omega)
 exact ⟨ad, e, hc _ (by omega)⟩
theorem ReadsInt.below {w w1 : World} {k : IntKind} {A : Option Addr} {n : Nat} {xs : List Int} (h : ReadsInt w k A n xs) (hb : Below w.heap.size w w1) : ReadsInt w1 k A n xs :=
 ⟨h.1, h.2.1, fun hn => by
  obtain ⟨ad, e, hc⟩ := h.2.2 hn
  exact ⟨ad, e, fun j hj => pw_cell_below hb (hc j hj)⟩⟩
theorem own_nil (W : World) (base : Nat) (e : TypeId) (size : Nat) : W.ownsRow base e size (.slice none 0 0) 0 [] := ⟨by simp, .inl ⟨rfl, rfl⟩⟩
theorem own_base {w : World} {base : Nat} {e : TypeId} {size n : Nat} {v : Value} {xs : List Value} (h : w.ownsRow base e size v n xs) (k : Nat) (hk : v.ownBlock = some k) : base ≤ k := by
 rcases h.2 with ⟨rfl, _⟩ | ⟨g, cap, cur, rfl, hb, _⟩
 ·simp [Value.ownBlock] at hk
 ·have : g = k := by simpa [Value.ownBlock] using hk
  omega
theorem own_lt {w : World} {base : Nat} {e : TypeId} {size n : Nat} {v : Value} {xs : List Value} (h : w.ownsRow base e size v n xs) (k : Nat) (hk : v.ownBlock = some k) : k < w.heap.size := by
 rcases h.2 with ⟨rfl, _⟩ | ⟨g, cap, cur, rfl, hb, hh, _⟩
 ·simp [Value.ownBlock] at hk
 ·have : g = k := by simpa [Value.ownBlock] using hk
  subst this
  exact (Array.getElem?_eq_some_iff.1 hh).1
theorem pw_own_below {w w1 : World} {base : Nat} {e : TypeId} {size n : Nat} {v : Value} {xs : List Value} (h : w.ownsRow base e size v n xs) (hb : Below w.heap.size w w1) : w1.ownsRow base e size v n xs :=
 h.kept (grown_of_below hb none) (by cases v.ownBlock <;> simp)
section
variable {P : Program} {ops : Array Oper} {rest : List Oper} {o : Oper} {a : Act} {Q : Exit → Act → World → Prop}
end
section
variable {P : Program}
end
section
variable {P : Program} {ops : Array Oper} {rest : List Oper} {o : Oper} {a : Act} {Q : Exit → Act → World → Prop}
end
def bytesOf (s : ByteArray) : List Int := s.data.toList.map fun b => (b.toNat : Int)
theorem ReadsInt.take_ {w : World} {k : IntKind} {A : Option Addr} {n : Nat} {xs : List Int} (h : ReadsInt w k A n xs) (i : Nat) (hi : i ≤ n) : ReadsInt w k A i (xs.take i) := by
 refine ⟨by rw [List.length_take, h.1]; omega, by have := h.2.1; omega, fun hp => ?_⟩
 obtain ⟨ad, e, hc⟩ := h.2.2 (by omega)
 refine ⟨ad, e, fun j hj => ?_⟩
 rw [hc j (by omega)]
 simp [List.getD_eq_getElem?_getD, hj]
def LeO {α : Type} (a b : Option α) : Prop := ∀ r, a = some r → b = some r
theorem LeO.refl {α : Type} (a : Option α) : LeO a a := fun _ h => h
theorem LeO.none {α : Type} (b : Option α) : LeO Option.none b := fun _ h => by cases h
theorem LeO.trans {α : Type} {a b c : Option α} (h : LeO a b) (k : LeO b c) : LeO a c := fun r hr => k r (h r hr)
theorem LeO.bind {α β : Type} {a a' : Option α} {f f' : α → Option β} (h : LeO a a') (k : ∀ x, LeO (f x) (f' x)) : LeO (a.bind f) (a'.bind f') := by
 intro r hr
 obtain ⟨x, hx, hf⟩ := Option.bind_eq_some_iff.1 hr
 exact Option.bind_eq_some_iff.2 ⟨x, h x hx, k x r hf⟩
theorem LeO.map {α β : Type} {a a' : Option α} (f : α → β) (h : LeO a a') : LeO (a.map f) (a'.map f) := by
 intro r hr
 obtain ⟨x, hx, hf⟩ := Option.map_eq_some_iff.1 hr
 exact Option.map_eq_some_iff.2 ⟨x, h x hx, hf⟩
theorem more_rounds {α : Type} {g : Nat → Option α} (h : ∀ k, LeO (g k) (g (k + 1))) (k : Nat) : ∀ j, LeO (g k) (g (k + j))
 | 0 => LeO.refl _
 | j + 1 => (more_rounds h k j).trans (h (k + j))
theorem at_rounds {α : Type} {g : Nat → Option α} (h : ∀ k, LeO (g k) (g (k + 1))) {k k' : Nat} (hk : k ≤ k') {r : α} (hr : g k = some r) : g k' = some r := by
 have := more_rounds h k (k' - k) r hr
 rwa [Nat.add_sub_cancel' hk] at this
def Reps {α : Type} (R : α → List Value → Prop) (size : Nat) (ps : List α) (cs : List Value) : Prop :=
 cs.length = ps.length * size ∧ ∀ j p, ps[j]? = some p → R p ((cs.drop (j * size)).take size)
theorem Reps.none {α : Type} (R : α → List Value → Prop) (size : Nat) : Reps R size [] [] := ⟨by simp, fun j p h => by simp at h⟩
theorem Reps.snoc {α : Type} {R : α → List Value → Prop} {size : Nat} {ps : List α} {cs c : List Value} {p : α} (h : Reps R size ps cs) (hp : R p c) (hc : c.length = size) : Reps R size (ps ++ [p]) (cs ++ c) := by
 refine ⟨by rw [List.length_append, h.1, hc, List.length_append, List.length_singleton, Nat.add_mul, Nat.one_mul], fun j q hq => ?_⟩
 rcases Nat.lt_or_ge j ps.length with hj | hj
 ·rw [List.getElem?_append_left hj] at hq
  have h1 : j * size + size ≤ cs.length := by rw [h.1, ← Nat.succ_mul]; exact Nat.mul_le_mul_right _ hj
  have h2 := h.2 j q hq
  rw [List.drop_append_of_le_length (by omega), List.take_append_of_le_length (by rw [List.length_drop]; omega)]
  exact h2
 ·have hj' : j = ps.length := by
   have := (List.getElem?_eq_some_iff.1 hq).1
   rw [List.length_append, List.length_singleton] at this
   omega
  subst hj'
  have hq' : p = q := by simpa using hq
  subst hq'
  rw [← h.1, List.drop_left, ← hc, List.take_length]
  exact hp
theorem Reps.imp_ {α : Type} {R R' : α → List Value → Prop} {size : Nat} {ps : List α} {cs : List Value} (h : Reps R size ps cs) (hR : ∀ p c, R p c → R' p c) : Reps R' size ps cs := ⟨h.1, fun j p hj => hR _ _ (h.2 j p hj)⟩
def ReadsRow {α : Type} (R : α → List Value → Prop) (size : Nat) (w : World) (A : Option Addr) (n : Nat) (ps : List α) : Prop :=
 ps.length = n ∧ n ≤ 9223372036854775807 ∧ (0 < n → ∃ ad, A = some ad ∧ ∀ j p, ps[j]? = some p → ∃ c, c.length = size ∧ R p c ∧ ∀ i u, c[i]? = some u → w.cell? (ad.add (j * size + i)) = some u)
theorem ReadsRow.get_ {α : Type} {R : α → List Value → Prop} {size : Nat} {w : World} {A : Option Addr} {n : Nat} {ps : List α} (h : ReadsRow R size w A n ps) (d : α) (i : Int) (h0 : 0 ≤ i) (h1 : i < n) :
  ∃ ad c, A = some ad ∧ c.length = size ∧ R (ps.getD i.toNat d) c ∧ ∀ j u, c[j]? = some u → w.cell? (ad.add (i.toNat * size + j)) = some u := by
 obtain ⟨ad, e, hc⟩ := h.2.2 (by omega)
 have hl : i.toNat < ps.length := by have := h.1; omega
 obtain ⟨c, hs, hr, hcell⟩ := hc i.toNat _ (List.getElem?_eq_getElem hl)
 refine ⟨ad, c, e, hs, ?_, hcell⟩
 rw [List.getD_eq_getElem?_getD, List.getElem?_eq_getElem hl]
 exact hr
theorem ReadsRow.imp_ {α : Type} {R R' : α → List Value → Prop} {size : Nat} {w w1 : World} {A : Option Addr} {n : Nat} {ps : List α} (h : ReadsRow R size w A n ps) (hb : Below w.heap.size w w1) (hR : ∀ p c, R p c → R' p c) : ReadsRow R' size w1 A n ps :=
 ⟨h.1, h.2.1, fun hn => by
  obtain ⟨ad, e, hc⟩ := h.2.2 hn
  refine ⟨ad, e, fun j p hj => ?_⟩
  obtain ⟨c, hs, hr, hcell⟩ := hc j p hj
  exact ⟨c, hs, hR _ _ hr, fun i u hu => pw_cell_below hb (hcell i u hu)⟩⟩
theorem own_reads_row {α : Type} {R : α → List Value → Prop} {w : World} {base n size : Nat} {e : TypeId} {v : Value} {ps : List α} {cs : List Value} (h : w.ownsRow base e size v n cs) (hR : Reps R size ps cs) (hn : ps.length = n) :
  ∃ A c, v = .slice A n c ∧ ReadsRow R size w A n ps := by
 rcases Nat.eq_zero_or_pos n with h0 | h0
 ·rcases h.2 with ⟨rfl, rfl⟩ | ⟨g, cap, cur, rfl, _⟩
  ·exact ⟨none, 0, rfl, hn, by omega, fun hp => absurd hp (by omega)⟩
  ·exact ⟨_, cap, rfl, hn, by omega, fun hp => absurd hp (by omega)⟩
 ·obtain ⟨g, cap, rfl, _, _⟩ := h.form h0
  have hm : n ≤ 9223372036854775807 := by
   rcases h.2 with ⟨_, h1⟩ | ⟨g', cap', cur, he, _, _, h1, h2, _⟩
   ·omega
   ·simp only [maxLen] at h2
    omega
  refine ⟨_, cap, rfl, hn, hm, fun _ => ⟨_, rfl, fun j p hj => ⟨(cs.drop (j * size)).take size, ?_, hR.2 j p hj, fun i u hu => ?_⟩⟩⟩
  ·have hjl := (List.getElem?_eq_some_iff.1 hj).1
   have h1 : j * size + size ≤ cs.length := by rw [hR.1, ← Nat.succ_mul]; exact Nat.mul_le_mul_right _ hjl
   rw [List.length_take, List.length_drop]
   omega
  ·refine h.cells (g := g) rfl _ u ?_
   rw [List.getElem?_take] at hu
   split at hu
   ·rw [List.getElem?_drop] at hu
    exact hu
   ·cases hu
theorem add_field (ad : Addr) (m j : Nat) (hj : 0 < j) : ad.add (m + j) = ⟨(ad.add m).block, (ad.add m).off + j, none⟩ := by
 unfold Addr.add
 by_cases hm : m = 0
 ·subst hm
  simp [Nat.ne_of_gt hj]
 ·simp [hm, Nat.add_assoc]
section
variable {P : Program} {ops : Array Oper} {rest : List Oper} {o : Oper} {a : Act} {Q : Exit → Act → World → Prop}
theorem print_append_cells {w0 W : World} (base : Nat) (hgd : o.guard = none) (s x : Operand) (t e : TypeId) (z : Value) (size bytes : Nat)
  (ho : o.op = .call { callee := .builtin .append, args := #[s, x], argTypes := #[t, t] })
  (ht : P.underlying t = some (.slice e)) (hinfo : (P.info? e).map (fun i => (i.zero, i.size, i.bytes)) = some (some z, size, bytes)) (hz : z.cells.size = size) (hs0 : 0 < size) (hb0 : 0 < bytes)
  (v : Value) (n : Nat) (xs ys : List Value) (hs : a.eval s = v) (hx : a.eval x = .slice (some ⟨W.heap.size, 0, none⟩) 1 1) (hys : ys.length = size) (h1 : ∀ u ∈ ys, u.oneCell' = true)
  (HO : W.ownsRow base e size v n xs) (HB : Below base w0 W) (hbase : base ≤ W.heap.size) (hl : (n + 1) * bytes ≤ 140737488355328)
  (h : ∀ v1 w1, w1.ownsRow base e size v1 (n + 1) (xs ++ ys) → Below base w0 w1 → W.grownBy w1 v.ownBlock → (v1.ownBlock = v.ownBlock ∨ ∃ b, v1.ownBlock = some b ∧ W.heap.size ≤ b) → wpList P ops Q rest (a.put o.dst v1) w1) :
  wpList P ops Q (o :: rest) a (W.alloc (.cells ys.toArray e)) := by
 obtain ⟨i0, hi, hzz⟩ := Option.map_eq_some_iff.1 hinfo
 simp only [Prod.mk.injEq] at hzz
 obtain ⟨hz0, hz1, hz2⟩ := hzz
 have hlen : n + 1 ≤ 140737488355328 := Nat.le_trans (Nat.le_mul_of_pos_right _ hb0) hl
 refine wpList_append_own_at (W.alloc (.cells ys.toArray e)) hgd s x t ho base e i0 z size bytes ht hi hz0 hz1 hz2 hz hs0 v n xs hs (HO.alloc _) ⟨W.heap.size, 0, none⟩ 1 1 ys hx (by rw [hys]; simp)
  (by simpa using World.news_of_block (cs := ys.toArray) (t := e) (fr := (0, 0)) (heap_alloc_new W (.cells ys.toArray e))) h1 (by simp only [maxLen]; omega) hl (by simp; omega) ?_
 intro v1 w1 hown hg _ hat
 refine h v1 w1 hown ((HB.alloc hbase _).grown hg (by simp; omega) (own_base HO)) (World.grownBy.trans (World.grownBy_alloc W _ _) hg) ?_
 rcases hat with hat | hat
 ·exact .inl hat
 ·exact .inr ⟨_, hat, by simp⟩
end
theorem own_ne {w : World} {base : Nat} {e t : TypeId} {size n g : Nat} {v : Value} {xs : List Value} {cs : Array Value} (h : w.ownsRow base e size v n xs) (hg : w.heap[g]? = some (.cells cs t (0, 0))) (hne : e ≠ t) : some g ≠ v.ownBlock := by
 rcases h.2 with ⟨rfl, _⟩ | ⟨g', cap, cur, rfl, _, hh, _⟩
 ·simp [Value.ownBlock]
 ·intro he
  have : g = g' := by simpa [Value.ownBlock] using he
  subst this
  rw [hg] at hh
  injection hh with hh
  injection hh with _ ht
  exact hne ht.symm
theorem blk_set {w : World} {g : Nat} {t : TypeId} {cs : Array Value} (h : w.heap[g]? = some (.cells cs t (0, 0))) (i : Nat) (u : Value) : (w.setCell ⟨g, i, none⟩ u).heap[g]? = some (.cells (cs.setIfInBounds i u) t (0, 0)) := by
 simp [World.setCell, Array.getElem?_modify, h]
theorem blk_far {w : World} {g : Nat} {t : TypeId} {cs : Array Value} (h : w.heap[g]? = some (.cells cs t (0, 0))) {p : Addr} (hp : g ≠ p.block) (u : Value) : (w.setCell p u).heap[g]? = some (.cells cs t (0, 0)) := (Below.heap_setCell w p u g hp).trans h
theorem blk_lt {w : World} {g : Nat} {o : Obj} (h : w.heap[g]? = some o) : g < w.heap.size := (Array.getElem?_eq_some_iff.1 h).1
theorem blk_cell {w : World} {g : Nat} {t : TypeId} {cs : Array Value} (h : w.heap[g]? = some (.cells cs t (0, 0))) (i : Nat) : w.cell? ⟨g, i, none⟩ = cs[i]? := cell_of_row w g i cs t (0, 0) h
theorem blk_frozen {w : World} {g : Nat} {t : TypeId} {cs : Array Value} (h : w.heap[g]? = some (.cells cs t (0, 0))) (i : Nat) : w.frozen? ⟨g, i, none⟩ = false := by simp [World.frozen?, h]
theorem blk_grown {w w1 : World} {g : Nat} {o : Obj} {row : Option Nat} (h : w.heap[g]? = some o) (hg : w.grownBy w1 row) (hne : some g ≠ row) : w1.heap[g]? = some o := (hg.block g (blk_lt h) hne).trans h
def KeepBut (w w' : World) (g : Nat) (row : Option Nat) : Prop := w.heap.size ≤ w'.heap.size ∧ ∀ i, i < w.heap.size → i ≠ g → some i ≠ row → w'.heap[i]? = w.heap[i]?
theorem KeepBut.refl (w : World) (g : Nat) (row : Option Nat) : KeepBut w w g row := ⟨Nat.le_refl _, fun _ _ _ _ => rfl⟩
theorem KeepBut.of_below {w w1 : World} (h : Below w.heap.size w w1) (g : Nat) (row : Option Nat) : KeepBut w w1 g row := ⟨h.size, fun i hi _ _ => h.block i hi⟩
theorem KeepBut.trans {w w1 w2 : World} {g : Nat} {row row1 : Option Nat} (h : KeepBut w w1 g row) (k : KeepBut w1 w2 g row1) (hr : row1 = row ∨ ∃ b, row1 = some b ∧ w.heap.size ≤ b) : KeepBut w w2 g row :=
 ⟨Nat.le_trans h.1 k.1, fun i hi hg hn => by
  refine (k.2 i (Nat.lt_of_lt_of_le hi h.1) hg ?_).trans (h.2 i hi hg hn)
  rcases hr with rfl | ⟨b, rfl, hb⟩
  ·exact hn
  ·intro e
   injection e with e
   omega⟩
theorem KeepBut.blk {w w1 : World} {g g' : Nat} {row : Option Nat} {o : Obj} (h : KeepBut w w1 g row) (hb : w.heap[g']? = some o) (hg : g' ≠ g) (hr : some g' ≠ row) : w1.heap[g']? = some o := (h.2 g' (blk_lt hb) hg hr).trans hb
theorem KeepBut.own {w w1 : World} {g : Nat} {row : Option Nat} {base : Nat} {e : TypeId} {size n : Nat} {v : Value} {xs : List Value} (h : KeepBut w w1 g row) (ho : w.ownsRow base e size v n xs) (hg : v.ownBlock ≠ some g) (hr : v.ownBlock = none ∨ v.ownBlock ≠ row) : w1.ownsRow base e size v n xs := by
 obtain ⟨h1, h2⟩ := ho
 refine ⟨h1, ?_⟩
 rcases h2 with h2 | ⟨b, cap, cur, rfl, hb, hh, r⟩
 ·exact .inl h2
 ·refine .inr ⟨b, cap, cur, rfl, hb, h.blk hh ?_ ?_, r⟩
  ·intro e
   exact hg (by rw [← e]; rfl)
  ·rcases hr with hr | hr
   ·simp [Value.ownBlock] at hr
   ·exact hr
def Ev {α : Type} (g : Nat → Option α) (r : α) : Prop := ∃ K, ∀ k, K ≤ k → g k = some r
theorem Ev.of {α : Type} {g : Nat → Option α} {r : α} (hg : ∀ k, LeO (g k) (g (k + 1))) {k : Nat} (h : g k = some r) : Ev g r := ⟨k, fun _ hk => at_rounds hg hk h⟩
theorem Ev.now {α : Type} (r : α) : Ev (fun _ => some r) r := ⟨0, fun _ _ => rfl⟩
theorem Ev.rounds {α : Type} {g : Nat → Option α} {r : α} (h : Ev g r) : ∃ k, g k = some r := by
 obtain ⟨K, h⟩ := h
 exact ⟨K, h K (Nat.le_refl _)⟩
theorem Ev.bind {α β : Type} {g : Nat → Option α} {f : Nat → α → Option β} {a : α} {r : β} (h : Ev g a) (k : Ev (fun n => f n a) r) : Ev (fun n => (g n).bind (f n)) r := by
 obtain ⟨K, h⟩ := h
 obtain ⟨K', k⟩ := k
 refine ⟨max K K', fun n hn => ?_⟩
 have h1 := h n (by omega)
 have h2 := k n (by omega)
 simp only [h1, Option.bind_some]
 exact h2
theorem Ev.step {α : Type} {g f : Nat → Option α} {r : α} (h : ∀ k, g (k + 1) = f k) (k : Ev f r) : Ev g r := by
 obtain ⟨K, k⟩ := k
 refine ⟨K + 1, fun n hn => ?_⟩
 obtain ⟨m, rfl⟩ : ∃ m, n = m + 1 := ⟨n - 1, by omega⟩
 rw [h]
 exact k m (by omega)
theorem Ev.congr {α : Type} {g f : Nat → Option α} {r : α} (h : ∀ k, g k = f k) (k : Ev f r) : Ev g r := by
 obtain ⟨K, k⟩ := k
 exact ⟨K, fun n hn => (h n).trans (k n hn)⟩
section
variable {P : Program} {ops : Array Oper} {o : Oper} {a : Act} {Q : Exit → Act → World → Prop} {K : Act → World → Prop}
theorem step_append_cells {w0 W : World} (base : Nat) (hw : Region.wanted o (yielded ops a.tmps) = true) (s x : Operand) (t e : TypeId) (z : Value) (size bytes : Nat)
  (ho : o.op = .call { callee := .builtin .append, args := #[s, x], argTypes := #[t, t] })
  (ht : P.underlying t = some (.slice e)) (hinfo : (P.info? e).map (fun i => (i.zero, i.size, i.bytes)) = some (some z, size, bytes)) (hz : z.cells.size = size) (hs0 : 0 < size) (hb0 : 0 < bytes)
  (v : Value) (n : Nat) (xs ys : List Value) (hs : a.eval s = v) (hx : a.eval x = .slice (some ⟨W.heap.size, 0, none⟩) 1 1) (hys : ys.length = size) (h1 : ∀ u ∈ ys, u.oneCell' = true)
  (HO : W.ownsRow base e size v n xs) (HB : Below base w0 W) (hbase : base ≤ W.heap.size) (hl : (n + 1) * bytes ≤ 140737488355328)
  (h : ∀ v1 w1, w1.ownsRow base e size v1 (n + 1) (xs ++ ys) → Below base w0 w1 → W.grownBy w1 v.ownBlock → (v1.ownBlock = v.ownBlock ∨ ∃ b, v1.ownBlock = some b ∧ W.heap.size ≤ b) → K (a.put o.dst v1) w1) :
  if Region.wanted o (yielded ops a.tmps) = true then Oper.wp P o a (W.alloc (.cells ys.toArray e)) K Q else K (a.put o.dst undef) (W.alloc (.cells ys.toArray e)) := by
 obtain ⟨i0, hi, hzz⟩ := Option.map_eq_some_iff.1 hinfo
 simp only [Prod.mk.injEq] at hzz
 obtain ⟨hz0, hz1, hz2⟩ := hzz
 have hlen : n + 1 ≤ 140737488355328 := Nat.le_trans (Nat.le_mul_of_pos_right _ hb0) hl
 rw [if_pos hw]
 obtain ⟨v1, w1, hr, hown, hg, _, hat⟩ := run_append_own_at (P := P) (W.alloc (.cells ys.toArray e)) base t o.type e i0 z size bytes ht hi hz0 hz1 hz2 hz hs0 v n xs (HO.alloc _) ⟨W.heap.size, 0, none⟩ 1 1 ys (by rw [hys]; simp)
  (by simpa using World.news_of_block (cs := ys.toArray) (t := e) (fr := (0, 0)) (heap_alloc_new W (.cells ys.toArray e))) h1 (by simp only [maxLen]; omega) hl (by simp; omega)
 unfold Oper.wp execOp
 simp only [ho, resolve, invoke, builtin, Sem.run_bind, Sem.run_pure, Result.andThen_ok, List.map_toArray, List.map_cons, List.map_nil, hs, hx, hr]
 refine h v1 w1 hown ((HB.alloc hbase _).grown hg (by simp; omega) (own_base HO)) (World.grownBy.trans (World.grownBy_alloc W _ _) hg) ?_
 rcases hat with hat | hat
 ·exact .inl hat
 ·exact .inr ⟨_, hat, by simp⟩
end
theorem own_weaken {w : World} {base base' : Nat} {e : TypeId} {size n : Nat} {v : Value} {xs : List Value} (h : w.ownsRow base e size v n xs) (hb : base' ≤ base) : w.ownsRow base' e size v n xs := by
 obtain ⟨h1, h2⟩ := h
 refine ⟨h1, ?_⟩
 rcases h2 with h2 | ⟨g, cap, cur, rfl, hg, r⟩
 ·exact .inl h2
 ·exact .inr ⟨g, cap, cur, rfl, Nat.le_trans hb hg, r⟩
section
variable {α : Type} {enc : α → Value} {d : α}
def encs (enc : α → Value) (xs : List α) : List Value := xs.map enc
def rdOf (d : α) (xs : List α) (i : Int) : α := xs.getD i.toNat d
theorem encs_length (xs : List α) : (encs enc xs).length = xs.length := by simp [encs]
theorem encs_get (xs : List α) (j : Nat) (h : j < xs.length) : (encs enc xs)[j]? = some (enc (xs.getD j d)) := by
 simp [encs, List.getElem?_eq_getElem h, List.getD_eq_getElem?_getD]
def ReadsOf (enc : α → Value) (d : α) (w : World) (A : Option Addr) (n : Nat) (xs : List α) : Prop :=
 xs.length = n ∧ n ≤ 9223372036854775807 ∧ (0 < n → ∃ ad, A = some ad ∧ ∀ j, j < n → w.cell? (ad.add j) = some (enc (xs.getD j d)))
theorem ReadsOf.at_ {w : World} {A : Option Addr} {n : Nat} {xs : List α} (h : ReadsOf enc d w A n xs) (i : Int) (h0 : 0 ≤ i) (h1 : i < n) : ∃ ad, A = some ad ∧ w.cell? (ad.add i.toNat) = some (enc (rdOf d xs i)) := by
 obtain ⟨ad, e, hc⟩ := h.2.2 (by omega)
 exact ⟨ad, e, hc _ (by omega)⟩
theorem ReadsOf.below {w w1 : World} {A : Option Addr} {n : Nat} {xs : List α} (h : ReadsOf enc d w A n xs) (hb : Below w.heap.size w w1) : ReadsOf enc d w1 A n xs :=
 ⟨h.1, h.2.1, fun hn => by
  obtain ⟨ad, e, hc⟩ := h.2.2 hn
  exact ⟨ad, e, fun j hj => pw_cell_below hb (hc j hj)⟩⟩
theorem ReadsOf.take_ {w : World} {A : Option Addr} {n : Nat} {xs : List α} (h : ReadsOf enc d w A n xs) (i : Nat) (hi : i ≤ n) : ReadsOf enc d w A i (xs.take i) := by
 refine ⟨by rw [List.length_take, h.1]; omega, by have := h.2.1; omega, fun hp => ?_⟩
 obtain ⟨ad, e, hc⟩ := h.2.2 (by omega)
 refine ⟨ad, e, fun j hj => ?_⟩
 rw [hc j (by omega)]
 simp [List.getD_eq_getElem?_getD, hj]
theorem own_at_of {W : World} {base g n cap : Nat} {e : TypeId} {xs : List α} (h : W.ownsRow base e 1 (.slice (some ⟨g, 0, none⟩) n cap) n (encs enc xs)) (i : Int) (h0 : 0 ≤ i) (h1 : i < n) :
  W.cell? ⟨g, i.toNat, none⟩ = some (enc (rdOf d xs i)) ∧ W.frozen? ⟨g, i.toNat, none⟩ = false := by
 have hl : xs.length = n := by have := h.1; simp [encs] at this; exact this
 constructor
 ·have hc := h.cells (g := g) rfl i.toNat _ (encs_get (d := d) xs i.toNat (by omega))
  rwa [add_plain] at hc
 ·rcases h.2 with ⟨h', _⟩ | ⟨g', cap', cur, h', _, hh, _⟩
  ·cases h'
  ·have : g = g' := by injection h' with h'; injection h' with h'; injection h' with h'
   subst this
   simp [World.frozen?, hh]
theorem own_store_of {W : World} {base g n cap : Nat} {e : TypeId} {xs : List α} (h : W.ownsRow base e 1 (.slice (some ⟨g, 0, none⟩) n cap) n (encs enc xs)) (i : Int) (x : α) :
  (W.setCell ⟨g, i.toNat, none⟩ (enc x)).ownsRow base e 1 (.slice (some ⟨g, 0, none⟩) n cap) n (encs enc (xs.set i.toNat x)) ∧ W.grownBy (W.setCell ⟨g, i.toNat, none⟩ (enc x)) (some g) := by
 have hs := h.stored i.toNat (enc x)
 have he : (encs enc xs).set i.toNat (enc x) = encs enc (xs.set i.toNat x) := by simp [encs, List.map_set]
 rwa [he] at hs
end
section
variable {α : Type} {P : Program} {ops : Array Oper} {rest : List Oper} {o : Oper} {a : Act} {Q : Exit → Act → World → Prop}
end
theorem blk_alloc {w : World} {g : Nat} {o : Obj} (h : w.heap[g]? = some o) (o' : Obj) : (w.alloc o').heap[g]? = some o := (Below.heap_alloc w o' g (blk_lt h)).trans h
theorem blk_drew {w : World} {g : Nat} {o : Obj} (h : w.heap[g]? = some o) : w.drew.heap[g]? = some o := h
theorem blk_drewN {w : World} {g : Nat} {o : Obj} (h : w.heap[g]? = some o) (n : Nat) : (w.drewN n).heap[g]? = some o := h
theorem blk_below {w w1 : World} {g : Nat} {o : Obj} (h : w.heap[g]? = some o) (hb : Below w.heap.size w w1) : w1.heap[g]? = some o := (hb.block g (blk_lt h)).trans h
theorem blk_new (w : World) (o : Obj) : (w.alloc o).heap[w.heap.size]? = some o := heap_alloc_new w o
section
variable {P : Program}
end
theorem own_le {w : World} {base n m c size : Nat} {e : TypeId} {A : Option Addr} {xs : List Value} (h : w.ownsRow base e size (.slice A m c) n xs) : m ≤ c := by
 rcases h.2 with ⟨he, _⟩ | ⟨g, cap, cur, he, _, _, hnc, _⟩
 ·injection he with _ h2 h3
  omega
 ·injection he with _ h2 h3
  omega
def OwnRow {α : Type} (R : α → List Value → Prop) (e : TypeId) (size : Nat) (w : World) (base : Nat) (v : Value) (ps : List α) : Prop :=
 ∃ inner, w.ownsRow base e size v ps.length inner ∧ Reps R size ps inner
section
variable {α : Type} {R R' : α → List Value → Prop} {e : TypeId} {size : Nat} {w w1 : World} {base : Nat} {v : Value} {ps : List α}
theorem OwnRow.none_ (R : α → List Value → Prop) (e : TypeId) (size : Nat) (w : World) (base : Nat) : OwnRow R e size w base (.slice none 0 0) [] := ⟨[], own_nil _ _ _ _, Reps.none _ _⟩
theorem OwnRow.imp_ (h : OwnRow R e size w base v ps) (hR : ∀ p c, R p c → R' p c) : OwnRow R' e size w base v ps := by
 obtain ⟨inner, ho, hr⟩ := h
 exact ⟨inner, ho, hr.imp_ hR⟩
theorem OwnRow.below (h : OwnRow R e size w base v ps) (hb : Below w.heap.size w w1) : OwnRow R e size w1 base v ps := by
 obtain ⟨inner, ho, hr⟩ := h
 exact ⟨inner, pw_own_below ho hb, hr⟩
theorem OwnRow.keep (h : OwnRow R e size w base v ps) {g : Nat} {t : TypeId} {cells : Array Value} (hb : w.heap[g]? = some (.cells cells t (0, 0))) (ht : e ≠ t) (hk : KeepBut w w1 g none) : OwnRow R e size w1 base v ps := by
 obtain ⟨inner, ho, hr⟩ := h
 exact ⟨inner, hk.own ho (Ne.symm (own_ne ho hb ht)) (by cases v.ownBlock <;> simp), hr⟩
theorem OwnRow.lower (h : OwnRow R e size w base v ps) {base' : Nat} (hb : base' ≤ base) : OwnRow R e size w base' v ps := by
 obtain ⟨inner, ho, hr⟩ := h
 exact ⟨inner, own_weaken ho hb, hr⟩
theorem OwnRow.reads (h : OwnRow R e size w base v ps) : ∃ A c, v = .slice A ps.length c ∧ ps.length ≤ c ∧ ReadsRow R size w A ps.length ps := by
 obtain ⟨inner, ho, hr⟩ := h
 obtain ⟨A, c, rfl, hrow⟩ := own_reads_row ho hr rfl
 exact ⟨A, c, rfl, own_le ho, hrow⟩
theorem OwnRow.ne_block (h : OwnRow R e size w base v ps) {g : Nat} {t : TypeId} {cells : Array Value} (hb : w.heap[g]? = some (.cells cells t (0, 0))) (ht : e ≠ t) : some g ≠ v.ownBlock := by
 obtain ⟨inner, ho, hr⟩ := h
 exact own_ne ho hb ht
theorem OwnRow.lit (W : World) (base : Nat) {inner : List Value} (hr : Reps R size ps inner) (hb : base ≤ W.heap.size) (hm : ps.length ≤ 9223372036854775807) :
  OwnRow R e size (W.alloc (.cells inner.toArray e)) base (.slice (some ⟨W.heap.size, 0, none⟩) ps.length ps.length) ps := by
 have h := World.ownsRow_lit (base := base) (e := e) (size := size) W inner.toArray ps.length hb (by simpa [maxLen] using hm) (by simpa using hr.1)
 exact ⟨inner, by simpa using h, hr⟩
end
section
variable {P : Program} {ops : Array Oper} {rest : List Oper} {o : Oper} {a : Act} {Q : Exit → Act → World → Prop} {α : Type} {R : α → List Value → Prop}
theorem OwnRow.append {w0 W : World} (base : Nat) (hgd : o.guard = none) (s x : Operand) (t e : TypeId) (z : Value) (size bytes : Nat)
  (ho : o.op = .call { callee := .builtin .append, args := #[s, x], argTypes := #[t, t] })
  (ht : P.underlying t = some (.slice e)) (hinfo : (P.info? e).map (fun i => (i.zero, i.size, i.bytes)) = some (some z, size, bytes)) (hz : z.cells.size = size) (hs0 : 0 < size) (hb0 : 0 < bytes)
  (v : Value) (ps : List α) (p : α) (cs : List Value) (hs : a.eval s = v) (hx : a.eval x = .slice (some ⟨W.heap.size, 0, none⟩) 1 1) (hp : R p cs) (hcs : cs.length = size) (h1 : ∀ u ∈ cs, u.oneCell' = true)
  (HO : OwnRow R e size W base v ps) (HB : Below base w0 W) (hbase : base ≤ W.heap.size) (hl : (ps.length + 1) * bytes ≤ 140737488355328)
  (h : ∀ v1 w1, OwnRow R e size w1 base v1 (ps ++ [p]) → Below base w0 w1 → W.grownBy w1 v.ownBlock → (v1.ownBlock = v.ownBlock ∨ ∃ b, v1.ownBlock = some b ∧ W.heap.size ≤ b) → wpList P ops Q rest (a.put o.dst v1) w1) :
  wpList P ops Q (o :: rest) a (W.alloc (.cells cs.toArray e)) := by
 obtain ⟨inner, hown, hr⟩ := HO
 refine print_append_cells base hgd s x t e z size bytes ho ht hinfo hz hs0 hb0 v ps.length inner cs hs hx hcs h1 hown HB hbase hl ?_
 intro v1 w1 hown1 hb1 hg1 hat1
 exact h v1 w1 ⟨inner ++ cs, by rw [List.length_append, List.length_singleton]; exact hown1, hr.snoc hp hcs⟩ hb1 hg1 hat1
end
section
variable {P : Program} {ops : Array Oper} {o : Oper} {a : Act} {Q : Exit → Act → World → Prop} {K : Act → World → Prop} {α : Type} {R : α → List Value → Prop}
end
theorem ReadsRow.inner_ {α : Type} {R : α → List Value → Prop} {size : Nat} {w : World} {ad : Addr} {n : Nat} {ps : List α} (h : ReadsRow R size w (some ad) n ps) :
  ∃ inner, Reps R size ps inner ∧ ∀ j u, inner[j]? = some u → w.cell? (ad.add j) = some u := by
 have key : ∀ m, m ≤ ps.length → ∃ inner, Reps R size (ps.take m) inner ∧ ∀ j u, inner[j]? = some u → w.cell? (ad.add j) = some u := by
  intro m
  induction m with
  | zero => exact fun _ => ⟨[], Reps.none _ _, fun j u hu => by simp at hu⟩
  | succ m ih =>
   intro hm
   obtain ⟨inner, hr, hc⟩ := ih (by omega)
   obtain ⟨ad', he, hcell⟩ := h.2.2 (by have := h.1; omega)
   injection he with he
   subst he
   obtain ⟨c, hcl, hp, hcc⟩ := hcell m _ (List.getElem?_eq_getElem (show m < ps.length by omega))
   refine ⟨inner ++ c, ?_, fun j u hu => ?_⟩
   ·rw [List.take_succ_eq_append_getElem (show m < ps.length by omega)]
    exact hr.snoc hp hcl
   ·have hil : inner.length = m * size := by rw [hr.1, List.length_take, Nat.min_eq_left (by omega)]
    rcases Nat.lt_or_ge j inner.length with hj | hj
    ·rw [List.getElem?_append_left hj] at hu
     exact hc j u hu
    ·rw [List.getElem?_append_right hj] at hu
     have := hcc (j - inner.length) u hu
     rwa [hil, Nat.add_sub_cancel' (by omega)] at this
 obtain ⟨inner, hr, hc⟩ := key ps.length (Nat.le_refl _)
 rw [List.take_length] at hr
 exact ⟨inner, hr, hc⟩
section
variable {α : Type} {P : Program}
end
section
variable {P : Program} {ops : Array Oper} {rest : List Oper} {o : Oper} {a : Act} {Q : Exit → Act → World → Prop}
end
structure Kd (α : Type) where
 sz : Nat
 E : List Nat
 K : World → α → List Value → Prop
 M : World → Nat → (Nat → Prop) → α → List Value → Prop
 K_len : ∀ {w x cs}, K w x cs → cs.length = sz
 K_one : ∀ {w x cs}, K w x cs → ∀ u ∈ cs, u.oneCell' = true
 K_below : ∀ {w w1 : World} {x cs}, Below w.heap.size w w1 → K w x cs → K w1 x cs
 K_of_M : ∀ {w base ok x cs}, M w base ok x cs → K w x cs
 M_mono : ∀ {w base ok ok' x cs}, (∀ k, ok k → ok' k) → M w base ok x cs → M w base ok' x cs
 M_bound : ∀ {w : World} {base ok x cs}, M w base ok x cs → M w base (fun k => ok k ∧ base ≤ k ∧ k < w.heap.size ∧ ∃ q, q ∈ E ∧ ∃ cells, w.heap[k]? = some (.cells cells q (0, 0))) x cs
 M_move : ∀ {w w1 : World} {base ok x cs}, (∀ k, ok k → w1.heap[k]? = w.heap[k]?) → M w base ok x cs → M w1 base ok x cs
 M_lower : ∀ {w base base' ok x cs}, base' ≤ base → M w base ok x cs → M w base' ok x cs
theorem own_move {w w1 : World} {base : Nat} {e : TypeId} {size n : Nat} {v : Value} {xs : List Value} (h : w.ownsRow base e size v n xs) (hm : ∀ k, v.ownBlock = some k → w1.heap[k]? = w.heap[k]?) : w1.ownsRow base e size v n xs := by
 obtain ⟨h1, h2⟩ := h
 refine ⟨h1, ?_⟩
 rcases h2 with h2 | ⟨g, cap, cur, rfl, hg, hh, r⟩
 ·exact .inl h2
 ·exact .inr ⟨g, cap, cur, rfl, hg, (hm g (by simp [Value.ownBlock])).trans hh, r⟩
theorem own_typed {w : World} {base : Nat} {e : TypeId} {size n : Nat} {v : Value} {xs : List Value} (h : w.ownsRow base e size v n xs) (k : Nat) (hk : v.ownBlock = some k) : ∃ cells, w.heap[k]? = some (.cells cells e (0, 0)) := by
 rcases h.2 with ⟨rfl, _⟩ | ⟨g, cap, cur, rfl, hg, hh, r⟩
 ·simp [Value.ownBlock] at hk
 ·have : g = k := by simpa [Value.ownBlock] using hk
  subst this
  exact ⟨cur, hh⟩
namespace Kd
def C {α : Type} (d : Kd α) (w : World) (A : Option Addr) (n : Nat) (xs : List α) : Prop := ReadsRow (d.K w) d.sz w A n xs
def R {α : Type} (d : Kd α) (e : Nat) (w : World) (base : Nat) (ok : Nat → Prop) (v : Value) (xs : List α) : Prop :=
 (∀ k, v.ownBlock = some k → ok k) ∧ OwnRow (d.M w base (fun k => ok k ∧ some k ≠ v.ownBlock)) e d.sz w base v xs
section
variable {α : Type} {d : Kd α} {e : Nat} {w w1 : World} {base : Nat} {ok ok' : Nat → Prop} {v : Value} {xs : List α}
theorem C_below {A : Option Addr} {n : Nat} (h : d.C w A n xs) (hb : Below w.heap.size w w1) : d.C w1 A n xs := ReadsRow.imp_ h hb (fun _ _ hp => d.K_below hb hp)
theorem R_nil (d : Kd α) (e : Nat) (w : World) (base : Nat) (ok : Nat → Prop) : d.R e w base ok (.slice none 0 0) [] := ⟨fun k hk => by simp [Value.ownBlock] at hk, OwnRow.none_ _ _ _ _ _⟩
theorem R_mono (h : d.R e w base ok v xs) (hok : ∀ k, ok k → ok' k) : d.R e w base ok' v xs := ⟨fun k hk => hok k (h.1 k hk), h.2.imp_ (fun _ _ hp => d.M_mono (fun k hk => ⟨hok k hk.1, hk.2⟩) hp)⟩
theorem R_bound (h : d.R e w base ok v xs) : d.R e w base (fun k => ok k ∧ base ≤ k ∧ k < w.heap.size ∧ ∃ q, q ∈ e :: d.E ∧ ∃ cells, w.heap[k]? = some (.cells cells q (0, 0))) v xs := by
 obtain ⟨h0, inner, ho, hr⟩ := h
 refine ⟨fun k hk => ?_, inner, ho, hr.imp_ (fun _ _ hp => d.M_mono (fun k hk => ?_) (d.M_bound hp))⟩
 ·obtain ⟨cells, hc⟩ := own_typed ho k hk
  exact ⟨h0 k hk, own_base ho k hk, own_lt ho k hk, e, List.mem_cons_self, cells, hc⟩
 ·obtain ⟨⟨h1, h2⟩, h3, h4, q, hq, hc⟩ := hk
  exact ⟨⟨h1, h3, h4, q, List.mem_cons_of_mem _ hq, hc⟩, h2⟩
theorem R_move (h : d.R e w base ok v xs) (hm : ∀ k, ok k → w1.heap[k]? = w.heap[k]?) : d.R e w1 base ok v xs := by
 obtain ⟨h0, inner, ho, hr⟩ := h
 exact ⟨h0, inner, own_move ho (fun k hk => hm k (h0 k hk)), hr.imp_ (fun _ _ hp => d.M_move (fun k hk => hm k hk.1) hp)⟩
theorem R_lower {base' : Nat} (h : d.R e w base ok v xs) (hb : base' ≤ base) : d.R e w base' ok v xs := by
 obtain ⟨h0, inner, ho, hr⟩ := h
 exact ⟨h0, inner, own_weaken ho hb, hr.imp_ (fun _ _ hp => d.M_lower hb hp)⟩
theorem R_step (h : d.R e w base ok v xs) (hm : ∀ k, ok k → k < w.heap.size → w1.heap[k]? = w.heap[k]?) : d.R e w1 base ok v xs :=
 R_mono (R_move (R_bound h) (fun k hk => hm k hk.1 hk.2.2.1)) (fun _ hk => hk.1)
theorem M_step {x : α} {cs : List Value} (h : d.M w base ok x cs) (hm : ∀ k, ok k → k < w.heap.size → w1.heap[k]? = w.heap[k]?) : d.M w1 base ok x cs :=
 d.M_mono (fun _ hk => hk.1) (d.M_move (fun k hk => hm k hk.1 hk.2.2.1) (d.M_bound h))
theorem R_below (h : d.R e w base ok v xs) (hb : Below w.heap.size w w1) : d.R e w1 base ok v xs := R_step h (fun k _ hk => hb.block k hk)
theorem M_below {x : α} {cs : List Value} (h : d.M w base ok x cs) (hb : Below w.heap.size w w1) : d.M w1 base ok x cs := M_step h (fun k _ hk => hb.block k hk)
theorem R_far (h : d.R e w base ok v xs) {p : Addr} (hok : ∀ k, ok k → k ≠ p.block) (u : Value) : d.R e (w.setCell p u) base ok v xs := R_step h (fun k ho _ => Below.heap_setCell w p u k (hok k ho))
theorem R_types (h : d.R e w base ok v xs) {g t : Nat} {cells : Array Value} (hb : w.heap[g]? = some (.cells cells t (0, 0))) (ht : ∀ q, q ∈ e :: d.E → q ≠ t) : d.R e w base (fun k => ok k ∧ k ≠ g) v xs :=
  R_mono (R_bound h) (fun k hk => ⟨hk.1, by
    obtain ⟨_, _, _, q, hq, cells', hc⟩ := hk
    rintro rfl
    rw [hc] at hb
    injection hb with hb
    injection hb with _ hb
    exact ht q hq hb⟩)
theorem R_reads (h : d.R e w base ok v xs) : ∃ A c, v = .slice A xs.length c ∧ xs.length ≤ c ∧ d.C w A xs.length xs := by
 obtain ⟨A, c, he, hl, hr⟩ := OwnRow.reads h.2
 exact ⟨A, c, he, hl, hr.imp_ (Below.refl _ _) (fun _ _ hp => d.K_of_M hp)⟩
theorem R_slice (h : d.R e w base ok v xs) : ∃ A c, v = .slice A xs.length c := by
 obtain ⟨A, c, he, _⟩ := R_reads h
 exact ⟨A, c, he⟩
theorem R_own (h : d.R e w base ok v xs) : ∃ inner, w.ownsRow base e d.sz v xs.length inner := by
 obtain ⟨_, inner, ho, _⟩ := h
 exact ⟨inner, ho⟩
theorem R_ne (h : d.R e w base ok v xs) {g t : Nat} {cells : Array Value} (hb : w.heap[g]? = some (.cells cells t (0, 0))) (ht : e ≠ t) : some g ≠ v.ownBlock := OwnRow.ne_block h.2 hb ht
end
def scalar {α : Type} (enc : α → Value) (h1 : ∀ x, (enc x).oneCell' = true) : Kd α where
 sz := 1
 E := []
 K := fun _ x cs => cs = [enc x]
 M := fun _ _ _ x cs => cs = [enc x]
 K_len := fun h => by rw [h]; rfl
 K_one := fun h u hu => by
  rw [h] at hu
  rw [List.mem_singleton.1 hu]
  exact h1 _
 K_below := fun _ h => h
 K_of_M := fun h => h
 M_mono := fun _ h => h
 M_bound := fun h => h
 M_move := fun _ h => h
 M_lower := fun _ h => h
def int (k : IntKind) : Kd Int := scalar (Value.int k) (fun _ => rfl)
def bool : Kd Bool := scalar Value.bool (fun _ => rfl)
def string : Kd ByteArray := scalar Value.string (fun _ => rfl)
def slice {α : Type} (e : Nat) (d : Kd α) : Kd (List α) where
 sz := 1
 E := e :: d.E
 K := fun w xs cs => ∃ A c, cs = [.slice A xs.length c] ∧ xs.length ≤ c ∧ d.C w A xs.length xs
 M := fun w base ok xs cs => ∃ v, cs = [v] ∧ d.R e w base ok v xs
 K_len := by
  rintro w x cs ⟨A, c, rfl, _⟩
  rfl
 K_one := by
  rintro w x cs ⟨A, c, rfl, _⟩ u hu
  rw [List.mem_singleton.1 hu]
  rfl
 K_below := by
  rintro w w1 x cs hb ⟨A, c, rfl, hl, hr⟩
  exact ⟨A, c, rfl, hl, C_below hr hb⟩
 K_of_M := by
  rintro w base ok x cs ⟨v, rfl, h⟩
  obtain ⟨A, c, rfl, hl, hr⟩ := R_reads h
  exact ⟨A, c, rfl, hl, hr⟩
 M_mono := by
  rintro w base ok ok' x cs hok ⟨v, rfl, h⟩
  exact ⟨v, rfl, R_mono h hok⟩
 M_bound := by
  rintro w base ok x cs ⟨v, rfl, h⟩
  exact ⟨v, rfl, R_bound h⟩
 M_move := by
  rintro w w1 base ok x cs hm ⟨v, rfl, h⟩
  exact ⟨v, rfl, R_move h hm⟩
 M_lower := by
  rintro w base base' ok x cs hb ⟨v, rfl, h⟩
  exact ⟨v, rfl, R_lower h hb⟩
def pair {α β : Type} (a : Kd α) (b : Kd β) : Kd (α × β) where
 sz := a.sz + b.sz
 E := a.E ++ b.E
 K := fun w x cs => ∃ c0 c1, cs = c0 ++ c1 ∧ a.K w x.1 c0 ∧ b.K w x.2 c1
 M := fun w base ok x cs => ∃ c0 c1, cs = c0 ++ c1 ∧ a.M w base ok x.1 c0 ∧ b.M w base ok x.2 c1
 K_len := by
  rintro w x cs ⟨c0, c1, rfl, h0, h1⟩
  rw [List.length_append, a.K_len h0, b.K_len h1]
 K_one := by
  rintro w x cs ⟨c0, c1, rfl, h0, h1⟩ u hu
  rcases List.mem_append.1 hu with hu | hu
  ·exact a.K_one h0 u hu
  ·exact b.K_one h1 u hu
 K_below := by
  rintro w w1 x cs hb ⟨c0, c1, rfl, h0, h1⟩
  exact ⟨c0, c1, rfl, a.K_below hb h0, b.K_below hb h1⟩
 K_of_M := by
  rintro w base ok x cs ⟨c0, c1, rfl, h0, h1⟩
  exact ⟨c0, c1, rfl, a.K_of_M h0, b.K_of_M h1⟩
 M_mono := by
  rintro w base ok ok' x cs hok ⟨c0, c1, rfl, h0, h1⟩
  exact ⟨c0, c1, rfl, a.M_mono hok h0, b.M_mono hok h1⟩
 M_bound := by
  rintro w base ok x cs ⟨c0, c1, rfl, h0, h1⟩
  refine ⟨c0, c1, rfl, a.M_mono ?_ (a.M_bound h0), b.M_mono ?_ (b.M_bound h1)⟩
  ·rintro k ⟨h2, h3, h4, q, hq, hc⟩
   exact ⟨h2, h3, h4, q, List.mem_append_left _ hq, hc⟩
  ·rintro k ⟨h2, h3, h4, q, hq, hc⟩
   exact ⟨h2, h3, h4, q, List.mem_append_right _ hq, hc⟩
 M_move := by
  rintro w w1 base ok x cs hm ⟨c0, c1, rfl, h0, h1⟩
  exact ⟨c0, c1, rfl, a.M_move hm h0, b.M_move hm h1⟩
 M_lower := by
  rintro w base base' ok x cs hb ⟨c0, c1, rfl, h0, h1⟩
  exact ⟨c0, c1, rfl, a.M_lower hb h0, b.M_lower hb h1⟩
def iso {α β : Type} (d : Kd α) (f : β → α) : Kd β where
 sz := d.sz
 E := d.E
 K := fun w x cs => d.K w (f x) cs
 M := fun w base ok x cs => d.M w base ok (f x) cs
 K_len := d.K_len
 K_one := d.K_one
 K_below := d.K_below
 K_of_M := d.K_of_M
 M_mono := d.M_mono
 M_bound := d.M_bound
 M_move := d.M_move
 M_lower := d.M_lower
def bot {α : Type} (sz : Nat) (E : List Nat) : Kd α where
 sz := sz
 E := E
 K := fun _ _ _ => False
 M := fun _ _ _ _ _ => False
 K_len := fun h => h.elim
 K_one := fun h => h.elim
 K_below := fun _ h => h
 K_of_M := fun h => h
 M_mono := fun _ h => h
 M_bound := fun h => h
 M_move := fun _ h => h
 M_lower := fun _ h => h
def upto {α : Type} (F : Kd α → Kd α) (sz : Nat) (E : List Nat) : Nat → Kd α
 | 0 => bot sz E
 | n + 1 => F (upto F sz E n)
def fix {α : Type} (F : Kd α → Kd α) (sz : Nat) (E : List Nat) (hs : ∀ n, (upto F sz E n).sz = sz) (hE : ∀ n q, q ∈ (upto F sz E n).E → q ∈ E) : Kd α where
 sz := sz
 E := E
 K := fun w x cs => ∃ n, (upto F sz E n).K w x cs
 M := fun w base ok x cs => ∃ n, (upto F sz E n).M w base ok x cs
 K_len := by
  rintro w x cs ⟨n, h⟩
  rw [(upto F sz E n).K_len h, hs n]
 K_one := by
  rintro w x cs ⟨n, h⟩
  exact (upto F sz E n).K_one h
 K_below := by
  rintro w w1 x cs hb ⟨n, h⟩
  exact ⟨n, (upto F sz E n).K_below hb h⟩
 K_of_M := by
  rintro w base ok x cs ⟨n, h⟩
  exact ⟨n, (upto F sz E n).K_of_M h⟩
 M_mono := by
  rintro w base ok ok' x cs hok ⟨n, h⟩
  exact ⟨n, (upto F sz E n).M_mono hok h⟩
 M_bound := by
  rintro w base ok x cs ⟨n, h⟩
  refine ⟨n, (upto F sz E n).M_mono ?_ ((upto F sz E n).M_bound h)⟩
  rintro k ⟨h2, h3, h4, q, hq, hc⟩
  exact ⟨h2, h3, h4, q, hE n q hq, hc⟩
 M_move := by
  rintro w w1 base ok x cs hm ⟨n, h⟩
  exact ⟨n, (upto F sz E n).M_move hm h⟩
 M_lower := by
  rintro w base base' ok x cs hb ⟨n, h⟩
  exact ⟨n, (upto F sz E n).M_lower hb h⟩
theorem C_get {α : Type} {d : Kd α} {w : World} {A : Option Addr} {n : Nat} {xs : List α} (h : d.C w A n xs) (z : α) (i : Int) (h0 : 0 ≤ i) (h1 : i < n) :
  ∃ ad c, A = some ad ∧ c.length = d.sz ∧ d.K w (xs.getD i.toNat z) c ∧ ∀ j u, c[j]? = some u → w.cell? (ad.add (i.toNat * d.sz + j)) = some u := ReadsRow.get_ h z i h0 h1
theorem R_appended {α : Type} {d : Kd α} {e base : Nat} {ok okp : Nat → Prop} {W w1 : World} {v v1 : Value} {xs : List α} {p : α} {inner cs : List Value} (h0 : ∀ k, v.ownBlock = some k → ok k) (hr : Reps (d.M W base (fun k => ok k ∧ some k ≠ v.ownBlock)) d.sz xs inner) (hp : d.M W base okp p cs) (hokp : ∀ k, okp k → ok k ∧ some k ≠ v.ownBlock) (hfresh : ∀ k, W.heap.size ≤ k → ok k)
  (hown : w1.ownsRow base e d.sz v1 (xs.length + 1) (inner ++ cs)) (hg : W.grownBy w1 v.ownBlock) (hat : v1.ownBlock = v.ownBlock ∨ ∃ b, v1.ownBlock = some b ∧ W.heap.size ≤ b) : d.R e w1 base ok v1 (xs ++ [p]) := by
 have hne : ∀ k, some k ≠ v.ownBlock → k < W.heap.size → some k ≠ v1.ownBlock := by
  intro k hk hlt
  rcases hat with hat | ⟨b, hb, hle⟩
  ·rw [hat]; exact hk
  ·rw [hb]
   intro he
   injection he with he
   omega
 have step : ∀ {q : α} {c : List Value} {o : Nat → Prop}, d.M W base o q c → (∀ k, o k → ok k ∧ some k ≠ v.ownBlock) → d.M w1 base (fun k => ok k ∧ some k ≠ v1.ownBlock) q c := by
  intro q c o hq ho
  have h1 := d.M_move (w1 := w1) (fun k hk => hg.block k hk.2.2.1 (ho k hk.1).2) (d.M_bound hq)
  exact d.M_mono (fun k hk => ⟨(ho k hk.1).1, hne k (ho k hk.1).2 hk.2.2.1⟩) h1
 refine ⟨fun k hk => ?_, inner ++ cs, by rw [List.length_append, List.length_singleton]; exact hown, ?_⟩
 ·rcases hat with hat | ⟨b, hb, hle⟩
  ·exact h0 k (hat ▸ hk)
  ·rw [hb] at hk
   injection hk with hk
   exact hfresh k (by omega)
 ·exact (hr.imp_ (fun _ _ hq => step hq (fun _ hk => hk))).snoc (step hp hokp) (d.K_len (d.K_of_M hp))
section
variable {P : Program} {ops : Array Oper} {rest : List Oper} {o : Oper} {a : Act} {Q : Exit → Act → World → Prop} {α : Type}
theorem R_append (d : Kd α) {w0 W : World} (base : Nat) (hgd : o.guard = none) (s x : Operand) (t e : TypeId) (z : Value) (bytes : Nat)
  (ho : o.op = .call { callee := .builtin .append, args := #[s, x], argTypes := #[t, t] })
  (ht : P.underlying t = some (.slice e)) (hinfo : (P.info? e).map (fun i => (i.zero, i.size, i.bytes)) = some (some z, d.sz, bytes)) (hz : z.cells.size = d.sz) (hs0 : 0 < d.sz) (hb0 : 0 < bytes)
  (v : Value) (xs : List α) (p : α) (cs : List Value) (ok okp : Nat → Prop) (hs : a.eval s = v) (hx : a.eval x = .slice (some ⟨W.heap.size, 0, none⟩) 1 1) (hp : d.M W base okp p cs) (hokp : ∀ k, okp k → ok k ∧ some k ≠ v.ownBlock) (hfresh : ∀ k, W.heap.size ≤ k → ok k)
  (HO : d.R e W base ok v xs) (HB : Below base w0 W) (hbase : base ≤ W.heap.size) (hl : (xs.length + 1) * bytes ≤ 140737488355328)
  (h : ∀ v1 w1, d.R e w1 base ok v1 (xs ++ [p]) → Below base w0 w1 → W.grownBy w1 v.ownBlock → (v1.ownBlock = v.ownBlock ∨ ∃ b, v1.ownBlock = some b ∧ W.heap.size ≤ b) → wpList P ops Q rest (a.put o.dst v1) w1) :
  wpList P ops Q (o :: rest) a (W.alloc (.cells cs.toArray e)) := by
 obtain ⟨h0, inner, hown, hr⟩ := HO
 refine print_append_cells base hgd s x t e z d.sz bytes ho ht hinfo hz hs0 hb0 v xs.length inner cs hs hx (d.K_len (d.K_of_M hp)) (d.K_one (d.K_of_M hp)) hown HB hbase hl ?_
 intro v1 w1 hown1 hb1 hg1 hat1
 exact h v1 w1 (R_appended h0 hr hp hokp hfresh hown1 hg1 hat1) hb1 hg1 hat1
end
section
variable {P : Program} {ops : Array Oper} {o : Oper} {a : Act} {Q : Exit → Act → World → Prop} {Kc : Act → World → Prop} {α : Type}
theorem R_append_step (d : Kd α) {w0 W : World} (base : Nat) (hw : Region.wanted o (yielded ops a.tmps) = true) (s x : Operand) (t e : TypeId) (z : Value) (bytes : Nat)
  (ho : o.op = .call { callee := .builtin .append, args := #[s, x], argTypes := #[t, t] })
  (ht : P.underlying t = some (.slice e)) (hinfo : (P.info? e).map (fun i => (i.zero, i.size, i.bytes)) = some (some z, d.sz, bytes)) (hz : z.cells.size = d.sz) (hs0 : 0 < d.sz) (hb0 : 0 < bytes)
  (v : Value) (xs : List α) (p : α) (cs : List Value) (ok okp : Nat → Prop) (hs : a.eval s = v) (hx : a.eval x = .slice (some ⟨W.heap.size, 0, none⟩) 1 1) (hp : d.M W base okp p cs) (hokp : ∀ k, okp k → ok k ∧ some k ≠ v.ownBlock) (hfresh : ∀ k, W.heap.size ≤ k → ok k)
  (HO : d.R e W base ok v xs) (HB : Below base w0 W) (hbase : base ≤ W.heap.size) (hl : (xs.length + 1) * bytes ≤ 140737488355328)
  (h : ∀ v1 w1, d.R e w1 base ok v1 (xs ++ [p]) → Below base w0 w1 → W.grownBy w1 v.ownBlock → (v1.ownBlock = v.ownBlock ∨ ∃ b, v1.ownBlock = some b ∧ W.heap.size ≤ b) → Kc (a.put o.dst v1) w1) :
  if Region.wanted o (yielded ops a.tmps) = true then Oper.wp P o a (W.alloc (.cells cs.toArray e)) Kc Q else Kc (a.put o.dst undef) (W.alloc (.cells cs.toArray e)) := by
 obtain ⟨h0, inner, hown, hr⟩ := HO
 refine step_append_cells base hw s x t e z d.sz bytes ho ht hinfo hz hs0 hb0 v xs.length inner cs hs hx (d.K_len (d.K_of_M hp)) (d.K_one (d.K_of_M hp)) hown HB hbase hl ?_
 intro v1 w1 hown1 hb1 hg1 hat1
 exact h v1 w1 (R_appended h0 hr hp hokp hfresh hown1 hg1 hat1) hb1 hg1 hat1
end
theorem reps_scalar {α : Type} {enc : α → Value} (xs : List α) : Reps (fun (x : α) (cs : List Value) => cs = [enc x]) 1 xs (encs enc xs) := by
 refine ⟨by simp [encs], fun j p hj => ?_⟩
 obtain ⟨hl, hp⟩ := List.getElem?_eq_some_iff.1 hj
 have hl' : j < (encs enc xs).length := by rw [encs_length]; exact hl
 rw [Nat.mul_one, List.drop_eq_getElem_cons hl']
 simp [encs, hp]
theorem R_of_own {α : Type} {enc : α → Value} {h1 : ∀ x, (enc x).oneCell' = true} {e : Nat} {w : World} {base : Nat} {ok : Nat → Prop} {v : Value} {xs : List α} (ho : w.ownsRow base e 1 v xs.length (encs enc xs)) (hok : ∀ k, v.ownBlock = some k → ok k) : (scalar enc h1).R e w base ok v xs := ⟨hok, encs enc xs, ho, reps_scalar xs⟩
theorem own_of_R {α : Type} {enc : α → Value} {h1 : ∀ x, (enc x).oneCell' = true} {e : Nat} {w : World} {base : Nat} {ok : Nat → Prop} {v : Value} {xs : List α} (h : (scalar enc h1).R e w base ok v xs) : w.ownsRow base e 1 v xs.length (encs enc xs) := by
 obtain ⟨_, inner, ho, hr⟩ := h
 have : inner = encs enc xs := by
  apply List.ext_getElem?
  intro j
  rcases Nat.lt_or_ge j xs.length with hj | hj
  ·have h2 := hr.2 j _ (List.getElem?_eq_getElem hj)
   have hl : j < inner.length := by have := hr.1; simp [scalar] at this; omega
   have h3 : (inner.drop (j * 1)).take 1 = [enc xs[j]] := h2
   rw [Nat.mul_one, List.drop_eq_getElem_cons hl] at h3
   have h4 : inner[j] = enc xs[j] := by
    have h5 := congrArg List.head? h3
    rw [List.take_succ_cons] at h5
    exact Option.some.inj h5
   rw [List.getElem?_eq_getElem hl, h4]
   simp [encs, List.getElem?_eq_getElem hj]
  ·have h3 : inner.length = xs.length := by have := hr.1; simp [scalar] at this; omega
   rw [List.getElem?_eq_none (by omega), List.getElem?_eq_none (by rw [encs_length]; omega)]
 rw [← this]
 exact ho
theorem reads_of_C {α : Type} {enc : α → Value} {d : α} {h1 : ∀ x, (enc x).oneCell' = true} {w : World} {A : Option Addr} {n : Nat} {xs : List α} (h : (scalar enc h1).C w A n xs) : ReadsOf enc d w A n xs := by
 refine ⟨h.1, h.2.1, fun hn => ?_⟩
 obtain ⟨ad, e, hc⟩ := h.2.2 hn
 refine ⟨ad, e, fun j hj => ?_⟩
 have hl : j < xs.length := by have := h.1; omega
 obtain ⟨c, _, hK, hcell⟩ := hc j _ (List.getElem?_eq_getElem hl)
 have hK' : c = [enc xs[j]] := hK
 subst hK'
 have := hcell 0 _ rfl
 simpa [scalar, List.getD_eq_getElem?_getD, List.getElem?_eq_getElem hl] using this
end Kd
namespace Kd
structure Mono {α β : Type} (F : Kd α → Kd β) : Prop where
 sz : ∀ d d' : Kd α, d.sz = d'.sz → (F d).sz = (F d').sz
 K : ∀ d d' : Kd α, d.sz = d'.sz → (∀ w x cs, d.K w x cs → d'.K w x cs) → ∀ w x cs, (F d).K w x cs → (F d').K w x cs
 M : ∀ d d' : Kd α, d.sz = d'.sz → (∀ w base ok x cs, d.M w base ok x cs → d'.M w base ok x cs) → ∀ w base ok x cs, (F d).M w base ok x cs → (F d').M w base ok x cs
theorem mono_const {α β : Type} (k : Kd β) : Mono (fun _ : Kd α => k) := ⟨fun _ _ _ => rfl, fun _ _ _ _ _ _ _ h => h, fun _ _ _ _ _ _ _ _ _ h => h⟩
theorem mono_id {α : Type} : Mono (fun d : Kd α => d) := ⟨fun _ _ h => h, fun _ _ _ h => h, fun _ _ _ h => h⟩
theorem C_imp {α : Type} {d d' : Kd α} (hs : d.sz = d'.sz) (h : ∀ w x cs, d.K w x cs → d'.K w x cs) {w : World} {A : Option Addr} {n : Nat} {xs : List α} (hc : d.C w A n xs) : d'.C w A n xs := by
 unfold C at hc ⊢
 rw [← hs]
 exact hc.imp_ (Below.refl _ _) (fun _ _ hp => h _ _ _ hp)
theorem R_imp {α : Type} {d d' : Kd α} (hs : d.sz = d'.sz) (h : ∀ w base ok x cs, d.M w base ok x cs → d'.M w base ok x cs) {e : Nat} {w : World} {base : Nat} {ok : Nat → Prop} {v : Value} {xs : List α} (hr : d.R e w base ok v xs) : d'.R e w base ok v xs := by
 unfold R at hr ⊢
 rw [← hs]
 exact ⟨hr.1, hr.2.imp_ (fun _ _ hp => h _ _ _ _ _ hp)⟩
theorem mono_slice {α β : Type} (e : Nat) {G : Kd α → Kd β} (hG : Mono G) : Mono (fun d => slice e (G d)) := by
 refine ⟨fun _ _ _ => rfl, ?_, ?_⟩
 ·rintro d d' hs h w x cs ⟨A, c, rfl, hl, hr⟩
  exact ⟨A, c, rfl, hl, C_imp (hG.sz d d' hs) (hG.K d d' hs h) hr⟩
 ·rintro d d' hs h w base ok x cs ⟨v, rfl, hr⟩
  exact ⟨v, rfl, R_imp (hG.sz d d' hs) (hG.M d d' hs h) hr⟩
theorem mono_pair {α β γ : Type} {G : Kd α → Kd β} {H : Kd α → Kd γ} (hG : Mono G) (hH : Mono H) : Mono (fun d => pair (G d) (H d)) := by
 refine ⟨fun d d' hs => ?_, ?_, ?_⟩
 ·show (G d).sz + (H d).sz = (G d').sz + (H d').sz
  rw [hG.sz d d' hs, hH.sz d d' hs]
 ·rintro d d' hs h w x cs ⟨c0, c1, rfl, h0, h1⟩
  exact ⟨c0, c1, rfl, hG.K d d' hs h _ _ _ h0, hH.K d d' hs h _ _ _ h1⟩
 ·rintro d d' hs h w base ok x cs ⟨c0, c1, rfl, h0, h1⟩
  exact ⟨c0, c1, rfl, hG.M d d' hs h _ _ _ _ _ h0, hH.M d d' hs h _ _ _ _ _ h1⟩
theorem mono_iso {α β γ : Type} {G : Kd α → Kd β} (f : γ → β) (hG : Mono G) : Mono (fun d => iso (G d) f) :=
 ⟨hG.sz, fun d d' hs h w x cs => hG.K d d' hs h w (f x) cs, fun d d' hs h w base ok x cs => hG.M d d' hs h w base ok (f x) cs⟩
def Sub {α β : Type} (F : Kd α → Kd β) (E : List Nat) : Prop := ∀ d : Kd α, (∀ q, q ∈ d.E → q ∈ E) → ∀ q, q ∈ (F d).E → q ∈ E
theorem sub_const {α β : Type} {E : List Nat} (k : Kd β) (h : ∀ q, q ∈ k.E → q ∈ E) : Sub (fun _ : Kd α => k) E := fun _ _ => h
theorem sub_id {α : Type} {E : List Nat} : Sub (fun d : Kd α => d) E := fun _ h => h
theorem sub_slice {α β : Type} {E : List Nat} (e : Nat) {G : Kd α → Kd β} (he : e ∈ E) (hG : Sub G E) : Sub (fun d => slice e (G d)) E := fun d h q hq => by
 rcases List.mem_cons.1 hq with rfl | hq
 ·exact he
 ·exact hG d h q hq
theorem sub_pair {α β γ : Type} {E : List Nat} {G : Kd α → Kd β} {H : Kd α → Kd γ} (hG : Sub G E) (hH : Sub H E) : Sub (fun d => pair (G d) (H d)) E := fun d h q hq => by
 rcases List.mem_append.1 hq with hq | hq
 ·exact hG d h q hq
 ·exact hH d h q hq
theorem sub_iso {α β γ : Type} {E : List Nat} {G : Kd α → Kd β} (f : γ → β) (hG : Sub G E) : Sub (fun d => iso (G d) f) E := hG
theorem upto_E {α : Type} {F : Kd α → Kd α} {sz : Nat} {E : List Nat} (h : Sub F E) : ∀ n q, q ∈ (upto F sz E n).E → q ∈ E
 | 0, _, hq => hq
 | n + 1, q, hq => h _ (upto_E h n) q hq
theorem upto_sz {α : Type} {F : Kd α → Kd α} {sz : Nat} {E : List Nat} (h : ∀ d : Kd α, (F d).sz = sz) : ∀ n, (upto F sz E n).sz = sz
 | 0 => rfl
 | _ + 1 => h _
section
variable {α : Type} {F : Kd α → Kd α} {sz : Nat} {E : List Nat} {hs : ∀ n, (upto F sz E n).sz = sz} {hE : ∀ n q, q ∈ (upto F sz E n).E → q ∈ E}
theorem upto_K (hm : Mono F) (hs : ∀ n, (upto F sz E n).sz = sz) : ∀ n {w x cs}, (upto F sz E n).K w x cs → (upto F sz E (n + 1)).K w x cs
 | 0, _, _, _, h => h.elim
 | n + 1, _, _, _, h => hm.K _ _ (by rw [hs n, hs (n + 1)]) (fun _ _ _ hk => upto_K hm hs n hk) _ _ _ h
theorem upto_M (hm : Mono F) (hs : ∀ n, (upto F sz E n).sz = sz) : ∀ n {w base ok x cs}, (upto F sz E n).M w base ok x cs → (upto F sz E (n + 1)).M w base ok x cs
 | 0, _, _, _, _, _, h => h.elim
 | n + 1, _, _, _, _, _, h => hm.M _ _ (by rw [hs n, hs (n + 1)]) (fun _ _ _ _ _ hk => upto_M hm hs n hk) _ _ _ _ _ h
theorem upto_K_le (hm : Mono F) (hs : ∀ n, (upto F sz E n).sz = sz) {n m : Nat} (hnm : n ≤ m) {w x cs} (h : (upto F sz E n).K w x cs) : (upto F sz E m).K w x cs := by
 obtain ⟨j, rfl⟩ := Nat.exists_eq_add_of_le hnm
 induction j with
 | zero => exact h
 | succ j ih => exact upto_K hm hs _ (ih (by omega))
theorem upto_M_le (hm : Mono F) (hs : ∀ n, (upto F sz E n).sz = sz) {n m : Nat} (hnm : n ≤ m) {w base ok x cs} (h : (upto F sz E n).M w base ok x cs) : (upto F sz E m).M w base ok x cs := by
 obtain ⟨j, rfl⟩ := Nat.exists_eq_add_of_le hnm
 induction j with
 | zero => exact h
 | succ j ih => exact upto_M hm hs _ (ih (by omega))
theorem fix_C {n : Nat} {w : World} {A : Option Addr} {m : Nat} {xs : List α} (h : (upto F sz E n).C w A m xs) : (fix F sz E hs hE).C w A m xs := C_imp (d' := fix F sz E hs hE) (hs n) (fun w x cs hp => (⟨n, hp⟩ : ∃ n, (upto F sz E n).K w x cs)) h
theorem bounded {P : Nat → Nat → Prop} (hP : ∀ n m j, n ≤ m → P n j → P m j) : ∀ m, (∀ j, j < m → ∃ n, P n j) → ∃ N, ∀ j, j < m → P N j
 | 0, _ => ⟨0, fun j hj => absurd hj (Nat.not_lt_zero j)⟩
 | m + 1, h => by
  obtain ⟨N, hN⟩ := bounded hP m (fun j hj => h j (by omega))
  obtain ⟨n, hn⟩ := h m (by omega)
  refine ⟨max N n, fun j hj => ?_⟩
  rcases Nat.lt_or_ge j m with hj' | hj'
  ·exact hP N _ j (Nat.le_max_left _ _) (hN j hj')
  ·have : j = m := by omega
   subst this
   exact hP n _ j (Nat.le_max_right _ _) hn
theorem reps_bounded {α : Type} {R : Nat → α → List Value → Prop} (hR : ∀ n m p c, n ≤ m → R n p c → R m p c) {size : Nat} {ps : List α} {cs : List Value} (h : Reps (fun p c => ∃ n, R n p c) size ps cs) : ∃ N, Reps (R N) size ps cs := by
  obtain ⟨N, hN⟩ := bounded (P := fun n j => ∀ p, ps[j]? = some p → R n p ((cs.drop (j * size)).take size)) (fun n m j hnm hp p hj => hR n m p _ hnm (hp p hj)) ps.length
    (fun j hj => by
      obtain ⟨n, hn⟩ := h.2 j _ (List.getElem?_eq_getElem hj)
      refine ⟨n, fun p hp => ?_⟩
      rw [List.getElem?_eq_getElem hj] at hp
      injection hp with hp
      rw [← hp]
      exact hn)
  exact ⟨N, h.1, fun j p hj => hN j (List.getElem?_eq_some_iff.1 hj).1 p hj⟩
theorem fix_R_back (hm : Mono F) {e : Nat} {w : World} {base : Nat} {ok : Nat → Prop} {v : Value} {xs : List α} (h : (fix F sz E hs hE).R e w base ok v xs) : ∃ n, (upto F sz E n).R e w base ok v xs := by
 obtain ⟨h0, inner, ho, hr⟩ := h
 obtain ⟨N, hN⟩ := reps_bounded (R := fun n p c => (upto F sz E n).M w base (fun k => ok k ∧ some k ≠ v.ownBlock) p c) (fun n m p c hnm hp => upto_M_le hm hs hnm hp) hr
 refine ⟨N, h0, inner, ?_, ?_⟩
 ·rw [hs N]; exact ho
 ·rw [hs N]; exact hN
theorem fix_C_back (hm : Mono F) {w : World} {A : Option Addr} {m : Nat} {xs : List α} (h : (fix F sz E hs hE).C w A m xs) : ∃ n, (upto F sz E n).C w A m xs := by
  rcases Nat.eq_zero_or_pos m with hz | hpos
  · subst hz
    exact ⟨0, h.1, h.2.1, fun hp => absurd hp (Nat.lt_irrefl 0)⟩
  · obtain ⟨ad, e, hc⟩ := h.2.2 hpos
    obtain ⟨N, hN⟩ := bounded (P := fun n j => ∀ p, xs[j]? = some p → ∃ c, c.length = sz ∧ (upto F sz E n).K w p c ∧ ∀ i u, c[i]? = some u → w.cell? (ad.add (j * sz + i)) = some u)
      (fun n n' j hnm hp p hj => by
        obtain ⟨c, h1, h2, h3⟩ := hp p hj
        exact ⟨c, h1, upto_K_le hm hs hnm h2, h3⟩) xs.length
      (fun j hj => by
        obtain ⟨c, h1, ⟨n, h2⟩, h3⟩ := hc j _ (List.getElem?_eq_getElem hj)
        refine ⟨n, fun p hp => ?_⟩
        rw [List.getElem?_eq_getElem hj] at hp
        injection hp with hp
        rw [← hp]
        exact ⟨c, h1, h2, h3⟩)
    refine ⟨N, h.1, h.2.1, fun _ => ⟨ad, e, fun j p hj => ?_⟩⟩
    rw [hs N]
    exact hN j (List.getElem?_eq_some_iff.1 hj).1 p hj
theorem upto_R_le (hm : Mono F) (hs : ∀ n, (upto F sz E n).sz = sz) {n m : Nat} (hnm : n ≤ m) {e : Nat} {w : World} {base : Nat} {ok : Nat → Prop} {v : Value} {xs : List α} (h : (upto F sz E n).R e w base ok v xs) : (upto F sz E m).R e w base ok v xs := R_imp (by rw [hs n, hs m]) (fun _ _ _ _ _ hp => upto_M_le hm hs hnm hp) h
theorem upto_C_le (hm : Mono F) (hs : ∀ n, (upto F sz E n).sz = sz) {n m : Nat} (hnm : n ≤ m) {w : World} {A : Option Addr} {l : Nat} {xs : List α} (h : (upto F sz E n).C w A l xs) : (upto F sz E m).C w A l xs := C_imp (by rw [hs n, hs m]) (fun _ _ _ hp => upto_K_le hm hs hnm hp) h
end
end Kd
namespace Kd
end Kd
namespace Kd
section
variable {α β : Type} {d : Kd α} {d' : Kd β} {e e' : Nat} {w w1 W : World} {base b b' : Nat} {ok ok' okv oku : Nat → Prop} {v u : Value} {xs : List α} {ys : List β}
theorem R_alloc (h : d.R e w base ok v xs) (o : Obj) : d.R e (w.alloc o) base ok v xs := R_below h (below_alloc (Below.refl _ _) o)
theorem R_drew (h : d.R e w base ok v xs) : d.R e w.drew base ok v xs := R_below h (below_drew (Below.refl _ _))
theorem R_drewN (h : d.R e w base ok v xs) (m : Nat) : d.R e (w.drewN m) base ok v xs := R_below h (pw_below_drewN (Below.refl _ _) m)
theorem C_alloc {A : Option Addr} {n : Nat} (h : d.C w A n xs) (o : Obj) : d.C (w.alloc o) A n xs := C_below h (below_alloc (Below.refl _ _) o)
theorem C_drew {A : Option Addr} {n : Nat} (h : d.C w A n xs) : d.C w.drew A n xs := C_below h (below_drew (Below.refl _ _))
theorem C_drewN {A : Option Addr} {n : Nat} (h : d.C w A n xs) (m : Nat) : d.C (w.drewN m) A n xs := C_below h (pw_below_drewN (Below.refl _ _) m)
theorem C_nil (d : Kd α) (w : World) : d.C w none ([] : List α).length [] := ⟨rfl, by simp, fun h => absurd h (Nat.lt_irrefl 0)⟩
theorem R_reads' {A : Option Addr} {n c : Nat} (h : d.R e w base ok (.slice A n c) xs) : n = xs.length ∧ n ≤ c ∧ d.C w A xs.length xs := by
 obtain ⟨A', c', he, hl, hr⟩ := R_reads h
 injection he with h1 h2 h3
 subst h1
 exact ⟨h2, by omega, hr⟩
theorem R_lt (h : d.R e w base ok v xs) : ∀ k, v.ownBlock = some k → k < w.heap.size := by
 obtain ⟨inner, ho⟩ := R_own h
 exact own_lt ho
theorem R_base (h : d.R e w base ok v xs) : ∀ k, v.ownBlock = some k → base ≤ k := by
 obtain ⟨inner, ho⟩ := R_own h
 exact own_base ho
theorem R_away (h : d.R e w base ok v xs) {g : Nat} (hok : ∀ k, ok k → k ≠ g) : some g ≠ v.ownBlock := fun e => hok g (h.1 g e.symm) rfl
end
section
variable {w W : World} {A : Option Addr} {n : Nat}
theorem at_int {k : IntKind} {xs : List Int} (h : (Kd.int k).C w A n xs) (i : Int) (h0 : 0 ≤ i) (h1 : i < n) : ∃ ad, A = some ad ∧ w.cell? (ad.add i.toNat) = some (.int k (rd xs i)) :=
 ReadsOf.at_ (reads_of_C (enc := Value.int k) (d := (0 : Int)) (h1 := fun _ => rfl) h) i h0 h1
variable {α : Type} {enc : α → Value} {h1 : ∀ x, (enc x).oneCell' = true} {e base g cap : Nat} {ok : Nat → Prop} {xs : List α}
theorem R_cell (d : α) (h : (scalar enc h1).R e W base ok (.slice (some ⟨g, 0, none⟩) xs.length cap) xs) (i : Int) (h0 : 0 ≤ i) (hi : i < xs.length) : W.cell? ⟨g, i.toNat, none⟩ = some (enc (rdOf d xs i)) ∧ W.frozen? ⟨g, i.toNat, none⟩ = false := own_at_of (own_of_R h) i h0 hi
theorem R_put (h : (scalar enc h1).R e W base ok (.slice (some ⟨g, 0, none⟩) xs.length cap) xs) (i : Int) (x : α) : (scalar enc h1).R e (W.setCell ⟨g, i.toNat, none⟩ (enc x)) base ok (.slice (some ⟨g, 0, none⟩) xs.length cap) (xs.set i.toNat x) ∧ W.grownBy (W.setCell ⟨g, i.toNat, none⟩ (enc x)) (some g) := by
 obtain ⟨ho, hg⟩ := own_store_of (own_of_R h) i x
 exact ⟨R_of_own (by rw [List.length_set]; exact ho) h.1, hg⟩
end
section
variable {P : Program} {ops : Array Oper} {rest : List Oper} {o : Oper} {a : Act} {Q : Exit → Act → World → Prop}
theorem event_run {W w1 : World} {v : Value} (hgd : o.guard = none) (hrun : (execOp a.eval o).run P W = .ok (.value v) w1) (h : wpList P ops Q rest (a.put o.dst v) w1) : wpList P ops Q (o :: rest) a W := by
 refine wpList_plain hgd fun K hK => ?_
 unfold Oper.wp
 rw [hrun]
 exact hK _ _ h
variable {α : Type}
theorem reps_made {α : Type} {R : α → List Value → Prop} {z : Value} {size : Nat} {z0 : α} (hz : z.cells.size = size) (hs : 0 < size) (h0 : R z0 z.cells.toList) (m : Nat) : Reps R size (List.replicate m z0) (madeCells z.cells (m * size)).toList := by
 refine ⟨by simp [size_madeCells], fun j p hj => ?_⟩
 obtain ⟨hjl, hp⟩ := List.getElem?_eq_some_iff.1 hj
 have hjm : j < m := by simpa using hjl
 have hp' : z0 = p := by simpa using hp
 subst hp'
 have hle : j * size + size ≤ m * size := by rw [← Nat.succ_mul]; exact Nat.mul_le_mul_right _ hjm
 have : ((madeCells z.cells (m * size)).toList.drop (j * size)).take size = z.cells.toList := by
  apply List.ext_getElem
  ·simp [size_madeCells, hz]
   omega
  ·intro i h1 h2
   have hi : i < size := by rw [Array.length_toList, hz] at h2; exact h2
   have hmod : (j * size + i) % size = i := by
    rw [Nat.mul_comm, Nat.mul_add_mod]
    exact Nat.mod_eq_of_lt hi
   simp [madeCells, hz, hmod]
   rw [getElem!_pos z.cells i (by omega)]
 rw [this]
 exact h0
end
end Kd
section
variable {P : Program}
end
def QRow (w : World) (base : Nat) (e : TypeId) (size : Nat) (v : Value) (n : Nat) (xs : List Value) : Prop :=
 xs.length = n * size ∧
 ((n = 0 ∧ ∃ A, v = .slice A 0 0 ∧ ∀ a, A = some a → base ≤ a.block ∧ ∃ cur, w.heap[a.block]? = some (.cells cur e (0, 0))) ∨
  ∃ g off cap cur, v = .slice (some ⟨g, off * size, none⟩) n cap ∧ base ≤ g ∧ w.heap[g]? = some (.cells cur e (0, 0)) ∧ n ≤ cap ∧ off + cap ≤ maxLen ∧ cur.size = (off + cap) * size ∧ (cur.toList.drop (off * size)).take (n * size) = xs)
section
variable {w w1 : World} {base n size : Nat} {e : TypeId} {v : Value} {xs : List Value}
theorem q_of_own (h : w.ownsRow base e size v n xs) : QRow w base e size v n xs := by
 obtain ⟨h1, h2⟩ := h
 refine ⟨h1, ?_⟩
 rcases h2 with ⟨rfl, h0⟩ | ⟨g, cap, cur, rfl, hb, hh, hnc, hcm, hcs, ht⟩
 ·exact .inl ⟨h0, none, rfl, fun a ha => by cases ha⟩
 ·exact .inr ⟨g, 0, cap, cur, by rw [Nat.zero_mul], hb, hh, hnc, by rw [Nat.zero_add]; exact hcm, by rw [Nat.zero_add]; exact hcs, by rw [Nat.zero_mul, List.drop_zero]; exact ht⟩
theorem setCells_far {g : Nat} : ∀ (vs : List Value) (o : Nat) {w : World} (k : Nat), k ≠ g → (w.setCells g o vs).heap[k]? = w.heap[k]?
 | [], _, _, _, _ => rfl
 | v :: r, o, w, k, hk => by
  rw [World.setCells, setCells_far r (o + 1) k hk]
  exact Below.heap_setCell w ⟨g, o, none⟩ v k hk
theorem setCells_same (g : Nat) : ∀ (vs : List Value) (o : Nat) (w : World), (w.setCells g o vs).os = w.os ∧ (w.setCells g o vs).tape = w.tape ∧ (w.setCells g o vs).output = w.output ∧ (w.setCells g o vs).heap.size = w.heap.size
 | [], _, _ => ⟨rfl, rfl, rfl, rfl⟩
 | v :: r, o, w => by
  obtain ⟨h1, h2, h3, h4⟩ := setCells_same g r (o + 1) (w.setCell ⟨g, o, none⟩ v)
  rw [World.setCells]
  exact ⟨h1, h2, h3, by rw [h4]; simp [World.setCell]⟩
theorem setCells_row {g : Nat} {e : TypeId} : ∀ (vs : List Value) (o : Nat) (w : World) (cur : Array Value), w.heap[g]? = some (.cells cur e (0, 0)) → o + vs.length ≤ cur.size →
  ∃ cur', (w.setCells g o vs).heap[g]? = some (.cells cur' e (0, 0)) ∧ cur'.size = cur.size ∧ cur'.toList = cur.toList.take o ++ vs ++ cur.toList.drop (o + vs.length)
 | [], o, w, cur, h, _ => ⟨cur, h, rfl, by simp⟩
 | v :: r, o, w, cur, h, hl => by
  have h2 := blk_set h o v
  simp only [List.length_cons] at hl
  obtain ⟨cur', h3, h4, h5⟩ := setCells_row r (o + 1) (w.setCell ⟨g, o, none⟩ v) _ h2 (by simp; omega)
  refine ⟨cur', h3, by rw [h4]; simp, ?_⟩
  rw [h5, Array.toList_setIfInBounds]
  have ho : o < cur.toList.length := by rw [Array.length_toList]; omega
  rw [List.take_set, List.drop_set_of_lt (by omega)]
  simp only [List.length_cons]
  rw [show o + 1 + r.length = o + (r.length + 1) by omega]
  congr 1
  rw [List.take_succ_eq_append_getElem ho, List.set_append_right _ _ (by rw [List.length_take]; omega)]
  have ho' : o < cur.size := by omega
  simp [Nat.min_eq_left (Nat.le_of_lt ho')]
end
section
variable {P : Program}
end
namespace Kd
def Q {α : Type} (d : Kd α) (e : Nat) (w : World) (base : Nat) (ok : Nat → Prop) (v : Value) (xs : List α) : Prop :=
 (∀ k, v.ownBlock = some k → ok k) ∧ ∃ inner, QRow w base e d.sz v xs.length inner ∧ Reps (d.M w base (fun k => ok k ∧ some k ≠ v.ownBlock)) d.sz xs inner
section
variable {α : Type} {d : Kd α} {e : Nat} {w w1 W : World} {base : Nat} {ok ok' : Nat → Prop} {v : Value} {xs : List α}
theorem Q_of_R (h : d.R e w base ok v xs) : d.Q e w base ok v xs := by
 obtain ⟨h0, inner, ho, hr⟩ := h
 exact ⟨h0, inner, q_of_own ho, hr⟩
theorem Q_nil (d : Kd α) (e : Nat) (w : World) (base : Nat) (ok : Nat → Prop) : d.Q e w base ok (.slice none 0 0) [] := Q_of_R (R_nil d e w base ok)
end
section
variable {P : Program} {ops : Array Oper} {rest : List Oper} {o : Oper} {a : Act} {Q' : Exit → Act → World → Prop} {Kc : Act → World → Prop} {α : Type}
end
end Kd
namespace Kd
section
variable {α : Type} {d : Kd α} {e e' : Nat} {w w1 W : World} {base : Nat} {ok : Nat → Prop} {u v : Value} {xs : List α}
theorem R_typed (h : d.R e w base ok v xs) : ∀ k, v.ownBlock = some k → ∃ cells, w.heap[k]? = some (.cells cells e (0, 0)) := by
 obtain ⟨inner, ho⟩ := R_own h
 exact fun k hk => own_typed ho k hk
theorem R_over' (h : d.R e W base ok u xs) (hty : ∀ k, v.ownBlock = some k → ∃ cells, W.heap[k]? = some (.cells cells e' (0, 0))) (ht : ∀ q, q ∈ e :: d.E → q ≠ e') (hg : W.grownBy w1 v.ownBlock) : d.R e w1 base ok u xs := by
 refine R_mono (R_move (R_bound h) (fun k hk => hg.block k hk.2.2.1 (fun he => ?_))) (fun _ hk => hk.1)
 obtain ⟨_, _, _, q, hq, cells, hc⟩ := hk
 obtain ⟨cells', hc'⟩ := hty k he.symm
 rw [hc] at hc'
 injection hc' with hc'
 injection hc' with _ hc'
 exact ht q hq hc'
theorem R_apart' (h : d.R e W base ok u xs) (hty : ∀ k, v.ownBlock = some k → ∃ cells, W.heap[k]? = some (.cells cells e' (0, 0))) (ht : ∀ q, q ∈ e :: d.E → q ≠ e') : d.R e W base (fun k => ok k ∧ some k ≠ v.ownBlock) u xs := by
 refine R_mono (R_bound h) (fun k hk => ⟨hk.1, fun he => ?_⟩)
 obtain ⟨_, _, _, q, hq, cells, hc⟩ := hk
 obtain ⟨cells', hc'⟩ := hty k he.symm
 rw [hc] at hc'
 injection hc' with hc'
 injection hc' with _ hc'
 exact ht q hq hc'
theorem R_elder' (hu : d.R e W base ok u xs) (hbase : ∀ k, v.ownBlock = some k → W.heap.size ≤ k) (hb : Below W.heap.size W w1) : d.R e w1 base (fun k => ok k ∧ some k ≠ v.ownBlock) u xs :=
 R_mono (R_move (R_bound hu) (fun k hk => hb.block k hk.2.2.1)) (fun k hk => ⟨hk.1, fun he => by have := hbase k he.symm; have := hk.2.2.1; omega⟩)
theorem R_new' (h : d.R e w1 W.heap.size ok v xs) (hlt : ∀ k, u.ownBlock = some k → k < W.heap.size) : d.R e w1 W.heap.size (fun k => ok k ∧ some k ≠ u.ownBlock) v xs :=
 R_mono (R_bound h) (fun k hk => ⟨hk.1, fun he => by have := hlt k he.symm; have := hk.2.1; omega⟩)
theorem fresh' (hlt : ∀ k, u.ownBlock = some k → k < W.heap.size) : ∀ k, W.heap.size ≤ k → some k ≠ u.ownBlock := fun k hk he => by have := hlt k he.symm; omega
end
end Kd
namespace Kd
section
variable {α : Type} {d : Kd α} {e base g n cap : Nat} {ok okp : Nat → Prop} {W : World} {xs : List α}
end
end Kd
namespace Kd
section
variable {α : Type} {F : Kd α → Kd α} {sz : Nat} {E : List Nat} {hs : ∀ n, (upto F sz E n).sz = sz} {hE : ∀ n q, q ∈ (upto F sz E n).E → q ∈ E}
end
end Kd
namespace Kd
theorem reps_append {α : Type} {R : α → List Value → Prop} {size : Nat} {ps qs : List α} {cs ds : List Value} (h : Reps R size ps cs) (h' : Reps R size qs ds) : Reps R size (ps ++ qs) (cs ++ ds) := by
 refine ⟨by rw [List.length_append, List.length_append, h.1, h'.1, Nat.add_mul], fun j p hj => ?_⟩
 rcases Nat.lt_or_ge j ps.length with hlt | hge
 ·rw [List.getElem?_append_left hlt] at hj
  have hle : j * size + size ≤ cs.length := by rw [h.1, ← Nat.succ_mul]; exact Nat.mul_le_mul_right _ hlt
  rw [List.drop_append_of_le_length (by omega), List.take_append_of_le_length (by rw [List.length_drop]; omega)]
  exact h.2 j p hj
 ·rw [List.getElem?_append_right hge] at hj
  have h2 := h'.2 (j - ps.length) p hj
  have hle : ps.length * size ≤ j * size := Nat.mul_le_mul_right _ hge
  rw [List.drop_append, List.drop_eq_nil_of_le (by rw [h.1]; exact hle), List.nil_append, h.1, ← Nat.sub_mul]
  exact h2
section
variable {P : Program} {ops : Array Oper} {rest : List Oper} {o : Oper} {a : Act} {Q : Exit → Act → World → Prop} {α : Type}
theorem R_append_rows (d : Kd α) {Rr : α → List Value → Prop} {w0 W : World} (base : Nat) (hgd : o.guard = none) (s x : Operand) (t e : TypeId) (z : Value) (bytes : Nat)
  (ho : o.op = .call { callee := .builtin .append, args := #[s, x], argTypes := #[t, t] })
  (ht : P.underlying t = some (.slice e)) (hinfo : (P.info? e).map (fun i => (i.zero, i.size, i.bytes)) = some (some z, d.sz, bytes)) (hz : z.cells.size = d.sz) (hs0 : 0 < d.sz) (hb0 : 0 < bytes)
  (v : Value) (xs ys : List α) (A : Option Addr) (m c : Nat) (ok okp : Nat → Prop) (hs : a.eval s = v) (hx : a.eval x = .slice A m c)
  (HO : d.R e W base ok v xs) (HR : ReadsRow Rr d.sz W A m ys) (hKM : ∀ x cs, Rr x cs → d.M W base okp x cs) (hokp : ∀ k, okp k → ok k ∧ some k ≠ v.ownBlock) (hfresh : ∀ k, W.heap.size ≤ k → ok k)
  (HB : Below base w0 W) (hbase : base ≤ W.heap.size) (hl : (xs.length + m) * bytes ≤ 140737488355328)
  (h : ∀ v1 w1, d.R e w1 base ok v1 (xs ++ ys) → Below base w0 w1 → W.grownBy w1 v.ownBlock → (v1.ownBlock = v.ownBlock ∨ ∃ b, v1.ownBlock = some b ∧ W.heap.size ≤ b) → wpList P ops Q rest (a.put o.dst v1) w1) :
  wpList P ops Q (o :: rest) a W := by
 obtain ⟨i0, hi, hzz⟩ := Option.map_eq_some_iff.1 hinfo
 simp only [Prod.mk.injEq] at hzz
 obtain ⟨hz0, hz1, hz2⟩ := hzz
 have hm : ys.length = m := HR.1
 have hlen : xs.length + m ≤ 140737488355328 := Nat.le_trans (Nat.le_mul_of_pos_right _ hb0) hl
 obtain ⟨hok, inner, hown, hr⟩ := HO
 have hrun : ∃ v1 w1, (Builtin.append_ #[t, t] o.type #[v, .slice A m c]).run P W = .ok v1 w1 ∧ d.R e w1 base ok v1 (xs ++ ys) ∧ W.grownBy w1 v.ownBlock ∧ (v1.ownBlock = v.ownBlock ∨ ∃ b, v1.ownBlock = some b ∧ W.heap.size ≤ b) := by
  rcases A with _ | ad
  ·have h0 : m = 0 := by
    rcases Nat.eq_zero_or_pos m with h0 | h0
    ·exact h0
    ·obtain ⟨ad, h, _⟩ := HR.2.2 h0
     cases h
   subst h0
   obtain rfl : ys = [] := List.eq_nil_of_length_eq_zero hm
   refine ⟨v, W, ?_, by rw [List.append_nil]; exact ⟨hok, inner, hown, hr⟩, World.grownBy.refl W _, .inl rfl⟩
   rcases hown.2 with ⟨rfl, hn⟩ | ⟨g, cap, cur, rfl, _, _, hnc, _⟩
   ·simp [Builtin.append_, run_underlying ht, sizeOf, typeInfo, hi, Builtin.lenOf, Builtin.firstCells]
   ·simp [Builtin.append_, run_underlying ht, sizeOf, typeInfo, hi, Builtin.lenOf, Builtin.firstCells, hnc, storeCells]
  ·obtain ⟨news, hnr, hnc⟩ := ReadsRow.inner_ HR
   have hnM : Reps (d.M W base okp) d.sz ys news := hnr.imp_ (fun p c hp => hKM p c hp)
   have hone : ∀ u ∈ news, u.oneCell' = true := by
    intro u hu
    obtain ⟨q, hq, rfl⟩ := List.mem_iff_getElem.1 hu
    have hql : q / d.sz < ys.length := by
     rw [Nat.div_lt_iff_lt_mul hs0]
     rw [← hnM.1]
     exact hq
    have hc := hnM.2 (q / d.sz) _ (List.getElem?_eq_getElem hql)
    refine d.K_one (d.K_of_M hc) _ ?_
    rw [List.mem_iff_getElem?]
    refine ⟨q % d.sz, ?_⟩
    rw [List.getElem?_take, if_pos (Nat.mod_lt _ hs0), List.getElem?_drop, Nat.mul_comm, Nat.div_add_mod, List.getElem?_eq_getElem hq]
   obtain ⟨v1, w1, hrun, h2, hg, _, hat⟩ := run_append_own_at (P := P) W base t o.type e i0 z d.sz bytes ht hi hz0 hz1 hz2 hz hs0 v xs.length inner hown ad m c news (by rw [hnM.1, hm]) hnc hone (by simp only [maxLen]; omega) hl hbase
   have hat' : v1.ownBlock = v.ownBlock ∨ ∃ b, v1.ownBlock = some b ∧ W.heap.size ≤ b := by
    rcases hat with hat | hat
    ·exact .inl hat
    ·exact .inr ⟨_, hat, Nat.le_refl _⟩
   have hne : ∀ k, some k ≠ v.ownBlock → k < W.heap.size → some k ≠ v1.ownBlock := by
    intro k hk hlt
    rcases hat' with hat | ⟨b, hb, hle⟩
    ·rw [hat]; exact hk
    ·rw [hb]
     intro he
     injection he with he
     omega
   have step : ∀ {q : α} {c : List Value} {o : Nat → Prop}, d.M W base o q c → (∀ k, o k → ok k ∧ some k ≠ v.ownBlock) → d.M w1 base (fun k => ok k ∧ some k ≠ v1.ownBlock) q c := by
    intro q c o hq ho
    have h1 := d.M_move (w1 := w1) (fun k hk => hg.block k hk.2.2.1 (ho k hk.1).2) (d.M_bound hq)
    exact d.M_mono (fun k hk => ⟨(ho k hk.1).1, hne k (ho k hk.1).2 hk.2.2.1⟩) h1
   refine ⟨v1, w1, hrun, ⟨fun k hk => ?_, inner ++ news, by rw [List.length_append, hm]; exact h2, reps_append (hr.imp_ (fun _ _ hq => step hq (fun _ hk => hk))) (hnM.imp_ (fun _ _ hq => step hq hokp))⟩, hg, hat'⟩
   rcases hat' with hat | ⟨b, hb, hle⟩
   ·exact hok k (hat ▸ hk)
   ·rw [hb] at hk
    injection hk with hk
    exact hfresh k (by omega)
 obtain ⟨v1, w1, hr1, h1, hg, hat⟩ := hrun
 refine wpList_plain hgd fun K hK => ?_
 unfold Oper.wp execOp
 simp only [ho, resolve, invoke, builtin, Sem.run_bind, Sem.run_pure, Result.andThen_ok, List.map_toArray, List.map_cons, List.map_nil, hs, hx, hr1]
 exact hK _ _ (h v1 w1 h1 (HB.grown hg hbase (own_base hown)) hg hat)
end
end Kd
theorem run_store_run {P : Program} {w : World} {g o : Nat} {e : TypeId} {cur : Array Value} (t : TypeId) (u : Value) (seg : List Value) (hh : w.heap[g]? = some (.cells cur e (0, 0))) (hu : u.cells.toList = seg) (ht : (P.info? t).map (·.size) = some seg.length)
  (hfit : o + seg.length ≤ cur.size) (h1 : ∀ q ∈ seg, q.oneCell' = true) : (Instr.storeAt t (.pointer (some ⟨g, o, none⟩)) u).run P w = .ok () (w.setCells g o seg) := by
 obtain ⟨i, hi, hsz⟩ := Option.map_eq_some_iff.1 ht
 have hc : u.cells.size = i.size := by rw [hsz, ← hu, Array.length_toList]
 have hst := run_storeCells_cells (P := P) g o seg 0 w (fun j hj => by rw [cell_of_row w g _ cur e (0, 0) hh]; simp; omega) (fun j _ => blk_frozen hh _) h1
 simp only [Nat.add_zero] at hst
 simp [Instr.storeAt, Instr.sureAddr, storeVar, sizeOf, typeInfo, hi, hc, hu, hst]
namespace Kd
section
variable {P : Program} {ops : Array Oper} {rest : List Oper} {o : Oper} {a : Act} {Q : Exit → Act → World → Prop} {α : Type}
end
end Kd
theorem add_add (a : Addr) (i j : Nat) : (a.add i).add j = a.add (i + j) := by
 unfold Addr.add
 by_cases h1 : i = 0 <;> by_cases h2 : j = 0 <;> simp [h1, h2, Nat.add_assoc]
namespace Kd
section
variable {α : Type} {k : Kd α} {w : World} {A : Option Addr} {xs : List α} {m c : Nat}
theorem C_take (h : k.C w A xs.length xs) (hm : m ≤ xs.length) : k.C w A (xs.take m).length (xs.take m) := by
 have hl : (xs.take m).length = m := by rw [List.length_take]; omega
 refine ⟨rfl, by rw [hl]; have := h.2.1; omega, fun hp => ?_⟩
 obtain ⟨ad, e, hc⟩ := h.2.2 (by omega)
 refine ⟨ad, e, fun j p hj => hc j p ?_⟩
 rw [List.getElem?_take] at hj
 split at hj
 ·exact hj
 ·cases hj
end
end Kd
section
variable {P : Program}
end
theorem string_of_reads {P : Program} {w : World} {src dst e : TypeId} {A : Option Addr} {n c : Nat} {xs : List Int} (hs : P.underlying src = some (.slice e)) (he : P.underlying e = some (.int .u8)) (hd : P.underlying dst = some .string)
    (h : ReadsInt w .u8 A n xs) : (convert src dst (.slice A n c)).run P w = .ok (.string (strOfNums xs)) w := by
  have hn : xs.length = n := h.1
  rcases A with _ | ad
  · have h0 : n = 0 := by
      rcases Nat.eq_zero_or_pos n with h0 | h0
      · exact h0
      · obtain ⟨ad, h', _⟩ := h.2.2 h0
        cases h'
    subst h0
    obtain rfl : xs = [] := List.eq_nil_of_length_eq_zero hn
    exact run_convert_bytes_nil w src e hs he 0 c dst hd
  · have hl : (loadCells ad n).run P w = .ok (xs.map (Value.int .u8)).toArray w := by
      have := run_loadCells_list (P := P) w ad (xs.map (Value.int .u8)) (fun j v hj => by
        have hjl : j < xs.length := by
          rcases Nat.lt_or_ge j xs.length with h' | h'
          · exact h'
          · rw [List.getElem?_eq_none (by rw [List.length_map]; exact h')] at hj
            cases hj
        obtain ⟨ad', he', hc⟩ := h.2.2 (by omega)
        injection he' with he'
        subst he'
        rw [hc j (by omega)]
        rw [List.getElem?_map, List.getElem?_eq_getElem hjl] at hj
        simp at hj
        subst hj
        simp [List.getD_eq_getElem?_getD, List.getElem?_eq_getElem hjl])
      simpa [hn] using this
    rw [run_convert_bytes_string w src dst e _ n c hs he hd, run_bytesToString w ad n c xs hl, foldl_push_bytes]
    simp [strOfNums, ByteArray.empty, ByteArray.emptyWithCapacity]
    rfl
theorem Kd.C_string {P : Program} {w : World} {src dst e : TypeId} {A : Option Addr} {n c : Nat} {xs : List Int} (hs : P.underlying src = some (.slice e)) (he : P.underlying e = some (.int .u8)) (hd : P.underlying dst = some .string)
  (h : (Kd.int .u8).C w A n xs) : (convert src dst (.slice A n c)).run P w = .ok (.string (strOfNums xs)) w :=
 string_of_reads hs he hd (Kd.reads_of_C (enc := Value.int .u8) (d := (0 : Int)) (h1 := fun _ => rfl) h)
theorem below_size {w W : World} (h : Below w.heap.size w W) : w.heap.size ≤ W.heap.size := h.size
theorem below_step {w W w2 : World} (h : Below w.heap.size w W) (k : Below W.heap.size W w2) : Below w.heap.size w w2 := below_then h h.size k
theorem ReadsInt.nil (W : World) (k : IntKind) : ReadsInt W k none ([] : List Int).length [] := ⟨rfl, by simp, fun h => absurd h (Nat.lt_irrefl 0)⟩
theorem ReadsInt.drewN {W : World} {k : IntKind} {A : Option Addr} {n : Nat} {xs : List Int} (h : ReadsInt W k A n xs) (m : Nat) : ReadsInt (W.drewN m) k A n xs := h
theorem below_set {w W : World} {g j : Nat} {v : Value} (h : Below w.heap.size w W) (hg : w.heap.size ≤ g) : Below w.heap.size w (W.setCell ⟨g, j, none⟩ v) := h.setCell hg _
theorem keep_cell {w W : World} {g : Nat} (h : KeepBut w W g none) {a : Addr} {v : Value} (hc : w.cell? a = some v) (hne : a.block ≠ g) : W.cell? a = some v := by
 have := h.2 a.block (World.block_lt_of_cell? w a hc) hne (by simp)
 simpa [World.cell?, this] using hc
theorem add_block (a : Addr) (i : Nat) : (a.add i).block = a.block := by unfold Addr.add; split <;> rfl
theorem ReadsOf.nil {α : Type} (enc : α → Value) (d : α) (W : World) : ReadsOf enc d W none ([] : List α).length [] := ⟨rfl, by simp, fun h => absurd h (Nat.lt_irrefl 0)⟩
theorem ReadsOf.drewN {α : Type} {enc : α → Value} {d : α} {W : World} {A : Option Addr} {n : Nat} {xs : List α} (h : ReadsOf enc d W A n xs) (m : Nat) : ReadsOf enc d (W.drewN m) A n xs := h
theorem ReadsInt.keep {w W : World} {k : IntKind} {A : Option Addr} {n g : Nat} {xs : List Int} (h : ReadsInt w k A n xs) (hk : KeepBut w W g none) (hf : ∀ ad, A = some ad → 0 < n → ad.block ≠ g) : ReadsInt W k A n xs :=
 ⟨h.1, h.2.1, fun hn => by
  obtain ⟨ad, e, hc⟩ := h.2.2 hn
  exact ⟨ad, e, fun j hj => keep_cell hk (hc j hj) (by rw [add_block]; exact hf ad e hn)⟩⟩
theorem ReadsOf.keep {α : Type} {enc : α → Value} {d : α} {w W : World} {A : Option Addr} {n g : Nat} {xs : List α} (h : ReadsOf enc d w A n xs) (hk : KeepBut w W g none) (hf : ∀ ad, A = some ad → 0 < n → ad.block ≠ g) : ReadsOf enc d W A n xs :=
 ⟨h.1, h.2.1, fun hn => by
  obtain ⟨ad, e, hc⟩ := h.2.2 hn
  exact ⟨ad, e, fun j hj => keep_cell hk (hc j hj) (by rw [add_block]; exact hf ad e hn)⟩⟩
theorem blk_put {w : World} {g : Nat} {t : TypeId} {cs cs' : Array Value} (h : w.heap[g]? = some (.cells cs t (0, 0))) (i : Nat) (u : Value) (e : cs.setIfInBounds i u = cs') : (w.setCell ⟨g, i, none⟩ u).heap[g]? = some (.cells cs' t (0, 0)) := e ▸ blk_set h i u
theorem below_drew1 {base : Nat} {w W : World} (h : Below base w W) : Below base w W.drew := h.drew
namespace Kd
section
variable {α β : Type} {d : Kd α} {d' : Kd β} {e e' base base' n : Nat} {ok ok' : Nat → Prop} {w W w1 W1 : World} {v u : Value} {xs : List α} {ys : List β} {A : Option Addr} {c : Nat}
end
section
variable {α : Type} {enc : α → Value} {h1 : ∀ x, (enc x).oneCell' = true} {w W : World} {A : Option Addr} {n g : Nat} {xs : List α}
end
end Kd
namespace Kd
section
variable {α : Type} {d : Kd α} {e base g : Nat} {ok : Nat → Prop} {w w1 : World} {v : Value} {xs : List α} {o : Obj}
theorem R_newB (h : d.R e w1 w.heap.size ok v xs) (hb : w.heap[g]? = some o) : d.R e w1 w.heap.size (fun k => ok k ∧ k ≠ g) v xs := R_mono (R_bound h) (fun k hk => ⟨hk.1, by have := blk_lt hb; have := hk.2.1; omega⟩)
theorem freshB (hb : w.heap[g]? = some o) : ∀ k, w.heap.size ≤ k → k ≠ g := fun k hk => by have := blk_lt hb; omega
end
end Kd
section
variable {P : Program} {ops : Array Oper} {rest : List Oper} {o : Oper} {a : Act} {Q : Exit → Act → World → Prop}
theorem box_event {W : World} (hgd : o.guard = none) {N : Tmp} (_hd : o.dst = some N) {cs : Array Value} {t : TypeId}
  (hrun : (execOp a.eval o).run P W = .ok (.value (.pointer (some ⟨W.heap.size, 0, none⟩))) (W.alloc (.cells cs t (0, 0))))
  (h : ∀ g, g = W.heap.size → ∀ w1, w1.heap[g]? = some (.cells cs t (0, 0)) → Below W.heap.size W w1 → wpList P ops Q rest (a.put o.dst (.pointer (some ⟨g, 0, none⟩))) w1) : wpList P ops Q (o :: rest) a W :=
 Kd.event_run hgd hrun (h _ rfl _ (blk_new W _) (below_alloc (Below.refl _ _) _))
end
namespace Kd
section
variable {α : Type} {enc : α → Value} {h1 : ∀ x, (enc x).oneCell' = true} {e base g n cap : Nat} {ok : Nat → Prop} {W : World} {xs : List α}
theorem R_celln (d : α) (h : (scalar enc h1).R e W base ok (.slice (some ⟨g, 0, none⟩) n cap) xs) (i : Int) (h0 : 0 ≤ i) (hi : i < n) : W.cell? ⟨g, i.toNat, none⟩ = some (enc (rdOf d xs i)) ∧ W.frozen? ⟨g, i.toNat, none⟩ = false := by
 obtain ⟨rfl, _⟩ := R_reads' h
 exact R_cell d h i h0 hi
end
end Kd
section
variable {P : Program} {ops : Array Oper} {rest : List Oper} {o : Oper} {a : Act} {Q : Exit → Act → World → Prop}
end
namespace Kd
section
variable {α : Type} {enc : α → Value} {h1 : ∀ x, (enc x).oneCell' = true} {e base g n cap : Nat} {ok : Nat → Prop} {W : World} {xs : List α}
end
end Kd
section
variable {P : Program} {ops : Array Oper} {rest : List Oper} {o : Oper} {a : Act} {Q : Exit → Act → World → Prop} {W : World}
theorem gate_dst {N : Tmp} (_hN : o.dst = some N) (h : wpList P ops Q (o :: rest) a W) : wpList P ops Q (o :: rest) a W := h
end
section
variable {P : Program} {ops : Array Oper} {o : Oper} {a : Act} {Q : Exit → Act → World → Prop} {Kc : Act → World → Prop}
namespace Kd
variable {α : Type}
end Kd
end
inductive Vals (P : Program) (tmps : Array Value) (w : World) : List ResultVar → List Value → Prop where
 | nil : Vals P tmps w [] []
 | tmp {u : Tmp} {rs : List ResultVar} {vs : List Value} (h : Vals P tmps w rs vs) : Vals P tmps w (.tmp u :: rs) (tmps.getD u undef :: vs)
 | cell {p : Tmp} {ty : TypeId} {rs : List ResultVar} {vs : List Value} (g : Nat) (t : TypeId) (cs : Array Value) (fr : Nat × Nat) (d : TypeDesc)
   (hp : tmps.getD p undef = .pointer (some ⟨g, 0, none⟩)) (hg : w.heap[g]? = some (.cells cs t fr))
   (hu : P.underlying ty = some d) (hd : (match d with | .struct _ | .array _ _ => true | _ => false) = true) (hi : (P.info? ty).map (·.size) = some cs.size)
   (h : Vals P tmps w rs vs) : Vals P tmps w (.cell p ty :: rs) (.agg cs :: vs)
section
variable {P : Program} {tmps : Array Value} {w : World}
theorem vals_run {rs : List ResultVar} {vs : List Value} (hv : Vals P tmps w rs vs) (f : ResultVar → Sem Value) (hf : ∀ u, f (.tmp u) = pure (tmps.getD u undef)) (hc : ∀ a t, f (.cell a t) = (do loadVar t (← asAddr (tmps.getD a undef)))) :
  (rs.mapM f).run P w = .ok vs w := by
 induction hv with
 | nil => simp
 | tmp h ih => simp [List.mapM_cons, hf, ih]
 | cell g t cs fr d hp hg hu hd hi h ih =>
  rw [List.mapM_cons, hc, hp]
  simp [asAddr, run_loadVar_row w g t _ cs fr d hg hu hd hi, ih]
theorem results_list {fn : Func} {rs : List ResultVar} {vs : List Value} (h : fn.results = rs.toArray) (hl : vs.length ≠ 1) (hv : Vals P tmps w rs vs) : (results fn tmps).run P w = .ok (.tuple vs.toArray) w := by
 unfold results
 rw [h, List.mapM_toArray]
 simp only [Sem.run_bind, Sem.run_map]
 rw [vals_run hv]
 ·simp [hl]
 ·intro u
  rfl
 ·intro a t
  rfl
theorem results_single {fn : Func} {r : ResultVar} {v : Value} (h : fn.results = #[r]) (hv : Vals P tmps w [r] [v]) : (results fn tmps).run P w = .ok v w := by
 unfold results
 rw [show fn.results = [r].toArray from h, List.mapM_toArray]
 simp only [Sem.run_bind, Sem.run_map]
 rw [vals_run hv]
 ·simp
 ·intro u
  rfl
 ·intro a t
  rfl
end
namespace Kd
section
variable {P : Program} {α : Type}
end
section
variable {P : Program} {ops : Array Oper} {rest : List Oper} {o : Oper} {a : Act} {Q : Exit → Act → World → Prop} {Kc : Act → World → Prop} {α : Type}
end
end Kd
end Go.Proofs.YtidglmocekghmaaDoorW.PrintWords
end
section
namespace Go.Proofs.YtidglmocekghmaaDoorW.PrintLast
section
variable {P : Program} {ops : Array Oper} {Q : Exit → Act → World → Prop} {md : Region.Mode} {S : World → Prop} {ds : List Nat}
def Region.reachB (md : Region.Mode) (ops : Array Oper) (i : Nat) : Nat → Nat → Bool
 | 0, _ => false
 | fuel + 1, d => match ops[d]? with
  | some o => o.after.any fun e => Region.binds md e && (e.on == i || Region.reachB md ops i fuel e.on)
  | none => false
def Region.closedB (md : Region.Mode) (ops : Array Oper) (listed : Array Bool) : Bool :=
 (List.range ops.size).all fun j => !listed.getD j false || match ops[j]? with
  | some o => o.after.all fun e => !Region.binds md e || listed.getD e.on false
  | none => true
def Region.lastB (md : Region.Mode) (ops : Array Oper) (listed : Array Bool) (ds : List Nat) (i : Nat) : Bool :=
 ds.all fun d => listed.getD d true || Region.reachB md ops i ops.size d
def ListedClosed (md : Region.Mode) (ops : Array Oper) (listed : Array Bool) : Prop :=
 ∀ j oj, ops[j]? = some oj → listed.getD j false = true → ∀ e ∈ oj.after, Region.binds md e = true → listed.getD e.on false = true
theorem Region.closedB_spec {listed : Array Bool} (h : Region.closedB md ops listed = true) : ListedClosed md ops listed := by
 intro j oj hj hl e he hb
 have hlt : j < ops.size := (Array.getElem?_eq_some_iff.1 hj).1
 have h1 := List.all_eq_true.1 h j (List.mem_range.2 hlt)
 simp only [hl, hj, Bool.not_true, Bool.false_or] at h1
 have h2 := Array.all_eq_true_iff_forall_mem.1 h1 e he
 simpa [hb] using h2
theorem ListedClosed.set {listed : Array Bool} {i : Nat} (h : ListedClosed md ops listed) (hi : i ∈ Region.ready md ops listed) : ListedClosed md ops (listed.setIfInBounds i true) := by
 obtain ⟨_, oi, hoi, hall⟩ := mem_ready.1 hi
 intro j oj hj hl e he hb
 by_cases hij : i = j
 ·subst hij
  have : oj = oi := Option.some.inj (hj.symm.trans hoi)
  subst this
  exact getD_set_true (hall e he hb)
 ·rw [getD_set_ne false hij] at hl
  exact getD_set_true (h j oj hj hl e he hb)
theorem Region.reach_listed {listed : Array Bool} {i : Nat} (hc : ListedClosed md ops listed) : ∀ (fuel d : Nat), Region.reachB md ops i fuel d = true → listed.getD d false = true → listed.getD i false = true
 | 0, _, h, _ => by simp [Region.reachB] at h
 | fuel + 1, d, h, hl => by
  unfold Region.reachB at h
  cases ho : ops[d]? with
  | none => rw [ho] at h; simp at h
  | some o =>
   rw [ho] at h
   obtain ⟨e, he, h1⟩ := Array.any_eq_true'.1 h
   simp only [Bool.and_eq_true, Bool.or_eq_true, beq_iff_eq] at h1
   have hle := hc d o ho hl e he h1.1
   rcases h1.2 with h2 | h2
   ·rw [← h2]; exact hle
   ·exact Region.reach_listed hc fuel e.on h2 hle
theorem Region.reach_not_ready {listed : Array Bool} {i d fuel : Nat} (hc : ListedClosed md ops listed) (hr : Region.reachB md ops i fuel d = true) (hun : listed.getD i true = false) : d ∉ Region.ready md ops listed := by
 intro hd
 obtain ⟨_, o, ho, hall⟩ := mem_ready.1 hd
 have hi : listed.getD i false = true := by
  cases fuel with
  | zero => simp [Region.reachB] at hr
  | succ n =>
   unfold Region.reachB at hr
   rw [ho] at hr
   obtain ⟨e, he, h1⟩ := Array.any_eq_true'.1 hr
   simp only [Bool.and_eq_true, Bool.or_eq_true, beq_iff_eq] at h1
   have hle := hall e he h1.1
   rcases h1.2 with h2 | h2
   ·rw [← h2]; exact hle
   ·exact Region.reach_listed hc n e.on h2 hle
 rcases Nat.lt_or_ge i listed.size with h' | h'
 ·simp [h'] at hun hi
  rw [hun] at hi
  cases hi
 ·simp [Array.getElem?_eq_none h'] at hun
def wpAnyLast (P : Program) (md : Region.Mode) (ops : Array Oper) (Q : Exit → Act → World → Prop) (S : World → Prop) (ds : List Nat) : Nat → Array Bool → Act → World → Prop
 | 0, listed, a, w => Region.ready md ops listed = [] ∧ Q .normal a w
 | fuel + 1, listed, a, w =>
  (Region.ready md ops listed = [] → Q .normal a w) ∧
  ∀ i ∈ Region.ready md ops listed, wpOp P ops Q i (fun a' w' => (i ∉ ds → S w → S w') ∧ wpAnyLast P md ops Q S ds fuel (listed.setIfInBounds i true) a' w') a w
theorem wpAny_of_last : ∀ (fuel : Nat) (listed : Array Bool) (a : Act) (w : World), wpAnyLast P md ops Q S ds fuel listed a w → wpAny P md ops Q fuel listed a w
 | 0, _, _, _, h => h
 | fuel + 1, _, _, _, h => ⟨h.1, fun i hi => wpOp_mono (fun a' w' h' => wpAny_of_last fuel _ a' w' h'.2) (h.2 i hi)⟩
theorem wpAnyLast_first {i : Nat} {oi : Oper} {v : Value} (hi : ops[i]? = some oi) (hsel : ∀ (j : Nat) (o : Oper) cs b, ops[j]? = some o → o.op ≠ .select cs b)
  (hQ : ∀ c a w, Q (.panic c) (a.put oi.dst v) w → Q (.panic c) a w) (n : Nat) :
  ∀ (fuel : Nat) (listed : Array Bool) (a : Act) (w : World),
   (∀ j oj, ops[j]? = some oj → j ≠ i → listed.getD j true = false → (∀ e ∈ oj.after, Region.binds md e = true → e.on ≠ i) → oi.apart ops oj = true) →
   ListedClosed md ops listed → (∀ d ∈ ds, listed.getD d true = false → Region.reachB md ops i n d = true) →
   i ∈ Region.ready md ops listed → YieldsIf P ops S oi v a → S w →
   wpAnyLast P md ops Q S ds fuel (listed.setIfInBounds i true) (a.put oi.dst v) w → wpAnyLast P md ops Q S ds (fuel + 1) listed a w := by
 intro fuel
 induction fuel with
 | zero =>
  intro listed a w _ _ _ hr hy hS H
  refine ⟨fun h => (by rw [h] at hr; cases hr), fun j hj => ?_⟩
  by_cases hji : j = i
  ·subst hji; exact hy.wpOp hi hS ⟨fun _ h => h, H⟩
  ·have := ready_mono hj hji
   rw [H.1] at this
   cases this
 | succ fuel ih =>
  intro listed a w hfree hc hd hr hy hS H
  refine ⟨fun h => (by rw [h] at hr; cases hr), fun j hj => ?_⟩
  by_cases hji : j = i
  ·subst hji; exact hy.wpOp hi hS ⟨fun _ h => h, H⟩
  ·have h1 := H.2 j (ready_mono hj hji)
   obtain ⟨hjun, oj, hoj, hall⟩ := mem_ready.1 hj
   have hiun := (mem_ready.1 hr).1
   have hnot : ∀ e ∈ oj.after, Region.binds md e = true → e.on ≠ i := fun e he hb heq => by
    have h1 := hall e he hb
    rw [heq] at h1
    rcases Nat.lt_or_ge i listed.size with h' | h'
    ·simp [h'] at hiun h1; rw [hiun] at h1; cases h1
    ·simp [Array.getElem?_eq_none h'] at h1
   have hjd : j ∉ ds := fun hm => Region.reach_not_ready hc (hd j hm hjun) hiun hj
   have h2 := wpOp_putIf hoj (hfree j oj hoj hji hjun hnot) (fun cs b => hsel i oi cs b hi) (fun cs b => hsel j oj cs b hoj) hQ hy h1
   have hfree' : ∀ k ok, ops[k]? = some ok → k ≠ i → (listed.setIfInBounds j true).getD k true = false →
     (∀ e ∈ ok.after, Region.binds md e = true → e.on ≠ i) → oi.apart ops ok = true := fun k ok hk hki hun hno => by
    refine hfree k ok hk hki ?_ hno
    by_cases hjk : j = k
    ·subst hjk; exact hjun
    ·rw [getD_set_ne true hjk] at hun; exact hun
   have hd' : ∀ d ∈ ds, (listed.setIfInBounds j true).getD d true = false → Region.reachB md ops i n d = true := fun d hm hun => by
    refine hd d hm ?_
    by_cases hjk : j = d
    ·subst hjk; exact hjun
    ·rw [getD_set_ne true hjk] at hun; exact hun
   refine wpOp_mono (fun a' w' h3 => ⟨h3.2.1, ih (listed.setIfInBounds j true) a' w' hfree' (hc.set hj) hd' (ready_mono hr (Ne.symm hji)) h3.1 (h3.2.1 hjd hS) ?_⟩) h2
   rw [Array.setIfInBounds_comm _ _ hji]
   exact h3.2.2
theorem wpAnyLast_any {i : Nat} {oi : Oper} {v : Value} (hi : ops[i]? = some oi) (hsel : ∀ (j : Nat) (o : Oper) cs b, ops[j]? = some o → o.op ≠ .select cs b)
  (hQ : ∀ c a w, Q (.panic c) (a.put oi.dst v) w → Q (.panic c) a w) :
  ∀ (fuel : Nat) (listed : Array Bool) (a : Act) (w : World),
   (∀ j oj, ops[j]? = some oj → j ≠ i → listed.getD j true = false → (∀ e ∈ oj.after, Region.binds md e = true → e.on ≠ i) → oi.apart ops oj = true) →
   i ∈ Region.ready md ops listed → Yields P ops oi v a →
   wpAnyLast P md ops Q S ds fuel (listed.setIfInBounds i true) (a.put oi.dst v) w → wpAnyLast P md ops Q S ds (fuel + 1) listed a w := by
 intro fuel
 induction fuel with
 | zero =>
  intro listed a w _ hr hy H
  refine ⟨fun h => (by rw [h] at hr; cases hr), fun j hj => ?_⟩
  by_cases hji : j = i
  ·subst hji; exact (hy.yieldsIf (S := fun _ => True)).wpOp hi trivial ⟨fun _ h => h, H⟩
  ·have := ready_mono hj hji
   rw [H.1] at this
   cases this
 | succ fuel ih =>
  intro listed a w hfree hr hy H
  refine ⟨fun h => (by rw [h] at hr; cases hr), fun j hj => ?_⟩
  by_cases hji : j = i
  ·subst hji; exact (hy.yieldsIf (S := fun _ => True)).wpOp hi trivial ⟨fun _ h => h, H⟩
  ·have h1 := H.2 j (ready_mono hj hji)
   obtain ⟨hjun, oj, hoj, hall⟩ := mem_ready.1 hj
   have hiun := (mem_ready.1 hr).1
   have hnot : ∀ e ∈ oj.after, Region.binds md e = true → e.on ≠ i := fun e he hb heq => by
    have h1 := hall e he hb
    rw [heq] at h1
    rcases Nat.lt_or_ge i listed.size with h' | h'
    ·simp [h'] at hiun h1; rw [hiun] at h1; cases h1
    ·simp [Array.getElem?_eq_none h'] at h1
   have h2 := wpOp_put hoj (hfree j oj hoj hji hjun hnot) (fun cs b => hsel i oi cs b hi) (fun cs b => hsel j oj cs b hoj) hQ hy h1
   have hfree' : ∀ k ok, ops[k]? = some ok → k ≠ i → (listed.setIfInBounds j true).getD k true = false →
     (∀ e ∈ ok.after, Region.binds md e = true → e.on ≠ i) → oi.apart ops ok = true := fun k ok hk hki hun hno => by
    refine hfree k ok hk hki ?_ hno
    by_cases hjk : j = k
    ·subst hjk; exact hjun
    ·rw [getD_set_ne true hjk] at hun; exact hun
   refine wpOp_mono (fun a' w' h3 => ⟨h3.2.1, ih (listed.setIfInBounds j true) a' w' hfree' (ready_mono hr (Ne.symm hji)) h3.1 ?_⟩) h2
   rw [Array.setIfInBounds_comm _ _ hji]
   exact h3.2.2
theorem wpAnyLast_take {i : Nat} {oi : Oper} {v : Value} {fuel : Nat} {listed : Array Bool} {a : Act} {w : World} (hi : ops[i]? = some oi)
  (hs : Region.noSelect ops = true) (hf : Region.free md ops listed i = true) (hr : (Region.ready md ops listed).contains i = true)
  (hc : Region.closedB md ops listed = true) (hl : Region.lastB md ops listed ds i = true)
  (hQ : ∀ c a w, Q (.panic c) (a.put oi.dst v) w → Q (.panic c) a w) (hy : YieldsIf P ops S oi v a) (hS : S w)
  (h : wpAnyLast P md ops Q S ds fuel (listed.setIfInBounds i true) (a.put oi.dst v) w) : wpAnyLast P md ops Q S ds (fuel + 1) listed a w :=
 wpAnyLast_first hi (Region.noSelect_spec hs) hQ ops.size fuel listed a w (Region.free_spec hi hf) (Region.closedB_spec hc)
  (fun d hm hun => by have := List.all_eq_true.1 hl d hm; rw [hun] at this; simpa using this) (by simpa using hr) hy hS h
theorem wpAnyLast_all {rs : List Nat} {fuel : Nat} {listed : Array Bool} {a : Act} {w : World} (hr : Region.ready md ops listed = rs) (hne : rs ≠ [])
  (h : ∀ i ∈ rs, wpOp P ops Q i (fun a' w' => (i ∉ ds → S w → S w') ∧ wpAnyLast P md ops Q S ds fuel (listed.setIfInBounds i true) a' w') a w) : wpAnyLast P md ops Q S ds (fuel + 1) listed a w :=
 ⟨fun h0 => absurd (hr ▸ h0) hne, hr ▸ h⟩
theorem wpAnyLast_done {listed : Array Bool} {a : Act} {w : World} (hr : Region.ready md ops listed = []) (h : Q .normal a w) :
  ∀ fuel, wpAnyLast P md ops Q S ds fuel listed a w
 | 0 => ⟨hr, h⟩
 | _ + 1 => ⟨fun _ => h, by rw [hr]; simp⟩
theorem wp_region_last {id : Nat} {a : Act} {w : World} (hm : P.follows .mixedOrders = true)
  (h : wpAnyLast P .any ops Q S ds ops.size (Array.replicate ops.size false) a { w with drawn := w.drawn + 1 }) : (Code.region id ops true).wp P Q a w :=
 wp_region_any hm (wpAny_of_last _ _ _ _ h)
end
section
variable {P : Program} {ops : Array Oper} {Q : Exit → Act → World → Prop} {md : Region.Mode} {S : World → Prop} {ds : List Nat}
def AllReadyL (P : Program) (md : Region.Mode) (ops : Array Oper) (Q : Exit → Act → World → Prop) (S : World → Prop) (ds : List Nat) (fuel : Nat) (listed : Array Bool) (a : Act) (w : World) (rs : List Nat) : Prop :=
 ∀ i ∈ rs, wpOp P ops Q i (fun a' w' => (i ∉ ds → S w → S w') ∧ wpAnyLast P md ops Q S ds fuel (listed.setIfInBounds i true) a' w') a w
theorem AllReadyL.nil {fuel : Nat} {listed : Array Bool} {a : Act} {w : World} : AllReadyL P md ops Q S ds fuel listed a w [] := fun _ h => by cases h
theorem AllReadyL.cons {fuel : Nat} {listed : Array Bool} {a : Act} {w : World} {i : Nat} {o : Oper} {rs : List Nat} (ho : ops[i]? = some o) (hd : i ∉ ds)
  (h : ∀ K' : Act → World → Prop, Shut (∀ a w, S w → (S w → wpAnyLast P md ops Q S ds fuel (listed.setIfInBounds i true) a w) → K' a w) → if Region.wanted o (yielded ops a.tmps) = true then Oper.wp P o a w K' Q else K' (a.put o.dst undef) w)
  (hs : AllReadyL P md ops Q S ds fuel listed a w rs) : AllReadyL P md ops Q S ds fuel listed a w (i :: rs) := fun j hj => by
 rcases List.mem_cons.1 hj with rfl | hj
 ·exact wpOp_step ho (fun K' hK => h K' (fun a w hS hW => hK a w ⟨fun _ _ => hS, hW hS⟩))
 ·exact hs j hj
theorem AllReadyL.cons_last {fuel : Nat} {listed : Array Bool} {a : Act} {w : World} {i : Nat} {o : Oper} {rs : List Nat} (ho : ops[i]? = some o) (hd : i ∈ ds)
  (h : ∀ K' : Act → World → Prop, Shut (∀ a w, wpAnyLast P md ops Q S ds fuel (listed.setIfInBounds i true) a w → K' a w) → if Region.wanted o (yielded ops a.tmps) = true then Oper.wp P o a w K' Q else K' (a.put o.dst undef) w)
  (hs : AllReadyL P md ops Q S ds fuel listed a w rs) : AllReadyL P md ops Q S ds fuel listed a w (i :: rs) := fun j hj => by
 rcases List.mem_cons.1 hj with rfl | hj
 ·exact wpOp_step ho (fun K' hK => h K' (fun a w hW => hK a w ⟨fun hn => absurd hd hn, hW⟩))
 ·exact hs j hj
theorem wpAnyLast_ready {rs : List Nat} {fuel : Nat} {listed : Array Bool} {a : Act} {w : World} (hr : Region.ready md ops listed = rs) (hne : rs ≠ [])
  (h : AllReadyL P md ops Q S ds fuel listed a w rs) : wpAnyLast P md ops Q S ds (fuel + 1) listed a w := wpAnyLast_all hr hne h
theorem start_ {id n : Nat} {a : Act} {w : World} (l : Array Bool) (hm : P.follows .mixedOrders = true) (hn : ops.size = n) (hl : Array.replicate n false = l) (hS : S w.drew)
  (h : S w.drew → wpAnyLast P .any ops Q S ds n l a w.drew) : (Code.region id ops true).wp P Q a w := by
 subst hn
 subst hl
 exact wp_region_last hm (h hS)
def takeB (md : Region.Mode) (ops : Array Oper) (ds : List Nat) (l l' : Array Bool) (i : Nat) : Bool :=
 Region.noSelect ops && Region.free md ops l i && (Region.ready md ops l).contains i && Region.closedB md ops l && Region.lastB md ops l ds i && (l.setIfInBounds i true == l')
theorem take_ {i : Nat} {N : Option Tmp} {oi : Oper} {v : Value} {fuel : Nat} {l : Array Bool} {a : Act} {w : World} (l' : Array Bool) (hi : ops[i]? = some oi) (hN : oi.dst = N) (hc : takeB md ops ds l l' i = true)
  (hQ : ∀ c a w, Q (.panic c) (a.put oi.dst v) w → Q (.panic c) a w) (hy : YieldsIf P ops S oi v a) (hS : S w) {a' : Act} (ha : a.put N v = a')
  (h : wpAnyLast P md ops Q S ds fuel l' a' w) : wpAnyLast P md ops Q S ds (fuel + 1) l a w := by
 subst ha
 subst hN
 simp only [takeB, Bool.and_eq_true, beq_iff_eq] at hc
 obtain ⟨⟨⟨⟨⟨h1, h2⟩, h3⟩, h4⟩, h5⟩, h6⟩ := hc
 subst h6
 exact wpAnyLast_take hi h1 h2 h3 h4 h5 hQ hy hS h
def anyB (md : Region.Mode) (ops : Array Oper) (l l' : Array Bool) (i : Nat) : Bool :=
 Region.noSelect ops && Region.free md ops l i && (Region.ready md ops l).contains i && (l.setIfInBounds i true == l')
theorem pure_ {i : Nat} {N : Option Tmp} {oi : Oper} {v : Value} {fuel : Nat} {l : Array Bool} {a : Act} {w : World} (l' : Array Bool) (hi : ops[i]? = some oi) (hN : oi.dst = N) (hc : anyB md ops l l' i = true)
  (hQ : ∀ c a w, Q (.panic c) (a.put oi.dst v) w → Q (.panic c) a w) (hy : Yields P ops oi v a) {a' : Act} (ha : a.put N v = a')
  (h : wpAnyLast P md ops Q S ds fuel l' a' w) : wpAnyLast P md ops Q S ds (fuel + 1) l a w := by
 subst ha
 subst hN
 simp only [anyB, Bool.and_eq_true, beq_iff_eq] at hc
 obtain ⟨⟨⟨h1, h2⟩, h3⟩, h6⟩ := hc
 subst h6
 exact wpAnyLast_any hi (Region.noSelect_spec h1) hQ fuel l a w (Region.free_spec hi h2) (by simpa using h3) hy h
def readyB (md : Region.Mode) (ops : Array Oper) (l l' : Array Bool) (i : Nat) : Bool := (Region.ready md ops l == [i]) && (l.setIfInBounds i true == l')
theorem one_ {i : Nat} {N : Option Tmp} {oi : Oper} {fuel : Nat} {l : Array Bool} {a : Act} {w : World} (l' : Array Bool) (hi : ops[i]? = some oi) (hN : oi.dst = N) (hc : readyB md ops l l' i = true) (hd : i ∉ ds)
  (h : ∀ K : Act → World → Prop, Shut (∀ a' w', S w' → (S w' → wpAnyLast P md ops Q S ds fuel l' a' w') → K a' w') → if Region.wanted oi (yielded ops a.tmps) = true then Oper.wp P oi a w K Q else K (a.put N undef) w) :
  wpAnyLast P md ops Q S ds (fuel + 1) l a w := by
 subst hN
 simp only [readyB, Bool.and_eq_true, beq_iff_eq] at hc
 obtain ⟨h1, h2⟩ := hc
 subst h2
 exact wpAnyLast_ready h1 (by simp) (AllReadyL.cons hi hd (fun K hK => h K hK) AllReadyL.nil)
theorem last_ {i : Nat} {N : Option Tmp} {oi : Oper} {fuel : Nat} {l : Array Bool} {a : Act} {w : World} (l' : Array Bool) (hi : ops[i]? = some oi) (hN : oi.dst = N) (hc : readyB md ops l l' i = true) (hd : i ∈ ds)
  (h : ∀ K : Act → World → Prop, Shut (∀ a' w', wpAnyLast P md ops Q S ds fuel l' a' w' → K a' w') → if Region.wanted oi (yielded ops a.tmps) = true then Oper.wp P oi a w K Q else K (a.put N undef) w) :
  wpAnyLast P md ops Q S ds (fuel + 1) l a w := by
 subst hN
 simp only [readyB, Bool.and_eq_true, beq_iff_eq] at hc
 obtain ⟨h1, h2⟩ := hc
 subst h2
 exact wpAnyLast_ready h1 (by simp) (AllReadyL.cons_last hi hd (fun K hK => h K hK) AllReadyL.nil)
theorem done_ {l : Array Bool} {a : Act} {w : World} {n : Nat} (hr : (Region.ready md ops l == []) = true) (h : Q .normal a w) : wpAnyLast P md ops Q S ds n l a w := wpAnyLast_done (by simpa using hr) h n
def putAll : Act → List (Tmp × Value) → Act
 | a, [] => a
 | a, (n, v) :: r => putAll (a.put (some n) v) r
theorem norm_ {fuel : Nat} {l : Array Bool} {a a' : Act} {w : World} (ha : a = a') (h : wpAnyLast P md ops Q S ds fuel l a' w) : wpAnyLast P md ops Q S ds fuel l a w := by
 subst ha
 exact h
theorem call_ {oi : Oper} {N : Option Tmp} {a : Act} {w : World} {K : Act → World → Prop} (f : FuncId) (args : Array Value) (hw : Region.wanted oi (yielded ops a.tmps) = true) (hN : oi.dst = N) (hrun : (execOp a.eval oi).run P w = .ok (.enter f args) w)
  (h : Calls P f args w fun e w' => ∃ v, e = .returned v ∧ K (a.put N v) w') : if Region.wanted oi (yielded ops a.tmps) = true then Oper.wp P oi a w K Q else K (a.put N undef) w := by
 rw [if_pos hw]
 subst hN
 unfold Oper.wp
 rw [hrun, Oper.upon_enter]
 refine h.mono fun e w'' hh => ?_
 obtain ⟨v, rfl, hk⟩ := hh
 exact hk
theorem enters_ {f : FuncId} {fn : Func} (hf : P.funcs[f]? = some fn) (hname : (fn.name == "runtime.NumGoroutine") = false) (hb : fn.body.isSome = true) (args : Array Value) (w : World) : (callFunc f args).run P w = .ok (.enter f args) w := by
 have h1 : fn.name ≠ "runtime.NumGoroutine" := by simpa using hname
 obtain ⟨c, hc⟩ := Option.isSome_iff_exists.1 hb
 simp [callFunc, hf, h1, hc]
theorem goes_ {oi : Oper} {N : Option Tmp} {a : Act} {w : World} {K : Act → World → Prop} {f : FuncId} {fn : Func} {as_z : Array Operand} {ts : Array TypeId} (hf : P.funcs[f]? = some fn) (hname : (fn.name == "runtime.NumGoroutine") = false) (hb : fn.body.isSome = true) (args : Array Value)
  (hw : Region.wanted oi (yielded ops a.tmps) = true) (hN : oi.dst = N) (hop : oi.op = .call { callee := .value (.func f), args := as_z, argTypes := ts }) (hargs : as_z.map a.eval = args)
  (h : Calls P f args w fun e w' => ∃ v, e = .returned v ∧ K (a.put N v) w') : if Region.wanted oi (yielded ops a.tmps) = true then Oper.wp P oi a w K Q else K (a.put N undef) w := by
 refine call_ f args hw hN ?_ h
 have he := enters_ hf hname hb args w
 unfold execOp
 simp [hop, resolve, Deferred.ofValue, invoke, Act.eval, hargs, he]
theorem goesL_ {rest : List Oper} {oi : Oper} {a : Act} {w : World} (N : Option Tmp) (hd : oi.dst = N) (hg : oi.guard = none) {f : FuncId} {fn : Func} {as_z : Array Operand} {ts : Array TypeId} (hf : P.funcs[f]? = some fn) (hname : (fn.name == "runtime.NumGoroutine") = false) (hb : fn.body.isSome = true) (args : Array Value)
  (hop : oi.op = .call { callee := .value (.func f), args := as_z, argTypes := ts }) (hargs : as_z.map a.eval = args)
  (h : Calls P f args w fun e w' => ∃ v, e = .returned v ∧ wpList P ops Q rest (a.put N v) w') : wpList P ops Q (oi :: rest) a w := by
 refine wpList_plain hg fun K hK => ?_
 have he := enters_ hf hname hb args w
 have hrun : (execOp a.eval oi).run P w = .ok (.enter f args) w := by
  unfold execOp
  simp [hop, resolve, Deferred.ofValue, invoke, Act.eval, hargs, he]
 unfold Oper.wp
 rw [hrun, Oper.upon_enter]
 refine h.mono fun e w'' hh => ?_
 obtain ⟨v, rfl, hk⟩ := hh
 subst hd
 exact hK _ _ hk
theorem value_ {oi : Oper} {N : Option Tmp} {a : Act} {w w1 : World} {v : Value} {K : Act → World → Prop} (hw : Region.wanted oi (yielded ops a.tmps) = true) (hN : oi.dst = N) (hrun : (execOp a.eval oi).run P w = .ok (.value v) w1)
  (h : K (a.put N v) w1) : if Region.wanted oi (yielded ops a.tmps) = true then Oper.wp P oi a w K Q else K (a.put N undef) w := by
 rw [if_pos hw]
 subst hN
 unfold Oper.wp
 rw [hrun]
 exact h
theorem skip_ {oi : Oper} {a : Act} {w w1 : World} {K : Act → World → Prop} (hw : Region.wanted oi (yielded ops a.tmps) = true) (hN : oi.dst = none) (hrun : (execOp a.eval oi).run P w = .ok .skip w1)
  (h : K a w1) : if Region.wanted oi (yielded ops a.tmps) = true then Oper.wp P oi a w K Q else K (a.put none undef) w := by
 rw [if_pos hw]
 unfold Oper.wp
 rw [hrun]
 show K (a.put oi.dst undef) w1
 rw [hN]
 exact h
theorem i64_w (n : Int) : IntKind.i64.wrap n = Go.RowKit.wrap64 n := by unfold Go.RowKit.wrap64; exact IntKind.wrap_i64 n
theorem i32_w (n : Int) : IntKind.i32.wrap n = Go.RowKit.wrap32 n := by unfold Go.RowKit.wrap32; exact IntKind.wrap_i32 n
end
end Go.Proofs.YtidglmocekghmaaDoorW.PrintLast
end
section
namespace Go.Proofs.YtidglmocekghmaaDoorW.PrintLast
open Go.Proofs.YtidglmocekghmaaDoorW.PrintWords (Aside0)
def needsOf (md : Region.Mode) (o : Oper) : List Nat := (o.after.toList.filter (fun e => Region.binds md e)).map (fun e => e.on)
def clashOf (md : Region.Mode) (ops : Array Oper) (i : Nat) (oi : Oper) : List Nat := (List.range ops.size).filter fun j => !(j == i) && match ops[j]? with
 | some oj => !(oj.after.any (fun e => Region.binds md e && e.on == i) || oi.apart ops oj)
 | none => false
def rtab (md : Region.Mode) (ops : Array Oper) : Bool × List (List Nat × List Nat) := (Region.noSelect ops, (List.range ops.size).map fun i => match ops[i]? with
 | some o => (needsOf md o, clashOf md ops i o)
 | none => ([], []))
def readyAt (T : List (List Nat × List Nat)) (l : List Bool) (i : Nat) : Bool := !l.getD i true && match T[i]? with
 | some r => r.1.all (fun j => l.getD j false)
 | none => false
def readyT (T : List (List Nat × List Nat)) (l : List Bool) : List Nat := (List.range T.length).filter (readyAt T l)
def freeT (T : List (List Nat × List Nat)) (l : List Bool) (i : Nat) : Bool := match T[i]? with
 | some r => r.2.all (fun j => l.getD j true)
 | none => false
def closedT (T : List (List Nat × List Nat)) (l : List Bool) : Bool := (List.range T.length).all fun j => !l.getD j false || match T[j]? with
 | some r => r.1.all (fun k => l.getD k false)
 | none => true
def reachT (T : List (List Nat × List Nat)) (i : Nat) : Nat → Nat → Bool
 | 0, _ => false
 | fuel + 1, d => match T[d]? with
  | some r => r.1.any fun j => j == i || reachT T i fuel j
  | none => false
def lastT (T : List (List Nat × List Nat)) (l : List Bool) (ds : List Nat) (i : Nat) : Bool := ds.all fun d => l.getD d true || reachT T i T.length d
section
variable {md : Region.Mode} {ops : Array Oper} {T : Bool × List (List Nat × List Nat)} {l l' li lj lk : Array Bool} {ds : List Nat} {i j k : Nat}
theorem gd (l : Array Bool) (j : Nat) (b : Bool) : l.getD j b = l.toList.getD j b := by simp [Array.getD_eq_getD_getElem?, List.getD_eq_getElem?_getD]
theorem needs_all (o : Oper) (p : Nat → Bool) : o.after.all (fun e => !Region.binds md e || p e.on) = (needsOf md o).all p := by
 unfold needsOf
 rw [← Array.all_toList]
 induction o.after.toList with
 | nil => rfl
 | cons e r ih =>
  rw [List.all_cons, ih, List.filter_cons]
  cases h : Region.binds md e <;> simp
theorem needs_any (o : Oper) (p : Nat → Bool) : o.after.any (fun e => Region.binds md e && p e.on) = (needsOf md o).any p := by
 unfold needsOf
 rw [← Array.any_toList]
 induction o.after.toList with
 | nil => rfl
 | cons e r ih =>
  rw [List.any_cons, ih, List.filter_cons]
  cases h : Region.binds md e <;> simp
theorem rtab_length : (rtab md ops).2.length = ops.size := by simp [rtab]
theorem rtab_some {o : Oper} (h : ops[i]? = some o) : (rtab md ops).2[i]? = some (needsOf md o, clashOf md ops i o) := by
 have hi := (Array.getElem?_eq_some_iff.1 h).1
 unfold rtab
 rw [List.getElem?_map, List.getElem?_range hi, Option.map_some, h]
theorem rtab_none (h : ops[i]? = none) : (rtab md ops).2[i]? = none := by
 have hi : ops.size ≤ i := Array.getElem?_eq_none_iff.1 h
 exact List.getElem?_eq_none (by rw [rtab_length]; exact hi)
theorem readyAt_eq : readyAt (rtab md ops).2 l.toList i = (!l.getD i true && ((ops[i]?).map (·.after.all fun e => !Region.binds md e || l.getD e.on false)).getD false) := by
 unfold readyAt
 rw [gd]
 cases h : ops[i]? with
 | none => rw [rtab_none h]; rfl
 | some o =>
  rw [rtab_some h]
  simp only [Option.map_some, Option.getD_some]
  rw [← needs_all]
  simp only [gd]
theorem ready_eq : Region.ready md ops l = readyT (rtab md ops).2 l.toList := by
 unfold Region.ready readyT
 rw [rtab_length]
 refine List.filter_congr (fun i _ => ?_)
 rw [readyAt_eq]
theorem free_eq : Region.free md ops l i = freeT (rtab md ops).2 l.toList i := by
 unfold Region.free freeT
 cases h : ops[i]? with
 | none => rw [rtab_none h]
 | some oi =>
  rw [rtab_some h]
  simp only [clashOf]
  rw [List.all_filter]
  congr 1
  funext j
  rw [gd]
  cases hj : ops[j]? with
  | none => cases (j == i) <;> cases (l.toList.getD j true) <;> simp
  | some oj =>
   cases (j == i) <;> cases (l.toList.getD j true) <;> cases (oj.after.any (fun e => Region.binds md e && e.on == i) || oi.apart ops oj) <;> simp_all
theorem closed_eq : Region.closedB md ops l = closedT (rtab md ops).2 l.toList := by
 unfold Region.closedB closedT
 rw [rtab_length]
 congr 1
 funext j
 rw [gd]
 cases h : ops[j]? with
 | none => rw [rtab_none h]
 | some o =>
  rw [rtab_some h]
  simp only
  rw [← needs_all]
  simp only [gd]
theorem reach_eq : ∀ (fuel d : Nat), Region.reachB md ops i fuel d = reachT (rtab md ops).2 i fuel d
 | 0, _ => rfl
 | fuel + 1, d => by
  unfold Region.reachB reachT
  cases h : ops[d]? with
  | none => rw [rtab_none h]
  | some o =>
   rw [rtab_some h]
   simp only
   rw [← needs_any]
   congr 1
   funext e
   rw [reach_eq fuel]
theorem last_eq : Region.lastB md ops l ds i = lastT (rtab md ops).2 l.toList ds i := by
 unfold Region.lastB lastT
 rw [rtab_length]
 congr 1
 funext d
 rw [gd, reach_eq]
theorem readyAt_mem (h : readyAt T.2 l.toList i = true) (hT : rtab md ops = T) : (Region.ready md ops l).contains i = true := by
 subst hT
 rw [ready_eq]
 unfold readyT
 rw [List.contains_iff_mem, List.mem_filter, List.mem_range]
 refine ⟨?_, h⟩
 unfold readyAt at h
 rw [Bool.and_eq_true] at h
 cases hq : (rtab md ops).2[i]? with
 | none => rw [hq] at h; simp at h
 | some r => exact (List.getElem?_eq_some_iff.1 hq).1
theorem set_of (h : (l.toList.set i true == l'.toList) = true) : (l.setIfInBounds i true == l') = true := by
 rw [beq_iff_eq] at h ⊢
 apply Array.ext'
 rw [Array.toList_setIfInBounds]
 exact h
def anyT (T : Bool × List (List Nat × List Nat)) (l l' : List Bool) (i : Nat) : Bool := T.1 && freeT T.2 l i && readyAt T.2 l i && (l.set i true == l')
theorem any_of (hT : rtab md ops = T) (h : anyT T l.toList l'.toList i = true) : anyB md ops l l' i = true := by
 simp only [anyT, Bool.and_eq_true] at h
 obtain ⟨⟨⟨h1, h2⟩, h3⟩, h4⟩ := h
 have h5 := readyAt_mem h3 hT
 have h6 := set_of h4
 subst hT
 simp only [anyB, Bool.and_eq_true]
 exact ⟨⟨⟨h1, by rw [free_eq]; exact h2⟩, h5⟩, h6⟩
def takeT (T : Bool × List (List Nat × List Nat)) (ds : List Nat) (l l' : List Bool) (i : Nat) : Bool := T.1 && freeT T.2 l i && readyAt T.2 l i && closedT T.2 l && lastT T.2 l ds i && (l.set i true == l')
theorem take_of (hT : rtab md ops = T) (h : takeT T ds l.toList l'.toList i = true) : takeB md ops ds l l' i = true := by
 simp only [takeT, Bool.and_eq_true] at h
 obtain ⟨⟨⟨⟨⟨h1, h2⟩, h3⟩, h4⟩, h5⟩, h6⟩ := h
 have h7 := readyAt_mem h3 hT
 have h8 := set_of h6
 subst hT
 simp only [takeB, Bool.and_eq_true]
 exact ⟨⟨⟨⟨⟨h1, by rw [free_eq]; exact h2⟩, h7⟩, by rw [closed_eq]; exact h4⟩, by rw [last_eq]; exact h5⟩, h8⟩
theorem one_of (hT : rtab md ops = T) (h : (readyT T.2 l.toList == [i] && l.toList.set i true == l'.toList) = true) : readyB md ops l l' i = true := by
 simp only [Bool.and_eq_true] at h
 obtain ⟨h1, h2⟩ := h
 subst hT
 simp only [readyB, Bool.and_eq_true]
 exact ⟨by rw [ready_eq]; exact h1, set_of h2⟩
theorem done_of (hT : rtab md ops = T) (h : (readyT T.2 l.toList == []) = true) : (Region.ready md ops l == []) = true := by
 subst hT
 rw [ready_eq]
 exact h
def upM (B : List Nat) (d : Nat) : List Nat → Nat
 | [] => 0
 | n :: r => (2 ^ n ||| (if n < d then B.getD n 0 else 0)) ||| upM B d r
def waitsOk (T : List (List Nat × List Nat)) (B : List Nat) : Bool := (List.range T.length).all fun d => match T[d]? with
 | some r => (B.getD d 0 ||| upM B d r.1) == upM B d r.1
 | none => false
theorem upM_bit {B : List Nat} {d i : Nat} : ∀ {ns : List Nat}, (upM B d ns).testBit i = true → ∃ n ∈ ns, n = i ∨ (n < d ∧ (B.getD n 0).testBit i = true)
 | [], h => by simp [upM] at h
 | n :: r, h => by
  unfold upM at h
  rw [Nat.testBit_or, Nat.testBit_or, Bool.or_eq_true, Bool.or_eq_true] at h
  rcases h with (h | h) | h
  ·rw [Nat.testBit_two_pow] at h
   exact ⟨n, List.mem_cons_self, .inl (by simpa using h)⟩
  ·by_cases hn : n < d
   ·rw [if_pos hn] at h
    exact ⟨n, List.mem_cons_self, .inr ⟨hn, h⟩⟩
   ·rw [if_neg hn] at h
    simp at h
  ·obtain ⟨m, hm, h2⟩ := upM_bit h
   exact ⟨m, List.mem_cons_of_mem _ hm, h2⟩
theorem reach_bit {T : List (List Nat × List Nat)} {B : List Nat} (hB : waitsOk T B = true) : ∀ (fuel d : Nat), d < fuel → d < T.length → (B.getD d 0).testBit i = true → reachT T i fuel d = true
 | 0, d, h, _, _ => by omega
 | fuel + 1, d, h, hd, hb => by
  have h1 := List.all_eq_true.1 hB d (List.mem_range.2 hd)
  cases hr : T[d]? with
  | none => rw [hr] at h1; simp at h1
  | some r =>
   rw [hr] at h1
   simp only [beq_iff_eq] at h1
   have h2 : (upM B d r.1).testBit i = true := by rw [← h1, Nat.testBit_or, hb, Bool.true_or]
   obtain ⟨n, hn, h3⟩ := upM_bit h2
   unfold reachT
   rw [hr]
   simp only
   rw [List.any_eq_true]
   refine ⟨n, hn, ?_⟩
   rcases h3 with rfl | ⟨h4, h5⟩
   ·simp
   ·rw [reach_bit hB fuel n (by omega) (by omega) h5, Bool.or_true]
def lastW (T : List (List Nat × List Nat)) (B : List Nat) (l : List Bool) (ds : List Nat) (i : Nat) : Bool := ds.all fun d => l.getD d true || (decide (d < T.length) && (B.getD d 0).testBit i)
def takeW (T : Bool × List (List Nat × List Nat)) (B : List Nat) (ds : List Nat) (l l' : List Bool) (i : Nat) : Bool := T.1 && freeT T.2 l i && readyAt T.2 l i && closedT T.2 l && lastW T.2 B l ds i && (l.set i true == l')
theorem take_ofW {B : List Nat} (hT : rtab md ops = T) (hB : waitsOk T.2 B = true) (h : takeW T B ds l.toList l'.toList i = true) : takeB md ops ds l l' i = true := by
 refine take_of hT ?_
 simp only [takeW, takeT, Bool.and_eq_true] at h ⊢
 obtain ⟨⟨⟨⟨⟨h1, h2⟩, h3⟩, h4⟩, h5⟩, h6⟩ := h
 refine ⟨⟨⟨⟨⟨h1, h2⟩, h3⟩, h4⟩, ?_⟩, h6⟩
 unfold lastW at h5
 unfold lastT
 rw [List.all_eq_true] at h5 ⊢
 intro d hd
 have h7 := h5 d hd
 rw [Bool.or_eq_true, Bool.and_eq_true, decide_eq_true_eq] at h7
 rcases h7 with h7 | ⟨h8, h9⟩
 ·rw [h7, Bool.true_or]
 ·rw [reach_bit hB _ d h8 h8 h9, Bool.or_true]
theorem with_tabW {P : Program} {Q : Exit → Act → World → Prop} {S : World → Prop} {n : Nat} {a : Act} {w : World} {B : List Nat} (hT : rtab md ops = T) (hB : waitsOk T.2 B = true) (h : Aside0 (rtab md ops = T) → Aside0 (waitsOk T.2 B = true) → wpAnyLast P md ops Q S ds n l a w) : wpAnyLast P md ops Q S ds n l a w := h ⟨hT⟩ ⟨hB⟩
end
def opsIn : Code → Nat → Option (Array Oper)
 | .region id ops _, k => if id == k then some ops else none
 | .seq a b, k => match opsIn a k with
  | some o => some o
  | none => opsIn b k
 | .cond _ a b, k => match opsIn a k with
  | some o => some o
  | none => opsIn b k
 | .block _ c, k => opsIn c k
 | .loop c, k => opsIn c k
 | .scope c, k => opsIn c k
 | .rangeFunc _ _ a b, k => match opsIn a k with
  | some o => some o
  | none => opsIn b k
 | _, _ => none
def opsOf (f : Func) (k : Nat) : Array Oper := ((f.body.bind fun c => opsIn c k)).getD #[]
end Go.Proofs.YtidglmocekghmaaDoorW.PrintLast
end
section
namespace Go.Proofs.YtidglmocekghmaaDoorW.PrintWords
open Go.RowKit
namespace Kd
def tag {α : Type} (f : Nat → Nat) (d : Kd α) : Kd (α × Nat) where
 sz := d.sz
 E := d.E
 K := fun w x cs => d.K w x.1 cs
 M := fun w base ok x cs => d.M w base (fun k => ok k ∧ f k = x.2) x.1 cs
 K_len := fun h => d.K_len h
 K_one := fun h => d.K_one h
 K_below := fun hb h => d.K_below hb h
 K_of_M := fun h => d.K_of_M h
 M_mono := fun hok h => d.M_mono (fun k hk => ⟨hok k hk.1, hk.2⟩) h
 M_bound := fun h => d.M_mono (fun _ hk => ⟨⟨hk.1.1, hk.2⟩, hk.1.2⟩) (d.M_bound h)
 M_move := fun hm h => d.M_move (fun k hk => hm k hk.1) h
 M_lower := fun hb h => d.M_lower hb h
def raw (sz : Nat) : Kd (List Value) where
 sz := sz
 E := []
 K := fun _ x cs => cs = x ∧ cs.length = sz ∧ ∀ u ∈ cs, u.oneCell' = true
 M := fun _ _ _ x cs => cs = x ∧ cs.length = sz ∧ ∀ u ∈ cs, u.oneCell' = true
 K_len := fun h => h.2.1
 K_one := fun h => h.2.2
 K_below := fun _ h => h
 K_of_M := fun h => h
 M_mono := fun _ h => h
 M_bound := fun h => h
 M_move := fun _ h => h
 M_lower := fun _ h => h
def S {α : Type} (d : Kd α) (e : Nat) (w : World) (base : Nat) (ok : Nat → Prop) (v : Value) (xs : List α) : Prop := ∃ f, (tag f d).R e w base ok v xs.zipIdx
section
variable {α β : Type} {d : Kd α} {d' : Kd β} {e e' : Nat} {w w1 W : World} {base b : Nat} {ok ok' okv oku : Nat → Prop} {u v : Value} {xs : List α} {ys : List β}
theorem S_nil (d : Kd α) (e : Nat) (w : World) (base : Nat) (ok : Nat → Prop) : S d e w base ok (.slice none 0 0) [] := ⟨fun _ => 0, R_nil _ _ _ _ _⟩
end
section
variable {α β : Type} {d : Kd α} {d' : Kd β} {e e' g : Nat} {w w1 W : World} {base b : Nat} {ok ok' okv oku : Nat → Prop} {u v : Value} {xs : List α} {ys : List β}
end
section
variable {P : Program} {ops : Array Oper} {rest : List Oper} {o : Oper} {a : Act} {Q : Exit → Act → World → Prop} {Kc : Act → World → Prop} {α : Type}
end
def gap {α : Type} (f : Nat → Nat) (d : Kd α) (i : Nat) (c : List Value) : Kd (α × Nat) where
 sz := d.sz
 E := d.E
 K := fun w x cs => (x.2 = i → cs = c ∧ cs.length = d.sz ∧ ∀ u ∈ cs, u.oneCell' = true) ∧ (x.2 ≠ i → d.K w x.1 cs)
 M := fun w base ok x cs => (x.2 = i → cs = c ∧ cs.length = d.sz ∧ ∀ u ∈ cs, u.oneCell' = true) ∧ (x.2 ≠ i → d.M w base (fun k => ok k ∧ f k = x.2) x.1 cs)
 K_len := fun {w x cs} h => by
  by_cases hx : x.2 = i
  ·exact (h.1 hx).2.1
  ·exact d.K_len (h.2 hx)
 K_one := fun {w x cs} h => by
  by_cases hx : x.2 = i
  ·exact (h.1 hx).2.2
  ·exact d.K_one (h.2 hx)
 K_below := fun hb h => ⟨h.1, fun hx => d.K_below hb (h.2 hx)⟩
 K_of_M := fun h => ⟨h.1, fun hx => d.K_of_M (h.2 hx)⟩
 M_mono := fun hok h => ⟨h.1, fun hx => d.M_mono (fun k hk => ⟨hok k hk.1, hk.2⟩) (h.2 hx)⟩
 M_bound := fun h => ⟨h.1, fun hx => d.M_mono (fun _ hk => ⟨⟨hk.1.1, hk.2⟩, hk.1.2⟩) (d.M_bound (h.2 hx))⟩
 M_move := fun hm h => ⟨h.1, fun hx => d.M_move (fun k hk => hm k hk.1) (h.2 hx)⟩
 M_lower := fun hb h => ⟨h.1, fun hx => d.M_lower hb (h.2 hx)⟩
def H {α : Type} (d : Kd α) (e : Nat) (w : World) (base : Nat) (ok : Nat → Prop) (v : Value) (xs : List α) (i : Int) (oki : Nat → Prop) (c : List Value) : Prop :=
 (∀ k, oki k → ok k) ∧ ∃ f, (gap f d i.toNat c).R e w base (fun k => ok k ∧ ¬ oki k) v xs.zipIdx
section
variable {α β : Type} {d : Kd α} {e e' g n cap : Nat} {w w1 W : World} {base : Nat} {ok ok' oki okp : Nat → Prop} {u v : Value} {xs : List α} {i : Int} {c : List Value}
end
section
variable {P : Program} {ops : Array Oper} {rest : List Oper} {o : Oper} {a : Act} {Q : Exit → Act → World → Prop} {α : Type}
end
end Kd
end Go.Proofs.YtidglmocekghmaaDoorW.PrintWords
end
section
namespace Go.Proofs.YtidglmocekghmaaDoorW.PrintWords
open Go.RowKit
namespace Kd
theorem reps_one {α : Type} {R : α → List Value → Prop} {size : Nat} {ps : List α} {cs : List Value} (h : Reps R size ps cs) (hs0 : 0 < size) (hR : ∀ p c, R p c → ∀ u ∈ c, u.oneCell' = true) : ∀ u ∈ cs, u.oneCell' = true := by
 intro u hu
 obtain ⟨q, hq, rfl⟩ := List.mem_iff_getElem.1 hu
 have hql : q / size < ps.length := by
  rw [Nat.div_lt_iff_lt_mul hs0, ← h.1]
  exact hq
 refine hR _ _ (h.2 (q / size) _ (List.getElem?_eq_getElem hql)) _ ?_
 rw [List.mem_iff_getElem?]
 refine ⟨q % size, ?_⟩
 rw [List.getElem?_take, if_pos (Nat.mod_lt _ hs0), List.getElem?_drop, Nat.mul_comm, Nat.div_add_mod, List.getElem?_eq_getElem hq]
section
variable {α : Type} {n : Nat} {d : Kd α} {hs : 0 < d.sz} {w : World} {base : Nat} {ok : Nat → Prop} {xs : List α} {cs : List Value}
end
section
variable {α : Type} {n : Nat} {enc : α → Value} {h1 : ∀ x, (enc x).oneCell' = true} {hs : 0 < (scalar enc h1).sz} {w : World} {base : Nat} {ok : Nat → Prop} {xs : List α} {cs : List Value}
end
end Kd
end Go.Proofs.YtidglmocekghmaaDoorW.PrintWords
end
section
namespace Go.Proofs.YtidglmocekghmaaDoorW.PrintWords
open Go.RowKit
section
variable {P : Program}
theorem run_append_zeros (w : World) (base : Nat) (t ti ty e : TypeId) (i : TypeInfo) (z : Value) (size bytes : Nat) (ht : P.underlying t = some (.slice e)) {k : IntKind} (hti : P.underlying ti = some (.int k)) (hi : P.info? e = some i) (hz : i.zero = some z)
  (hsize : i.size = size) (hby : i.bytes = bytes) (hzs : z.cells.size = size) (hsz : 0 < size) (hb0 : 0 < bytes)
  (v : Value) (n : Nat) (xs : List Value) (hown : w.ownsRow base e size v n xs) (kx : IntKind) (m : Nat) (h1 : ∀ u ∈ (Builtin.zeroCells z.cells m).toList, u.oneCell' = true)
  (hbytes : (n + m) * bytes ≤ 140737488355328) (hbase : base ≤ w.heap.size) :
  ∃ v' w', (Builtin.append_ #[t, ti] ty #[v, .int kx m]).run P w = .ok v' w' ∧ w'.ownsRow base e size v' (n + m) (xs ++ (Builtin.zeroCells z.cells m).toList) ∧ w.grownBy w' v.ownBlock ∧
   (v'.ownBlock = v.ownBlock ∨ v'.ownBlock = some w.heap.size) := by
 subst hsize
 subst hby
 have hle : n + m ≤ 140737488355328 := Nat.le_trans (Nat.le_mul_of_pos_right _ hb0) hbytes
 have h63 : n + m ≤ maxLen := by simp only [maxLen]; omega
 have hw : IntKind.i64.wrap (m : Int) = m := by rw [IntKind.wrap_i64]; omega
 have hw0 : IntKind.i64.wrap 0 = 0 := by rw [IntKind.wrap_i64]; rfl
 have hneg : ¬ ((m : Int) < 0) := by omega
 have hmb : m * i.bytes ≤ 140737488355328 := Nat.le_trans (Nat.mul_le_mul_right _ (Nat.le_add_left m n)) hbytes
 have hbig : ¬ (281474976710656 < (m : Int) * (i.bytes : Int)) := by
  rw [← Int.natCast_mul]
  omega
 have hsn : i.size ≠ 0 := by omega
 obtain ⟨news, hnews⟩ : ∃ news, news = (Builtin.zeroCells z.cells m).toList := ⟨_, rfl⟩
 rw [← hnews] at h1 ⊢
 have hl : news.length = m * i.size := by rw [hnews, Array.length_toList, size_zeroCells, hzs]
 have hna : Builtin.zeroCells z.cells m = news.toArray := by rw [hnews]
 have hlen : (xs ++ news).length = (n + m) * i.size := by rw [List.length_append, hown.1, hl, Nat.add_mul]
 have hnil : m = 0 → news = [] := fun h => List.eq_nil_of_length_eq_zero (by rw [hl, h, Nat.zero_mul])
 have grown : ∀ (old : Nat), old < n + m → ∀ (row : Option Nat),
   (w.drew.alloc (.cells (xs.toArray ++ news.toArray ++ Builtin.zeroCells z.cells (grownCap w (n + m) old e - (n + m))) e)).ownsRow base e i.size
    (.slice (some ⟨w.heap.size, 0, none⟩) (n + m) (grownCap w (n + m) old e)) (n + m) (xs ++ news) ∧
   w.grownBy (w.drew.alloc (.cells (xs.toArray ++ news.toArray ++ Builtin.zeroCells z.cells (grownCap w (n + m) old e - (n + m))) e)) row := by
  intro old ho row
  have hge := grownCap_ge w (n + m) old e
  have hcm : grownCap w (n + m) old e ≤ maxLen := grownCap_le_maxLen w (n + m) old e h63
  refine ⟨⟨hlen, .inr ⟨w.heap.size, _, _, rfl, hbase, heap_alloc_new w.drew _, hge, hcm, ?_, ?_⟩⟩, ⟨rfl, rfl, rfl, by simp, fun k hk _ => heap_alloc_old w.drew _ hk⟩⟩
  ·simp only [Array.size_append, List.size_toArray, size_zeroCells, hzs, hown.1, hl, ← Nat.add_mul]
   congr 1
   omega
  ·simp only [Array.toList_append, List.append_assoc]
   rw [← List.append_assoc, ← hlen]
   exact List.take_left
 have runs : ∀ (A : Option Addr) (cap : Nat), cap < n + m → (Builtin.firstCells i.size n (.slice A n cap)).run P w.drew = .ok xs.toArray w.drew → (Builtin.append_ #[t, ti] ty #[.slice A n cap, .int kx m]).run P w =
   .ok (.slice (some ⟨w.heap.size, 0, none⟩) (n + m) (grownCap w (n + m) cap e)) (w.drew.alloc (.cells (xs.toArray ++ news.toArray ++ Builtin.zeroCells z.cells (grownCap w (n + m) cap e - (n + m))) e)) := by
  intro A cap hcap hfo
  have hn : ¬ (n + m ≤ cap) := by omega
  have h63' : ¬ (9223372036854775807 < ((n : Int) + (m : Int))) := by omega
  have hfit := growslice_fits hcap hbytes
  have h48' : ¬ (281474976710656 < Builtin.nextslicecap (n + m) cap * i.bytes) := by omega
  by_cases hm : m = 0
  ·have hnl := hnil hm
   subst hm
   rw [hnl]
   simp only [Nat.add_zero] at hn h63' h48' ⊢
   have h63'' : ¬ (9223372036854775807 < (n : Int)) := by omega
   simp [Builtin.append_, run_underlying ht, run_underlying hti, sizeOf, typeInfo, zeroValue, hi, hz, asInt, asIntOf, hw0, hn, h63'', h48', Question.forced, hfo, newRow, grownCap]
  ·have hmz : ¬ (m * i.size = 0) := Nat.mul_ne_zero hm hsn
   simp [Builtin.append_, run_underlying ht, run_underlying hti, sizeOf, typeInfo, zeroValue, hi, hz, asInt, asIntOf, hw, hneg, hbig, hn, h63', h48', Question.forced, hfo, newRow, grownCap, hmz, hna]
   congr 2
   apply Array.ext'
   simp [List.append_assoc]
 rcases hown.2 with ⟨rfl, rfl⟩ | ⟨g, cap, cur, rfl, hbg, hg, hnc, hcm, hcs, htake⟩
 ·have hx : xs = [] := List.eq_nil_of_length_eq_zero (by simpa using hown.1)
  subst hx
  by_cases hm : m = 0
  ·have hnl := hnil hm
   subst hm
   rw [hnl]
   refine ⟨.slice none 0 0, w, ?_, World.ownsRow_nil w base e i.size, ⟨rfl, rfl, rfl, Nat.le_refl _, fun _ _ _ => rfl⟩, Or.inl rfl⟩
   simp [Builtin.append_, run_underlying ht, run_underlying hti, sizeOf, typeInfo, hi, asInt, asIntOf, hw0]
  ·have hgr := grown 0 (by omega) (Value.ownBlock (.slice none 0 0))
   exact ⟨_, _, runs none 0 (by omega) (by simp [Builtin.firstCells]), hgr.1, hgr.2, Or.inr rfl⟩
 ·by_cases hroom : n + m ≤ cap
  ·have hfit : n * i.size + news.length ≤ cur.size := by rw [hl, hcs, ← Nat.add_mul]; exact Nat.mul_le_mul_right _ hroom
   obtain ⟨cur', h3, h4, h5⟩ := setCells_row news (n * i.size) w cur hg hfit
   obtain ⟨s1, s2, s3, s4⟩ := setCells_same g news (n * i.size) w
   have hst := run_storeCells_cells (P := P) g (n * i.size) news 0 w (fun j hj => by rw [cell_of_row w g _ cur e (0, 0) hg]; simp; omega) (fun j _ => blk_frozen hg _) h1
   simp only [Nat.add_zero] at hst
   refine ⟨.slice (some ⟨g, 0, none⟩) (n + m) cap, w.setCells g (n * i.size) news, ?_, ⟨hlen, .inr ⟨g, cap, cur', rfl, hbg, h3, hroom, hcm, by rw [h4, hcs], ?_⟩⟩, ⟨s1, s2, s3, by rw [s4]; exact Nat.le_refl _, fun k _ hk => setCells_far news _ k (fun e => hk (by simp [Value.ownBlock, e]))⟩, Or.inl rfl⟩
   ·by_cases hm : m = 0
    ·have hnl := hnil hm
     subst hm
     rw [hnl] at hst ⊢
     simp [Builtin.append_, run_underlying ht, run_underlying hti, sizeOf, typeInfo, hi, asInt, asIntOf, hw0, hnc, add_plain, hst]
    ·have hmz : ¬ (m * i.size = 0) := Nat.mul_ne_zero hm hsn
     simp [Builtin.append_, run_underlying ht, run_underlying hti, sizeOf, typeInfo, zeroValue, hi, hz, asInt, asIntOf, hw, hneg, hbig, hroom, hmz, hna, add_plain, hst]
   ·rw [h5]
    have h6 : cur.toList.take (n * i.size) = xs := htake
    rw [h6, ← hlen]
    exact List.take_left
  ·have holds : ∀ j u, xs[j]? = some u → w.cell? ((⟨g, 0, none⟩ : Addr).add j) = some u := hown.cells (g := g) rfl
   have hgr := grown cap (by omega) (Value.ownBlock (.slice (some ⟨g, 0, none⟩) n cap))
   exact ⟨_, _, runs (some ⟨g, 0, none⟩) cap (by omega) (run_firstCells_some (P := P) w.drew i.size n _ n cap xs hown.1 (by simpa using holds)), hgr.1, hgr.2, Or.inr rfl⟩
end
namespace Kd
theorem reps_zeros {α : Type} {R : α → List Value → Prop} {z : Value} {size : Nat} {z0 : α} (hz : z.cells.size = size) (hs : 0 < size) (h0 : R z0 z.cells.toList) (m : Nat) : Reps R size (List.replicate m z0) (Builtin.zeroCells z.cells m).toList := by
 have h := reps_made hz hs h0 m
 rw [show Builtin.zeroCells z.cells m = madeCells z.cells (m * size) by unfold Builtin.zeroCells madeCells; rw [hz]]
 exact h
section
variable {P : Program} {ops : Array Oper} {rest : List Oper} {o : Oper} {a : Act} {Q : Exit → Act → World → Prop} {Kc : Act → World → Prop} {α : Type}
theorem R_zeros_run (d : Kd α) {W : World} (base : Nat) (t ti ty e : TypeId) (z : Value) (bytes : Nat) (ht : P.underlying t = some (.slice e)) {k : IntKind} (hti : P.underlying ti = some (.int k)) (hinfo : (P.info? e).map (fun i => (i.zero, i.size, i.bytes)) = some (some z, d.sz, bytes)) (hz : z.cells.size = d.sz) (hs0 : 0 < d.sz) (hb0 : 0 < bytes)
  (v : Value) (xs : List α) (z0 : α) {ok : Nat → Prop} (hzero : d.M W base (fun _ => False) z0 z.cells.toList) (hfresh : ∀ k, W.heap.size ≤ k → ok k) (HO : d.R e W base ok v xs) (kx : IntKind) (n : Int) (h0 : 0 ≤ n) (hl : (xs.length + n.toNat) * bytes ≤ 140737488355328) (hbase : base ≤ W.heap.size) :
  ∃ v1 w1, (Builtin.append_ #[t, ti] ty #[v, .int kx n]).run P W = .ok v1 w1 ∧ d.R e w1 base ok v1 (xs ++ List.replicate n.toNat z0) ∧ W.grownBy w1 v.ownBlock ∧ (v1.ownBlock = v.ownBlock ∨ ∃ b, v1.ownBlock = some b ∧ W.heap.size ≤ b) := by
 obtain ⟨m, rfl⟩ := Int.eq_ofNat_of_zero_le h0
 simp only [Int.toNat_natCast] at hl ⊢
 obtain ⟨i0, hi, hzz⟩ := Option.map_eq_some_iff.1 hinfo
 simp only [Prod.mk.injEq] at hzz
 obtain ⟨hz0, hz1, hz2⟩ := hzz
 obtain ⟨hok, inner, hown, hr⟩ := HO
 have hnM : Reps (d.M W base (fun _ => False)) d.sz (List.replicate m z0) (Builtin.zeroCells z.cells m).toList := reps_zeros hz hs0 hzero m
 obtain ⟨v1, w1, hrun, h2, hg, hat⟩ := run_append_zeros (P := P) W base t ti ty e i0 z d.sz bytes ht hti hi hz0 hz1 hz2 hz hs0 hb0 v xs.length inner hown kx m (reps_one hnM hs0 (fun _ _ hp => d.K_one (d.K_of_M hp))) hl hbase
 have hat' : v1.ownBlock = v.ownBlock ∨ ∃ b, v1.ownBlock = some b ∧ W.heap.size ≤ b := by
  rcases hat with hat | hat
  ·exact .inl hat
  ·exact .inr ⟨_, hat, Nat.le_refl _⟩
 have hne : ∀ k, some k ≠ v.ownBlock → k < W.heap.size → some k ≠ v1.ownBlock := by
  intro k hk hlt
  rcases hat' with hat | ⟨b, hb, hle⟩
  ·rw [hat]; exact hk
  ·rw [hb]
   intro he
   injection he with he
   omega
 have step : ∀ {q : α} {c : List Value} {o : Nat → Prop}, d.M W base o q c → (∀ k, o k → ok k ∧ some k ≠ v.ownBlock) → d.M w1 base (fun k => ok k ∧ some k ≠ v1.ownBlock) q c := by
  intro q c o hq ho
  have h1 := d.M_move (w1 := w1) (fun k hk => hg.block k hk.2.2.1 (ho k hk.1).2) (d.M_bound hq)
  exact d.M_mono (fun k hk => ⟨(ho k hk.1).1, hne k (ho k hk.1).2 hk.2.2.1⟩) h1
 refine ⟨v1, w1, hrun, ⟨fun k hk => ?_, inner ++ (Builtin.zeroCells z.cells m).toList, by rw [List.length_append, List.length_replicate]; exact h2, reps_append (hr.imp_ (fun _ _ hq => step hq (fun _ hk => hk))) (hnM.imp_ (fun _ _ hq => step hq (fun _ hk => hk.elim)))⟩, hg, hat'⟩
 rcases hat' with hat | ⟨b, hb, hle⟩
 ·exact hok k (hat ▸ hk)
 ·rw [hb] at hk
  injection hk with hk
  exact hfresh k (by omega)
theorem R_append_zeros (d : Kd α) {w0 W : World} (base : Nat) (hgd : o.guard = none) (s x : Operand) (t ti e : TypeId) (z : Value) (bytes : Nat)
  (ho : o.op = .call { callee := .builtin .append, args := #[s, x], argTypes := #[t, ti] })
  (ht : P.underlying t = some (.slice e)) {k : IntKind} (hti : P.underlying ti = some (.int k)) (hinfo : (P.info? e).map (fun i => (i.zero, i.size, i.bytes)) = some (some z, d.sz, bytes)) (hz : z.cells.size = d.sz) (hs0 : 0 < d.sz) (hb0 : 0 < bytes)
  (v : Value) (xs : List α) (z0 : α) {kx : IntKind} (n : Int) (ok : Nat → Prop) (hs : a.eval s = v) (hx : a.eval x = .int kx n) (hzero : d.M W base (fun _ => False) z0 z.cells.toList) (hfresh : ∀ k, W.heap.size ≤ k → ok k)
  (HO : d.R e W base ok v xs) (h0 : 0 ≤ n) (HB : Below base w0 W) (hbase : base ≤ W.heap.size) (hl : (xs.length + n.toNat) * bytes ≤ 140737488355328)
  (h : ∀ v1 w1, d.R e w1 base ok v1 (xs ++ List.replicate n.toNat z0) → Below base w0 w1 → W.grownBy w1 v.ownBlock → (v1.ownBlock = v.ownBlock ∨ ∃ b, v1.ownBlock = some b ∧ W.heap.size ≤ b) → wpList P ops Q rest (a.put o.dst v1) w1) :
  wpList P ops Q (o :: rest) a W := by
 obtain ⟨v1, w1, hr1, h1, hg, hat⟩ := R_zeros_run (P := P) d base t ti o.type e z bytes ht hti hinfo hz hs0 hb0 v xs z0 hzero hfresh HO kx n h0 hl hbase
 refine wpList_plain hgd fun K hK => ?_
 unfold Oper.wp execOp
 simp only [ho, resolve, invoke, builtin, Sem.run_bind, Sem.run_pure, Result.andThen_ok, List.map_toArray, List.map_cons, List.map_nil, hs, hx, hr1]
 exact hK _ _ (h v1 w1 h1 (HB.grown hg hbase (R_base HO)) hg hat)
end
section
variable {α : Type} {d : Kd α} {e : Nat} {w : World} {base : Nat} {ok : Nat → Prop} {v : Value} {xs : List α}
end
section
variable {P : Program} {ops : Array Oper} {rest : List Oper} {o : Oper} {a : Act} {Q : Exit → Act → World → Prop} {Kc : Act → World → Prop} {α : Type}
end
end Kd
end Go.Proofs.YtidglmocekghmaaDoorW.PrintWords
end
section
namespace Go.Proofs.YtidglmocekghmaaDoorW.PrintWords
open Go.RowKit
namespace Kd
structure Heap {α : Type} (d : Kd α) : Prop where
 K : ∀ {w w1 : World} {x : α} {cs : List Value}, (∀ k, k < w.heap.size → w1.heap[k]? = w.heap[k]?) → d.K w x cs → d.K w1 x cs
theorem cell_heap {w w1 : World} (hb : ∀ k, k < w.heap.size → w1.heap[k]? = w.heap[k]?) {a : Addr} {v : Value} (h : w.cell? a = some v) : w1.cell? a = some v := by
 have := hb a.block (World.block_lt_of_cell? w a h)
 simpa [World.cell?, this] using h
theorem Heap.C {α : Type} {d : Kd α} (hd : Heap d) {w w1 : World} {A : Option Addr} {n : Nat} {xs : List α} (hb : ∀ k, k < w.heap.size → w1.heap[k]? = w.heap[k]?) (h : d.C w A n xs) : d.C w1 A n xs :=
 ⟨h.1, h.2.1, fun hn => by
  obtain ⟨ad, e, hc⟩ := h.2.2 hn
  refine ⟨ad, e, fun j p hj => ?_⟩
  obtain ⟨c, hs, hr, hcell⟩ := hc j p hj
  exact ⟨c, hs, hd.K hb hr, fun i u hu => cell_heap hb (hcell i u hu)⟩⟩
section
variable {α : Type} {d : Kd α} {e base g n c : Nat} {ok : Nat → Prop} {w w0 W : World} {A : Option Addr} {xs : List α}
end
end Kd
end Go.Proofs.YtidglmocekghmaaDoorW.PrintWords
end
section
namespace Go.Proofs.YtidglmocekghmaaDoorW.PrintWords
open Go.RowKit
def Kept (w W : World) (S : Nat → Prop) : Prop := w.heap.size ≤ W.heap.size ∧ ∀ i, i < w.heap.size → ¬ S i → W.heap[i]? = w.heap[i]?
section
variable {w W W2 : World} {S S2 S' : Nat → Prop}
theorem Kept.refl (w : World) (S : Nat → Prop) : Kept w w S := ⟨Nat.le_refl _, fun _ _ _ => rfl⟩
theorem Kept.of_below (h : Below w.heap.size w W) (S : Nat → Prop) : Kept w W S := ⟨h.size, fun i hi _ => h.block i hi⟩
theorem Kept.mono (h : Kept w W S) (hs : ∀ k, S k → S' k) : Kept w W S' := ⟨h.1, fun i hi hn => h.2 i hi (fun hk => hn (hs i hk))⟩
theorem Kept.then_ (h : Kept w W S) (k : Kept W W2 S2) (hs : ∀ k, S2 k → S k ∨ w.heap.size ≤ k) : Kept w W2 S :=
 ⟨Nat.le_trans h.1 k.1, fun i hi hn => (k.2 i (Nat.lt_of_lt_of_le hi h.1) (fun h2 => (hs i h2).elim hn (fun h3 => by omega))).trans (h.2 i hi hn)⟩
theorem Kept.below (h : Kept w W S) (hb : Below W.heap.size W W2) : Kept w W2 S := h.then_ (Kept.of_below hb (fun _ => False)) (fun _ hk => hk.elim)
theorem Kept.alloc (h : Kept w W S) (o : Obj) : Kept w (W.alloc o) S := h.below (below_alloc (Below.refl _ _) o)
theorem Kept.drew (h : Kept w W S) : Kept w W.drew S := h
theorem Kept.drewN (h : Kept w W S) (m : Nat) : Kept w (W.drewN m) S := h
theorem Kept.setCell (h : Kept w W S) {p : Addr} (hp : S p.block ∨ w.heap.size ≤ p.block) (u : Value) : Kept w (W.setCell p u) S :=
 h.then_ (S2 := fun k => k = p.block) ⟨by simp [World.setCell], fun i _ hn => Below.heap_setCell W p u i hn⟩ (fun k hk => by rw [hk]; exact hp)
theorem Kept.keep {g : Nat} (h : KeepBut w W g none) (k : Kept W W2 S2) (hs : ∀ k, S2 k → w.heap.size ≤ k) : KeepBut w W2 g none :=
 ⟨Nat.le_trans h.1 k.1, fun i hi hg hr => (k.2 i (Nat.lt_of_lt_of_le hi h.1) (fun h2 => by have := hs i h2; omega)).trans (h.2 i hi hg hr)⟩
theorem blk_kept {g : Nat} {o : Obj} (hb : W.heap[g]? = some o) (hk : Kept W W2 S) (hne : ¬ S g) : W2.heap[g]? = some o := (hk.2 g (blk_lt hb) hne).trans hb
end
namespace Kd
section
variable {α : Type} {d : Kd α} {e base n c : Nat} {ok oki S S2 : Nat → Prop} {w w0 W W1 W2 : World} {v : Value} {A : Option Addr} {xs : List α} {i : Int} {cs : List Value}
end
end Kd
end Go.Proofs.YtidglmocekghmaaDoorW.PrintWords
end
section
namespace Go.Proofs.YtidglmocekghmaaDoorW.PrintWords
open Go.RowKit
def Foot (P : World → Prop) (W : World) (ok : Nat → Prop) : Prop := ∀ W' : World, (∀ k, ok k → k < W.heap.size → W'.heap[k]? = W.heap[k]?) → P W'
theorem heap_lt {W W1 : World} {k : Nat} (h : W1.heap[k]? = W.heap[k]?) (hlt : k < W.heap.size) : k < W1.heap.size := by
 rw [Array.getElem?_eq_getElem hlt] at h
 exact (Array.getElem?_eq_some_iff.1 h).1
namespace Foot
variable {P Q : World → Prop} {W W1 : World} {ok ok' : Nat → Prop}
theorem now (h : Foot P W ok) : P W := h W (fun _ _ _ => rfl)
theorem mono (h : Foot P W ok) (hok : ∀ k, ok k → ok' k) : Foot P W ok' := fun W' hW => h W' (fun k hk hlt => hW k (hok k hk) hlt)
theorem bound (h : Foot P W ok) : Foot P W (fun k => ok k ∧ k < W.heap.size) := fun W' hW => h W' (fun k hk hlt => hW k ⟨hk, hlt⟩ hlt)
theorem step (h : Foot P W ok) (hm : ∀ k, ok k → k < W.heap.size → W1.heap[k]? = W.heap[k]?) : Foot P W1 ok := fun W' hW => h W' (fun k hk hlt => (hW k hk (heap_lt (hm k hk hlt) hlt)).trans (hm k hk hlt))
theorem old (h : Foot P W ok) (hb : Below W.heap.size W W1) : Foot P W1 (fun k => ok k ∧ k < W.heap.size) := (h.bound).step (fun k _ hlt => hb.block k hlt)
end Foot
namespace Kd
def F {α : Type} (d : Kd α) (W : World) (ok : Nat → Prop) (A : Option Addr) (n : Nat) (xs : List α) : Prop := Foot (fun W => d.C W A n xs) W ok
def FK {α : Type} (d : Kd α) (W : World) (ok : Nat → Prop) (x : α) (c : List Value) : Prop := Foot (fun W => d.K W x c) W ok
section
variable {α β : Type} {d : Kd α} {e base n n' cc g N : Nat} {ok ok' okp S : Nat → Prop} {w w0 w1 W W1 : World} {A A' : Option Addr} {u v v1 : Value} {xs : List α} {xs' : List β} {d' : Kd β} {x : α} {c : List Value}
theorem F_nil (d : Kd α) (W : World) (ok : Nat → Prop) : F d W ok none ([] : List α).length [] := fun W' _ => C_nil d W'
theorem FK_of_M (h : d.M W base ok x c) : FK d W ok x c := fun _ hW => d.K_of_M (M_step h hW)
end
end Kd
end Go.Proofs.YtidglmocekghmaaDoorW.PrintWords
end
section
namespace Go.Proofs.YtidglmocekghmaaDoorW.PrintWords
open Go.RowKit
namespace Kd
def chunks (sz : Nat) (n : Nat) (inner : List Value) : List (List Value) := (List.range n).map fun j => (inner.drop (j * sz)).take sz
theorem chunks_length (sz n : Nat) (inner : List Value) : (chunks sz n inner).length = n := by simp [chunks]
theorem chunks_at {sz n : Nat} {inner : List Value} {j : Nat} (hj : j < n) : (chunks sz n inner)[j]? = some ((inner.drop (j * sz)).take sz) := by simp [chunks, hj]
theorem chunks_get {sz n : Nat} {inner : List Value} {j : Nat} {c : List Value} (h : (chunks sz n inner)[j]? = some c) : c = (inner.drop (j * sz)).take sz := by
 have hj : j < n := by have := (List.getElem?_eq_some_iff.1 h).1; rwa [chunks_length] at this
 rw [chunks_at hj] at h
 injection h with h
 exact h.symm
theorem reps_raw {α : Type} {Rr : α → List Value → Prop} {sz : Nat} {xs : List α} {inner : List Value} (h : Reps Rr sz xs inner) (hR : ∀ x c, Rr x c → c.length = sz ∧ ∀ u ∈ c, u.oneCell' = true) : Reps (fun x cs => cs = x ∧ cs.length = sz ∧ ∀ u ∈ cs, u.oneCell' = true) sz (chunks sz xs.length inner) inner := by
 refine ⟨by rw [chunks_length]; exact h.1, fun j p hj => ?_⟩
 have hjl : j < xs.length := by have := (List.getElem?_eq_some_iff.1 hj).1; rwa [chunks_length] at this
 have hp := chunks_get hj
 exact ⟨hp.symm, hR _ _ (h.2 j _ (List.getElem?_eq_getElem hjl))⟩
section
variable {α : Type} {d : Kd α} {e base n cc g : Nat} {ok ok' okp S : Nat → Prop} {w w1 W W1 : World} {A : Option Addr} {u v v1 : Value} {xs : List α} {x : α} {c : List Value}
def N {α : Type} (d : Kd α) (e : Nat) (w : World) (base : Nat) (ok : Nat → Prop) (v : Value) (xs : List α) : Prop :=
 (∀ k, v.ownBlock = some k → ok k) ∧ ∃ rows : List (List Value), rows.length = xs.length ∧ (raw d.sz).R e w base (fun k => some k = v.ownBlock) v rows ∧ ∀ (j : Nat) (x : α) (c : List Value), xs[j]? = some x → rows[j]? = some c → FK d w (fun k => ok k ∧ some k ≠ v.ownBlock) x c
theorem R_N (h : d.R e w base ok v xs) : N d e w base ok v xs := by
 obtain ⟨h0, inner, ho, hr⟩ := h
 refine ⟨h0, chunks d.sz xs.length inner, chunks_length _ _ _, ⟨fun k hk => hk.symm, inner, by rw [chunks_length]; exact ho, reps_raw hr (fun x c hp => ⟨d.K_len (d.K_of_M hp), d.K_one (d.K_of_M hp)⟩)⟩, fun j x c hx hc => ?_⟩
 rw [chunks_get hc]
 exact FK_of_M (hr.2 j x hx)
theorem N_nil (d : Kd α) (e : Nat) (w : World) (base : Nat) (ok : Nat → Prop) : N d e w base ok (.slice none 0 0) [] := R_N (R_nil _ _ _ _ _)
end
end Kd
end Go.Proofs.YtidglmocekghmaaDoorW.PrintWords
end
section
namespace Go.Proofs.YtidglmocekghmaaDoorW.PrintWords
theorem Reps.one {α : Type} {R : α → List Value → Prop} {ps : List α} {cs : List Value} {p : α} {v : Value} (hp : R p [v]) (h : Reps R 1 ps cs) : Reps R 1 (p :: ps) (v :: cs) := by
 refine ⟨by simp [h.1], fun j q hq => ?_⟩
 cases j with
 | zero =>
  simp only [List.getElem?_cons_zero, Option.some.injEq] at hq
  subst hq
  simpa using hp
 | succ j =>
  simp only [List.getElem?_cons_succ] at hq
  have h1 := h.2 j q hq
  simpa [Nat.mul_one] using h1
theorem Reps.front {α : Type} {R : α → List Value → Prop} {size : Nat} {ps : List α} {cs c all : List Value} {p : α} (hp : R p c) (hc : c.length = size) (h : Reps R size ps cs) (ha : c ++ cs = all) : Reps R size (p :: ps) all := by
 subst ha
 refine ⟨by rw [List.length_append, hc, h.1, List.length_cons, Nat.succ_mul, Nat.add_comm], fun j q hq => ?_⟩
 cases j with
 | zero =>
  simp only [List.getElem?_cons_zero, Option.some.injEq] at hq
  subst hq
  rw [Nat.zero_mul, List.drop_zero, List.take_append_of_le_length (by omega), List.take_of_length_le (by omega)]
  exact hp
 | succ j =>
  simp only [List.getElem?_cons_succ] at hq
  have h1 := h.2 j q hq
  rw [Nat.succ_mul, List.drop_append, List.drop_of_length_le (by rw [hc]; exact Nat.le_add_left _ _), List.nil_append, hc, Nat.add_sub_cancel]
  exact h1
theorem Reps.c2 {α : Type} {R : α → List Value → Prop} {ps : List α} {cs : List Value} {p : α} {va vb : Value} (hp : R p [va, vb]) (h : Reps R 2 ps cs) : Reps R 2 (p :: ps) (va :: vb :: cs) := Reps.front hp rfl h rfl
theorem Reps.c3 {α : Type} {R : α → List Value → Prop} {ps : List α} {cs : List Value} {p : α} {va vb vc : Value} (hp : R p [va, vb, vc]) (h : Reps R 3 ps cs) : Reps R 3 (p :: ps) (va :: vb :: vc :: cs) := Reps.front hp rfl h rfl
theorem Reps.c4 {α : Type} {R : α → List Value → Prop} {ps : List α} {cs : List Value} {p : α} {va vb vc vd : Value} (hp : R p [va, vb, vc, vd]) (h : Reps R 4 ps cs) : Reps R 4 (p :: ps) (va :: vb :: vc :: vd :: cs) := Reps.front hp rfl h rfl
theorem Reps.c5 {α : Type} {R : α → List Value → Prop} {ps : List α} {cs : List Value} {p : α} {va vb vc vd ve : Value} (hp : R p [va, vb, vc, vd, ve]) (h : Reps R 5 ps cs) : Reps R 5 (p :: ps) (va :: vb :: vc :: vd :: ve :: cs) := Reps.front hp rfl h rfl
theorem Reps.c6 {α : Type} {R : α → List Value → Prop} {ps : List α} {cs : List Value} {p : α} {va vb vc vd ve vf : Value} (hp : R p [va, vb, vc, vd, ve, vf]) (h : Reps R 6 ps cs) : Reps R 6 (p :: ps) (va :: vb :: vc :: vd :: ve :: vf :: cs) := Reps.front hp rfl h rfl
theorem Reps.c7 {α : Type} {R : α → List Value → Prop} {ps : List α} {cs : List Value} {p : α} {va vb vc vd ve vf vg : Value} (hp : R p [va, vb, vc, vd, ve, vf, vg]) (h : Reps R 7 ps cs) : Reps R 7 (p :: ps) (va :: vb :: vc :: vd :: ve :: vf :: vg :: cs) := Reps.front hp rfl h rfl
theorem Reps.c8 {α : Type} {R : α → List Value → Prop} {ps : List α} {cs : List Value} {p : α} {va vb vc vd ve vf vg vh : Value} (hp : R p [va, vb, vc, vd, ve, vf, vg, vh]) (h : Reps R 8 ps cs) : Reps R 8 (p :: ps) (va :: vb :: vc :: vd :: ve :: vf :: vg :: vh :: cs) := Reps.front hp rfl h rfl
theorem Reps.c9 {α : Type} {R : α → List Value → Prop} {ps : List α} {cs : List Value} {p : α} {va vb vc vd ve vf vg vh vi : Value} (hp : R p [va, vb, vc, vd, ve, vf, vg, vh, vi]) (h : Reps R 9 ps cs) : Reps R 9 (p :: ps) (va :: vb :: vc :: vd :: ve :: vf :: vg :: vh :: vi :: cs) := Reps.front hp rfl h rfl
theorem Reps.c10 {α : Type} {R : α → List Value → Prop} {ps : List α} {cs : List Value} {p : α} {va vb vc vd ve vf vg vh vi vj : Value} (hp : R p [va, vb, vc, vd, ve, vf, vg, vh, vi, vj]) (h : Reps R 10 ps cs) : Reps R 10 (p :: ps) (va :: vb :: vc :: vd :: ve :: vf :: vg :: vh :: vi :: vj :: cs) := Reps.front hp rfl h rfl
end Go.Proofs.YtidglmocekghmaaDoorW.PrintWords
end
section
namespace Go.Proofs.YtidglmocekghmaaDoorW.PrintMore
open Go.RowKit Go.Proofs.YtidglmocekghmaaDoorW.PrintWords
namespace Kd
open Go.Proofs.YtidglmocekghmaaDoorW.PrintWords.Kd
end Kd
namespace Kd
open Go.Proofs.YtidglmocekghmaaDoorW.PrintWords.Kd
section
variable {α : Type} {d : Kd α} {e base g N : Nat} {ok : Nat → Prop} {W w1 : World} {u v : Value} {xs : List α}
theorem R_old (hu : d.R e W base ok u xs) (hb : Below W.heap.size W w1) : d.R e w1 base (fun k => ok k ∧ k < W.heap.size) u xs :=
 R_mono (R_below (R_bound hu) hb) (fun _ h => ⟨h.1, h.2.2.1⟩)
theorem R_told (h : d.R e w1 base (fun k => ok k ∧ k < N) u xs) (hbase : ∀ k, v.ownBlock = some k → N ≤ k) : d.R e w1 base (fun k => (ok k ∧ some k ≠ v.ownBlock) ∧ k < N) u xs :=
 R_mono h (fun k hk => ⟨⟨hk.1, fun e => Nat.lt_irrefl _ (Nat.lt_of_lt_of_le hk.2 (hbase k e.symm))⟩, hk.2⟩)
end
end Kd
theorem max2_int (k k' : IntKind) (x y : Int) : Builtin.max2 (.int k x) (.int k' y) = pure (.int k (if x < y then y else x)) := by simp only [Builtin.max2, gt_iff_lt]
theorem min2_int (k k' : IntKind) (x y : Int) : Builtin.min2 (.int k x) (.int k' y) = pure (.int k (if y < x then y else x)) := by simp only [Builtin.min2]
theorem max_two (ats : Array TypeId) (ty : TypeId) (a b : Value) : Builtin.max_ ats ty #[a, b] = (Builtin.max2 a b >>= fun s => pure s) := by simp only [Builtin.max_, List.foldlM_cons, List.foldlM_nil]
theorem min_two (ats : Array TypeId) (ty : TypeId) (a b : Value) : Builtin.min_ ats ty #[a, b] = (Builtin.min2 a b >>= fun s => pure s) := by simp only [Builtin.min_, List.foldlM_cons, List.foldlM_nil]
theorem max_three (ats : Array TypeId) (ty : TypeId) (a b c : Value) : Builtin.max_ ats ty #[a, b, c] = (Builtin.max2 a b >>= fun s => Builtin.max2 s c >>= fun s => pure s) := by simp only [Builtin.max_, List.foldlM_cons, List.foldlM_nil]
theorem min_three (ats : Array TypeId) (ty : TypeId) (a b c : Value) : Builtin.min_ ats ty #[a, b, c] = (Builtin.min2 a b >>= fun s => Builtin.min2 s c >>= fun s => pure s) := by simp only [Builtin.min_, List.foldlM_cons, List.foldlM_nil]
theorem max_four (ats : Array TypeId) (ty : TypeId) (a b c d : Value) : Builtin.max_ ats ty #[a, b, c, d] = (Builtin.max2 a b >>= fun s => Builtin.max2 s c >>= fun s => Builtin.max2 s d >>= fun s => pure s) := by simp only [Builtin.max_, List.foldlM_cons, List.foldlM_nil]
theorem min_four (ats : Array TypeId) (ty : TypeId) (a b c d : Value) : Builtin.min_ ats ty #[a, b, c, d] = (Builtin.min2 a b >>= fun s => Builtin.min2 s c >>= fun s => Builtin.min2 s d >>= fun s => pure s) := by simp only [Builtin.min_, List.foldlM_cons, List.foldlM_nil]
end Go.Proofs.YtidglmocekghmaaDoorW.PrintMore
namespace Go.Proofs.YtidglmocekghmaaDoorW.PrintWords
open Go.RowKit
section
variable {P : Program} {ops : Array Oper} {rest : List Oper} {o : Oper} {a : Act} {Q : Exit → Act → World → Prop} {W : World}
theorem gate_callee {f : FuncId} {as_z : Array Operand} {ts : Array TypeId} (_ho : o.op = .call { callee := .value (.func f), args := as_z, argTypes := ts }) (h : wpList P ops Q (o :: rest) a W) : wpList P ops Q (o :: rest) a W := h
theorem gate_builtin {b : Builtin} {xs : Array Operand} {ts : Array TypeId} (_ho : o.op = .call { callee := .builtin b, args := xs, argTypes := ts }) (h : wpList P ops Q (o :: rest) a W) : wpList P ops Q (o :: rest) a W := h
end
def mx (a b : Int) : Int := if a < b then b else a
def shr (k : IntKind) (x y : Int) : Int := x / 2 ^ min y.toNat k.bits
theorem shr_small {k : IntKind} {x y j : Int} (h : shr k x y = j) (hy : y ≤ k.bits) : x / 2 ^ y.toNat = j := by rw [← h]; unfold shr; rw [Nat.min_eq_left (by omega)]
namespace Kd
section
variable {α : Type} {d : Kd α} {e base : Nat} {ok : Nat → Prop} {W w1 : World} {v : Value} {xs : List α}
end
section
variable {α : Type} {d : Kd α} {e base g n cap : Nat} {ok oki okp : Nat → Prop} {W : World} {xs : List α} {i : Int} {c : List Value}
end
section
variable {α : Type} {d : Kd α} {e base b b' g N : Nat} {ok ok1 : Nat → Prop} {W W2 w1 : World} {u v : Value} {xs ys : List α} {S : Nat → Prop}
end
end Kd
end Go.Proofs.YtidglmocekghmaaDoorW.PrintWords
namespace Go.Proofs.YtidglmocekghmaaDoorW.PrintWords
open Go.RowKit
namespace Kd
def V {α : Type} (d : Kd α) (_e : Nat) (W : World) (_base : Nat) (ok : Nat → Prop) (v : Value) (xs : List α) : Prop := ∃ A c, v = .slice A xs.length c ∧ xs.length ≤ c ∧ F d W ok A xs.length xs
section
variable {α β : Type} {d : Kd α} {e base base' n m c g N' lo hi : Nat} {ok ok' S : Nat → Prop} {w W w1 : World} {A : Option Addr} {ad : Addr} {u v v1 : Value} {xs : List α}
theorem V_nil (d : Kd α) (e : Nat) (W : World) (base : Nat) (ok : Nat → Prop) : V d e W base ok (.slice none 0 0) [] := ⟨none, 0, rfl, Nat.le_refl _, F_nil d W ok⟩
end
end Kd
end Go.Proofs.YtidglmocekghmaaDoorW.PrintWords
end
section
namespace Go.Proofs.YtidglmocekghmaaDoor.Pr
open Go.RowKit Go.Proofs.YtidglmocekghmaaDoorW.PrintWords Go.Proofs.YtidglmocekghmaaDoorW.PrintLast Go.Proofs.YtidglmocekghmaaDoorW.PrintMore
attribute [local go_sem] max2_int min2_int max_two min_two max_three min_three max_four min_four
set_option linter.unusedVariables false
set_option linter.unusedSimpArgs false
def errW : Option Int → Value
 | none => .nilIface
 | some c => .iface 0 (.int .i64 c)
theorem errW_none : errW none = .nilIface := rfl
theorem errW_some (c : Int) : errW (some c) = .iface 0 (.int .i64 c) := rfl
theorem info3 : (Tryd.prog.info? 3).map (fun i => (i.zero, i.size, i.bytes)) = some (some (.int .i64 0), 1, 8) := by kernel_rfl
theorem info5 : (Tryd.prog.info? 5).map (fun i => (i.zero, i.size, i.bytes)) = some (some (.int .u8 0), 1, 1) := by kernel_rfl
theorem info32 : (Tryd.prog.info? 32).map (fun i => (i.zero, i.size, i.bytes)) = some (some (.int .u64 0), 1, 8) := by kernel_rfl
theorem info37 : (Tryd.prog.info? 37).map (fun i => (i.zero, i.size, i.bytes)) = some (some (.agg #[(.int .i64 0), (.int .i64 0), (.int .i64 0), (.slice none 0 0), (.slice none 0 0)]), 5, 72) := by kernel_rfl
def rd_L1 (xs : List (List Int)) (i : Int) : (List Int) := xs.getD i.toNat ([] : List Int)
theorem at_L1 {w : World} {A : Option Addr} {n : Nat} {xs : List (List Int)} (h : Kd.C (Kd.slice 32 (Kd.int .u64)) w A n xs) (i : Int) (h0 : 0 ≤ i) (h1 : i < n) : ∃ ad A0 c0, A = some ad ∧ w.cell? (ad.add i.toNat) = some (.slice A0 (rd_L1 xs i).length c0) ∧ (rd_L1 xs i).length ≤ c0 ∧ (Kd.int .u64).C w A0 (rd_L1 xs i).length (rd_L1 xs i) := by
 obtain ⟨ad, c, e, _, hK, hc0⟩ := Kd.C_get h ([] : List Int) i h0 h1
 have hc : ∀ j u, c[j]? = some u → w.cell? (ad.add (i.toNat * 1 + j)) = some u := hc0
 obtain ⟨A0, c0, rfl, l0, g0⟩ := hK
 exact ⟨ad, A0, c0, e, by have hq := hc 0 _ rfl; rwa [Nat.mul_one, Nat.add_zero] at hq, l0, g0⟩
structure S24 where
 f0 : Int
 f1 : Int
 f2 : Int
structure S52 where
 f0 : Int
structure S75 where
 f0 : Int
 f1 : Int
 f2 : Int
 f3 : Int
 f4 : Int
 f5 : Int
 f6 : Int
 f7 : Int
structure S37 where
 f0 : Int
 f1 : Int
 f2 : Int
 f3 : (List Int)
 f4 : (List S37)
def z37 : S37 := ⟨(0 : Int), (0 : Int), (0 : Int), ([] : List Int), ([] : List S37)⟩
def F37 (d : Kd S37) : Kd S37 := Kd.iso (Kd.pair (Kd.int .i64) (Kd.pair (Kd.int .i64) (Kd.pair (Kd.int .i64) (Kd.pair (Kd.slice 5 (Kd.int .u8)) (Kd.slice 37 d))))) (fun x : S37 => (x.f0, x.f1, x.f2, x.f3, x.f4))
theorem mono37 : Kd.Mono F37 := Kd.mono_iso _ (Kd.mono_pair (Kd.mono_const _) (Kd.mono_pair (Kd.mono_const _) (Kd.mono_pair (Kd.mono_const _) (Kd.mono_pair (Kd.mono_const _) (Kd.mono_slice 37 Kd.mono_id)))))
theorem sub37 : Kd.Sub F37 [5, 37] := Kd.sub_iso _ (Kd.sub_pair (Kd.sub_const _ (by decide)) (Kd.sub_pair (Kd.sub_const _ (by decide)) (Kd.sub_pair (Kd.sub_const _ (by decide)) (Kd.sub_pair (Kd.sub_const _ (by decide)) (Kd.sub_slice 37 (by decide) Kd.sub_id)))))
theorem sz37 : ∀ n, (Kd.upto F37 5 [5, 37] n).sz = 5 := Kd.upto_sz (fun _ => rfl)
def k37 : Kd S37 := Kd.fix F37 5 [5, 37] sz37 (Kd.upto_E sub37)
theorem k37_open {w : World} {x : S37} {cs : List Value} (h : k37.K w x cs) : ∃ A3 c3 A4 c4, cs = [.int .i64 x.f0, .int .i64 x.f1, .int .i64 x.f2, .slice A3 x.f3.length c3, .slice A4 x.f4.length c4] ∧ x.f3.length ≤ c3 ∧ (Kd.int .u8).C w A3 x.f3.length x.f3 ∧ x.f4.length ≤ c4 ∧ k37.C w A4 x.f4.length x.f4 := by
 obtain ⟨n, h⟩ := h
 cases n with
 | zero => exact h.elim
 | succ n =>
  obtain ⟨_, _, rfl, rfl, ⟨_, _, rfl, rfl, ⟨_, _, rfl, rfl, ⟨_, _, rfl, ⟨A3, c3, rfl, l3, g3⟩, ⟨A4, c4, rfl, l4, g4⟩⟩⟩⟩⟩ := h
  exact ⟨A3, c3, A4, c4, rfl, l3, g3, l4, Kd.fix_C g4⟩
theorem k37_mk (w : World) (x : S37) {A3 : Option Addr} {c3 : Nat} (l3 : x.f3.length ≤ c3) (g3 : (Kd.int .u8).C w A3 x.f3.length x.f3) {A4 : Option Addr} {c4 : Nat} (l4 : x.f4.length ≤ c4) (g4 : k37.C w A4 x.f4.length x.f4) : k37.K w x [.int .i64 x.f0, .int .i64 x.f1, .int .i64 x.f2, .slice A3 x.f3.length c3, .slice A4 x.f4.length c4] := by
 obtain ⟨n4, q4⟩ := Kd.fix_C_back mono37 g4
 have r4 := Kd.upto_C_le mono37 sz37 (show n4 ≤ n4 by omega) q4
 exact ⟨n4 + 1, ⟨[.int .i64 x.f0], [.int .i64 x.f1, .int .i64 x.f2, .slice A3 x.f3.length c3, .slice A4 x.f4.length c4], rfl, rfl, ⟨[.int .i64 x.f1], [.int .i64 x.f2, .slice A3 x.f3.length c3, .slice A4 x.f4.length c4], rfl, rfl, ⟨[.int .i64 x.f2], [.slice A3 x.f3.length c3, .slice A4 x.f4.length c4], rfl, rfl, ⟨[.slice A3 x.f3.length c3], [.slice A4 x.f4.length c4], rfl, ⟨A3, c3, rfl, l3, g3⟩, ⟨A4, c4, rfl, l4, r4⟩⟩⟩⟩⟩⟩
theorem k37_mkM (w : World) (base : Nat) (ok : Nat → Prop) (x : S37) {v3 : Value} (g3 : (Kd.int .u8).R 5 w base ok v3 x.f3) {v4 : Value} (g4 : k37.R 37 w base ok v4 x.f4) : k37.M w base ok x [.int .i64 x.f0, .int .i64 x.f1, .int .i64 x.f2, v3, v4] := by
 obtain ⟨n4, q4⟩ := Kd.fix_R_back mono37 g4
 have r4 := Kd.upto_R_le mono37 sz37 (show n4 ≤ n4 by omega) q4
 exact ⟨n4 + 1, ⟨[.int .i64 x.f0], [.int .i64 x.f1, .int .i64 x.f2, v3, v4], rfl, rfl, ⟨[.int .i64 x.f1], [.int .i64 x.f2, v3, v4], rfl, rfl, ⟨[.int .i64 x.f2], [v3, v4], rfl, rfl, ⟨[v3], [v4], rfl, ⟨v3, rfl, g3⟩, ⟨v4, rfl, r4⟩⟩⟩⟩⟩⟩
def rd_T37 (xs : List S37) (i : Int) : S37 := xs.getD i.toNat z37
theorem at_T37 {w : World} {A : Option Addr} {n : Nat} {xs : List S37} (h : Kd.C k37 w A n xs) (i : Int) (h0 : 0 ≤ i) (h1 : i < n) : ∃ ad A3 c3 A4 c4, A = some ad ∧ w.cell? (ad.add (i.toNat * 5)) = some (.int .i64 (rd_T37 xs i).f0) ∧ w.cell? ⟨(ad.add (i.toNat * 5)).block, (ad.add (i.toNat * 5)).off + 1, none⟩ = some (.int .i64 (rd_T37 xs i).f1) ∧ w.cell? ⟨(ad.add (i.toNat * 5)).block, (ad.add (i.toNat * 5)).off + 2, none⟩ = some (.int .i64 (rd_T37 xs i).f2) ∧ w.cell? ⟨(ad.add (i.toNat * 5)).block, (ad.add (i.toNat * 5)).off + 3, none⟩ = some (.slice A3 (rd_T37 xs i).f3.length c3) ∧ w.cell? ⟨(ad.add (i.toNat * 5)).block, (ad.add (i.toNat * 5)).off + 4, none⟩ = some (.slice A4 (rd_T37 xs i).f4.length c4) ∧ (rd_T37 xs i).f3.length ≤ c3 ∧ (Kd.int .u8).C w A3 (rd_T37 xs i).f3.length (rd_T37 xs i).f3 ∧ (rd_T37 xs i).f4.length ≤ c4 ∧ k37.C w A4 (rd_T37 xs i).f4.length (rd_T37 xs i).f4 := by
 obtain ⟨ad, c, e, _, hK, hc0⟩ := Kd.C_get h z37 i h0 h1
 have hc : ∀ j u, c[j]? = some u → w.cell? (ad.add (i.toNat * 5 + j)) = some u := hc0
 obtain ⟨A3, c3, A4, c4, rfl, l3, g3, l4, g4⟩ := k37_open hK
 exact ⟨ad, A3, c3, A4, c4, e, hc 0 _ rfl, by rw [← add_field _ _ 1 (by omega)]; exact hc 1 _ rfl, by rw [← add_field _ _ 2 (by omega)]; exact hc 2 _ rfl, by rw [← add_field _ _ 3 (by omega)]; exact hc 3 _ rfl, by rw [← add_field _ _ 4 (by omega)]; exact hc 4 _ rfl, l3, g3, l4, g4⟩
end Go.Proofs.YtidglmocekghmaaDoor.Pr
end
section
namespace Go.Proofs.YtidglmocekghmaaDoor.Pr
open Go.RowKit Go.Proofs.YtidglmocekghmaaDoorW.PrintWords Go.Proofs.YtidglmocekghmaaDoorW.PrintLast Go.Proofs.YtidglmocekghmaaDoorW.PrintMore
theorem bb {Q P : Prop} (q : Aside0 Q) (h : Q → P := by intro q_; (repeat (first | (with_reducible first | exact q_ | apply below_alloc | apply pw_below_drewN | apply below_drew1 | refine below_set ?_ (Aside0.out (by with_reducible assumption))) | exact q_))) : P := h q.out
theorem nl {w w1 : World} {g b : Nat} {o : Obj} (q : Aside0 (w.heap[g]? = some o)) (hg : b = w1.heap.size) (h : w.heap[g]? = some o → w1.heap[g]? = some o := by intro q_; (with_reducible repeat (first | refine blk_drewN ?_ _ | refine blk_drew ?_ | refine blk_alloc ?_ _)); exact q_) : Aside0 (g ≠ b) := ⟨by rw [hg]; exact Nat.ne_of_lt (blk_lt (h q.out))⟩
theorem bd {w : World} {g : Nat} {o : Obj} (q : Aside0 (w.heap[g]? = some o)) : Aside0 (w.drew.heap[g]? = some o) := ⟨blk_drew q.out⟩
section
variable {w : World} {g : Nat} {t : TypeId} {v v0 v1 v2 v3 v4 v5 v6 v7 v8 : Value} {r : List Value}
theorem cq0 (q : Aside0 (w.heap[g]? = some (.cells (List.toArray (v :: r)) t (0, 0)))) : w.cell? ⟨g, 0, none⟩ = some v := (blk_cell q.out 0).trans rfl
theorem cq1 (q : Aside0 (w.heap[g]? = some (.cells (List.toArray (v0 :: v :: r)) t (0, 0)))) : w.cell? ⟨g, 1, none⟩ = some v := (blk_cell q.out 1).trans rfl
theorem cq2 (q : Aside0 (w.heap[g]? = some (.cells (List.toArray (v0 :: v1 :: v :: r)) t (0, 0)))) : w.cell? ⟨g, 2, none⟩ = some v := (blk_cell q.out 2).trans rfl
theorem cq3 (q : Aside0 (w.heap[g]? = some (.cells (List.toArray (v0 :: v1 :: v2 :: v :: r)) t (0, 0)))) : w.cell? ⟨g, 3, none⟩ = some v := (blk_cell q.out 3).trans rfl
theorem cq4 (q : Aside0 (w.heap[g]? = some (.cells (List.toArray (v0 :: v1 :: v2 :: v3 :: v :: r)) t (0, 0)))) : w.cell? ⟨g, 4, none⟩ = some v := (blk_cell q.out 4).trans rfl
theorem cq5 (q : Aside0 (w.heap[g]? = some (.cells (List.toArray (v0 :: v1 :: v2 :: v3 :: v4 :: v :: r)) t (0, 0)))) : w.cell? ⟨g, 5, none⟩ = some v := (blk_cell q.out 5).trans rfl
theorem cq6 (q : Aside0 (w.heap[g]? = some (.cells (List.toArray (v0 :: v1 :: v2 :: v3 :: v4 :: v5 :: v :: r)) t (0, 0)))) : w.cell? ⟨g, 6, none⟩ = some v := (blk_cell q.out 6).trans rfl
theorem cq7 (q : Aside0 (w.heap[g]? = some (.cells (List.toArray (v0 :: v1 :: v2 :: v3 :: v4 :: v5 :: v6 :: v :: r)) t (0, 0)))) : w.cell? ⟨g, 7, none⟩ = some v := (blk_cell q.out 7).trans rfl
theorem cq8 (q : Aside0 (w.heap[g]? = some (.cells (List.toArray (v0 :: v1 :: v2 :: v3 :: v4 :: v5 :: v6 :: v7 :: v :: r)) t (0, 0)))) : w.cell? ⟨g, 8, none⟩ = some v := (blk_cell q.out 8).trans rfl
theorem cq9 (q : Aside0 (w.heap[g]? = some (.cells (List.toArray (v0 :: v1 :: v2 :: v3 :: v4 :: v5 :: v6 :: v7 :: v8 :: v :: r)) t (0, 0)))) : w.cell? ⟨g, 9, none⟩ = some v := (blk_cell q.out 9).trans rfl
end
end Go.Proofs.YtidglmocekghmaaDoor.Pr
end
section
namespace Go.Proofs.YtidglmocekghmaaDoor.Pr
set_option linter.unusedSimpArgs false
set_option linter.unusedVariables false
open Go.RowKit Go.Proofs.YtidglmocekghmaaDoorW.PrintWords Go.Proofs.YtidglmocekghmaaDoorW.PrintLast Go.Proofs.YtidglmocekghmaaDoorW.PrintMore
section
variable {P : Program} {md : Region.Mode} {ops : Array Oper} {Q : Exit → Act → World → Prop} {S : World → Prop} {ds : List Nat}
def PuAt (P : Program) (md : Region.Mode) (ops : Array Oper) (Q : Exit → Act → World → Prop) (i n : Nat) (l l' : Array Bool) (a a' : Act) : Prop :=
 ∃ (oi : Oper) (v : Value), ops[i]? = some oi ∧ oi.dst = some n ∧ l.setIfInBounds i true = l' ∧ anyB md ops l l' i = true ∧ (∀ c a w, Q (.panic c) (a.put oi.dst v) w → Q (.panic c) a w) ∧ Yields P ops oi v a ∧ a.put (some n) v = a'
def TkAt (P : Program) (md : Region.Mode) (ops : Array Oper) (Q : Exit → Act → World → Prop) (S : World → Prop) (ds : List Nat) (i n : Nat) (l l' : Array Bool) (a a' : Act) : Prop :=
 ∃ (oi : Oper) (v : Value), ops[i]? = some oi ∧ oi.dst = some n ∧ l.setIfInBounds i true = l' ∧ takeB md ops ds l l' i = true ∧ (∀ c a w, Q (.panic c) (a.put oi.dst v) w → Q (.panic c) a w) ∧ YieldsIf P ops S oi v a ∧ a.put (some n) v = a'
theorem pu (i n : Nat) {fuel : Nat} {l l' : Array Bool} {a a' : Act} {w : World} (h : wpAnyLast P md ops Q S ds fuel l' a' w)
    (k : PuAt P md ops Q i n l l' a a' := by
      refine ⟨_, ?_, rfl, rfl, ?_, ?_, fun _ _ _ h => h, Or.inl ⟨by rfl, ?_⟩, ?_⟩
      rotate_left
      · simp only [List.setIfInBounds_toArray, List.set_cons_zero, List.set_cons_succ]; rfl
      · kernel_rfl
      · intro w'; go_simp; with_reducible rfl
      · simp only [Act.put, List.setIfInBounds_toArray, List.set_cons_zero, List.set_cons_succ, i64_w, i32_w]; rfl) : wpAnyLast P md ops Q S ds (fuel + 1) l a w := by
  obtain ⟨oi, v, hi, hN, hl, hc, hQ, hy, ha⟩ := k
  exact pure_ l' hi hN hc hQ hy ha h
theorem tk1 (i n : Nat) {fuel : Nat} {l l' : Array Bool} {a a' : Act} {w : World} (hS : S w) (h : wpAnyLast P md ops Q S ds fuel l' a' w)
    (k : TkAt P md ops Q S ds i n l l' a a' := by
      refine ⟨_, ?_, rfl, rfl, ?_, ?_, fun _ _ _ h => h, Or.inl ⟨by rfl, ?_⟩, ?_⟩
      rotate_left
      · simp only [List.setIfInBounds_toArray, List.set_cons_zero, List.set_cons_succ]; rfl
      · kernel_rfl
      · rintro w' s0; go_simp; with_reducible rfl
      · simp only [Act.put, List.setIfInBounds_toArray, List.set_cons_zero, List.set_cons_succ, i64_w, i32_w]; rfl) : wpAnyLast P md ops Q S ds (fuel + 1) l a w := by
  obtain ⟨oi, v, hi, hN, hl, hc, hQ, hy, ha⟩ := k
  exact take_ l' hi hN hc hQ hy hS ha h
theorem tk2 (i n : Nat) {fuel : Nat} {l l' : Array Bool} {a a' : Act} {w : World} (hS : S w) (h : wpAnyLast P md ops Q S ds fuel l' a' w)
    (k : TkAt P md ops Q S ds i n l l' a a' := by
      refine ⟨_, ?_, rfl, rfl, ?_, ?_, fun _ _ _ h => h, Or.inl ⟨by rfl, ?_⟩, ?_⟩
      rotate_left
      · simp only [List.setIfInBounds_toArray, List.set_cons_zero, List.set_cons_succ]; rfl
      · kernel_rfl
      · rintro w' ⟨s0, s1⟩; go_simp; with_reducible rfl
      · simp only [Act.put, List.setIfInBounds_toArray, List.set_cons_zero, List.set_cons_succ, i64_w, i32_w]; rfl) : wpAnyLast P md ops Q S ds (fuel + 1) l a w := by
  obtain ⟨oi, v, hi, hN, hl, hc, hQ, hy, ha⟩ := k
  exact take_ l' hi hN hc hQ hy hS ha h
theorem tk3 (i n : Nat) {fuel : Nat} {l l' : Array Bool} {a a' : Act} {w : World} (hS : S w) (h : wpAnyLast P md ops Q S ds fuel l' a' w)
    (k : TkAt P md ops Q S ds i n l l' a a' := by
      refine ⟨_, ?_, rfl, rfl, ?_, ?_, fun _ _ _ h => h, Or.inl ⟨by rfl, ?_⟩, ?_⟩
      rotate_left
      · simp only [List.setIfInBounds_toArray, List.set_cons_zero, List.set_cons_succ]; rfl
      · kernel_rfl
      · rintro w' ⟨s0, s1, s2⟩; go_simp; with_reducible rfl
      · simp only [Act.put, List.setIfInBounds_toArray, List.set_cons_zero, List.set_cons_succ, i64_w, i32_w]; rfl) : wpAnyLast P md ops Q S ds (fuel + 1) l a w := by
  obtain ⟨oi, v, hi, hN, hl, hc, hQ, hy, ha⟩ := k
  exact take_ l' hi hN hc hQ hy hS ha h
theorem tk4 (i n : Nat) {fuel : Nat} {l l' : Array Bool} {a a' : Act} {w : World} (hS : S w) (h : wpAnyLast P md ops Q S ds fuel l' a' w)
    (k : TkAt P md ops Q S ds i n l l' a a' := by
      refine ⟨_, ?_, rfl, rfl, ?_, ?_, fun _ _ _ h => h, Or.inl ⟨by rfl, ?_⟩, ?_⟩
      rotate_left
      · simp only [List.setIfInBounds_toArray, List.set_cons_zero, List.set_cons_succ]; rfl
      · kernel_rfl
      · rintro w' ⟨s0, s1, s2, s3⟩; go_simp; with_reducible rfl
      · simp only [Act.put, List.setIfInBounds_toArray, List.set_cons_zero, List.set_cons_succ, i64_w, i32_w]; rfl) : wpAnyLast P md ops Q S ds (fuel + 1) l a w := by
  obtain ⟨oi, v, hi, hN, hl, hc, hQ, hy, ha⟩ := k
  exact take_ l' hi hN hc hQ hy hS ha h
end
end Go.Proofs.YtidglmocekghmaaDoor.Pr
end
section
namespace Go.Proofs.YtidglmocekghmaaDoor.Pr
open Go.RowKit Go.Proofs.YtidglmocekghmaaDoorW.PrintWords Go.Proofs.YtidglmocekghmaaDoorW.PrintLast Go.Proofs.YtidglmocekghmaaDoorW.PrintMore
attribute [local go_sem] max2_int min2_int max_two min_two max_three min_three max_four min_four
set_option linter.unusedVariables false
set_option linter.unusedSimpArgs false
def budget_Start.f (a0_0 : Int) (a0_1 : Int) (a0_2 : Int) : Option (Int) := some (mx a0_1 0)
set_option maxHeartbeats 8000000 in
set_option maxRecDepth 100000 in
theorem budget_Start.calls (a0_0 : Int) (a0_1 : Int) (a0_2 : Int) (r : Int) (w : World) (h : budget_Start.f a0_0 a0_1 a0_2 = some r) :
  Calls Tryd.prog 20 #[.agg #[.int .i64 a0_0, .int .i64 a0_1, .int .i64 a0_2]] w fun e w' => e = .returned (.agg #[.int .i64 r]) ∧ Below w.heap.size w w' := by
 have hu24 := Tryd.underlying24
 have hu52 := Tryd.underlying52
 have HB := Aside0.mk (Below.refl w.heap.size w)
 have H : (some (mx a0_1 0)) = some r := h
 clear h
 obtain ⟨ji2, hji2⟩ : ∃ j_ : Int, (mx a0_1 0) = j_ := ⟨_, rfl⟩
 replace H : (some ji2) = some r := by first | (rw [hji2] at H; exact H) | (simp only [hji2] at H ⊢; exact H)
 (try (have hji2l : 0 ≤ ji2 := by (rw [← hji2]; unfold mx; (repeat' split) <;> omega)))
 (try (have hji2m : 0 ≤ ji2 := by omega))
 have hji2_ : (if a0_1 < 0 then 0 else a0_1) = ji2 := hji2
 obtain rfl := Option.some.inj H
 go_enter Tryd.func20, Tryd.ntmps20
 go_wp2_with (first | ((with_reducible refine gate_dst (N := 1) rfl ?_); refine box_event ?hg (N := 1) ?hd (cs := #[.int .i64 a0_0, .int .i64 a0_1, .int .i64 a0_2]) (t := 24) ?hr ?_; (case hd => rfl); (case hg => rfl); (case hr => first | (go_simp; done) | (go_simp; rfl)); intro gb101 hg w3 hbox hb; have n0_ := Aside0.mk (below_step (by repeat (first | (with_reducible first | exact HB.out | apply below_alloc | apply pw_below_drewN | apply below_drew1) | exact HB.out)) hb); have n1_ := Aside0.mk (hbox); have n2_ := Aside0.mk ((by rw [hg]; exact (below_size (by repeat (first | (with_reducible first | exact HB.out | apply below_alloc | apply pw_below_drewN | apply below_drew1) | exact HB.out))) : w.heap.size ≤ gb101)); have n3_ := Aside0.mk ((by rw [hg]; exact (below_size (by repeat (first | (with_reducible first | exact HB.out | apply below_alloc | apply pw_below_drewN | apply below_drew1) | exact HB.out))) : w.heap.size ≤ gb101)); clear HB; have HB := n0_; have BK101 := n1_; have GW101 := n2_; have GE101 := n3_; clear n0_ n1_ n2_ n3_; clear hb hbox hg) | ((with_reducible refine gate_dst (N := 2) rfl ?_); refine box_event ?hg (N := 2) ?hd (cs := #[.int .i64 0]) (t := 52) ?hr ?_; (case hd => rfl); (case hg => rfl); (case hr => first | (go_simp; done) | (go_simp; rfl)); intro gb102 hg w4 hbox hb; have n0_ := Aside0.mk (blk_below (g := gb101) (o := .cells #[.int .i64 a0_0, .int .i64 a0_1, .int .i64 a0_2] 24 (0, 0)) (by (with_reducible repeat (first | refine blk_drewN ?_ _ | refine blk_drew ?_ | refine blk_alloc ?_ _)); exact BK101.out) hb); have n1_ := Aside0.mk (below_step (by repeat (first | (with_reducible first | exact HB.out | apply below_alloc | apply pw_below_drewN | apply below_drew1 | refine below_set ?_ GE101.out) | exact HB.out)) hb); have n2_ := Aside0.mk (hbox); have n3_ := Aside0.mk ((by rw [hg]; exact (below_size (by repeat (first | (with_reducible first | exact HB.out | apply below_alloc | apply pw_below_drewN | apply below_drew1 | refine below_set ?_ GE101.out) | exact HB.out))) : w.heap.size ≤ gb102)); have n4_ := Aside0.mk ((by rw [hg]; exact (below_size (by repeat (first | (with_reducible first | exact HB.out | apply below_alloc | apply pw_below_drewN | apply below_drew1 | refine below_set ?_ GE101.out) | exact HB.out))) : w.heap.size ≤ gb102)); have n5_ := Aside0.mk ((by rw [hg]; exact Nat.ne_of_lt (blk_lt (g := gb101) (o := .cells #[.int .i64 a0_0, .int .i64 a0_1, .int .i64 a0_2] 24 (0, 0)) (by (with_reducible repeat (first | refine blk_drewN ?_ _ | refine blk_drew ?_ | refine blk_alloc ?_ _)); exact BK101.out)) : gb101 ≠ gb102)); have n6_ := Aside0.mk ((by rw [hg]; exact Nat.ne_of_gt (blk_lt (g := gb101) (o := .cells #[.int .i64 a0_0, .int .i64 a0_1, .int .i64 a0_2] 24 (0, 0)) (by (with_reducible repeat (first | refine blk_drewN ?_ _ | refine blk_drew ?_ | refine blk_alloc ?_ _)); exact BK101.out)) : gb102 ≠ gb101)); clear BK101; clear HB; have BK101 := n0_; have HB := n1_; have BK102 := n2_; have GW102 := n3_; have GE102 := n4_; have NB101_102 := n5_; have NB102_101 := n6_; clear n0_ n1_ n2_ n3_ n4_ n5_ n6_; clear hb hbox hg; have hnb5 := NB101_102.out; have hnc5 := NB102_101.out; have hcz6_0 : w4.cell? ⟨gb101, 0, none⟩ = some (.int .i64 a0_0) := (blk_cell BK101.out 0).trans rfl; have hcz6_1 : w4.cell? ⟨gb101, 1, none⟩ = some (.int .i64 a0_1) := (blk_cell BK101.out 1).trans rfl; have hcz6_2 : w4.cell? ⟨gb101, 2, none⟩ = some (.int .i64 a0_2) := (blk_cell BK101.out 2).trans rfl; have hfz6_0 := blk_frozen BK101.out 0; have hfz6_1 := blk_frozen BK101.out 1; have hfz6_2 := blk_frozen BK101.out 2; have hcz7_0 : w4.cell? ⟨gb102, 0, none⟩ = some (.int .i64 0) := (blk_cell BK102.out 0).trans rfl; have hfz7_0 := blk_frozen BK102.out 0))
 refine bodyPost_ret (results_cell_row rfl _ _ gb102 52 #[.int .i64 ji2] (0, 0) _ rfl (by (with_reducible repeat (first | refine blk_drewN ?_ _ | refine blk_drew ?_ | refine blk_alloc ?_ _)); refine blk_put (cs := #[.int .i64 0]) ?_ 0 _ rfl; (with_reducible repeat (first | refine blk_drewN ?_ _ | refine blk_drew ?_ | refine blk_alloc ?_ _)); exact BK102.out) Tryd.underlying52 rfl (by kernel_rfl)) rfl ?_
 exact ⟨by first | rfl | (simp [errW_none, errW_some] <;> rfl) | (simp only [← hji2]; first | rfl | (simp [errW_none, errW_some] <;> rfl)) | (simp [*, errW_none, errW_some] <;> rfl), by repeat (first | (with_reducible first | exact HB.out | apply below_alloc | apply pw_below_drewN | apply below_drew1 | refine below_set ?_ GE101.out | refine below_set ?_ GE102.out) | exact HB.out)⟩
def budget_Enter.f (a0_0 : Int) (a0_1 : Int) (a0_2 : Int) (a1 : Int) : Option (Int) := if a1 > a0_0 then (some 7) else (some 0)
set_option maxHeartbeats 8000000 in
set_option maxRecDepth 100000 in
theorem budget_Enter.calls (a0_0 : Int) (a0_1 : Int) (a0_2 : Int) (a1 : Int) (r : Int) (w : World) (h : budget_Enter.f a0_0 a0_1 a0_2 a1 = some r) :
  Calls Tryd.prog 31 #[.agg #[.int .i64 a0_0, .int .i64 a0_1, .int .i64 a0_2], .int .i64 a1] w fun e w' => e = .returned (.int .i64 r) ∧ Below w.heap.size w w' := by
 have hu24 := Tryd.underlying24
 have HB := Aside0.mk (Below.refl w.heap.size w)
 have H : (if a1 > a0_0 then (some 7) else (some 0)) = some r := h
 clear h
 by_cases c3 : a1 > a0_0
 ·rw [if_pos c3] at H
  have c3b0 : decide (a0_0 < a1) = true := decide_eq_true c3
  clear c3
  obtain rfl := Option.some.inj H
  go_enter Tryd.func31, Tryd.ntmps31
  go_wp2_with (first | ((with_reducible refine gate_dst (N := 2) rfl ?_); refine box_event ?hg (N := 2) ?hd (cs := #[.int .i64 a0_0, .int .i64 a0_1, .int .i64 a0_2]) (t := 24) ?hr ?_; (case hd => rfl); (case hg => rfl); (case hr => first | (go_simp; done) | (go_simp; rfl)); intro gb103 hg w4 hbox hb; have n0_ := Aside0.mk (below_step (by repeat (first | (with_reducible first | exact HB.out | apply below_alloc | apply pw_below_drewN | apply below_drew1) | exact HB.out)) hb); have n1_ := Aside0.mk (hbox); have n2_ := Aside0.mk ((by rw [hg]; exact (below_size (by repeat (first | (with_reducible first | exact HB.out | apply below_alloc | apply pw_below_drewN | apply below_drew1) | exact HB.out))) : w.heap.size ≤ gb103)); have n3_ := Aside0.mk ((by rw [hg]; exact (below_size (by repeat (first | (with_reducible first | exact HB.out | apply below_alloc | apply pw_below_drewN | apply below_drew1) | exact HB.out))) : w.heap.size ≤ gb103)); clear HB; have HB := n0_; have BK103 := n1_; have GW103 := n2_; have GE103 := n3_; clear n0_ n1_ n2_ n3_; clear hb hbox hg; have hcz5_0 : w4.cell? ⟨gb103, 0, none⟩ = some (.int .i64 a0_0) := (blk_cell BK103.out 0).trans rfl; have hcz5_1 : w4.cell? ⟨gb103, 1, none⟩ = some (.int .i64 a0_1) := (blk_cell BK103.out 1).trans rfl; have hcz5_2 : w4.cell? ⟨gb103, 2, none⟩ = some (.int .i64 a0_2) := (blk_cell BK103.out 2).trans rfl; have hfz5_0 := blk_frozen BK103.out 0; have hfz5_1 := blk_frozen BK103.out 1; have hfz5_2 := blk_frozen BK103.out 2))
  go_ret
  exact ⟨by first | rfl | (simp [errW_none, errW_some] <;> rfl) | (simp [*, errW_none, errW_some] <;> rfl), by repeat (first | (with_reducible first | exact HB.out | apply below_alloc | apply pw_below_drewN | apply below_drew1 | refine below_set ?_ GE103.out) | exact HB.out)⟩
 ·rw [if_neg c3] at H
  have c3b0 : decide (a0_0 < a1) = false := decide_eq_false c3
  clear c3
  obtain rfl := Option.some.inj H
  go_enter Tryd.func31, Tryd.ntmps31
  go_wp2_with (first | ((with_reducible refine gate_dst (N := 2) rfl ?_); refine box_event ?hg (N := 2) ?hd (cs := #[.int .i64 a0_0, .int .i64 a0_1, .int .i64 a0_2]) (t := 24) ?hr ?_; (case hd => rfl); (case hg => rfl); (case hr => first | (go_simp; done) | (go_simp; rfl)); intro gb103 hg w6 hbox hb; have n0_ := Aside0.mk (below_step (by repeat (first | (with_reducible first | exact HB.out | apply below_alloc | apply pw_below_drewN | apply below_drew1) | exact HB.out)) hb); have n1_ := Aside0.mk (hbox); have n2_ := Aside0.mk ((by rw [hg]; exact (below_size (by repeat (first | (with_reducible first | exact HB.out | apply below_alloc | apply pw_below_drewN | apply below_drew1) | exact HB.out))) : w.heap.size ≤ gb103)); have n3_ := Aside0.mk ((by rw [hg]; exact (below_size (by repeat (first | (with_reducible first | exact HB.out | apply below_alloc | apply pw_below_drewN | apply below_drew1) | exact HB.out))) : w.heap.size ≤ gb103)); clear HB; have HB := n0_; have BK103 := n1_; have GW103 := n2_; have GE103 := n3_; clear n0_ n1_ n2_ n3_; clear hb hbox hg; have hcz7_0 : w6.cell? ⟨gb103, 0, none⟩ = some (.int .i64 a0_0) := (blk_cell BK103.out 0).trans rfl; have hcz7_1 : w6.cell? ⟨gb103, 1, none⟩ = some (.int .i64 a0_1) := (blk_cell BK103.out 1).trans rfl; have hcz7_2 : w6.cell? ⟨gb103, 2, none⟩ = some (.int .i64 a0_2) := (blk_cell BK103.out 2).trans rfl; have hfz7_0 := blk_frozen BK103.out 0; have hfz7_1 := blk_frozen BK103.out 1; have hfz7_2 := blk_frozen BK103.out 2))
  go_ret
  exact ⟨by first | rfl | (simp [errW_none, errW_some] <;> rfl) | (simp [*, errW_none, errW_some] <;> rfl), by repeat (first | (with_reducible first | exact HB.out | apply below_alloc | apply pw_below_drewN | apply below_drew1 | refine below_set ?_ GE103.out) | exact HB.out)⟩
def word_mask.f (a0 : Int) : Option (Int) := if 0 ≤ (IntKind.u64.wrap (wrap64 (64 - a0))) then (some (shr .u64 18446744073709551615 (IntKind.u64.wrap (wrap64 (64 - a0))))) else (none)
set_option maxHeartbeats 8000000 in
set_option maxRecDepth 100000 in
theorem word_mask.calls (a0 : Int) (r : Int) (w : World) (h : word_mask.f a0 = some r) :
  Calls Tryd.prog 74 #[.int .i64 a0] w fun e w' => e = .returned (.int .u64 r) ∧ Drawn0 w w' := by
 have H : (if 0 ≤ (IntKind.u64.wrap (wrap64 (64 - a0))) then (some (shr .u64 18446744073709551615 (IntKind.u64.wrap (wrap64 (64 - a0))))) else (none)) = some r := h
 clear h
 obtain ⟨ji2, hji2⟩ : ∃ j_ : Int, (IntKind.u64.wrap (wrap64 (64 - a0))) = j_ := ⟨_, rfl⟩
 replace H : (if 0 ≤ (ji2) then (some (shr .u64 18446744073709551615 (ji2))) else (none)) = some r := by first | (rw [hji2] at H; exact H) | (simp only [hji2] at H ⊢; exact H)
 by_cases c3 : 0 ≤ (ji2)
 ·rw [if_pos c3] at H
  have c3b0 := eq_true c3
  have c3b1 : decide (0 ≤ (ji2)) = true := decide_eq_true c3
  clear c3
  obtain ⟨ji4, hji4⟩ : ∃ j_ : Int, (shr .u64 18446744073709551615 (ji2)) = j_ := ⟨_, rfl⟩
  replace H : (some ji4) = some r := by first | (rw [hji4] at H; exact H) | (simp only [hji4] at H ⊢; exact H)
  have hji4_ : (18446744073709551615 / 2 ^ min (ji2).toNat 64) = ji4 := hji4
  have hji4z : (ji2) ≤ 64 → (18446744073709551615 / 2 ^ (ji2).toNat) = ji4 := shr_small hji4
  obtain rfl := Option.some.inj H
  go_enter Tryd.func74, Tryd.ntmps74
  go_wp2
  go_ret
  exact ⟨by first | rfl | (simp; done) | (simp only [← hji2, ← hji4] <;> (first | rfl | simp)) | (simp [*]; done), by repeat (first | exact Drawn0.refl _ | apply Drawn0.step)⟩
 ·rw [if_neg c3] at H
  exact absurd H (by simp)
def word_Field.f (a0 : Int) (a1 : Int) (a2 : Int) : Option (Int) := if 0 ≤ (IntKind.u64.wrap (a1)) then ((word_mask.f a2).bind fun t104 => (some (Go.bits .and .u64 (shr .u64 a0 (IntKind.u64.wrap (a1))) t104))) else (none)
set_option maxHeartbeats 8000000 in
set_option maxRecDepth 100000 in
theorem word_Field.calls (a0 : Int) (a1 : Int) (a2 : Int) (r : Int) (w : World) (h : word_Field.f a0 a1 a2 = some r) :
  Calls Tryd.prog 55 #[.int .u64 a0, .int .i64 a1, .int .i64 a2] w fun e w' => e = .returned (.int .u64 r) ∧ Drawn0 w w' := by
 have H : (if 0 ≤ (IntKind.u64.wrap (a1)) then ((word_mask.f a2).bind fun t104 => (some (Go.bits .and .u64 (shr .u64 a0 (IntKind.u64.wrap (a1))) t104))) else (none)) = some r := h
 clear h
 obtain ⟨ji4, hji4⟩ : ∃ j_ : Int, (IntKind.u64.wrap (a1)) = j_ := ⟨_, rfl⟩
 replace H : (if 0 ≤ (ji4) then ((word_mask.f a2).bind fun t104 => (some (Go.bits .and .u64 (shr .u64 a0 (ji4)) t104))) else (none)) = some r := by first | (rw [hji4] at H; exact H) | (simp only [hji4] at H ⊢; exact H)
 by_cases c5 : 0 ≤ (ji4)
 ·rw [if_pos c5] at H
  have c5b0 := eq_true c5
  have c5b1 : decide (0 ≤ (ji4)) = true := decide_eq_true c5
  clear c5
  obtain ⟨ji6, hji6⟩ : ∃ j_ : Int, (shr .u64 a0 (ji4)) = j_ := ⟨_, rfl⟩
  replace H : ((word_mask.f a2).bind fun t104 => (some (Go.bits .and .u64 (ji6) t104))) = some r := by first | (rw [hji6] at H; exact H) | (simp only [hji6] at H ⊢; exact H)
  have hji6_ : (a0 / 2 ^ min (ji4).toNat 64) = ji6 := hji6
  have hji6z : (ji4) ≤ 64 → (a0 / 2 ^ (ji4).toNat) = ji6 := shr_small hji6
  replace H := Option.bind_eq_some_iff.mp H
  obtain ⟨t104, A70, H⟩ := H
  replace H : (some (Go.bits .and .u64 (ji6) t104)) = some r := H
  have A7 := Aside0.mk A70
  clear A70
  obtain rfl := Option.some.inj H
  go_enter Tryd.func55, Tryd.ntmps55
  go_wp2_with (first | ((with_reducible refine gate_callee (f := 74) rfl ?_); refine goesL_ (some 12) rfl rfl Tryd.func74 (by kernel_rfl) rfl #[.int .i64 a2] rfl (by (try simp only [List.map_toArray, List.map_cons, List.map_nil]); first | done | rfl | (simp only [List.length_drop, List.length_take]; rfl)) ?_; (with_reducible refine (word_mask.calls a2 t104 _ A7.out).mono ?_); rintro e w' ⟨rfl, ⟨nd, rfl⟩⟩; refine ⟨_, rfl, ?_⟩))
  go_ret
  exact ⟨by first | rfl | (simp; done) | (simp only [← hji4, ← hji6] <;> (first | rfl | simp)) | (simp [*]; done), by repeat (first | exact Drawn0.refl _ | apply Drawn0.step)⟩
 ·rw [if_neg c5] at H
  exact absurd H (by simp)
def arena_InBounds.f (l0 : List (List Int)) (a1 : Int) (a2 : Int) (a3 : Int) : Option (Bool) := if a1 ≥ 0 then (if a1 < (l0.length : Int) then (if a2 ≥ 0 then (if a3 ≥ 0 then (if 0 ≤ a1 then (if a2 ≤ ((rd_L1 l0 a1).length : Int) then (some (decide (a3 ≤ (wrap64 (((rd_L1 l0 a1).length : Int) - a2))))) else (some false)) else (none)) else (some false)) else (some false)) else (some false)) else (some false)
set_option maxHeartbeats 8000000 in
set_option maxRecDepth 100000 in
theorem arena_InBounds.calls (A0 : Option Addr) (c0 : Nat) (l0 : List (List Int)) (a1 : Int) (a2 : Int) (a3 : Int) (r : Bool) (w : World) (hr0 : Kd.C (Kd.slice 32 (Kd.int .u64)) w A0 l0.length l0) (hc0 : l0.length ≤ c0) (h : arena_InBounds.f l0 a1 a2 a3 = some r) :
  Calls Tryd.prog 75 #[.slice A0 l0.length c0, .int .i64 a1, .int .i64 a2, .int .i64 a3] w fun e w' => e = .returned (.bool r) ∧ Drawn0 w w' := by
 have HR0 := Aside0.mk hr0
 have HC0 := Aside0.mk hc0
 clear hr0 hc0
 have H : (if a1 ≥ 0 then (if a1 < (l0.length : Int) then (if a2 ≥ 0 then (if a3 ≥ 0 then (if 0 ≤ a1 then (if a2 ≤ ((rd_L1 l0 a1).length : Int) then (some (decide (a3 ≤ (wrap64 (((rd_L1 l0 a1).length : Int) - a2))))) else (some false)) else (none)) else (some false)) else (some false)) else (some false)) else (some false)) = some r := h
 clear h
 by_cases c5 : a1 ≥ 0
 ·rw [if_pos c5] at H
  have c5b0 : decide (0 ≤ a1) = true := decide_eq_true c5
  clear c5
  by_cases c6 : a1 < (l0.length : Int)
  ·rw [if_pos c6] at H
   have c6b0 : decide (a1 < (l0.length : Int)) = true := decide_eq_true c6
   clear c6
   by_cases c7 : a2 ≥ 0
   ·rw [if_pos c7] at H
    have c7b0 : decide (0 ≤ a2) = true := decide_eq_true c7
    clear c7
    by_cases c8 : a3 ≥ 0
    ·rw [if_pos c8] at H
     have c8b0 : decide (0 ≤ a3) = true := decide_eq_true c8
     clear c8
     by_cases c9 : 0 ≤ a1
     ·rw [if_pos c9] at H
      have c9b0 : decide (0 ≤ a1) = true := decide_eq_true c9
      clear c9
      by_cases c10 : a2 ≤ ((rd_L1 l0 a1).length : Int)
      ·rw [if_pos c10] at H
       have c10b0 : decide (a2 ≤ ((rd_L1 l0 a1).length : Int)) = true := decide_eq_true c10
       clear c10
       obtain rfl := Option.some.inj H
       have p107 : 0 ≤ (a1 : Int) := of_decide_eq_true (by first | (with_reducible assumption) | assumption)
       have q107 : a1 < (l0.length : Int) := of_decide_eq_true (by first | (with_reducible assumption) | assumption)
       obtain ⟨ad107, A107_0, c107_0, e107, hx107_0, hl107_0, hi107_0⟩ := at_L1 HR0.out a1 p107 q107
       cases e107
       have HR107_0 := Aside0.mk hi107_0
       have HC107_0 := Aside0.mk hl107_0
       clear hi107_0 hl107_0
       replace p107 := eq_true p107
       replace q107 := eq_true q107
       have p108 : 0 ≤ (a1 : Int) := of_decide_eq_true (by first | (with_reducible assumption) | assumption)
       have q108 : a1 < (l0.length : Int) := of_decide_eq_true (by first | (with_reducible assumption) | assumption)
       obtain ⟨ad108, A108_0, c108_0, e108, hx108_0, hl108_0, hi108_0⟩ := at_L1 HR0.out a1 p108 q108
       obtain rfl : ad107 = ad108 := (by injection e108)
       have HR108_0 := Aside0.mk hi108_0
       have HC108_0 := Aside0.mk hl108_0
       clear hi108_0 hl108_0
       replace p108 := eq_true p108
       replace q108 := eq_true q108
       have ea_ := Option.some.inj (hx107_0.symm.trans hx108_0)
       injection ea_ with ea_ en_ ec_
       subst ea_
       subst ec_
       clear en_
       go_enter Tryd.func75, Tryd.ntmps75
       go_wp2
       go_ret
       exact ⟨by first | rfl | (simp; done) | (simp [*]; done), by repeat (first | exact Drawn0.refl _ | apply Drawn0.step)⟩
      ·rw [if_neg c10] at H
       have c10b0 : decide (a2 ≤ ((rd_L1 l0 a1).length : Int)) = false := decide_eq_false c10
       clear c10
       obtain rfl := Option.some.inj H
       have p107 : 0 ≤ (a1 : Int) := of_decide_eq_true (by first | (with_reducible assumption) | assumption)
       have q107 : a1 < (l0.length : Int) := of_decide_eq_true (by first | (with_reducible assumption) | assumption)
       obtain ⟨ad107, A107_0, c107_0, e107, hx107_0, hl107_0, hi107_0⟩ := at_L1 HR0.out a1 p107 q107
       cases e107
       have HR107_0 := Aside0.mk hi107_0
       have HC107_0 := Aside0.mk hl107_0
       clear hi107_0 hl107_0
       replace p107 := eq_true p107
       replace q107 := eq_true q107
       go_enter Tryd.func75, Tryd.ntmps75
       go_wp2
       go_ret
       exact ⟨by first | rfl | (simp; done) | (simp [*]; done), by repeat (first | exact Drawn0.refl _ | apply Drawn0.step)⟩
     ·rw [if_neg c9] at H
      exact absurd H (by simp)
    ·rw [if_neg c8] at H
     have c8b0 : decide (0 ≤ a3) = false := decide_eq_false c8
     clear c8
     obtain rfl := Option.some.inj H
     go_enter Tryd.func75, Tryd.ntmps75
     go_wp2
     go_ret
     exact ⟨by first | rfl | (simp; done) | (simp [*]; done), by repeat (first | exact Drawn0.refl _ | apply Drawn0.step)⟩
   ·rw [if_neg c7] at H
    have c7b0 : decide (0 ≤ a2) = false := decide_eq_false c7
    clear c7
    obtain rfl := Option.some.inj H
    go_enter Tryd.func75, Tryd.ntmps75
    go_wp2
    go_ret
    exact ⟨by first | rfl | (simp; done) | (simp [*]; done), by repeat (first | exact Drawn0.refl _ | apply Drawn0.step)⟩
  ·rw [if_neg c6] at H
   have c6b0 : decide (a1 < (l0.length : Int)) = false := decide_eq_false c6
   clear c6
   obtain rfl := Option.some.inj H
   go_enter Tryd.func75, Tryd.ntmps75
   go_wp2
   go_ret
   exact ⟨by first | rfl | (simp; done) | (simp [*]; done), by repeat (first | exact Drawn0.refl _ | apply Drawn0.step)⟩
 ·rw [if_neg c5] at H
  have c5b0 : decide (0 ≤ a1) = false := decide_eq_false c5
  clear c5
  obtain rfl := Option.some.inj H
  go_enter Tryd.func75, Tryd.ntmps75
  go_wp2
  go_ret
  exact ⟨by first | rfl | (simp; done) | (simp [*]; done), by repeat (first | exact Drawn0.refl _ | apply Drawn0.step)⟩
def IsS120 (w0 W : World) (g : Nat) (f0 : Int) : Prop := W.heap[g]? = some (.cells #[.int .i64 f0] 120 (0, 0)) ∧ w0.heap.size ≤ g
theorem IsS120.grown {w0 W : World} {g : Nat} {f0 : Int} {W1 : World} {row : Option Nat} (h : IsS120 w0 W g f0) (hw : W.grownBy W1 row) (hne : some g ≠ row) : IsS120 w0 W1 g f0 := by
 obtain ⟨hb, hg⟩ := h
 exact ⟨blk_grown hb hw hne, hg⟩
theorem IsS120.kept {w0 W : World} {g : Nat} {f0 : Int} {W1 : World} {S : Nat → Prop} (h : IsS120 w0 W g f0) (hk : Kept W W1 S) (hne : ¬ S g) : IsS120 w0 W1 g f0 := by
 obtain ⟨hb, hg⟩ := h
 exact ⟨blk_kept hb hk hne, hg⟩
theorem IsS120.below {w0 W : World} {g : Nat} {f0 : Int} {W1 : World} (h : IsS120 w0 W g f0) (hw : Below W.heap.size W W1) : IsS120 w0 W1 g f0 := h.grown (grown_of_below hw none) (by simp)
theorem IsS120.alloc {w0 W : World} {g : Nat} {f0 : Int} (h : IsS120 w0 W g f0) (o : Obj) : IsS120 w0 (W.alloc o) g f0 := h.below (below_alloc (Below.refl _ _) o)
theorem IsS120.drewN {w0 W : World} {g : Nat} {f0 : Int} (h : IsS120 w0 W g f0) (m : Nat) : IsS120 w0 (W.drewN m) g f0 := h
theorem IsS120.drew {w0 W : World} {g : Nat} {f0 : Int} (h : IsS120 w0 W g f0) : IsS120 w0 W.drew g f0 := h
theorem IsS120.at_ {w0 W : World} {g : Nat} {f0 : Int} {w' : World} {m : Nat} (hq : W.drewN m = w') (h : IsS120 w0 W g f0) : IsS120 w0 w' g f0 := by subst hq; exact IsS120.drewN h m
theorem IsS120.apart {w0 W : World} {g : Nat} {f0 : Int} {α : Type} {d : Kd α} {e : Nat} {base : Nat} {ok : Nat → Prop} {v : Value} {xs : List α} (h : IsS120 w0 W g f0) (ho : d.R e W base ok v xs) (ht : ∀ q, q ∈ e :: d.E → q ≠ 120) : d.R e W base (fun k => ok k ∧ k ≠ g) v xs := by
 obtain ⟨hb, hg⟩ := h
 exact Kd.R_types ho hb ht
theorem IsS120.own_ne {w0 W : World} {g : Nat} {f0 : Int} {α : Type} {d : Kd α} {e : Nat} {base : Nat} {ok : Nat → Prop} {v : Value} {xs : List α} (h : IsS120 w0 W g f0) (ho : d.R e W base ok v xs) (ht : e ≠ 120) : some g ≠ v.ownBlock := by
 obtain ⟨hb, hg⟩ := h
 exact Kd.R_ne ho hb ht
theorem IsS120.lt {w0 W : World} {g : Nat} {f0 : Int} (h : IsS120 w0 W g f0) : g < W.heap.size := by
 obtain ⟨hb, hg⟩ := h
 exact blk_lt hb
theorem IsS120.ge {w0 W : World} {g : Nat} {f0 : Int} (h : IsS120 w0 W g f0) : w0.heap.size ≤ g := by
 obtain ⟨hb, hg⟩ := h
 exact hg
theorem IsS120.new (w0 W : World) (f0 : Int) (hB : Below w0.heap.size w0 W) : IsS120 w0 (W.alloc (.cells #[.int .i64 f0] 120)) W.heap.size f0 := ⟨by simpa using heap_alloc_new W _, hB.size⟩
end Go.Proofs.YtidglmocekghmaaDoor.Pr
end
section
namespace Go.Proofs.YtidglmocekghmaaDoor.Pr
def kindW (w : Int) : Int := w % 4
def offW (w : Int) : Int := if w / 4 % 1073741824 < 536870912 then w / 4 % 1073741824 else w / 4 % 1073741824 - 1073741824
def dataW (w : Int) : Int := w / 4294967296 % 65536
def ptrsW (w : Int) : Int := w / 281474976710656 % 65536
def elemW (w : Int) : Int := w / 4294967296 % 8
def cntW (w : Int) : Int := w / 34359738368 % 536870912
def dblW (w : Int) : Bool := w / 4 % 2 == 1
def padW (w : Int) : Int := w / 8 % 536870912
def segW (w : Int) : Int := w / 4294967296 % 4294967296
def lowW (w : Int) : Int := w / 4 % 1073741824
theorem kindW_bd (w : Int) : 0 ≤ kindW w ∧ kindW w ≤ 3 := by unfold kindW; omega
theorem offW_bd (w : Int) : -536870912 ≤ offW w ∧ offW w ≤ 536870911 := by unfold offW; split <;> omega
theorem dataW_bd (w : Int) : 0 ≤ dataW w ∧ dataW w ≤ 65535 := by unfold dataW; omega
theorem ptrsW_bd (w : Int) : 0 ≤ ptrsW w ∧ ptrsW w ≤ 65535 := by unfold ptrsW; omega
theorem elemW_bd (w : Int) : 0 ≤ elemW w ∧ elemW w ≤ 7 := by unfold elemW; omega
theorem cntW_bd (w : Int) : 0 ≤ cntW w ∧ cntW w ≤ 536870911 := by unfold cntW; omega
theorem padW_bd (w : Int) : 0 ≤ padW w ∧ padW w ≤ 536870911 := by unfold padW; omega
theorem segW_bd (w : Int) : 0 ≤ segW w ∧ segW w ≤ 4294967295 := by unfold segW; omega
theorem lowW_bd (w : Int) : 0 ≤ lowW w ∧ lowW w ≤ 1073741823 := by unfold lowW; omega
end Go.Proofs.YtidglmocekghmaaDoor.Pr
end
section
namespace Go.Proofs.YtidglmocekghmaaDoor.Pr
open Go.RowKit Go.Proofs.YtidglmocekghmaaDoorW.PrintWords Go.Proofs.YtidglmocekghmaaDoorW.PrintLast Go.Proofs.YtidglmocekghmaaDoorW.PrintMore
set_option linter.unusedVariables false
set_option linter.unusedSimpArgs false
theorem add_zero_at (g j : Nat) : (⟨g, 0, none⟩ : Addr).add j = ⟨g, j, none⟩ := add_plain g j
theorem C_ints {W : World} {g e : Nat} {k : IntKind} {xs : List Int} (hb : W.heap[g]? = some (.cells (nums k xs).toArray e (0, 0))) (hl : xs.length ≤ 9223372036854775807) : (Kd.int k).C W (some ⟨g, 0, none⟩) xs.length xs := by
 refine ⟨rfl, hl, fun hn => ⟨_, rfl, fun j p hj => ⟨[.int k p], rfl, rfl, fun i u hu => ?_⟩⟩⟩
 match i with
 | 0 =>
  obtain rfl : Value.int k p = u := by simpa using hu
  rw [add_zero_at]
  show W.cell? ⟨g, j * 1 + 0, none⟩ = _
  rw [blk_cell hb]
  simp [nums, hj]
 | i + 1 => simp at hu
theorem calls_at {P : Program} {f : FuncId} {args : Array Value} {w : World} {R : Ending → World → Prop} (h : ∀ W, W = w → Calls P f args W R) : Calls P f args w R := h w rfl
theorem blk_new (w : World) (o : Obj) (n : Nat) (h : w.heap.size = n) : (w.alloc o).heap[n]? = some o := by subst h; exact heap_alloc_new w o
end Go.Proofs.YtidglmocekghmaaDoor.Pr
end
section
namespace Go.Proofs.YtidglmocekghmaaDoor.Pr
open Go.RowKit Go.Proofs.YtidglmocekghmaaDoorW.PrintWords Go.Proofs.YtidglmocekghmaaDoorW.PrintLast Go.Proofs.YtidglmocekghmaaDoorW.PrintMore
set_option linter.unusedVariables false
set_option linter.unusedSimpArgs false
theorem wp_at {P : Program} {c : Code} {Q : Exit → Act → World → Prop} {a : Act} {w : World} (h : ∀ W, W = w → c.wp P Q a W) : c.wp P Q a w := h w rfl
section
variable {α : Type} {d : Kd α} {e base n c g sz : Nat} {W W' : World} {v : Value} {A : Option Addr} {xs ys : List α} {rows news : List (List Value)}
def RowsK (d : Kd α) (W : World) (xs : List α) (rows : List (List Value)) : Prop := rows.length = xs.length ∧ ∀ (j : Nat) (x : α) (cs : List Value), xs[j]? = some x → rows[j]? = some cs → d.K W x cs
theorem RowsK.below (h : RowsK d W xs rows) (hb : Below W.heap.size W W') : RowsK d W' xs rows := ⟨h.1, fun j x cs hx hc => d.K_below hb (h.2 j x cs hx hc)⟩
theorem RowsK.nil (d : Kd α) (W : World) : RowsK d W [] [] := ⟨rfl, fun j x cs hx _ => by simp at hx⟩
theorem RowsK.one {x : α} {cs : List Value} (h : d.K W x cs) : RowsK d W [x] [cs] := ⟨rfl, fun j y c hy hc => by
 match j with
 | 0 =>
  simp at hy hc
  subst hy hc
  exact h
 | j + 1 => simp at hy⟩
theorem RowsK.append (h : RowsK d W xs rows) (k : RowsK d W ys news) : RowsK d W (xs ++ ys) (rows ++ news) := ⟨by rw [List.length_append, List.length_append, h.1, k.1], fun j x cs hx hc => by
 rcases Nat.lt_or_ge j xs.length with hj | hj
 ·rw [List.getElem?_append_left hj] at hx
  rw [List.getElem?_append_left (by rw [h.1]; exact hj)] at hc
  exact h.2 j x cs hx hc
 ·rw [List.getElem?_append_right hj] at hx
  rw [List.getElem?_append_right (by rw [h.1]; exact hj), h.1] at hc
  exact k.2 _ x cs hx hc⟩
theorem RowsK.replicate {x : α} {cs : List Value} (h : d.K W x cs) (m : Nat) : RowsK d W (List.replicate m x) (List.replicate m cs) := ⟨by simp, fun j y c hy hc => by
 obtain ⟨_, rfl⟩ := List.getElem?_eq_some_iff.1 hy
 obtain ⟨_, rfl⟩ := List.getElem?_eq_some_iff.1 hc
 simpa using h⟩
theorem rows_of_C (h : d.C W A n xs) : ∃ rows : List (List Value), RowsK d W xs rows ∧ (Kd.raw d.sz).C W A n rows := by
 classical
 obtain ⟨h1, h2, h3⟩ := h
 by_cases hn : n = 0
 ·subst hn
  obtain rfl : xs = [] := List.length_eq_zero_iff.1 h1
  exact ⟨[], RowsK.nil _ _, rfl, h2, fun h => by omega⟩
 ·obtain ⟨ad, rfl, hc⟩ := h3 (by omega)
  have hj : ∀ j (hj : j < xs.length), ∃ c : List Value, c.length = d.sz ∧ d.K W xs[j] c ∧ ∀ i u, c[i]? = some u → W.cell? (ad.add (j * d.sz + i)) = some u := fun j hj => hc j _ (List.getElem?_eq_getElem hj)
  let f : Nat → List Value := fun j => if h : j < xs.length then (hj j h).choose else []
  have hf : ∀ j (h : j < xs.length), f j = (hj j h).choose := fun j h => dif_pos h
  have hg : ∀ (j : Nat) (cs : List Value), ((List.range xs.length).map f)[j]? = some cs → ∃ h : j < xs.length, cs = (hj j h).choose := fun j cs hcs => by
   have hl : j < xs.length := by have := (List.getElem?_eq_some_iff.1 hcs).1; simpa using this
   refine ⟨hl, ?_⟩
   rw [← hf j hl]
   simp [hl] at hcs
   exact hcs.symm
  refine ⟨(List.range xs.length).map f, ⟨by simp, fun j x cs hx hcs => ?_⟩, by simp [h1], h2, fun _ => ⟨ad, rfl, fun j cs hcs => ?_⟩⟩
  ·obtain ⟨hl, rfl⟩ := hg j cs hcs
   rw [List.getElem?_eq_getElem hl] at hx
   obtain rfl := Option.some.inj hx
   exact (hj j hl).choose_spec.2.1
  ·obtain ⟨hl, rfl⟩ := hg j cs hcs
   exact ⟨_, (hj j hl).choose_spec.1, ⟨rfl, (hj j hl).choose_spec.1, d.K_one (hj j hl).choose_spec.2.1⟩, (hj j hl).choose_spec.2.2⟩
theorem C_of_rows (h : (Kd.raw d.sz).C W A n rows) (hK : RowsK d W xs rows) : d.C W A n xs := by
 obtain ⟨h1, h2, h3⟩ := h
 refine ⟨hK.1.symm.trans h1, h2, fun hn => ?_⟩
 obtain ⟨ad, rfl, hc⟩ := h3 hn
 refine ⟨ad, rfl, fun j x hx => ?_⟩
 have hj : j < rows.length := by rw [hK.1]; exact (List.getElem?_eq_some_iff.1 hx).1
 obtain ⟨cs, hl, ⟨rfl, _, _⟩, hcell⟩ := hc j _ (List.getElem?_eq_getElem hj)
 exact ⟨_, hl, hK.2 j x _ hx (List.getElem?_eq_getElem hj), hcell⟩
theorem C_of_R (h : (Kd.raw d.sz).R e W base (fun _ => True) v rows) (hK : RowsK d W xs rows) : ∃ A c, v = .slice A xs.length c ∧ xs.length ≤ c ∧ d.C W A xs.length xs := by
 obtain ⟨A, c, rfl, hl, hC⟩ := Kd.R_reads h
 have hC' := C_of_rows hC hK
 rw [hK.1] at hl hC' ⊢
 exact ⟨A, c, rfl, hl, hC'⟩
end
end Go.Proofs.YtidglmocekghmaaDoor.Pr
end
section
namespace Go.Proofs.YtidglmocekghmaaDoor.Pr
open Go.RowKit Go.Proofs.YtidglmocekghmaaDoorW.PrintWords Go.Proofs.YtidglmocekghmaaDoorW.PrintLast Go.Proofs.YtidglmocekghmaaDoorW.PrintMore
set_option linter.unusedVariables false
set_option linter.unusedSimpArgs false
theorem must_no (w : World) : Calls Tryd.prog 19 #[.bool false] w fun e w' => e = .panicked [{ v := .iface 47 (.agg #[]), recovered := false }] ∧ w = w' := by
 go_enter Tryd.func19, Tryd.ntmps19
 go_wp2
 exact ⟨rfl, rfl, rfl⟩
theorem must_yes (w : World) : Calls Tryd.prog 19 #[.bool true] w fun e w' => e = .returned (.tuple #[]) ∧ w = w' := by
 go_enter Tryd.func19, Tryd.ntmps19
 go_wp2
 go_end0
 exact ⟨rfl, rfl⟩
theorem u64_in' (x : Int) (h : 0 ≤ x) (h1 : x < 18446744073709551616) : IntKind.u64.wrap x = x := IntWalk.u64_in x ⟨h, by omega⟩
theorem field_f (w : Int) (at_ n : Nat) (h0 : 0 ≤ w) (h1 : w < 18446744073709551616) (ha : at_ < 64) (hn : 0 < n) (hn' : n ≤ 64) : word_Field.f w (at_ : Int) (n : Int) = some (w / 2 ^ at_ % 2 ^ n) := by
 unfold word_Field.f word_mask.f
 have e1 : IntKind.u64.wrap (at_ : Int) = (at_ : Int) := u64_in' _ (by omega) (by omega)
 have e2 : wrap64 (64 - (n : Int)) = 64 - (n : Int) := IntWalk.wrap64_in _ (by omega)
 have e3 : IntKind.u64.wrap (64 - (n : Int)) = 64 - (n : Int) := u64_in' _ (by omega) (by omega)
 rw [e1, e2, e3, if_pos (by omega), if_pos (by omega), Option.bind_some]
 unfold shr
 rw [Nat.min_eq_left (by have : IntKind.u64.bits = 64 := rfl; omega), Nat.min_eq_left (by have : IntKind.u64.bits = 64 := rfl; omega)]
 have e4 : ((64 : Int) - (n : Int)).toNat = 64 - n := by omega
 rw [e4, Int.toNat_natCast]
 have e5 : (18446744073709551615 : Int) / 2 ^ (64 - n) = 2 ^ n - 1 := by
  have : (2 : Int) ^ (64 - n) * 2 ^ n = 18446744073709551616 := by
   rw [← Int.pow_add, show 64 - n + n = 64 by omega]; rfl
  have hp : (0 : Int) < 2 ^ (64 - n) := Int.pow_pos (by decide)
  have hq : (18446744073709551615 : Int) = 2 ^ (64 - n) - 1 + 2 ^ (64 - n) * (2 ^ n - 1) := by rw [Int.mul_sub, this]; omega
  rw [hq, Int.add_mul_ediv_left _ _ (by omega), Int.ediv_eq_zero_of_lt (by omega) (by omega)]; omega
 rw [e5]
 have hw0 : 0 ≤ w / 2 ^ at_ := Int.ediv_nonneg h0 (Int.le_of_lt (Int.pow_pos (by decide)))
 have hw1 : w / 2 ^ at_ < 2 ^ 64 := by
  have := Int.ediv_le_self (2 ^ at_) h0
  exact Int.lt_of_le_of_lt this (by simpa using h1)
 rw [bits_mask .u64 64 (by decide) (fun x hx0 hx1 => u64_in' x hx0 (by simpa using hx1)) n hn' _ hw0 hw1]
theorem field_any (w : Int) (at_ n : Nat) (x : Int) (W : World) (h0 : 0 ≤ w) (h1 : w < 18446744073709551616) (ha : at_ < 64) (hn : 0 < n) (hn' : n ≤ 64) (hx : w / 2 ^ at_ % 2 ^ n = x) :
  Calls Tryd.prog 55 #[.int .u64 w, .int .i64 (at_ : Int), .int .i64 (n : Int)] W fun e W' => e = .returned (.int .u64 x) ∧ Below W.heap.size W W' := by
 subst hx
 exact (word_Field.calls w at_ n _ W (field_f w at_ n h0 h1 ha hn hn')).mono fun e W' ⟨a, b⟩ => ⟨a, b.below⟩
theorem take_no (g : Nat) (m c : Int) (w : World) (hc : w.cell? ⟨g, 0, none⟩ = some (.int .i64 m)) (h : m < c) :
  Calls Tryd.prog 83 #[.pointer (some ⟨g, 0, none⟩), .int .i64 c] w fun e w' => e = .returned (.bool false) ∧ w' = w := by
 go_enter Tryd.func83, Tryd.ntmps83
 go_wp2
 go_ret
 exact ⟨rfl, rfl⟩
theorem take_yes (g : Nat) (m c : Int) (w : World) (hc : w.cell? ⟨g, 0, none⟩ = some (.int .i64 m)) (hf : w.frozen? ⟨g, 0, none⟩ = false) (h : ¬ m < c) :
  Calls Tryd.prog 83 #[.pointer (some ⟨g, 0, none⟩), .int .i64 c] w fun e w' => e = .returned (.bool true) ∧ w' = w.setCell ⟨g, 0, none⟩ (.int .i64 (wrap64 (m - c))) := by
 go_enter Tryd.func83, Tryd.ntmps83
 go_wp2
 go_ret
 exact ⟨rfl, rfl⟩
theorem charge_no (m c : Int) (w : World) (h : m < c) :
    Calls Tryd.prog 76 #[.agg #[.int .i64 m], .int .i64 c] w fun e w' => e = .returned (.tuple #[.agg #[.int .i64 m], .int .i64 8]) ∧ Below w.heap.size w w' := by
  go_enter Tryd.func76, Tryd.ntmps76
  go_wp2_with (go_at_call 83; refine (take_no _ m c _ (by simp [go_sem]) h).mono ?_; rintro e w' ⟨rfl, rfl⟩)
  refine bodyPost_ret (v := .tuple #[.agg #[.int .i64 m], .int .i64 8]) (by simp [results, Tryd.results76, go_sem]) rfl ⟨rfl, ?_⟩
  repeat (first | exact Below.refl _ _ | refine Below.alloc ?_ (by simp <;> omega) _)
theorem charge_yes (m c : Int) (w : World) (h : ¬ m < c) (h0 : 0 ≤ c) (h1 : 0 ≤ m) (h2 : m ≤ 9223372036854775807) :
    Calls Tryd.prog 76 #[.agg #[.int .i64 m], .int .i64 c] w fun e w' => e = .returned (.tuple #[.agg #[.int .i64 (m - c)], .int .i64 0]) ∧ Below w.heap.size w w' := by
  have hw : wrap64 (m - c) = m - c := IntWalk.wrap64_in _ ⟨by omega, by omega⟩
  have HW := Lib.hid hw
  clear hw
  go_enter Tryd.func76, Tryd.ntmps76
  go_wp2_with (go_at_call 83; refine (take_yes _ m c _ (by simp [go_sem]) (by simp [go_sem]) h).mono ?_; rintro e w' ⟨rfl, rfl⟩)
  refine bodyPost_ret (v := .tuple #[.agg #[.int .i64 (wrap64 (m - c))], .int .i64 0]) (by simp [results, Tryd.results76, go_sem]) rfl ⟨by rw [HW.out], ?_⟩
  repeat (first | exact Below.refl _ _ | refine Below.alloc ?_ (by simp <;> omega) _)
theorem off_shift (w : Int) (h0 : 0 ≤ w) (h1 : w < 18446744073709551616) : wrap64 (IntKind.u64.wrap (w * 4294967296)) / 17179869184 = offW w := by
 unfold wrap64 offW
 rw [IntKind.wrap_u64]
 split <;> omega
theorem signed_any (w : Int) (W : World) (h0 : 0 ≤ w) (h1 : w < 18446744073709551616) :
  Calls Tryd.prog 102 #[.int .u64 w, .int .i64 2, .int .i64 30] W fun e W' => e = .returned (.int .i64 (offW w)) ∧ Below W.heap.size W W' := by
 have HS := Lib.hid (off_shift w h0 h1)
 go_enter Tryd.func102, Tryd.ntmps102
 go_wp2
 go_ret
 exact ⟨by rw [← HS.out]; rfl, Below.refl _ _⟩
end Go.Proofs.YtidglmocekghmaaDoor.Pr
end
section
namespace Go.Proofs.YtidglmocekghmaaDoor.Pr
open Go.RowKit Go.Proofs.YtidglmocekghmaaDoorW.PrintWords Go.Proofs.YtidglmocekghmaaDoorW.PrintLast Go.Proofs.YtidglmocekghmaaDoorW.PrintMore
set_option linter.unusedVariables false
set_option linter.unusedSimpArgs false
theorem post_at {P : Program} {f : Func} {R : Ending → World → Prop} {x : Exit} {a : Act} {w : World} (h : ∀ W, W = w → bodyPost P f R x a W) : bodyPost P f R x a w := h w rfl
theorem put10 {w : World} {g : Nat} {t : TypeId} {c0 c1 c2 c3 c4 c5 c6 c7 c8 c9 d0 d1 d2 d3 d4 d5 d6 d7 d8 d9 : Value} (h : w.heap[g]? = some (.cells #[c0, c1, c2, c3, c4, c5, c6, c7, c8, c9] t (0, 0))) :
  ((((((((((w.setCell ⟨g, 0, none⟩ d0).setCell ⟨g, 1, none⟩ d1).setCell ⟨g, 2, none⟩ d2).setCell ⟨g, 3, none⟩ d3).setCell ⟨g, 4, none⟩ d4).setCell ⟨g, 5, none⟩ d5).setCell ⟨g, 6, none⟩ d6).setCell ⟨g, 7, none⟩ d7).setCell ⟨g, 8, none⟩ d8).setCell ⟨g, 9, none⟩ d9).heap[g]? = some (.cells #[d0, d1, d2, d3, d4, d5, d6, d7, d8, d9] t (0, 0)) := by
 have h0 := blk_put h 0 d0 (cs' := #[d0, c1, c2, c3, c4, c5, c6, c7, c8, c9]) (by simp)
 have h1 := blk_put h0 1 d1 (cs' := #[d0, d1, c2, c3, c4, c5, c6, c7, c8, c9]) (by simp)
 have h2 := blk_put h1 2 d2 (cs' := #[d0, d1, d2, c3, c4, c5, c6, c7, c8, c9]) (by simp)
 have h3 := blk_put h2 3 d3 (cs' := #[d0, d1, d2, d3, c4, c5, c6, c7, c8, c9]) (by simp)
 have h4 := blk_put h3 4 d4 (cs' := #[d0, d1, d2, d3, d4, c5, c6, c7, c8, c9]) (by simp)
 have h5 := blk_put h4 5 d5 (cs' := #[d0, d1, d2, d3, d4, d5, c6, c7, c8, c9]) (by simp)
 have h6 := blk_put h5 6 d6 (cs' := #[d0, d1, d2, d3, d4, d5, d6, c7, c8, c9]) (by simp)
 have h7 := blk_put h6 7 d7 (cs' := #[d0, d1, d2, d3, d4, d5, d6, d7, c8, c9]) (by simp)
 have h8 := blk_put h7 8 d8 (cs' := #[d0, d1, d2, d3, d4, d5, d6, d7, d8, c9]) (by simp)
 have h9 := blk_put h8 9 d9 (cs' := #[d0, d1, d2, d3, d4, d5, d6, d7, d8, d9]) (by simp)
 exact h9
def aggP (kd off d p e c : Int) (db : Bool) (pad sg lo : Int) : Value := .agg #[.int .i64 kd, .int .i64 off, .int .i64 d, .int .i64 p, .int .i64 e, .int .i64 c, .bool db, .int .i64 pad, .int .u32 sg, .int .u32 lo]
set_option maxHeartbeats 1000000 in
theorem dec1_any (w : Int) (W : World) (h0 : 0 ≤ w) (h1 : w < 18446744073709551616) :
    Calls Tryd.prog 101 #[.int .u64 w] W fun e W' => e = .returned (aggP 0 (offW w) (dataW w) (ptrsW w) 0 0 false 0 0 0) ∧ Below W.heap.size W W' := by
  obtain ⟨o, hO⟩ : ∃ x, Hid (offW w = x) := ⟨_, rfl⟩
  have hd := dataW_bd w
  obtain ⟨d, hD⟩ : ∃ x, Hid (dataW w = x) := ⟨_, rfl⟩
  rw [hD.out] at hd
  obtain ⟨hd0, hd1⟩ := hd
  have hp := ptrsW_bd w
  obtain ⟨p, hP⟩ : ∃ x, Hid (ptrsW w = x) := ⟨_, rfl⟩
  rw [hP.out] at hp
  obtain ⟨hp0, hp1⟩ := hp
  rw [hO.out, hD.out, hP.out]
  go_enter Tryd.func101, Tryd.ntmps101
  have HB := Lib.hid (Below.refl W.heap.size W)
  go_wp2_with fail
  refine calls_at (fun wa hW => ?_)
  have hb : Below W.heap.size W wa := by rw [hW]; repeat (first | exact Below.refl _ _ | refine Below.alloc ?_ (by first | exact Nat.le_refl _ | (simp <;> omega)) _ | refine Below.drew ?_)
  have nBR : wa.heap[W.heap.size]? = some (.cells #[.int .i64 0, .int .i64 0, .int .i64 0, .int .i64 0, .int .i64 0, .int .i64 0, .bool false, .int .i64 0, .int .u32 0, .int .u32 0] 67 (0, 0)) := by rw [hW]; repeat (first | exact heap_alloc_new _ _ | exact blk_new _ _ _ (by simp) | refine blk_alloc ?_ _ | refine blk_drew ?_)
  have geBR : W.heap.size ≤ W.heap.size := Nat.le_refl _
  clear hW
  replace HB := Lib.hid (below_step HB.out hb)
  clear hb
  have BR := Lib.hid nBR
  clear nBR
  refine (signed_any w wa h0 h1).mono ?_
  rintro e w1 ⟨rfl, hb⟩
  replace HB := Lib.hid (below_step HB.out hb)
  replace BR := Lib.hid (blk_below BR.out hb)
  clear hb
  rw [hO.out]
  go_wp2_with fail
  refine (field_any w 32 16 d _ h0 h1 (by omega) (by omega) (by omega) hD.out).mono ?_
  rintro e w2 ⟨rfl, hb⟩
  replace HB := Lib.hid (below_step HB.out hb)
  replace BR := Lib.hid (blk_below BR.out hb)
  clear hb
  go_wp2_with fail
  refine (field_any w 48 16 p _ h0 h1 (by omega) (by omega) (by omega) hP.out).mono ?_
  rintro e w3 ⟨rfl, hb⟩
  replace HB := Lib.hid (below_step HB.out hb)
  replace BR := Lib.hid (blk_below BR.out hb)
  clear hb
  have l_BR : W.heap.size < w3.heap.size := blk_lt BR.out
  have q_BR_0 : w3.cell? ⟨W.heap.size, 0, none⟩ = some (.int .i64 0) := (blk_cell BR.out 0).trans rfl
  have f_BR_0 : w3.frozen? ⟨W.heap.size, 0, none⟩ = false := blk_frozen BR.out 0
  have q_BR_1 : w3.cell? ⟨W.heap.size, 1, none⟩ = some (.int .i64 0) := (blk_cell BR.out 1).trans rfl
  have f_BR_1 : w3.frozen? ⟨W.heap.size, 1, none⟩ = false := blk_frozen BR.out 1
  have q_BR_2 : w3.cell? ⟨W.heap.size, 2, none⟩ = some (.int .i64 0) := (blk_cell BR.out 2).trans rfl
  have f_BR_2 : w3.frozen? ⟨W.heap.size, 2, none⟩ = false := blk_frozen BR.out 2
  have q_BR_3 : w3.cell? ⟨W.heap.size, 3, none⟩ = some (.int .i64 0) := (blk_cell BR.out 3).trans rfl
  have f_BR_3 : w3.frozen? ⟨W.heap.size, 3, none⟩ = false := blk_frozen BR.out 3
  have q_BR_4 : w3.cell? ⟨W.heap.size, 4, none⟩ = some (.int .i64 0) := (blk_cell BR.out 4).trans rfl
  have f_BR_4 : w3.frozen? ⟨W.heap.size, 4, none⟩ = false := blk_frozen BR.out 4
  have q_BR_5 : w3.cell? ⟨W.heap.size, 5, none⟩ = some (.int .i64 0) := (blk_cell BR.out 5).trans rfl
  have f_BR_5 : w3.frozen? ⟨W.heap.size, 5, none⟩ = false := blk_frozen BR.out 5
  have q_BR_6 : w3.cell? ⟨W.heap.size, 6, none⟩ = some (.bool false) := (blk_cell BR.out 6).trans rfl
  have f_BR_6 : w3.frozen? ⟨W.heap.size, 6, none⟩ = false := blk_frozen BR.out 6
  have q_BR_7 : w3.cell? ⟨W.heap.size, 7, none⟩ = some (.int .i64 0) := (blk_cell BR.out 7).trans rfl
  have f_BR_7 : w3.frozen? ⟨W.heap.size, 7, none⟩ = false := blk_frozen BR.out 7
  have q_BR_8 : w3.cell? ⟨W.heap.size, 8, none⟩ = some (.int .u32 0) := (blk_cell BR.out 8).trans rfl
  have f_BR_8 : w3.frozen? ⟨W.heap.size, 8, none⟩ = false := blk_frozen BR.out 8
  have q_BR_9 : w3.cell? ⟨W.heap.size, 9, none⟩ = some (.int .u32 0) := (blk_cell BR.out 9).trans rfl
  have f_BR_9 : w3.frozen? ⟨W.heap.size, 9, none⟩ = false := blk_frozen BR.out 9
  go_wp2
  clear l_BR q_BR_0 f_BR_0 q_BR_1 f_BR_1 q_BR_2 f_BR_2 q_BR_3 f_BR_3 q_BR_4 f_BR_4 q_BR_5 f_BR_5 q_BR_6 f_BR_6 q_BR_7 f_BR_7 q_BR_8 f_BR_8 q_BR_9 f_BR_9
  refine post_at (fun wf hW => ?_)
  have nBR : wf.heap[W.heap.size]? = some (.cells #[.int .i64 0, .int .i64 o, .int .i64 d, .int .i64 p, .int .i64 0, .int .i64 0, .bool false, .int .i64 0, .int .u32 0, .int .u32 0] 67 (0, 0)) := by rw [hW]; exact put10 BR.out
  have nHB : Below W.heap.size W wf := by rw [hW]; repeat (first | (with_reducible exact HB.out) | refine Below.setCell ?_ (by exact geBR) _)
  clear hW
  clear BR
  have BR := Lib.hid nBR
  clear nBR
  clear HB
  have HB := Lib.hid nHB
  clear nHB
  have l_BR : W.heap.size < wf.heap.size := blk_lt BR.out
  have q_BR_0 : wf.cell? ⟨W.heap.size, 0, none⟩ = some (.int .i64 0) := (blk_cell BR.out 0).trans rfl
  have q_BR_1 : wf.cell? ⟨W.heap.size, 1, none⟩ = some (.int .i64 o) := (blk_cell BR.out 1).trans rfl
  have q_BR_2 : wf.cell? ⟨W.heap.size, 2, none⟩ = some (.int .i64 d) := (blk_cell BR.out 2).trans rfl
  have q_BR_3 : wf.cell? ⟨W.heap.size, 3, none⟩ = some (.int .i64 p) := (blk_cell BR.out 3).trans rfl
  have q_BR_4 : wf.cell? ⟨W.heap.size, 4, none⟩ = some (.int .i64 0) := (blk_cell BR.out 4).trans rfl
  have q_BR_5 : wf.cell? ⟨W.heap.size, 5, none⟩ = some (.int .i64 0) := (blk_cell BR.out 5).trans rfl
  have q_BR_6 : wf.cell? ⟨W.heap.size, 6, none⟩ = some (.bool false) := (blk_cell BR.out 6).trans rfl
  have q_BR_7 : wf.cell? ⟨W.heap.size, 7, none⟩ = some (.int .i64 0) := (blk_cell BR.out 7).trans rfl
  have q_BR_8 : wf.cell? ⟨W.heap.size, 8, none⟩ = some (.int .u32 0) := (blk_cell BR.out 8).trans rfl
  have q_BR_9 : wf.cell? ⟨W.heap.size, 9, none⟩ = some (.int .u32 0) := (blk_cell BR.out 9).trans rfl
  refine bodyPost_ret (v := aggP 0 o d p 0 0 false 0 0 0) (by simp [aggP, results, Tryd.results101, go_sem, q_BR_0, q_BR_1, q_BR_2, q_BR_3, q_BR_4, q_BR_5, q_BR_6, q_BR_7, q_BR_8, q_BR_9]) rfl ⟨rfl, HB.out⟩
set_option maxHeartbeats 1000000 in
theorem dec2_any (w : Int) (W : World) (h0 : 0 ≤ w) (h1 : w < 18446744073709551616) :
    Calls Tryd.prog 103 #[.int .u64 w] W fun e W' => e = .returned (aggP 0 (offW w) 0 0 (elemW w) (cntW w) false 0 0 0) ∧ Below W.heap.size W W' := by
  obtain ⟨o, hO⟩ : ∃ x, Hid (offW w = x) := ⟨_, rfl⟩
  have hd := elemW_bd w
  obtain ⟨d, hD⟩ : ∃ x, Hid (elemW w = x) := ⟨_, rfl⟩
  rw [hD.out] at hd
  obtain ⟨hd0, hd1⟩ := hd
  have hp := cntW_bd w
  obtain ⟨p, hP⟩ : ∃ x, Hid (cntW w = x) := ⟨_, rfl⟩
  rw [hP.out] at hp
  obtain ⟨hp0, hp1⟩ := hp
  rw [hO.out, hD.out, hP.out]
  go_enter Tryd.func103, Tryd.ntmps103
  have HB := Lib.hid (Below.refl W.heap.size W)
  go_wp2_with fail
  refine calls_at (fun wa hW => ?_)
  have hb : Below W.heap.size W wa := by rw [hW]; repeat (first | exact Below.refl _ _ | refine Below.alloc ?_ (by first | exact Nat.le_refl _ | (simp <;> omega)) _ | refine Below.drew ?_)
  have nBR : wa.heap[W.heap.size]? = some (.cells #[.int .i64 0, .int .i64 0, .int .i64 0, .int .i64 0, .int .i64 0, .int .i64 0, .bool false, .int .i64 0, .int .u32 0, .int .u32 0] 67 (0, 0)) := by rw [hW]; repeat (first | exact heap_alloc_new _ _ | exact blk_new _ _ _ (by simp) | refine blk_alloc ?_ _ | refine blk_drew ?_)
  have geBR : W.heap.size ≤ W.heap.size := Nat.le_refl _
  clear hW
  replace HB := Lib.hid (below_step HB.out hb)
  clear hb
  have BR := Lib.hid nBR
  clear nBR
  refine (signed_any w wa h0 h1).mono ?_
  rintro e w1 ⟨rfl, hb⟩
  replace HB := Lib.hid (below_step HB.out hb)
  replace BR := Lib.hid (blk_below BR.out hb)
  clear hb
  rw [hO.out]
  go_wp2_with fail
  refine (field_any w 32 3 d _ h0 h1 (by omega) (by omega) (by omega) hD.out).mono ?_
  rintro e w2 ⟨rfl, hb⟩
  replace HB := Lib.hid (below_step HB.out hb)
  replace BR := Lib.hid (blk_below BR.out hb)
  clear hb
  go_wp2_with fail
  refine (field_any w 35 29 p _ h0 h1 (by omega) (by omega) (by omega) hP.out).mono ?_
  rintro e w3 ⟨rfl, hb⟩
  replace HB := Lib.hid (below_step HB.out hb)
  replace BR := Lib.hid (blk_below BR.out hb)
  clear hb
  have l_BR : W.heap.size < w3.heap.size := blk_lt BR.out
  have q_BR_0 : w3.cell? ⟨W.heap.size, 0, none⟩ = some (.int .i64 0) := (blk_cell BR.out 0).trans rfl
  have f_BR_0 : w3.frozen? ⟨W.heap.size, 0, none⟩ = false := blk_frozen BR.out 0
  have q_BR_1 : w3.cell? ⟨W.heap.size, 1, none⟩ = some (.int .i64 0) := (blk_cell BR.out 1).trans rfl
  have f_BR_1 : w3.frozen? ⟨W.heap.size, 1, none⟩ = false := blk_frozen BR.out 1
  have q_BR_2 : w3.cell? ⟨W.heap.size, 2, none⟩ = some (.int .i64 0) := (blk_cell BR.out 2).trans rfl
  have f_BR_2 : w3.frozen? ⟨W.heap.size, 2, none⟩ = false := blk_frozen BR.out 2
  have q_BR_3 : w3.cell? ⟨W.heap.size, 3, none⟩ = some (.int .i64 0) := (blk_cell BR.out 3).trans rfl
  have f_BR_3 : w3.frozen? ⟨W.heap.size, 3, none⟩ = false := blk_frozen BR.out 3
  have q_BR_4 : w3.cell? ⟨W.heap.size, 4, none⟩ = some (.int .i64 0) := (blk_cell BR.out 4).trans rfl
  have f_BR_4 : w3.frozen? ⟨W.heap.size, 4, none⟩ = false := blk_frozen BR.out 4
  have q_BR_5 : w3.cell? ⟨W.heap.size, 5, none⟩ = some (.int .i64 0) := (blk_cell BR.out 5).trans rfl
  have f_BR_5 : w3.frozen? ⟨W.heap.size, 5, none⟩ = false := blk_frozen BR.out 5
  have q_BR_6 : w3.cell? ⟨W.heap.size, 6, none⟩ = some (.bool false) := (blk_cell BR.out 6).trans rfl
  have f_BR_6 : w3.frozen? ⟨W.heap.size, 6, none⟩ = false := blk_frozen BR.out 6
  have q_BR_7 : w3.cell? ⟨W.heap.size, 7, none⟩ = some (.int .i64 0) := (blk_cell BR.out 7).trans rfl
  have f_BR_7 : w3.frozen? ⟨W.heap.size, 7, none⟩ = false := blk_frozen BR.out 7
  have q_BR_8 : w3.cell? ⟨W.heap.size, 8, none⟩ = some (.int .u32 0) := (blk_cell BR.out 8).trans rfl
  have f_BR_8 : w3.frozen? ⟨W.heap.size, 8, none⟩ = false := blk_frozen BR.out 8
  have q_BR_9 : w3.cell? ⟨W.heap.size, 9, none⟩ = some (.int .u32 0) := (blk_cell BR.out 9).trans rfl
  have f_BR_9 : w3.frozen? ⟨W.heap.size, 9, none⟩ = false := blk_frozen BR.out 9
  go_wp2
  clear l_BR q_BR_0 f_BR_0 q_BR_1 f_BR_1 q_BR_2 f_BR_2 q_BR_3 f_BR_3 q_BR_4 f_BR_4 q_BR_5 f_BR_5 q_BR_6 f_BR_6 q_BR_7 f_BR_7 q_BR_8 f_BR_8 q_BR_9 f_BR_9
  refine post_at (fun wf hW => ?_)
  have nBR : wf.heap[W.heap.size]? = some (.cells #[.int .i64 0, .int .i64 o, .int .i64 0, .int .i64 0, .int .i64 d, .int .i64 p, .bool false, .int .i64 0, .int .u32 0, .int .u32 0] 67 (0, 0)) := by rw [hW]; exact put10 BR.out
  have nHB : Below W.heap.size W wf := by rw [hW]; repeat (first | (with_reducible exact HB.out) | refine Below.setCell ?_ (by exact geBR) _)
  clear hW
  clear BR
  have BR := Lib.hid nBR
  clear nBR
  clear HB
  have HB := Lib.hid nHB
  clear nHB
  have l_BR : W.heap.size < wf.heap.size := blk_lt BR.out
  have q_BR_0 : wf.cell? ⟨W.heap.size, 0, none⟩ = some (.int .i64 0) := (blk_cell BR.out 0).trans rfl
  have q_BR_1 : wf.cell? ⟨W.heap.size, 1, none⟩ = some (.int .i64 o) := (blk_cell BR.out 1).trans rfl
  have q_BR_2 : wf.cell? ⟨W.heap.size, 2, none⟩ = some (.int .i64 0) := (blk_cell BR.out 2).trans rfl
  have q_BR_3 : wf.cell? ⟨W.heap.size, 3, none⟩ = some (.int .i64 0) := (blk_cell BR.out 3).trans rfl
  have q_BR_4 : wf.cell? ⟨W.heap.size, 4, none⟩ = some (.int .i64 d) := (blk_cell BR.out 4).trans rfl
  have q_BR_5 : wf.cell? ⟨W.heap.size, 5, none⟩ = some (.int .i64 p) := (blk_cell BR.out 5).trans rfl
  have q_BR_6 : wf.cell? ⟨W.heap.size, 6, none⟩ = some (.bool false) := (blk_cell BR.out 6).trans rfl
  have q_BR_7 : wf.cell? ⟨W.heap.size, 7, none⟩ = some (.int .i64 0) := (blk_cell BR.out 7).trans rfl
  have q_BR_8 : wf.cell? ⟨W.heap.size, 8, none⟩ = some (.int .u32 0) := (blk_cell BR.out 8).trans rfl
  have q_BR_9 : wf.cell? ⟨W.heap.size, 9, none⟩ = some (.int .u32 0) := (blk_cell BR.out 9).trans rfl
  refine bodyPost_ret (v := aggP 0 o 0 0 d p false 0 0 0) (by simp [aggP, results, Tryd.results103, go_sem, q_BR_0, q_BR_1, q_BR_2, q_BR_3, q_BR_4, q_BR_5, q_BR_6, q_BR_7, q_BR_8, q_BR_9]) rfl ⟨rfl, HB.out⟩
set_option maxHeartbeats 1000000 in
theorem dec3_any (w : Int) (W : World) (h0 : 0 ≤ w) (h1 : w < 18446744073709551616) :
    Calls Tryd.prog 104 #[.int .u64 w] W fun e W' => e = .returned (aggP 0 0 0 0 0 0 (dblW w) (padW w) (segW w) 0) ∧ Below W.heap.size W W' := by
  obtain ⟨b, hO⟩ : ∃ x, Hid (dblW w = x) := ⟨_, rfl⟩
  have hd := padW_bd w
  obtain ⟨d, hD⟩ : ∃ x, Hid (padW w = x) := ⟨_, rfl⟩
  rw [hD.out] at hd
  obtain ⟨hd0, hd1⟩ := hd
  have hp := segW_bd w
  obtain ⟨p, hP⟩ : ∃ x, Hid (segW w = x) := ⟨_, rfl⟩
  rw [hP.out] at hp
  obtain ⟨hp0, hp1⟩ := hp
  rw [hO.out, hD.out, hP.out]
  obtain ⟨y, hY⟩ : ∃ y, Hid (w / 2 ^ 2 % 2 ^ 1 = y) := ⟨_, Lib.hid rfl⟩
  obtain rfl : (y == 1) = b := by rw [← hO.out, ← hY.out]; rfl
  go_enter Tryd.func104, Tryd.ntmps104
  have HB := Lib.hid (Below.refl W.heap.size W)
  go_wp2_with fail
  refine calls_at (fun wa hW => ?_)
  have hb : Below W.heap.size W wa := by rw [hW]; repeat (first | exact Below.refl _ _ | refine Below.alloc ?_ (by first | exact Nat.le_refl _ | (simp <;> omega)) _ | refine Below.drew ?_)
  have nBR : wa.heap[W.heap.size]? = some (.cells #[.int .i64 0, .int .i64 0, .int .i64 0, .int .i64 0, .int .i64 0, .int .i64 0, .bool false, .int .i64 0, .int .u32 0, .int .u32 0] 67 (0, 0)) := by rw [hW]; repeat (first | exact heap_alloc_new _ _ | exact blk_new _ _ _ (by simp) | refine blk_alloc ?_ _ | refine blk_drew ?_)
  have geBR : W.heap.size ≤ W.heap.size := Nat.le_refl _
  clear hW
  replace HB := Lib.hid (below_step HB.out hb)
  clear hb
  have BR := Lib.hid nBR
  clear nBR
  refine (field_any w 2 1 y _ h0 h1 (by omega) (by omega) (by omega) hY.out).mono ?_
  rintro e w1 ⟨rfl, hb⟩
  replace HB := Lib.hid (below_step HB.out hb)
  replace BR := Lib.hid (blk_below BR.out hb)
  clear hb
  go_wp2_with fail
  refine (field_any w 3 29 d _ h0 h1 (by omega) (by omega) (by omega) hD.out).mono ?_
  rintro e w2 ⟨rfl, hb⟩
  replace HB := Lib.hid (below_step HB.out hb)
  replace BR := Lib.hid (blk_below BR.out hb)
  clear hb
  have E32 : IntKind.u32.wrap p = p := by rw [IntKind.wrap_u32]; omega
  go_wp2_with fail
  refine (field_any w 32 32 p _ h0 h1 (by omega) (by omega) (by omega) hP.out).mono ?_
  rintro e w3 ⟨rfl, hb⟩
  replace HB := Lib.hid (below_step HB.out hb)
  replace BR := Lib.hid (blk_below BR.out hb)
  clear hb
  have l_BR : W.heap.size < w3.heap.size := blk_lt BR.out
  have q_BR_0 : w3.cell? ⟨W.heap.size, 0, none⟩ = some (.int .i64 0) := (blk_cell BR.out 0).trans rfl
  have f_BR_0 : w3.frozen? ⟨W.heap.size, 0, none⟩ = false := blk_frozen BR.out 0
  have q_BR_1 : w3.cell? ⟨W.heap.size, 1, none⟩ = some (.int .i64 0) := (blk_cell BR.out 1).trans rfl
  have f_BR_1 : w3.frozen? ⟨W.heap.size, 1, none⟩ = false := blk_frozen BR.out 1
  have q_BR_2 : w3.cell? ⟨W.heap.size, 2, none⟩ = some (.int .i64 0) := (blk_cell BR.out 2).trans rfl
  have f_BR_2 : w3.frozen? ⟨W.heap.size, 2, none⟩ = false := blk_frozen BR.out 2
  have q_BR_3 : w3.cell? ⟨W.heap.size, 3, none⟩ = some (.int .i64 0) := (blk_cell BR.out 3).trans rfl
  have f_BR_3 : w3.frozen? ⟨W.heap.size, 3, none⟩ = false := blk_frozen BR.out 3
  have q_BR_4 : w3.cell? ⟨W.heap.size, 4, none⟩ = some (.int .i64 0) := (blk_cell BR.out 4).trans rfl
  have f_BR_4 : w3.frozen? ⟨W.heap.size, 4, none⟩ = false := blk_frozen BR.out 4
  have q_BR_5 : w3.cell? ⟨W.heap.size, 5, none⟩ = some (.int .i64 0) := (blk_cell BR.out 5).trans rfl
  have f_BR_5 : w3.frozen? ⟨W.heap.size, 5, none⟩ = false := blk_frozen BR.out 5
  have q_BR_6 : w3.cell? ⟨W.heap.size, 6, none⟩ = some (.bool false) := (blk_cell BR.out 6).trans rfl
  have f_BR_6 : w3.frozen? ⟨W.heap.size, 6, none⟩ = false := blk_frozen BR.out 6
  have q_BR_7 : w3.cell? ⟨W.heap.size, 7, none⟩ = some (.int .i64 0) := (blk_cell BR.out 7).trans rfl
  have f_BR_7 : w3.frozen? ⟨W.heap.size, 7, none⟩ = false := blk_frozen BR.out 7
  have q_BR_8 : w3.cell? ⟨W.heap.size, 8, none⟩ = some (.int .u32 0) := (blk_cell BR.out 8).trans rfl
  have f_BR_8 : w3.frozen? ⟨W.heap.size, 8, none⟩ = false := blk_frozen BR.out 8
  have q_BR_9 : w3.cell? ⟨W.heap.size, 9, none⟩ = some (.int .u32 0) := (blk_cell BR.out 9).trans rfl
  have f_BR_9 : w3.frozen? ⟨W.heap.size, 9, none⟩ = false := blk_frozen BR.out 9
  go_wp2
  clear l_BR q_BR_0 f_BR_0 q_BR_1 f_BR_1 q_BR_2 f_BR_2 q_BR_3 f_BR_3 q_BR_4 f_BR_4 q_BR_5 f_BR_5 q_BR_6 f_BR_6 q_BR_7 f_BR_7 q_BR_8 f_BR_8 q_BR_9 f_BR_9
  refine post_at (fun wf hW => ?_)
  have nBR : wf.heap[W.heap.size]? = some (.cells #[.int .i64 0, .int .i64 0, .int .i64 0, .int .i64 0, .int .i64 0, .int .i64 0, .bool (y == 1), .int .i64 d, .int .u32 p, .int .u32 0] 67 (0, 0)) := by rw [hW]; exact put10 BR.out
  have nHB : Below W.heap.size W wf := by rw [hW]; repeat (first | (with_reducible exact HB.out) | refine Below.setCell ?_ (by exact geBR) _)
  clear hW
  clear BR
  have BR := Lib.hid nBR
  clear nBR
  clear HB
  have HB := Lib.hid nHB
  clear nHB
  have l_BR : W.heap.size < wf.heap.size := blk_lt BR.out
  have q_BR_0 : wf.cell? ⟨W.heap.size, 0, none⟩ = some (.int .i64 0) := (blk_cell BR.out 0).trans rfl
  have q_BR_1 : wf.cell? ⟨W.heap.size, 1, none⟩ = some (.int .i64 0) := (blk_cell BR.out 1).trans rfl
  have q_BR_2 : wf.cell? ⟨W.heap.size, 2, none⟩ = some (.int .i64 0) := (blk_cell BR.out 2).trans rfl
  have q_BR_3 : wf.cell? ⟨W.heap.size, 3, none⟩ = some (.int .i64 0) := (blk_cell BR.out 3).trans rfl
  have q_BR_4 : wf.cell? ⟨W.heap.size, 4, none⟩ = some (.int .i64 0) := (blk_cell BR.out 4).trans rfl
  have q_BR_5 : wf.cell? ⟨W.heap.size, 5, none⟩ = some (.int .i64 0) := (blk_cell BR.out 5).trans rfl
  have q_BR_6 : wf.cell? ⟨W.heap.size, 6, none⟩ = some (.bool (y == 1)) := (blk_cell BR.out 6).trans rfl
  have q_BR_7 : wf.cell? ⟨W.heap.size, 7, none⟩ = some (.int .i64 d) := (blk_cell BR.out 7).trans rfl
  have q_BR_8 : wf.cell? ⟨W.heap.size, 8, none⟩ = some (.int .u32 p) := (blk_cell BR.out 8).trans rfl
  have q_BR_9 : wf.cell? ⟨W.heap.size, 9, none⟩ = some (.int .u32 0) := (blk_cell BR.out 9).trans rfl
  refine bodyPost_ret (v := aggP 0 0 0 0 0 0 (y == 1) d p 0) (by simp [aggP, results, Tryd.results104, go_sem, q_BR_0, q_BR_1, q_BR_2, q_BR_3, q_BR_4, q_BR_5, q_BR_6, q_BR_7, q_BR_8, q_BR_9]) rfl ⟨rfl, HB.out⟩
set_option maxHeartbeats 1000000 in
theorem dec4_any (w : Int) (W : World) (h0 : 0 ≤ w) (h1 : w < 18446744073709551616) :
    Calls Tryd.prog 105 #[.int .u64 w] W fun e W' => e = .returned (aggP 0 0 0 0 0 0 false 0 (segW w) (lowW w)) ∧ Below W.heap.size W W' := by
  have hd := lowW_bd w
  obtain ⟨d, hD⟩ : ∃ x, Hid (lowW w = x) := ⟨_, rfl⟩
  rw [hD.out] at hd
  obtain ⟨hd0, hd1⟩ := hd
  have hp := segW_bd w
  obtain ⟨p, hP⟩ : ∃ x, Hid (segW w = x) := ⟨_, rfl⟩
  rw [hP.out] at hp
  obtain ⟨hp0, hp1⟩ := hp
  rw [hD.out, hP.out]
  go_enter Tryd.func105, Tryd.ntmps105
  have HB := Lib.hid (Below.refl W.heap.size W)
  go_wp2_with fail
  refine calls_at (fun wa hW => ?_)
  have hb : Below W.heap.size W wa := by rw [hW]; repeat (first | exact Below.refl _ _ | refine Below.alloc ?_ (by first | exact Nat.le_refl _ | (simp <;> omega)) _ | refine Below.drew ?_)
  have nBR : wa.heap[W.heap.size]? = some (.cells #[.int .i64 0, .int .i64 0, .int .i64 0, .int .i64 0, .int .i64 0, .int .i64 0, .bool false, .int .i64 0, .int .u32 0, .int .u32 0] 67 (0, 0)) := by rw [hW]; repeat (first | exact heap_alloc_new _ _ | exact blk_new _ _ _ (by simp) | refine blk_alloc ?_ _ | refine blk_drew ?_)
  have geBR : W.heap.size ≤ W.heap.size := Nat.le_refl _
  clear hW
  replace HB := Lib.hid (below_step HB.out hb)
  clear hb
  have BR := Lib.hid nBR
  clear nBR
  refine (field_any w 2 30 d _ h0 h1 (by omega) (by omega) (by omega) hD.out).mono ?_
  rintro e w1 ⟨rfl, hb⟩
  replace HB := Lib.hid (below_step HB.out hb)
  replace BR := Lib.hid (blk_below BR.out hb)
  clear hb
  have E32 : IntKind.u32.wrap p = p := by rw [IntKind.wrap_u32]; omega
  have E33 : IntKind.u32.wrap d = d := by rw [IntKind.wrap_u32]; omega
  go_wp2_with fail
  refine (field_any w 32 32 p _ h0 h1 (by omega) (by omega) (by omega) hP.out).mono ?_
  rintro e w2 ⟨rfl, hb⟩
  replace HB := Lib.hid (below_step HB.out hb)
  replace BR := Lib.hid (blk_below BR.out hb)
  clear hb
  have l_BR : W.heap.size < w2.heap.size := blk_lt BR.out
  have q_BR_0 : w2.cell? ⟨W.heap.size, 0, none⟩ = some (.int .i64 0) := (blk_cell BR.out 0).trans rfl
  have f_BR_0 : w2.frozen? ⟨W.heap.size, 0, none⟩ = false := blk_frozen BR.out 0
  have q_BR_1 : w2.cell? ⟨W.heap.size, 1, none⟩ = some (.int .i64 0) := (blk_cell BR.out 1).trans rfl
  have f_BR_1 : w2.frozen? ⟨W.heap.size, 1, none⟩ = false := blk_frozen BR.out 1
  have q_BR_2 : w2.cell? ⟨W.heap.size, 2, none⟩ = some (.int .i64 0) := (blk_cell BR.out 2).trans rfl
  have f_BR_2 : w2.frozen? ⟨W.heap.size, 2, none⟩ = false := blk_frozen BR.out 2
  have q_BR_3 : w2.cell? ⟨W.heap.size, 3, none⟩ = some (.int .i64 0) := (blk_cell BR.out 3).trans rfl
  have f_BR_3 : w2.frozen? ⟨W.heap.size, 3, none⟩ = false := blk_frozen BR.out 3
  have q_BR_4 : w2.cell? ⟨W.heap.size, 4, none⟩ = some (.int .i64 0) := (blk_cell BR.out 4).trans rfl
  have f_BR_4 : w2.frozen? ⟨W.heap.size, 4, none⟩ = false := blk_frozen BR.out 4
  have q_BR_5 : w2.cell? ⟨W.heap.size, 5, none⟩ = some (.int .i64 0) := (blk_cell BR.out 5).trans rfl
  have f_BR_5 : w2.frozen? ⟨W.heap.size, 5, none⟩ = false := blk_frozen BR.out 5
  have q_BR_6 : w2.cell? ⟨W.heap.size, 6, none⟩ = some (.bool false) := (blk_cell BR.out 6).trans rfl
  have f_BR_6 : w2.frozen? ⟨W.heap.size, 6, none⟩ = false := blk_frozen BR.out 6
  have q_BR_7 : w2.cell? ⟨W.heap.size, 7, none⟩ = some (.int .i64 0) := (blk_cell BR.out 7).trans rfl
  have f_BR_7 : w2.frozen? ⟨W.heap.size, 7, none⟩ = false := blk_frozen BR.out 7
  have q_BR_8 : w2.cell? ⟨W.heap.size, 8, none⟩ = some (.int .u32 0) := (blk_cell BR.out 8).trans rfl
  have f_BR_8 : w2.frozen? ⟨W.heap.size, 8, none⟩ = false := blk_frozen BR.out 8
  have q_BR_9 : w2.cell? ⟨W.heap.size, 9, none⟩ = some (.int .u32 0) := (blk_cell BR.out 9).trans rfl
  have f_BR_9 : w2.frozen? ⟨W.heap.size, 9, none⟩ = false := blk_frozen BR.out 9
  go_wp2
  clear l_BR q_BR_0 f_BR_0 q_BR_1 f_BR_1 q_BR_2 f_BR_2 q_BR_3 f_BR_3 q_BR_4 f_BR_4 q_BR_5 f_BR_5 q_BR_6 f_BR_6 q_BR_7 f_BR_7 q_BR_8 f_BR_8 q_BR_9 f_BR_9
  refine post_at (fun wf hW => ?_)
  have nBR : wf.heap[W.heap.size]? = some (.cells #[.int .i64 0, .int .i64 0, .int .i64 0, .int .i64 0, .int .i64 0, .int .i64 0, .bool false, .int .i64 0, .int .u32 p, .int .u32 d] 67 (0, 0)) := by rw [hW]; exact put10 BR.out
  have nHB : Below W.heap.size W wf := by rw [hW]; repeat (first | (with_reducible exact HB.out) | refine Below.setCell ?_ (by exact geBR) _)
  clear hW
  clear BR
  have BR := Lib.hid nBR
  clear nBR
  clear HB
  have HB := Lib.hid nHB
  clear nHB
  have l_BR : W.heap.size < wf.heap.size := blk_lt BR.out
  have q_BR_0 : wf.cell? ⟨W.heap.size, 0, none⟩ = some (.int .i64 0) := (blk_cell BR.out 0).trans rfl
  have q_BR_1 : wf.cell? ⟨W.heap.size, 1, none⟩ = some (.int .i64 0) := (blk_cell BR.out 1).trans rfl
  have q_BR_2 : wf.cell? ⟨W.heap.size, 2, none⟩ = some (.int .i64 0) := (blk_cell BR.out 2).trans rfl
  have q_BR_3 : wf.cell? ⟨W.heap.size, 3, none⟩ = some (.int .i64 0) := (blk_cell BR.out 3).trans rfl
  have q_BR_4 : wf.cell? ⟨W.heap.size, 4, none⟩ = some (.int .i64 0) := (blk_cell BR.out 4).trans rfl
  have q_BR_5 : wf.cell? ⟨W.heap.size, 5, none⟩ = some (.int .i64 0) := (blk_cell BR.out 5).trans rfl
  have q_BR_6 : wf.cell? ⟨W.heap.size, 6, none⟩ = some (.bool false) := (blk_cell BR.out 6).trans rfl
  have q_BR_7 : wf.cell? ⟨W.heap.size, 7, none⟩ = some (.int .i64 0) := (blk_cell BR.out 7).trans rfl
  have q_BR_8 : wf.cell? ⟨W.heap.size, 8, none⟩ = some (.int .u32 p) := (blk_cell BR.out 8).trans rfl
  have q_BR_9 : wf.cell? ⟨W.heap.size, 9, none⟩ = some (.int .u32 d) := (blk_cell BR.out 9).trans rfl
  refine bodyPost_ret (v := aggP 0 0 0 0 0 0 false 0 p d) (by simp [aggP, results, Tryd.results105, go_sem, q_BR_0, q_BR_1, q_BR_2, q_BR_3, q_BR_4, q_BR_5, q_BR_6, q_BR_7, q_BR_8, q_BR_9]) rfl ⟨rfl, HB.out⟩
end Go.Proofs.YtidglmocekghmaaDoor.Pr
end
section
namespace Go.Proofs.YtidglmocekghmaaDoor.Pr
open Go.RowKit Go.Proofs.YtidglmocekghmaaDoorW.PrintWords Go.Proofs.YtidglmocekghmaaDoorW.PrintLast Go.Proofs.YtidglmocekghmaaDoorW.PrintMore
set_option linter.unusedVariables false
set_option linter.unusedSimpArgs false
structure LooksUp (b : Nat) (W : World) : Prop where
 l0 : (Instr.lookup 97 (.map (some b)) (.int .i64 0) false).run Tryd.prog W = .ok (.func (.func 101) #[] #[]) W
 l1 : (Instr.lookup 97 (.map (some b)) (.int .i64 1) false).run Tryd.prog W = .ok (.func (.func 103) #[] #[]) W
 l2 : (Instr.lookup 97 (.map (some b)) (.int .i64 2) false).run Tryd.prog W = .ok (.func (.func 104) #[] #[]) W
 l3 : (Instr.lookup 97 (.map (some b)) (.int .i64 3) false).run Tryd.prog W = .ok (.func (.func 105) #[] #[]) W
def Dec (w : World) : Prop := ∃ b, w.cell? ⟨0, 0, none⟩ = some (.map (some b)) ∧ b < w.heap.size ∧ ∀ W, W.heap[b]? = w.heap[b]? → LooksUp b W
theorem Dec.below {w w1 : World} (h : Dec w) (hb : Below w.heap.size w w1) : Dec w1 := by
 obtain ⟨b, h1, h2, h3⟩ := h
 have h0 : 0 < w.heap.size := World.block_lt_of_cell? w _ h1
 exact ⟨b, (hb.cell (p := ⟨0, 0, none⟩) h0).trans h1, Nat.lt_of_lt_of_le h2 hb.size, fun W hW => h3 W (hW.trans (hb.block b h2))⟩
def decV (w : Int) : Value :=
 if kindW w = 0 then aggP 0 (offW w) (dataW w) (ptrsW w) 0 0 false 0 0 0
 else if kindW w = 1 then aggP 1 (offW w) 0 0 (elemW w) (cntW w) false 0 0 0
 else if kindW w = 2 then aggP 2 0 0 0 0 0 (dblW w) (padW w) (segW w) 0
 else aggP 3 0 0 0 0 0 false 0 (segW w) (lowW w)
set_option maxHeartbeats 2000000 in
theorem decode0 (w : Int) (W : World) (h0 : 0 ≤ w) (h1 : w < 18446744073709551616) (hk : kindW w = 0) (hd : Dec W) :
    Calls Tryd.prog 32 #[.int .u64 w] W fun e W' => e = .returned (aggP 0 (offW w) (dataW w) (ptrsW w) 0 0 false 0 0 0) ∧ Below W.heap.size W W' := by
  have HC := Lib.hid (dec1_any w)
  have HD := Lib.hid hd
  clear hd
  have HK : Hid (w / 2 ^ 0 % 2 ^ 2 = 0) := Lib.hid (by unfold kindW at hk; omega)
  clear hk
  unfold aggP at HC ⊢
  generalize offW w = o at HC ⊢
  generalize dataW w = d at HC ⊢
  generalize ptrsW w = p at HC ⊢
  go_enter Tryd.func32, Tryd.ntmps32
  have HB := Lib.hid (Below.refl W.heap.size W)
  go_wp2_with fail
  refine calls_at (fun wa hW => ?_)
  have hb : Below W.heap.size W wa := by rw [hW]; repeat (first | exact Below.refl _ _ | refine Below.alloc ?_ (by first | exact Nat.le_refl _ | (simp <;> omega)) _ | refine Below.drew ?_)
  have nBR : wa.heap[W.heap.size]? = some (.cells #[.int .i64 0, .int .i64 0, .int .i64 0, .int .i64 0, .int .i64 0, .int .i64 0, .bool false, .int .i64 0, .int .u32 0, .int .u32 0] 67 (0, 0)) := by rw [hW]; repeat (first | exact heap_alloc_new _ _ | exact blk_new _ _ _ (by simp) | refine blk_alloc ?_ _ | refine blk_drew ?_)
  have geBR : W.heap.size ≤ W.heap.size := Nat.le_refl _
  clear hW
  replace HB := Lib.hid (below_step HB.out hb)
  replace HD := Lib.hid (HD.out.below hb)
  clear hb
  have BR := Lib.hid nBR
  clear nBR
  refine (field_any w 0 2 0 _ h0 h1 (by omega) (by omega) (by omega) HK.out).mono ?_
  rintro e w1 ⟨rfl, hb⟩
  replace HB := Lib.hid (below_step HB.out hb)
  replace HD := Lib.hid (HD.out.below hb)
  replace BR := Lib.hid (blk_below BR.out hb)
  clear hb
  obtain ⟨b_, hm, hbl, hl⟩ := HD.out
  have hlk := (hl _ rfl).l0
  clear hl
  go_wp2_with fail
  clear hm hbl hlk
  refine (HC.out w1 h0 h1).mono ?_
  rintro e w2 ⟨rfl, hb⟩
  replace HB := Lib.hid (below_step HB.out hb)
  replace HD := Lib.hid (HD.out.below hb)
  replace BR := Lib.hid (blk_below BR.out hb)
  clear hb
  have l_BR : W.heap.size < w2.heap.size := blk_lt BR.out
  have q_BR_0 : w2.cell? ⟨W.heap.size, 0, none⟩ = some (.int .i64 0) := (blk_cell BR.out 0).trans rfl
  have f_BR_0 : w2.frozen? ⟨W.heap.size, 0, none⟩ = false := blk_frozen BR.out 0
  have q_BR_1 : w2.cell? ⟨W.heap.size, 1, none⟩ = some (.int .i64 0) := (blk_cell BR.out 1).trans rfl
  have f_BR_1 : w2.frozen? ⟨W.heap.size, 1, none⟩ = false := blk_frozen BR.out 1
  have q_BR_2 : w2.cell? ⟨W.heap.size, 2, none⟩ = some (.int .i64 0) := (blk_cell BR.out 2).trans rfl
  have f_BR_2 : w2.frozen? ⟨W.heap.size, 2, none⟩ = false := blk_frozen BR.out 2
  have q_BR_3 : w2.cell? ⟨W.heap.size, 3, none⟩ = some (.int .i64 0) := (blk_cell BR.out 3).trans rfl
  have f_BR_3 : w2.frozen? ⟨W.heap.size, 3, none⟩ = false := blk_frozen BR.out 3
  have q_BR_4 : w2.cell? ⟨W.heap.size, 4, none⟩ = some (.int .i64 0) := (blk_cell BR.out 4).trans rfl
  have f_BR_4 : w2.frozen? ⟨W.heap.size, 4, none⟩ = false := blk_frozen BR.out 4
  have q_BR_5 : w2.cell? ⟨W.heap.size, 5, none⟩ = some (.int .i64 0) := (blk_cell BR.out 5).trans rfl
  have f_BR_5 : w2.frozen? ⟨W.heap.size, 5, none⟩ = false := blk_frozen BR.out 5
  have q_BR_6 : w2.cell? ⟨W.heap.size, 6, none⟩ = some (.bool false) := (blk_cell BR.out 6).trans rfl
  have f_BR_6 : w2.frozen? ⟨W.heap.size, 6, none⟩ = false := blk_frozen BR.out 6
  have q_BR_7 : w2.cell? ⟨W.heap.size, 7, none⟩ = some (.int .i64 0) := (blk_cell BR.out 7).trans rfl
  have f_BR_7 : w2.frozen? ⟨W.heap.size, 7, none⟩ = false := blk_frozen BR.out 7
  have q_BR_8 : w2.cell? ⟨W.heap.size, 8, none⟩ = some (.int .u32 0) := (blk_cell BR.out 8).trans rfl
  have f_BR_8 : w2.frozen? ⟨W.heap.size, 8, none⟩ = false := blk_frozen BR.out 8
  have q_BR_9 : w2.cell? ⟨W.heap.size, 9, none⟩ = some (.int .u32 0) := (blk_cell BR.out 9).trans rfl
  have f_BR_9 : w2.frozen? ⟨W.heap.size, 9, none⟩ = false := blk_frozen BR.out 9
  go_wp2
  clear l_BR q_BR_0 f_BR_0 q_BR_1 f_BR_1 q_BR_2 f_BR_2 q_BR_3 f_BR_3 q_BR_4 f_BR_4 q_BR_5 f_BR_5 q_BR_6 f_BR_6 q_BR_7 f_BR_7 q_BR_8 f_BR_8 q_BR_9 f_BR_9
  refine post_at (fun wf hW => ?_)
  have nBR : wf.heap[W.heap.size]? = some (.cells #[.int .i64 0, .int .i64 o, .int .i64 d, .int .i64 p, .int .i64 0, .int .i64 0, .bool false, .int .i64 0, .int .u32 0, .int .u32 0] 67 (0, 0)) := by rw [hW]; exact blk_alloc (put10 BR.out) _
  have nHB : Below W.heap.size W wf := by rw [hW]; repeat (first | (with_reducible exact HB.out) | (with_reducible refine Below.setCell ?_ (by exact geBR) _) | refine Below.alloc ?_ (by have := HB.out.size; simp; omega) _)
  clear hW
  clear BR
  have BR := Lib.hid nBR
  clear nBR
  clear HB
  have HB := Lib.hid nHB
  clear nHB
  have l_BR : W.heap.size < wf.heap.size := blk_lt BR.out
  have q_BR_0 : wf.cell? ⟨W.heap.size, 0, none⟩ = some (.int .i64 0) := (blk_cell BR.out 0).trans rfl
  have q_BR_1 : wf.cell? ⟨W.heap.size, 1, none⟩ = some (.int .i64 o) := (blk_cell BR.out 1).trans rfl
  have q_BR_2 : wf.cell? ⟨W.heap.size, 2, none⟩ = some (.int .i64 d) := (blk_cell BR.out 2).trans rfl
  have q_BR_3 : wf.cell? ⟨W.heap.size, 3, none⟩ = some (.int .i64 p) := (blk_cell BR.out 3).trans rfl
  have q_BR_4 : wf.cell? ⟨W.heap.size, 4, none⟩ = some (.int .i64 0) := (blk_cell BR.out 4).trans rfl
  have q_BR_5 : wf.cell? ⟨W.heap.size, 5, none⟩ = some (.int .i64 0) := (blk_cell BR.out 5).trans rfl
  have q_BR_6 : wf.cell? ⟨W.heap.size, 6, none⟩ = some (.bool false) := (blk_cell BR.out 6).trans rfl
  have q_BR_7 : wf.cell? ⟨W.heap.size, 7, none⟩ = some (.int .i64 0) := (blk_cell BR.out 7).trans rfl
  have q_BR_8 : wf.cell? ⟨W.heap.size, 8, none⟩ = some (.int .u32 0) := (blk_cell BR.out 8).trans rfl
  have q_BR_9 : wf.cell? ⟨W.heap.size, 9, none⟩ = some (.int .u32 0) := (blk_cell BR.out 9).trans rfl
  refine bodyPost_ret (v := .agg #[.int .i64 0, .int .i64 o, .int .i64 d, .int .i64 p, .int .i64 0, .int .i64 0, .bool false, .int .i64 0, .int .u32 0, .int .u32 0]) (by simp [results, Tryd.results32, go_sem, q_BR_0, q_BR_1, q_BR_2, q_BR_3, q_BR_4, q_BR_5, q_BR_6, q_BR_7, q_BR_8, q_BR_9]) rfl ⟨rfl, HB.out⟩
set_option maxHeartbeats 2000000 in
theorem decode1 (w : Int) (W : World) (h0 : 0 ≤ w) (h1 : w < 18446744073709551616) (hk : kindW w = 1) (hd : Dec W) :
    Calls Tryd.prog 32 #[.int .u64 w] W fun e W' => e = .returned (aggP 1 (offW w) 0 0 (elemW w) (cntW w) false 0 0 0) ∧ Below W.heap.size W W' := by
  have HC := Lib.hid (dec2_any w)
  have HD := Lib.hid hd
  clear hd
  have HK : Hid (w / 2 ^ 0 % 2 ^ 2 = 1) := Lib.hid (by unfold kindW at hk; omega)
  clear hk
  unfold aggP at HC ⊢
  generalize offW w = o at HC ⊢
  generalize elemW w = e at HC ⊢
  generalize cntW w = c at HC ⊢
  go_enter Tryd.func32, Tryd.ntmps32
  have HB := Lib.hid (Below.refl W.heap.size W)
  go_wp2_with fail
  refine calls_at (fun wa hW => ?_)
  have hb : Below W.heap.size W wa := by rw [hW]; repeat (first | exact Below.refl _ _ | refine Below.alloc ?_ (by first | exact Nat.le_refl _ | (simp <;> omega)) _ | refine Below.drew ?_)
  have nBR : wa.heap[W.heap.size]? = some (.cells #[.int .i64 0, .int .i64 0, .int .i64 0, .int .i64 0, .int .i64 0, .int .i64 0, .bool false, .int .i64 0, .int .u32 0, .int .u32 0] 67 (0, 0)) := by rw [hW]; repeat (first | exact heap_alloc_new _ _ | exact blk_new _ _ _ (by simp) | refine blk_alloc ?_ _ | refine blk_drew ?_)
  have geBR : W.heap.size ≤ W.heap.size := Nat.le_refl _
  clear hW
  replace HB := Lib.hid (below_step HB.out hb)
  replace HD := Lib.hid (HD.out.below hb)
  clear hb
  have BR := Lib.hid nBR
  clear nBR
  refine (field_any w 0 2 1 _ h0 h1 (by omega) (by omega) (by omega) HK.out).mono ?_
  rintro e w1 ⟨rfl, hb⟩
  replace HB := Lib.hid (below_step HB.out hb)
  replace HD := Lib.hid (HD.out.below hb)
  replace BR := Lib.hid (blk_below BR.out hb)
  clear hb
  obtain ⟨b_, hm, hbl, hl⟩ := HD.out
  have hlk := (hl _ rfl).l1
  clear hl
  go_wp2_with fail
  clear hm hbl hlk
  refine (HC.out w1 h0 h1).mono ?_
  rintro e w2 ⟨rfl, hb⟩
  replace HB := Lib.hid (below_step HB.out hb)
  replace HD := Lib.hid (HD.out.below hb)
  replace BR := Lib.hid (blk_below BR.out hb)
  clear hb
  have l_BR : W.heap.size < w2.heap.size := blk_lt BR.out
  have q_BR_0 : w2.cell? ⟨W.heap.size, 0, none⟩ = some (.int .i64 0) := (blk_cell BR.out 0).trans rfl
  have f_BR_0 : w2.frozen? ⟨W.heap.size, 0, none⟩ = false := blk_frozen BR.out 0
  have q_BR_1 : w2.cell? ⟨W.heap.size, 1, none⟩ = some (.int .i64 0) := (blk_cell BR.out 1).trans rfl
  have f_BR_1 : w2.frozen? ⟨W.heap.size, 1, none⟩ = false := blk_frozen BR.out 1
  have q_BR_2 : w2.cell? ⟨W.heap.size, 2, none⟩ = some (.int .i64 0) := (blk_cell BR.out 2).trans rfl
  have f_BR_2 : w2.frozen? ⟨W.heap.size, 2, none⟩ = false := blk_frozen BR.out 2
  have q_BR_3 : w2.cell? ⟨W.heap.size, 3, none⟩ = some (.int .i64 0) := (blk_cell BR.out 3).trans rfl
  have f_BR_3 : w2.frozen? ⟨W.heap.size, 3, none⟩ = false := blk_frozen BR.out 3
  have q_BR_4 : w2.cell? ⟨W.heap.size, 4, none⟩ = some (.int .i64 0) := (blk_cell BR.out 4).trans rfl
  have f_BR_4 : w2.frozen? ⟨W.heap.size, 4, none⟩ = false := blk_frozen BR.out 4
  have q_BR_5 : w2.cell? ⟨W.heap.size, 5, none⟩ = some (.int .i64 0) := (blk_cell BR.out 5).trans rfl
  have f_BR_5 : w2.frozen? ⟨W.heap.size, 5, none⟩ = false := blk_frozen BR.out 5
  have q_BR_6 : w2.cell? ⟨W.heap.size, 6, none⟩ = some (.bool false) := (blk_cell BR.out 6).trans rfl
  have f_BR_6 : w2.frozen? ⟨W.heap.size, 6, none⟩ = false := blk_frozen BR.out 6
  have q_BR_7 : w2.cell? ⟨W.heap.size, 7, none⟩ = some (.int .i64 0) := (blk_cell BR.out 7).trans rfl
  have f_BR_7 : w2.frozen? ⟨W.heap.size, 7, none⟩ = false := blk_frozen BR.out 7
  have q_BR_8 : w2.cell? ⟨W.heap.size, 8, none⟩ = some (.int .u32 0) := (blk_cell BR.out 8).trans rfl
  have f_BR_8 : w2.frozen? ⟨W.heap.size, 8, none⟩ = false := blk_frozen BR.out 8
  have q_BR_9 : w2.cell? ⟨W.heap.size, 9, none⟩ = some (.int .u32 0) := (blk_cell BR.out 9).trans rfl
  have f_BR_9 : w2.frozen? ⟨W.heap.size, 9, none⟩ = false := blk_frozen BR.out 9
  go_wp2
  clear l_BR q_BR_0 f_BR_0 q_BR_1 f_BR_1 q_BR_2 f_BR_2 q_BR_3 f_BR_3 q_BR_4 f_BR_4 q_BR_5 f_BR_5 q_BR_6 f_BR_6 q_BR_7 f_BR_7 q_BR_8 f_BR_8 q_BR_9 f_BR_9
  refine post_at (fun wf hW => ?_)
  have nBR : wf.heap[W.heap.size]? = some (.cells #[.int .i64 1, .int .i64 o, .int .i64 0, .int .i64 0, .int .i64 e, .int .i64 c, .bool false, .int .i64 0, .int .u32 0, .int .u32 0] 67 (0, 0)) := by rw [hW]; exact blk_alloc (put10 BR.out) _
  have nHB : Below W.heap.size W wf := by rw [hW]; repeat (first | (with_reducible exact HB.out) | (with_reducible refine Below.setCell ?_ (by exact geBR) _) | refine Below.alloc ?_ (by have := HB.out.size; simp; omega) _)
  clear hW
  clear BR
  have BR := Lib.hid nBR
  clear nBR
  clear HB
  have HB := Lib.hid nHB
  clear nHB
  have l_BR : W.heap.size < wf.heap.size := blk_lt BR.out
  have q_BR_0 : wf.cell? ⟨W.heap.size, 0, none⟩ = some (.int .i64 1) := (blk_cell BR.out 0).trans rfl
  have q_BR_1 : wf.cell? ⟨W.heap.size, 1, none⟩ = some (.int .i64 o) := (blk_cell BR.out 1).trans rfl
  have q_BR_2 : wf.cell? ⟨W.heap.size, 2, none⟩ = some (.int .i64 0) := (blk_cell BR.out 2).trans rfl
  have q_BR_3 : wf.cell? ⟨W.heap.size, 3, none⟩ = some (.int .i64 0) := (blk_cell BR.out 3).trans rfl
  have q_BR_4 : wf.cell? ⟨W.heap.size, 4, none⟩ = some (.int .i64 e) := (blk_cell BR.out 4).trans rfl
  have q_BR_5 : wf.cell? ⟨W.heap.size, 5, none⟩ = some (.int .i64 c) := (blk_cell BR.out 5).trans rfl
  have q_BR_6 : wf.cell? ⟨W.heap.size, 6, none⟩ = some (.bool false) := (blk_cell BR.out 6).trans rfl
  have q_BR_7 : wf.cell? ⟨W.heap.size, 7, none⟩ = some (.int .i64 0) := (blk_cell BR.out 7).trans rfl
  have q_BR_8 : wf.cell? ⟨W.heap.size, 8, none⟩ = some (.int .u32 0) := (blk_cell BR.out 8).trans rfl
  have q_BR_9 : wf.cell? ⟨W.heap.size, 9, none⟩ = some (.int .u32 0) := (blk_cell BR.out 9).trans rfl
  refine bodyPost_ret (v := .agg #[.int .i64 1, .int .i64 o, .int .i64 0, .int .i64 0, .int .i64 e, .int .i64 c, .bool false, .int .i64 0, .int .u32 0, .int .u32 0]) (by simp [results, Tryd.results32, go_sem, q_BR_0, q_BR_1, q_BR_2, q_BR_3, q_BR_4, q_BR_5, q_BR_6, q_BR_7, q_BR_8, q_BR_9]) rfl ⟨rfl, HB.out⟩
set_option maxHeartbeats 2000000 in
theorem decode2 (w : Int) (W : World) (h0 : 0 ≤ w) (h1 : w < 18446744073709551616) (hk : kindW w = 2) (hd : Dec W) :
    Calls Tryd.prog 32 #[.int .u64 w] W fun e W' => e = .returned (aggP 2 0 0 0 0 0 (dblW w) (padW w) (segW w) 0) ∧ Below W.heap.size W W' := by
  have HC := Lib.hid (dec3_any w)
  have HD := Lib.hid hd
  clear hd
  have HK : Hid (w / 2 ^ 0 % 2 ^ 2 = 2) := Lib.hid (by unfold kindW at hk; omega)
  clear hk
  unfold aggP at HC ⊢
  generalize dblW w = b at HC ⊢
  generalize padW w = d at HC ⊢
  generalize segW w = p at HC ⊢
  go_enter Tryd.func32, Tryd.ntmps32
  have HB := Lib.hid (Below.refl W.heap.size W)
  go_wp2_with fail
  refine calls_at (fun wa hW => ?_)
  have hb : Below W.heap.size W wa := by rw [hW]; repeat (first | exact Below.refl _ _ | refine Below.alloc ?_ (by first | exact Nat.le_refl _ | (simp <;> omega)) _ | refine Below.drew ?_)
  have nBR : wa.heap[W.heap.size]? = some (.cells #[.int .i64 0, .int .i64 0, .int .i64 0, .int .i64 0, .int .i64 0, .int .i64 0, .bool false, .int .i64 0, .int .u32 0, .int .u32 0] 67 (0, 0)) := by rw [hW]; repeat (first | exact heap_alloc_new _ _ | exact blk_new _ _ _ (by simp) | refine blk_alloc ?_ _ | refine blk_drew ?_)
  have geBR : W.heap.size ≤ W.heap.size := Nat.le_refl _
  clear hW
  replace HB := Lib.hid (below_step HB.out hb)
  replace HD := Lib.hid (HD.out.below hb)
  clear hb
  have BR := Lib.hid nBR
  clear nBR
  refine (field_any w 0 2 2 _ h0 h1 (by omega) (by omega) (by omega) HK.out).mono ?_
  rintro e w1 ⟨rfl, hb⟩
  replace HB := Lib.hid (below_step HB.out hb)
  replace HD := Lib.hid (HD.out.below hb)
  replace BR := Lib.hid (blk_below BR.out hb)
  clear hb
  obtain ⟨b_, hm, hbl, hl⟩ := HD.out
  have hlk := (hl _ rfl).l2
  clear hl
  go_wp2_with fail
  clear hm hbl hlk
  refine (HC.out w1 h0 h1).mono ?_
  rintro e w2 ⟨rfl, hb⟩
  replace HB := Lib.hid (below_step HB.out hb)
  replace HD := Lib.hid (HD.out.below hb)
  replace BR := Lib.hid (blk_below BR.out hb)
  clear hb
  have l_BR : W.heap.size < w2.heap.size := blk_lt BR.out
  have q_BR_0 : w2.cell? ⟨W.heap.size, 0, none⟩ = some (.int .i64 0) := (blk_cell BR.out 0).trans rfl
  have f_BR_0 : w2.frozen? ⟨W.heap.size, 0, none⟩ = false := blk_frozen BR.out 0
  have q_BR_1 : w2.cell? ⟨W.heap.size, 1, none⟩ = some (.int .i64 0) := (blk_cell BR.out 1).trans rfl
  have f_BR_1 : w2.frozen? ⟨W.heap.size, 1, none⟩ = false := blk_frozen BR.out 1
  have q_BR_2 : w2.cell? ⟨W.heap.size, 2, none⟩ = some (.int .i64 0) := (blk_cell BR.out 2).trans rfl
  have f_BR_2 : w2.frozen? ⟨W.heap.size, 2, none⟩ = false := blk_frozen BR.out 2
  have q_BR_3 : w2.cell? ⟨W.heap.size, 3, none⟩ = some (.int .i64 0) := (blk_cell BR.out 3).trans rfl
  have f_BR_3 : w2.frozen? ⟨W.heap.size, 3, none⟩ = false := blk_frozen BR.out 3
  have q_BR_4 : w2.cell? ⟨W.heap.size, 4, none⟩ = some (.int .i64 0) := (blk_cell BR.out 4).trans rfl
  have f_BR_4 : w2.frozen? ⟨W.heap.size, 4, none⟩ = false := blk_frozen BR.out 4
  have q_BR_5 : w2.cell? ⟨W.heap.size, 5, none⟩ = some (.int .i64 0) := (blk_cell BR.out 5).trans rfl
  have f_BR_5 : w2.frozen? ⟨W.heap.size, 5, none⟩ = false := blk_frozen BR.out 5
  have q_BR_6 : w2.cell? ⟨W.heap.size, 6, none⟩ = some (.bool false) := (blk_cell BR.out 6).trans rfl
  have f_BR_6 : w2.frozen? ⟨W.heap.size, 6, none⟩ = false := blk_frozen BR.out 6
  have q_BR_7 : w2.cell? ⟨W.heap.size, 7, none⟩ = some (.int .i64 0) := (blk_cell BR.out 7).trans rfl
  have f_BR_7 : w2.frozen? ⟨W.heap.size, 7, none⟩ = false := blk_frozen BR.out 7
  have q_BR_8 : w2.cell? ⟨W.heap.size, 8, none⟩ = some (.int .u32 0) := (blk_cell BR.out 8).trans rfl
  have f_BR_8 : w2.frozen? ⟨W.heap.size, 8, none⟩ = false := blk_frozen BR.out 8
  have q_BR_9 : w2.cell? ⟨W.heap.size, 9, none⟩ = some (.int .u32 0) := (blk_cell BR.out 9).trans rfl
  have f_BR_9 : w2.frozen? ⟨W.heap.size, 9, none⟩ = false := blk_frozen BR.out 9
  go_wp2
  clear l_BR q_BR_0 f_BR_0 q_BR_1 f_BR_1 q_BR_2 f_BR_2 q_BR_3 f_BR_3 q_BR_4 f_BR_4 q_BR_5 f_BR_5 q_BR_6 f_BR_6 q_BR_7 f_BR_7 q_BR_8 f_BR_8 q_BR_9 f_BR_9
  refine post_at (fun wf hW => ?_)
  have nBR : wf.heap[W.heap.size]? = some (.cells #[.int .i64 2, .int .i64 0, .int .i64 0, .int .i64 0, .int .i64 0, .int .i64 0, .bool b, .int .i64 d, .int .u32 p, .int .u32 0] 67 (0, 0)) := by rw [hW]; exact blk_alloc (put10 BR.out) _
  have nHB : Below W.heap.size W wf := by rw [hW]; repeat (first | (with_reducible exact HB.out) | (with_reducible refine Below.setCell ?_ (by exact geBR) _) | refine Below.alloc ?_ (by have := HB.out.size; simp; omega) _)
  clear hW
  clear BR
  have BR := Lib.hid nBR
  clear nBR
  clear HB
  have HB := Lib.hid nHB
  clear nHB
  have l_BR : W.heap.size < wf.heap.size := blk_lt BR.out
  have q_BR_0 : wf.cell? ⟨W.heap.size, 0, none⟩ = some (.int .i64 2) := (blk_cell BR.out 0).trans rfl
  have q_BR_1 : wf.cell? ⟨W.heap.size, 1, none⟩ = some (.int .i64 0) := (blk_cell BR.out 1).trans rfl
  have q_BR_2 : wf.cell? ⟨W.heap.size, 2, none⟩ = some (.int .i64 0) := (blk_cell BR.out 2).trans rfl
  have q_BR_3 : wf.cell? ⟨W.heap.size, 3, none⟩ = some (.int .i64 0) := (blk_cell BR.out 3).trans rfl
  have q_BR_4 : wf.cell? ⟨W.heap.size, 4, none⟩ = some (.int .i64 0) := (blk_cell BR.out 4).trans rfl
  have q_BR_5 : wf.cell? ⟨W.heap.size, 5, none⟩ = some (.int .i64 0) := (blk_cell BR.out 5).trans rfl
  have q_BR_6 : wf.cell? ⟨W.heap.size, 6, none⟩ = some (.bool b) := (blk_cell BR.out 6).trans rfl
  have q_BR_7 : wf.cell? ⟨W.heap.size, 7, none⟩ = some (.int .i64 d) := (blk_cell BR.out 7).trans rfl
  have q_BR_8 : wf.cell? ⟨W.heap.size, 8, none⟩ = some (.int .u32 p) := (blk_cell BR.out 8).trans rfl
  have q_BR_9 : wf.cell? ⟨W.heap.size, 9, none⟩ = some (.int .u32 0) := (blk_cell BR.out 9).trans rfl
  refine bodyPost_ret (v := .agg #[.int .i64 2, .int .i64 0, .int .i64 0, .int .i64 0, .int .i64 0, .int .i64 0, .bool b, .int .i64 d, .int .u32 p, .int .u32 0]) (by simp [results, Tryd.results32, go_sem, q_BR_0, q_BR_1, q_BR_2, q_BR_3, q_BR_4, q_BR_5, q_BR_6, q_BR_7, q_BR_8, q_BR_9]) rfl ⟨rfl, HB.out⟩
set_option maxHeartbeats 2000000 in
theorem decode3 (w : Int) (W : World) (h0 : 0 ≤ w) (h1 : w < 18446744073709551616) (hk : kindW w = 3) (hd : Dec W) :
    Calls Tryd.prog 32 #[.int .u64 w] W fun e W' => e = .returned (aggP 3 0 0 0 0 0 false 0 (segW w) (lowW w)) ∧ Below W.heap.size W W' := by
  have HC := Lib.hid (dec4_any w)
  have HD := Lib.hid hd
  clear hd
  have HK : Hid (w / 2 ^ 0 % 2 ^ 2 = 3) := Lib.hid (by unfold kindW at hk; omega)
  clear hk
  unfold aggP at HC ⊢
  generalize segW w = p at HC ⊢
  generalize lowW w = d at HC ⊢
  go_enter Tryd.func32, Tryd.ntmps32
  have HB := Lib.hid (Below.refl W.heap.size W)
  go_wp2_with fail
  refine calls_at (fun wa hW => ?_)
  have hb : Below W.heap.size W wa := by rw [hW]; repeat (first | exact Below.refl _ _ | refine Below.alloc ?_ (by first | exact Nat.le_refl _ | (simp <;> omega)) _ | refine Below.drew ?_)
  have nBR : wa.heap[W.heap.size]? = some (.cells #[.int .i64 0, .int .i64 0, .int .i64 0, .int .i64 0, .int .i64 0, .int .i64 0, .bool false, .int .i64 0, .int .u32 0, .int .u32 0] 67 (0, 0)) := by rw [hW]; repeat (first | exact heap_alloc_new _ _ | exact blk_new _ _ _ (by simp) | refine blk_alloc ?_ _ | refine blk_drew ?_)
  have geBR : W.heap.size ≤ W.heap.size := Nat.le_refl _
  clear hW
  replace HB := Lib.hid (below_step HB.out hb)
  replace HD := Lib.hid (HD.out.below hb)
  clear hb
  have BR := Lib.hid nBR
  clear nBR
  refine (field_any w 0 2 3 _ h0 h1 (by omega) (by omega) (by omega) HK.out).mono ?_
  rintro e w1 ⟨rfl, hb⟩
  replace HB := Lib.hid (below_step HB.out hb)
  replace HD := Lib.hid (HD.out.below hb)
  replace BR := Lib.hid (blk_below BR.out hb)
  clear hb
  obtain ⟨b_, hm, hbl, hl⟩ := HD.out
  have hlk := (hl _ rfl).l3
  clear hl
  go_wp2_with fail
  clear hm hbl hlk
  refine (HC.out w1 h0 h1).mono ?_
  rintro e w2 ⟨rfl, hb⟩
  replace HB := Lib.hid (below_step HB.out hb)
  replace HD := Lib.hid (HD.out.below hb)
  replace BR := Lib.hid (blk_below BR.out hb)
  clear hb
  have l_BR : W.heap.size < w2.heap.size := blk_lt BR.out
  have q_BR_0 : w2.cell? ⟨W.heap.size, 0, none⟩ = some (.int .i64 0) := (blk_cell BR.out 0).trans rfl
  have f_BR_0 : w2.frozen? ⟨W.heap.size, 0, none⟩ = false := blk_frozen BR.out 0
  have q_BR_1 : w2.cell? ⟨W.heap.size, 1, none⟩ = some (.int .i64 0) := (blk_cell BR.out 1).trans rfl
  have f_BR_1 : w2.frozen? ⟨W.heap.size, 1, none⟩ = false := blk_frozen BR.out 1
  have q_BR_2 : w2.cell? ⟨W.heap.size, 2, none⟩ = some (.int .i64 0) := (blk_cell BR.out 2).trans rfl
  have f_BR_2 : w2.frozen? ⟨W.heap.size, 2, none⟩ = false := blk_frozen BR.out 2
  have q_BR_3 : w2.cell? ⟨W.heap.size, 3, none⟩ = some (.int .i64 0) := (blk_cell BR.out 3).trans rfl
  have f_BR_3 : w2.frozen? ⟨W.heap.size, 3, none⟩ = false := blk_frozen BR.out 3
  have q_BR_4 : w2.cell? ⟨W.heap.size, 4, none⟩ = some (.int .i64 0) := (blk_cell BR.out 4).trans rfl
  have f_BR_4 : w2.frozen? ⟨W.heap.size, 4, none⟩ = false := blk_frozen BR.out 4
  have q_BR_5 : w2.cell? ⟨W.heap.size, 5, none⟩ = some (.int .i64 0) := (blk_cell BR.out 5).trans rfl
  have f_BR_5 : w2.frozen? ⟨W.heap.size, 5, none⟩ = false := blk_frozen BR.out 5
  have q_BR_6 : w2.cell? ⟨W.heap.size, 6, none⟩ = some (.bool false) := (blk_cell BR.out 6).trans rfl
  have f_BR_6 : w2.frozen? ⟨W.heap.size, 6, none⟩ = false := blk_frozen BR.out 6
  have q_BR_7 : w2.cell? ⟨W.heap.size, 7, none⟩ = some (.int .i64 0) := (blk_cell BR.out 7).trans rfl
  have f_BR_7 : w2.frozen? ⟨W.heap.size, 7, none⟩ = false := blk_frozen BR.out 7
  have q_BR_8 : w2.cell? ⟨W.heap.size, 8, none⟩ = some (.int .u32 0) := (blk_cell BR.out 8).trans rfl
  have f_BR_8 : w2.frozen? ⟨W.heap.size, 8, none⟩ = false := blk_frozen BR.out 8
  have q_BR_9 : w2.cell? ⟨W.heap.size, 9, none⟩ = some (.int .u32 0) := (blk_cell BR.out 9).trans rfl
  have f_BR_9 : w2.frozen? ⟨W.heap.size, 9, none⟩ = false := blk_frozen BR.out 9
  go_wp2
  clear l_BR q_BR_0 f_BR_0 q_BR_1 f_BR_1 q_BR_2 f_BR_2 q_BR_3 f_BR_3 q_BR_4 f_BR_4 q_BR_5 f_BR_5 q_BR_6 f_BR_6 q_BR_7 f_BR_7 q_BR_8 f_BR_8 q_BR_9 f_BR_9
  refine post_at (fun wf hW => ?_)
  have nBR : wf.heap[W.heap.size]? = some (.cells #[.int .i64 3, .int .i64 0, .int .i64 0, .int .i64 0, .int .i64 0, .int .i64 0, .bool false, .int .i64 0, .int .u32 p, .int .u32 d] 67 (0, 0)) := by rw [hW]; exact blk_alloc (put10 BR.out) _
  have nHB : Below W.heap.size W wf := by rw [hW]; repeat (first | (with_reducible exact HB.out) | (with_reducible refine Below.setCell ?_ (by exact geBR) _) | refine Below.alloc ?_ (by have := HB.out.size; simp; omega) _)
  clear hW
  clear BR
  have BR := Lib.hid nBR
  clear nBR
  clear HB
  have HB := Lib.hid nHB
  clear nHB
  have l_BR : W.heap.size < wf.heap.size := blk_lt BR.out
  have q_BR_0 : wf.cell? ⟨W.heap.size, 0, none⟩ = some (.int .i64 3) := (blk_cell BR.out 0).trans rfl
  have q_BR_1 : wf.cell? ⟨W.heap.size, 1, none⟩ = some (.int .i64 0) := (blk_cell BR.out 1).trans rfl
  have q_BR_2 : wf.cell? ⟨W.heap.size, 2, none⟩ = some (.int .i64 0) := (blk_cell BR.out 2).trans rfl
  have q_BR_3 : wf.cell? ⟨W.heap.size, 3, none⟩ = some (.int .i64 0) := (blk_cell BR.out 3).trans rfl
  have q_BR_4 : wf.cell? ⟨W.heap.size, 4, none⟩ = some (.int .i64 0) := (blk_cell BR.out 4).trans rfl
  have q_BR_5 : wf.cell? ⟨W.heap.size, 5, none⟩ = some (.int .i64 0) := (blk_cell BR.out 5).trans rfl
  have q_BR_6 : wf.cell? ⟨W.heap.size, 6, none⟩ = some (.bool false) := (blk_cell BR.out 6).trans rfl
  have q_BR_7 : wf.cell? ⟨W.heap.size, 7, none⟩ = some (.int .i64 0) := (blk_cell BR.out 7).trans rfl
  have q_BR_8 : wf.cell? ⟨W.heap.size, 8, none⟩ = some (.int .u32 p) := (blk_cell BR.out 8).trans rfl
  have q_BR_9 : wf.cell? ⟨W.heap.size, 9, none⟩ = some (.int .u32 d) := (blk_cell BR.out 9).trans rfl
  refine bodyPost_ret (v := .agg #[.int .i64 3, .int .i64 0, .int .i64 0, .int .i64 0, .int .i64 0, .int .i64 0, .bool false, .int .i64 0, .int .u32 p, .int .u32 d]) (by simp [results, Tryd.results32, go_sem, q_BR_0, q_BR_1, q_BR_2, q_BR_3, q_BR_4, q_BR_5, q_BR_6, q_BR_7, q_BR_8, q_BR_9]) rfl ⟨rfl, HB.out⟩
theorem decode_any (w : Int) (W : World) (h0 : 0 ≤ w) (h1 : w < 18446744073709551616) (hd : Dec W) :
  Calls Tryd.prog 32 #[.int .u64 w] W fun e W' => e = .returned (decV w) ∧ Below W.heap.size W W' := by
 have hb := kindW_bd w
 unfold decV
 split
 ·exact decode0 w W h0 h1 (by assumption) hd
 split
 ·exact decode1 w W h0 h1 (by assumption) hd
 split
 ·exact decode2 w W h0 h1 (by assumption) hd
 ·exact decode3 w W h0 h1 (by omega) hd
end Go.Proofs.YtidglmocekghmaaDoor.Pr
end
section
namespace Go.Proofs.YtidglmocekghmaaDoor.Pr
def wd (s : List Int) (i : Nat) : Int := s.getD i 0
def bitsE (e : Int) : Int := if e = 1 then 1 else if e = 2 then 8 else if e = 3 then 16 else if e = 4 then 32 else if e = 5 then 64 else if e = 6 then 64 else 0
def wordsE (e c : Int) : Int := if e = 7 then c + 1 else (bitsE e * c + 63) / 64
def bytesE (e c : Int) : Int := (bitsE e * c + 7) / 8
def trimE (e c : Int) (xs : List Int) : List Int :=
 if e = 1 ∧ 0 < c % 8 then (xs.take (bytesE e c).toNat).set ((bytesE e c).toNat - 1) (xs.getD ((bytesE e c).toNat - 1) 0 % 2 ^ (c % 8).toNat) else xs.take (bytesE e c).toNat
def bytesW (w : Int) : List Int := [w % 256, w / 256 % 256, w / 65536 % 256, w / 16777216 % 256, w / 4294967296 % 256, w / 1099511627776 % 256, w / 281474976710656 % 256, w / 72057594037927936 % 256]
def bytesL : List Int → List Int
 | [] => []
 | w :: l => bytesW w ++ bytesL l
def objM (s : List Int) (at_ : Nat) (off : Int) (n nx : Nat) : Bool := decide ((at_ : Int) + 1 + off = (nx : Int)) && decide (nx + n ≤ s.length)
def ptrsM (v : Nat → Nat → Nat → Option (Nat × Nat)) : Nat → Nat → Nat → Nat → Option (Nat × Nat)
 | 0, _, nx, m => some (nx, m)
 | n + 1, a, nx, m => match v a nx m with
  | none => none
  | some r => ptrsM v n (a + 1) r.1 r.2
def elemsM (v : Nat → Nat → Nat → Option (Nat × Nat)) (p size : Nat) : Nat → Nat → Nat → Nat → Option (Nat × Nat)
 | 0, _, nx, m => some (nx, m)
 | k + 1, a, nx, m => match ptrsM v p a nx m with
  | none => none
  | some r => elemsM v p size k (a + size) r.1 r.2
def lastM (s : List Int) (start n : Nat) : Bool := decide (n = 0) || decide (wd s (start + n - 1) ≠ 0)
def structM (s : List Int) (v : Nat → Nat → Nat → Option (Nat × Nat)) (at_ : Nat) (w : Int) (nx m : Nat) : Option (Nat × Nat) :=
 let d := (dataW w).toNat
 let p := (ptrsW w).toNat
 if d + p = 0 then if offW w = -1 then some (nx, m) else none
 else if objM s at_ (offW w) (d + p) nx = true then
  if d + p ≤ m then
   if lastM s nx d = true then
    if (decide (p = 0) || decide (wd s (nx + d + p - 1) ≠ 0)) = true then ptrsM v p (nx + d) (nx + (d + p)) (m - (d + p)) else none
   else none
  else none
 else none
def anyM (s : List Int) (size : Nat) : Nat → Nat → Bool
 | 0, _ => false
 | k + 1, a => decide (wd s a ≠ 0) || anyM s size k (a + size)
def compM (s : List Int) (v : Nat → Nat → Nat → Option (Nat × Nat)) (at_ : Nat) (w : Int) (nx m : Nat) : Option (Nat × Nat) :=
 let c := (cntW w).toNat
 let t := wd s nx
 let d := (dataW t).toNat
 let p := (ptrsW t).toNat
 let k := (offW t).toNat
 if objM s at_ (offW w) (c + 1) nx = true then
  if kindW t = 0 ∧ 0 ≤ offW t ∧ offW t * (dataW t + ptrsW t) = cntW w then
   if c + 1 ≤ m then
    if d + p = 0 then if k ≤ m - (c + 1) then some (nx + (c + 1), m - (c + 1) - k) else none
    else if ((decide (d = 0) || anyM s (d + p) k (nx + 1 + d - 1)) && (decide (p = 0) || anyM s (d + p) k (nx + 1 + (d + p) - 1))) = true then elemsM v p (d + p) k (nx + 1 + d) (nx + (c + 1)) (m - (c + 1))
    else none
   else none
  else none
 else none
def restM (s : List Int) (e c : Int) (nx n : Nat) : Bool :=
 let b := bytesL ((s.drop nx).take n)
 decide ((trimE e c b ++ List.replicate b.length 0).take b.length = b)
def listM (s : List Int) (v : Nat → Nat → Nat → Option (Nat × Nat)) (at_ : Nat) (w : Int) (nx m : Nat) : Option (Nat × Nat) :=
 if elemW w = 7 then compM s v at_ w nx m
 else
  let n := (wordsE (elemW w) (cntW w)).toNat
  if objM s at_ (offW w) n nx = true then
   if n ≤ m then
    if elemW w = 6 then ptrsM v n nx (nx + n) (m - n)
    else if restM s (elemW w) (cntW w) nx n = true then some (nx + n, m - n) else none
   else none
  else none
def visM (s : List Int) : Nat → Nat → Nat → Nat → Option (Nat × Nat)
 | 0, a, nx, m => if wd s a = 0 then some (nx, m) else none
 | f + 1, a, nx, m =>
  if wd s a = 0 then some (nx, m)
  else if kindW (wd s a) = 0 then structM s (visM s f) a (wd s a) nx m
  else if kindW (wd s a) = 1 then listM s (visM s f) a (wd s a) nx m
  else none
def wordsM (s : List Int) (D Wd : Int) : Bool :=
 decide (0 < s.length) && match visM s D.toNat 0 1 Wd.toNat with
  | none => false
  | some r => decide (r.1 = s.length)
def InM (s : List Int) (v : Nat → Nat → Nat → Option (Nat × Nat)) : Prop := ∀ a nx m r, v a nx m = some r → nx ≤ s.length → nx ≤ r.1 ∧ r.1 ≤ s.length ∧ r.2 ≤ m
theorem ptrsM_in {s : List Int} {v : Nat → Nat → Nat → Option (Nat × Nat)} (hv : InM s v) : ∀ n, InM s (ptrsM v n)
 | 0 => fun a nx m r h hn => by simp [ptrsM] at h; subst h; exact ⟨Nat.le_refl _, hn, Nat.le_refl _⟩
 | n + 1 => fun a nx m r h hn => by
  rw [ptrsM] at h
  cases h1 : v a nx m with
  | none => rw [h1] at h; cases h
  | some q =>
   rw [h1] at h
   have q1 := hv a nx m q h1 hn
   have q2 := ptrsM_in hv n _ _ _ r h q1.2.1
   omega
theorem elemsM_in {s : List Int} {v : Nat → Nat → Nat → Option (Nat × Nat)} (hv : InM s v) (p size : Nat) : ∀ n, InM s (elemsM v p size n)
 | 0 => fun a nx m r h hn => by simp [elemsM] at h; subst h; exact ⟨Nat.le_refl _, hn, Nat.le_refl _⟩
 | n + 1 => fun a nx m r h hn => by
  rw [elemsM] at h
  cases h1 : ptrsM v p a nx m with
  | none => rw [h1] at h; cases h
  | some q =>
   rw [h1] at h
   have q1 := ptrsM_in hv p a nx m q h1 hn
   have q2 := elemsM_in hv p size n _ _ _ r h q1.2.1
   omega
theorem objM_in {s : List Int} {at_ : Nat} {off : Int} {n nx : Nat} (h : objM s at_ off n nx = true) : (at_ : Int) + 1 + off = (nx : Int) ∧ nx + n ≤ s.length := by
 unfold objM at h
 simpa using h
theorem structM_in {s : List Int} {v : Nat → Nat → Nat → Option (Nat × Nat)} (hv : InM s v) (at_ : Nat) (w : Int) : ∀ nx m r, structM s v at_ w nx m = some r → nx ≤ s.length → nx ≤ r.1 ∧ r.1 ≤ s.length ∧ r.2 ≤ m := by
 intro nx m r h hn
 unfold structM at h
 dsimp only at h
 split at h
 ·split at h
  ·cases h; exact ⟨Nat.le_refl _, hn, Nat.le_refl _⟩
  ·cases h
 ·split at h
  ·rename_i ho
   split at h
   ·split at h
    ·split at h
     ·have := (objM_in ho).2
      have q := ptrsM_in hv _ _ _ _ r h (by omega)
      omega
     ·cases h
    ·cases h
   ·cases h
  ·cases h
theorem compM_in {s : List Int} {v : Nat → Nat → Nat → Option (Nat × Nat)} (hv : InM s v) (at_ : Nat) (w : Int) : ∀ nx m r, compM s v at_ w nx m = some r → nx ≤ s.length → nx ≤ r.1 ∧ r.1 ≤ s.length ∧ r.2 ≤ m := by
 intro nx m r h hn
 unfold compM at h
 dsimp only at h
 split at h
 ·rename_i ho
  have := (objM_in ho).2
  split at h
  ·split at h
   ·split at h
    ·split at h
     ·cases h; dsimp only; omega
     ·cases h
    ·split at h
     ·have q := elemsM_in hv _ _ _ _ _ _ r h (by omega)
      omega
     ·cases h
   ·cases h
  ·cases h
 ·cases h
theorem listM_in {s : List Int} {v : Nat → Nat → Nat → Option (Nat × Nat)} (hv : InM s v) (at_ : Nat) (w : Int) : ∀ nx m r, listM s v at_ w nx m = some r → nx ≤ s.length → nx ≤ r.1 ∧ r.1 ≤ s.length ∧ r.2 ≤ m := by
 intro nx m r h hn
 unfold listM at h
 split at h
 ·exact compM_in hv at_ w nx m r h hn
 ·dsimp only at h
  split at h
  ·rename_i ho
   have := (objM_in ho).2
   split at h
   ·split at h
    ·have q := ptrsM_in hv _ _ _ _ r h (by omega)
     omega
    ·split at h
     ·cases h; dsimp only; omega
     ·cases h
   ·cases h
  ·cases h
theorem visM_in (s : List Int) : ∀ f, InM s (visM s f)
 | 0 => fun a nx m r h hn => by
  unfold visM at h
  split at h
  ·cases h; exact ⟨Nat.le_refl _, hn, Nat.le_refl _⟩
  ·cases h
 | f + 1 => fun a nx m r h hn => by
  unfold visM at h
  split at h
  ·cases h; exact ⟨Nat.le_refl _, hn, Nat.le_refl _⟩
  ·split at h
   ·exact structM_in (visM_in s f) _ _ _ _ _ h hn
   ·split at h
    ·exact listM_in (visM_in s f) _ _ _ _ _ h hn
    ·cases h
end Go.Proofs.YtidglmocekghmaaDoor.Pr
end
section
namespace Go.Proofs.YtidglmocekghmaaDoor.Ls
open Go.RowKit
theorem below_step {B : Nat} {w W W' : World} (h : Below B w W) (hB : B ≤ W.heap.size) (k : Below W.heap.size W W') : Below B w W' :=
 h.trans (k.mono hB)
end Go.Proofs.YtidglmocekghmaaDoor.Ls
end
section
set_option linter.unusedVariables false
set_option linter.unusedSimpArgs false
namespace Go.Proofs.YtidglmocekghmaaDoor.Ls
open Go.RowKit
def Rd (w : World) (A : Option Addr) (n : Nat) (xs : List Int) : Prop :=
 xs.length = n ∧ (n = 0 ∨ ∃ b off, A = some ⟨b, off, none⟩ ∧ b < w.heap.size ∧ ∀ j, j < n → w.cell? ⟨b, off + j, none⟩ = some (.int .u8 (xs.getD j 0))) ∧ ∀ j, 0 ≤ xs.getD j 0 ∧ xs.getD j 0 ≤ 255
theorem Rd.below {w w1 : World} {A : Option Addr} {n : Nat} {xs : List Int} (h : Rd w A n xs) (hb : Below w.heap.size w w1) : Rd w1 A n xs := by
 obtain ⟨h1, h2, h3⟩ := h
 refine ⟨h1, ?_, h3⟩
 rcases h2 with h2 | ⟨b, off, rfl, hlt, hc⟩
 ·exact .inl h2
 ·exact .inr ⟨b, off, rfl, Nat.lt_of_lt_of_le hlt hb.size, fun j hj => (hb.cell (p := ⟨b, off + j, none⟩) hlt).trans (hc j hj)⟩
theorem Rd.keep {w W w1 : World} {A : Option Addr} {n : Nat} {xs : List Int} (h : Rd w A n xs) (hb : Below w.heap.size w w1) : Rd w1 A n xs := h.below hb
theorem Rd.take {w : World} {A : Option Addr} {n : Nat} {xs : List Int} (h : Rd w A n xs) (m : Nat) (hm : m ≤ n) : Rd w A m (xs.take m) := by
 obtain ⟨h1, h2, h3⟩ := h
 have e : ∀ j, j < m → (xs.take m).getD j 0 = xs.getD j 0 := fun j hj => by simp [List.getElem?_take, hj]
 refine ⟨by simp; omega, ?_, fun j => ?_⟩
 ·rcases h2 with h2 | ⟨b, off, rfl, hlt, hc⟩
  ·exact .inl (by omega)
  ·exact .inr ⟨b, off, rfl, hlt, fun j hj => by rw [e j hj]; exact hc j (by omega)⟩
 ·by_cases hj : j < m
  ·rw [e j hj]; exact h3 j
  ·have : (xs.take m).getD j 0 = 0 := by simp [List.getElem?_take, hj]
   omega
def nums (k : IntKind) (xs : List Int) : List Value := xs.map fun x => .int k x
theorem nums_oneCell (k : IntKind) (xs : List Int) : ∀ u ∈ nums k xs, u.oneCell' = true := by
 intro u hu
 obtain ⟨x, _, rfl⟩ := List.mem_map.1 hu
 rfl
theorem own_rd {w : World} {base n : Nat} {e : TypeId} {v : Value} {xs : List Int} (h : w.ownsRow base e 1 v n (nums .u8 xs)) (hx : ∀ j, 0 ≤ xs.getD j 0 ∧ xs.getD j 0 ≤ 255) : ∃ A c, v = .slice A n c ∧ Rd w A n xs := by
 have hl : xs.length = n := by have := h.1; simpa [nums] using this
 rcases h.2 with ⟨rfl, rfl⟩ | ⟨g, cap, cur, rfl, _, hh, _, _, _, _⟩
 ·exact ⟨none, 0, rfl, hl, .inl rfl, hx⟩
 ·refine ⟨_, cap, rfl, hl, .inr ⟨g, 0, rfl, (Array.getElem?_eq_some_iff.1 hh).1, fun j hj => ?_⟩, hx⟩
  have hc := h.cells (g := g) rfl j (.int .u8 (xs.getD j 0)) (by simp [nums, List.getElem?_eq_getElem (show j < xs.length by omega), List.getD_eq_getElem?_getD])
  simpa [Addr.add_lit] using hc
theorem Rd.news {w : World} {b off n : Nat} {xs : List Int} (hl : xs.length = n) (hc : ∀ j, j < n → w.cell? ⟨b, off + j, none⟩ = some (.int .u8 (xs.getD j 0))) : ∀ j u, (nums .u8 xs)[j]? = some u → w.cell? ((⟨b, off, none⟩ : Addr).add j) = some u := by
 intro j u hj
 have hlt : j < xs.length := by
  have := (List.getElem?_eq_some_iff.1 hj).1
  simpa [nums] using this
 rw [Addr.add_lit, hc j (by omega)]
 have e : (nums .u8 xs)[j]? = some (.int .u8 (xs.getD j 0)) := by simp [nums, List.getElem?_eq_getElem hlt, List.getD_eq_getElem?_getD]
 rw [e] at hj
 exact hj
theorem own_base {w : World} {base : Nat} {e : TypeId} {size n : Nat} {v : Value} {xs : List Value} (h : w.ownsRow base e size v n xs) (k : Nat) (hk : v.ownBlock = some k) : base ≤ k := by
 rcases h.2 with ⟨rfl, _⟩ | ⟨g, cap, cur, rfl, hb, _⟩
 ·simp [Value.ownBlock] at hk
 ·have : g = k := by simpa [Value.ownBlock] using hk
  omega
end Go.Proofs.YtidglmocekghmaaDoor.Ls
end
section
set_option linter.unusedVariables false
set_option linter.unusedSimpArgs false
namespace Go.Proofs.YtidglmocekghmaaDoor.Ls
open Go.RowKit
def bitsOf (e : Int) : Int := if e = 1 then 1 else if e = 2 then 8 else if e = 3 then 16 else if e = 4 then 32 else if e = 5 then 64 else if e = 6 then 64 else 0
structure Tab (w : World) : Prop where
 c0 : w.cell? ⟨1, 0, none⟩ = some (.int .i64 0)
 c1 : w.cell? ⟨1, 1, none⟩ = some (.int .i64 1)
 c2 : w.cell? ⟨1, 2, none⟩ = some (.int .i64 8)
 c3 : w.cell? ⟨1, 3, none⟩ = some (.int .i64 16)
 c4 : w.cell? ⟨1, 4, none⟩ = some (.int .i64 32)
 c5 : w.cell? ⟨1, 5, none⟩ = some (.int .i64 64)
 c6 : w.cell? ⟨1, 6, none⟩ = some (.int .i64 64)
 c7 : w.cell? ⟨1, 7, none⟩ = some (.int .i64 0)
theorem Tab.pos {w : World} (h : Tab w) : 1 < w.heap.size := World.block_lt_of_cell? w _ h.c0
theorem Tab.below {w w1 : World} (h : Tab w) (hb : Below w.heap.size w w1) : Tab w1 :=
 ⟨(hb.cell (p := ⟨1, 0, none⟩) h.pos).trans h.c0, (hb.cell (p := ⟨1, 1, none⟩) h.pos).trans h.c1, (hb.cell (p := ⟨1, 2, none⟩) h.pos).trans h.c2, (hb.cell (p := ⟨1, 3, none⟩) h.pos).trans h.c3,
  (hb.cell (p := ⟨1, 4, none⟩) h.pos).trans h.c4, (hb.cell (p := ⟨1, 5, none⟩) h.pos).trans h.c5, (hb.cell (p := ⟨1, 6, none⟩) h.pos).trans h.c6, (hb.cell (p := ⟨1, 7, none⟩) h.pos).trans h.c7⟩
theorem cases8 {e : Int} (h0 : 0 ≤ e) (h7 : e ≤ 7) : e = 0 ∨ e = 1 ∨ e = 2 ∨ e = 3 ∨ e = 4 ∨ e = 5 ∨ e = 6 ∨ e = 7 := by omega
end Go.Proofs.YtidglmocekghmaaDoor.Ls
end
section
set_option linter.unusedVariables false
set_option linter.unusedSimpArgs false
namespace Go.Proofs.YtidglmocekghmaaDoor.Ls
open Go.RowKit
theorem up8 (n : Int) (h0 : 0 ≤ n) (h1 : n ≤ 1152921504606846976) (w : World) : Calls Tryd.prog 77 #[.int .i64 n, .int .i64 8] w fun e' w' => e' = .returned (.int .i64 ((n + 7) / 8)) ∧ w = w' := by
 have e1 : n + 8 - 1 = n + 7 := by omega
 go_enter Tryd.func77, Tryd.ntmps77
 go_wp2
 go_ret
 exact ⟨by simp [e1], rfl⟩
theorem up64 (n : Int) (h0 : 0 ≤ n) (h1 : n ≤ 1152921504606846976) (w : World) : Calls Tryd.prog 77 #[.int .i64 n, .int .i64 64] w fun e' w' => e' = .returned (.int .i64 ((n + 63) / 64)) ∧ w = w' := by
 have e1 : n + 64 - 1 = n + 63 := by omega
 go_enter Tryd.func77, Tryd.ntmps77
 go_wp2
 go_ret
 exact ⟨by simp [e1], rfl⟩
def wordsOf (e c : Int) : Int := if e = 7 then c + 1 else (bitsOf e * c + 63) / 64
def bytesOf (e c : Int) : Int := (bitsOf e * c + 7) / 8
theorem words_any (e c : Int) (h0 : 0 ≤ e) (h7 : e ≤ 7) (hc0 : 0 ≤ c) (hc1 : c ≤ 4294967296) (w : World) (ht : Tab w) : Calls Tryd.prog 60 #[.int .i64 e, .int .i64 c] w fun e' w' => e' = .returned (.int .i64 (wordsOf e c)) ∧ w = w' := by
 obtain ⟨c0, c1, c2, c3, c4, c5, c6, c7⟩ := ht
 rcases cases8 h0 h7 with rfl | rfl | rfl | rfl | rfl | rfl | rfl | rfl
 all_goals
  go_enter Tryd.func60, Tryd.ntmps60
  go_wp2_with (go_at_call 77; refine (up64 _ (by omega) (by omega) _).mono ?_; rintro e w' ⟨rfl, rfl⟩)
  go_ret
  exact ⟨by simp [wordsOf, bitsOf], rfl⟩
theorem bytes_any (e c : Int) (h0 : 0 ≤ e) (h7 : e ≤ 7) (hc0 : 0 ≤ c) (hc1 : c ≤ 4294967296) (w : World) (ht : Tab w) : Calls Tryd.prog 79 #[.int .i64 e, .int .i64 c] w fun e' w' => e' = .returned (.int .i64 (bytesOf e c)) ∧ w = w' := by
 obtain ⟨c0, c1, c2, c3, c4, c5, c6, c7⟩ := ht
 rcases cases8 h0 h7 with rfl | rfl | rfl | rfl | rfl | rfl | rfl | rfl
 all_goals
  go_enter Tryd.func79, Tryd.ntmps79
  go_wp2_with (go_at_call 77; refine (up8 _ (by omega) (by omega) _).mono ?_; rintro e w' ⟨rfl, rfl⟩)
  go_ret
  exact ⟨by simp [bytesOf, bitsOf], rfl⟩
def right (e c : Int) : Bool := decide (0 ≤ e) && (decide (e ≤ 7) && (decide (0 ≤ c) && decide (c ≤ 536870911)))
end Go.Proofs.YtidglmocekghmaaDoor.Ls
end
section
namespace Go.Proofs.YtidglmocekghmaaDoor.Pr
open Go.RowKit Go.Proofs.YtidglmocekghmaaDoorW.PrintWords Go.Proofs.YtidglmocekghmaaDoorW.PrintLast Go.Proofs.YtidglmocekghmaaDoorW.PrintMore
set_option linter.unusedVariables false
set_option linter.unusedSimpArgs false
structure Env (W0 : World) (s : List Int) (A : Option Addr) : Prop where
 dat : Kd.C (Kd.int .u64) W0 A s.length s
 tab : Ls.Tab W0
 dec : Dec W0
 ok : ∀ x ∈ s, 0 ≤ x ∧ x < 18446744073709551616
 len : s.length ≤ 17592186040320
structure Ck (W0 : World) (s : List Int) (A : Option Addr) (cp : Nat) (D Wd O : Int) (g nx m : Nat) (w : World) : Prop where
 below : Below W0.heap.size W0 w
 ge : W0.heap.size ≤ g
 blk : w.heap[g]? = some (.cells #[.slice A s.length cp, .int .i64 nx, .int .i64 D, .int .i64 Wd, .int .i64 O, .int .i64 m] 55 (0, 0))
def Gr (g : Nat) (w w' : World) : Prop := w.grownBy w' (some g)
theorem Gr.refl (g : Nat) (w : World) : Gr g w w := ⟨rfl, rfl, rfl, Nat.le_refl _, fun _ _ _ => rfl⟩
theorem Gr.trans {g : Nat} {a b c : World} (h : Gr g a b) (k : Gr g b c) : Gr g a c := ⟨k.os.trans h.os, k.tape.trans h.tape, k.output.trans h.output, Nat.le_trans h.size k.size, fun i hi hr => (k.block i (Nat.lt_of_lt_of_le hi h.size) hr).trans (h.block i hi hr)⟩
theorem Gr.of {g : Nat} {a b : World} (h : Below a.heap.size a b) : Gr g a b := ⟨h.os, h.tape, h.output, h.size, fun i hi _ => h.block i hi⟩
theorem Gr.then {g : Nat} {a b c : World} (h : Gr g a b) (k : Below b.heap.size b c) : Gr g a c := h.trans (Gr.of k)
theorem Gr.set {g : Nat} {a b : World} (h : Gr g a b) (i : Nat) (u : Value) : Gr g a (b.setCell ⟨g, i, none⟩ u) :=
 ⟨h.os, h.tape, h.output, by simpa [World.setCell] using h.size, fun k hk hr => (Below.heap_setCell b ⟨g, i, none⟩ u k (fun e => hr (by subst e; rfl))).trans (h.block k hk hr)⟩
theorem Gr.alloc {g : Nat} {a b : World} (h : Gr g a b) (o : Obj) : Gr g a (b.alloc o) := h.then ((Below.refl _ _).alloc (Nat.le_refl _) _)
theorem Gr.blk {g k : Nat} {a b : World} {o : Obj} (h : Gr g a b) (hk : a.heap[k]? = some o) (hne : k ≠ g) : b.heap[k]? = some o := (h.block k (blk_lt hk) (fun e => hne (by injection e))).trans hk
section
variable {W0 w w' : World} {s : List Int} {A : Option Addr} {cp g nx m nx' m' : Nat} {D Wd O : Int}
theorem Ck.then (h : Ck W0 s A cp D Wd O g nx m w) (hb : Below w.heap.size w w') : Ck W0 s A cp D Wd O g nx m w' := ⟨below_step h.below hb, h.ge, blk_below h.blk hb⟩
theorem Ck.next (h : Ck W0 s A cp D Wd O g nx m w) {i : Int} (hi : i = (nx' : Int)) : Ck W0 s A cp D Wd O g nx' m (w.setCell ⟨g, 1, none⟩ (.int .i64 i)) := by
 subst hi
 exact ⟨h.below.setCell (p := ⟨g, 1, none⟩) h.ge _, h.ge, blk_put h.blk 1 _ (by simp)⟩
theorem Ck.meter (h : Ck W0 s A cp D Wd O g nx m w) {i : Int} (hi : i = (m' : Int)) : Ck W0 s A cp D Wd O g nx m' (w.setCell ⟨g, 5, none⟩ (.int .i64 i)) := by
 subst hi
 exact ⟨h.below.setCell (p := ⟨g, 5, none⟩) h.ge _, h.ge, blk_put h.blk 5 _ (by simp)⟩
theorem Env.cell (he : Env W0 s A) (h : Below W0.heap.size W0 w) {i : Nat} (hi : i < s.length) : ∃ ad, A = some ad ∧ w.cell? (ad.add i) = some (.int .u64 (wd s i)) := by
 have hC := Kd.C_below he.dat h
 obtain ⟨_, _, h3⟩ := hC
 obtain ⟨ad, rfl, hc⟩ := h3 (by omega)
 obtain ⟨cs, _, hK, hcell⟩ := hc i _ (List.getElem?_eq_getElem hi)
 refine ⟨ad, rfl, ?_⟩
 obtain rfl : cs = [.int .u64 s[i]] := hK
 have := hcell 0 _ rfl
 have e : wd s i = s[i] := by unfold wd; simp [List.getD_eq_getElem?_getD, List.getElem?_eq_getElem hi]
 rw [e]
 simpa [show (Kd.int IntKind.u64).sz = 1 from rfl] using this
theorem Env.word (he : Env W0 s A) (i : Nat) : 0 ≤ wd s i ∧ wd s i < 18446744073709551616 := by
 unfold wd
 by_cases hi : i < s.length
 ·simp only [List.getD_eq_getElem?_getD, List.getElem?_eq_getElem hi, Option.getD_some]
  exact he.ok _ (List.getElem_mem hi)
 ·simp only [List.getD_eq_getElem?_getD, List.getElem?_eq_none (by omega : s.length ≤ i), Option.getD_none]; omega
def EndM (W0 : World) (s : List Int) (A : Option Addr) (cp : Nat) (D Wd O : Int) (g : Nat) (w : World) (r : Option (Nat × Nat)) (e : Ending) (w' : World) : Prop :=
 (∃ q, r = some q ∧ e = .returned (.tuple #[]) ∧ Gr g w w' ∧ Ck W0 s A cp D Wd O g q.1 q.2 w') ∨ (r = none ∧ e = .panicked [{ v := .iface 47 (.agg #[]), recovered := false }] ∧ Gr g w w')
end
set_option maxHeartbeats 2000000 in
theorem charge_ok {W0 w : World} {s : List Int} {A : Option Addr} {cp g nx m : Nat} {D Wd O : Int} (hE : Env W0 s A) (hK : Ck W0 s A cp D Wd O g nx m w) {c : Nat} (hc : c ≤ m) (hm : m ≤ 4611686018427387904) (hc1 : c ≤ 4611686018427387904) :
  Calls Tryd.prog 57 #[.pointer (some ⟨g, 0, none⟩), .int .i64 c] w fun e w' => EndM W0 s A cp D Wd O g w (some (nx, m - c)) e w' := by
 have GK := Lib.hid (Gr.refl g w)
 have CK := Lib.hid hK
 have HE := Lib.hid hE
 clear hE hK
 go_enter Tryd.func57, Tryd.ntmps57
 have l_K : g < w.heap.size := blk_lt CK.out.blk
 have q_K_0 : w.cell? ⟨g, 0, none⟩ = some (.slice A s.length cp) := (blk_cell CK.out.blk 0).trans rfl
 have q_K_1 : w.cell? ⟨g, 1, none⟩ = some (.int .i64 nx) := (blk_cell CK.out.blk 1).trans rfl
 have q_K_2 : w.cell? ⟨g, 2, none⟩ = some (.int .i64 D) := (blk_cell CK.out.blk 2).trans rfl
 have q_K_3 : w.cell? ⟨g, 3, none⟩ = some (.int .i64 Wd) := (blk_cell CK.out.blk 3).trans rfl
 have q_K_4 : w.cell? ⟨g, 4, none⟩ = some (.int .i64 O) := (blk_cell CK.out.blk 4).trans rfl
 have q_K_5 : w.cell? ⟨g, 5, none⟩ = some (.int .i64 m) := (blk_cell CK.out.blk 5).trans rfl
 go_wp2_with fail
 clear l_K q_K_0 q_K_1 q_K_2 q_K_3 q_K_4 q_K_5
 refine (charge_yes (m : Int) (c : Int) w (by omega) (by omega) (by omega) (by omega)).mono ?_
 rintro e w1 ⟨rfl, hb⟩
 replace GK := Lib.hid (GK.out.then hb)
 replace CK := Lib.hid (CK.out.then hb)
 clear hb
 have l_K : g < w1.heap.size := blk_lt CK.out.blk
 have q_K_0 : w1.cell? ⟨g, 0, none⟩ = some (.slice A s.length cp) := (blk_cell CK.out.blk 0).trans rfl
 have q_K_1 : w1.cell? ⟨g, 1, none⟩ = some (.int .i64 nx) := (blk_cell CK.out.blk 1).trans rfl
 have q_K_2 : w1.cell? ⟨g, 2, none⟩ = some (.int .i64 D) := (blk_cell CK.out.blk 2).trans rfl
 have q_K_3 : w1.cell? ⟨g, 3, none⟩ = some (.int .i64 Wd) := (blk_cell CK.out.blk 3).trans rfl
 have q_K_4 : w1.cell? ⟨g, 4, none⟩ = some (.int .i64 O) := (blk_cell CK.out.blk 4).trans rfl
 have q_K_5 : w1.cell? ⟨g, 5, none⟩ = some (.int .i64 m) := (blk_cell CK.out.blk 5).trans rfl
 have f_K_5 : w1.frozen? ⟨g, 5, none⟩ = false := blk_frozen CK.out.blk 5
 go_wp2_with fail
 clear l_K q_K_0 q_K_1 q_K_2 q_K_3 q_K_4 q_K_5 f_K_5
 refine calls_at (fun wz hW => ?_)
 have nCK : Ck W0 s A cp D Wd O g nx (m - c) wz := by rw [hW]; exact CK.out.meter (by omega)
 have nGK : Gr g w wz := by rw [hW]; exact GK.out.set _ _
 clear hW CK GK
 have CK := Lib.hid nCK
 have GK := Lib.hid nGK
 clear nCK nGK
 refine (must_yes wz).mono ?_
 rintro e wy ⟨rfl, rfl⟩
 go_wp2
 go_end0
 exact .inl ⟨_, rfl, rfl, GK.out, CK.out⟩
end Go.Proofs.YtidglmocekghmaaDoor.Pr
end

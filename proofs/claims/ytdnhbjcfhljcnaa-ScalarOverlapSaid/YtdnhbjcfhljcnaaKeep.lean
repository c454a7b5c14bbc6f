/- Regions that draw their order and whose callees only lay new blocks: one walk of the text's order serves every order; what follows is asked in every world that keeps what lay before. No condition. -/
import Derived.WalkKit
import Derived.Deep.QuietTactic
import Derived.Below
namespace Go.Proofs.Ytdnhbjcfhljcnaa
open Go.RowKit

/-- What a world that keeps W shows of W's cells. -/
theorem bcell {W w1 : World} (hb : Below W.heap.size W w1) : (∀ b o, b < W.heap.size → w1.cell? ⟨b, o, none⟩ = W.cell? ⟨b, o, none⟩) ∧ (∀ b o, b < W.heap.size → w1.frozen? ⟨b, o, none⟩ = W.frozen? ⟨b, o, none⟩) :=
  ⟨fun b o h => hb.cell (p := ⟨b, o, none⟩) h, fun b o h => hb.frozen (p := ⟨b, o, none⟩) h⟩

theorem below_step {B : Nat} {w W W' : World} (h : Below B w W) (hB : B ≤ W.heap.size) (k : Below W.heap.size W W') : Below B w W' :=
  h.trans (k.mono hB)

/-- The region's walk, in the class of the worlds that keep w. -/
theorem wp_region_kept {P : Program} {id : Nat} {Q : Exit → Act → World → Prop} {a : Act} {w : World} {l : List Oper} (hm : P.follows .mixedOrders = true) (hB : Region.lexB .any l.toArray = true)
    (h : ∀ C : World → Prop, (∀ w', C w' → Below w.heap.size w w') → (∀ w', Below w.heap.size w w' → C w') → wpQuiet P l.toArray C (fun a' => ∀ w', C w' → Q .normal a' w') l a) : (Code.region id l.toArray true).wp P Q a w :=
  wp_region_quiet (C := fun w' => Below w.heap.size w w') hm hB (Below.refl _ w).drew (by simpa using h _ (fun _ h => h) (fun _ h => h))

/-- One operation of it that is carried out. -/
theorem quiet_do {P : Program} {ops : Array Oper} {C : World → Prop} {o : Oper} {rest : List Oper} {a : Act} {Q : Act → Prop} {v : Value} (hw : Region.wanted o (yielded ops a.tmps) = true) (h : ∀ w, C w → o.quietAt P a C w v)
    (hn : wpQuiet P ops C Q rest (a.put o.dst v)) : wpQuiet P ops C Q (o :: rest) a :=
  wpQuiet_step fun K hK => by rw [if_pos hw]; exact ⟨v, h, hK _ hn⟩
/-- One that its guard passes over. -/
theorem quiet_not {P : Program} {ops : Array Oper} {C : World → Prop} {o : Oper} {rest : List Oper} {a : Act} {Q : Act → Prop} (hw : Region.wanted o (yielded ops a.tmps) = false)
    (hn : wpQuiet P ops C Q rest (a.put o.dst undef)) : wpQuiet P ops C Q (o :: rest) a :=
  wpQuiet_step fun K hK => by rw [if_neg (by rw [hw]; decide)]; exact hK _ hn

/-- A callee's contract, met in a world that keeps w. -/
theorem calls_kept {P : Program} {f : FuncId} {args : Array Value} {w W : World} {v : Value} {C : World → Prop} (h1 : Below w.heap.size w W) (h2 : ∀ w', Below w.heap.size w w' → C w')
    (h : Calls P f args W fun e w' => e = .returned v ∧ Below W.heap.size W w') : Calls P f args W fun e w'' => e = .returned v ∧ C w'' :=
  h.mono fun _ _ ⟨he, hb⟩ => ⟨he, h2 _ (below_step h1 h1.size hb)⟩
end Go.Proofs.Ytdnhbjcfhljcnaa

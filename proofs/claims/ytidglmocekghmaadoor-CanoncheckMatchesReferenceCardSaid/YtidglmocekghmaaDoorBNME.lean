/- For every list of words and all limits the checker answers as the reference: the law answers true and leaves its arguments as they were. The listed variables: the table of decoders, the elements' sizes. -/
import Derived.Test.YtidglmocekghmaaDoorBNMD
import Derived.Below
import Derived.Deep.Draws
import Derived.Deep.AppendLies
import Derived.Maps.AppendAt
import Derived.OwnWalk
import Derived.Laws.BytesArg
import Derived.Laws.MakeOwn
import Derived.Laws.OwnMore
import Derived.Deep.OwnRows
import Derived.Tactics
import Derived.Lib.ConvBytes
import Derived.Laws.Slices
import Derived.WalkKit
import Derived.KernelRfl
import Derived.RowKit3
import Derived.Deep.LoopGhost
import Derived.Deep.QuietTactic
import Derived.BigQuiet
import Derived.WideLaws
import Derived.Deep.DeepCutAuto
import Derived.Deep.CutBlock
import Derived.Deep.RegionHeld3
import Derived.Laws.Rows
import Derived.Lib.AppendStr
import Derived.ArgAppend
import Derived.Laws.IdiomCopy
import Derived.RowKit
import Derived.OrdersHeld
import Derived.Laws.BitsLemmas
import Derived.Laws.StructEq
import Derived.SizedLaws
import Derived.ChangeSlices
import Derived.Test.YtidglmocekghmaaDoorProg
import Derived.Lib.Hide
import Derived.WalkLawsBesides
import Derived.WalkSpells
import Derived.Outline
import Derived.IntWalk
import Derived.Laws.AppendOwn
import Derived.RangeFuncBox
import Derived.Lib.JoinLaws
import Derived.Defers
import Derived.Recover
import Derived.Laws.Pointers
import Derived.Test.YtidglmocekghmaaDoorCards
import Derived.ProofKit
import Derived.LaidMore
import Derived.LaidHandle
import Derived.Maps.Keyed
import Derived.WideKeyElems2
import Derived.Lib.LaidTab
import Derived.OpenShut
import Derived.Lib.SmallJoins
import Derived.Test.YtidglmocekghmaaDoorTie
import Derived.ShutString
import Derived.ChangeOld
import Derived.JoinedCond
import Derived.Deep.DeepHandedRow
section
namespace Go.Proofs.YtidglmocekghmaaDoor.Pr
open Go.RowKit Go.Proofs.YtidglmocekghmaaDoorW.PrintWords Go.Proofs.YtidglmocekghmaaDoorW.PrintLast Go.Proofs.YtidglmocekghmaaDoorW.PrintMore
set_option linter.unusedVariables false
set_option linter.unusedSimpArgs false
theorem few_any (A : Option Addr) (cp : Nat) (G : List (List Int)) (w : World) (hr : RdG w A G) (hg : G.length ≤ 4611686018427387904) (hl : ∀ x ∈ G, x.length ≤ 9223372036854775807) : Calls Tryd.prog 17 #[.slice A G.length cp] w fun e w' => e = .returned (.bool (fewG G)) ∧ w' = w := by
  have HL := Lib.hid (show ∀ i : Nat, i < G.length → (sgG G i).length ≤ 9223372036854775807 from fun i hi => hl _ (by
    unfold sgG
    rw [Int.toNat_natCast, List.getD_eq_getElem?_getD, List.getElem?_eq_getElem hi]
    exact List.getElem_mem hi))
  have HR := Lib.hid hr
  have HF := Lib.hid (fewG.eq_1 G)
  generalize fewG G = r at *
  clear hr hl
  go_enter Tryd.func17, Tryd.ntmps17
  go_wp2
  go_loop [3] (fun v => ∃ i : Nat, i ≤ G.length ∧ v = .int .i64 i ∧ Hid (∀ j : Nat, j < i → (sgG G j).length ≤ 300)) (fun v => G.length - (intOf v).toNat)
  case atStart => exact ⟨0, Nat.zero_le _, rfl, Lib.hid (fun j hj => by omega)⟩
  case round =>
    obtain ⟨i, hi, rfl, HI⟩ := hrel
    by_cases hlt : i < G.length
    · obtain ⟨ad, A0, c0, rfl, hc, _⟩ := at_G HR.out i hlt
      have hln := HL.out i hlt
      by_cases h3 : (sgG G i).length ≤ 300
      · have HI2 : Hid (∀ j : Nat, j < i + 1 → (sgG G j).length ≤ 300) := Lib.hid (fun j hj => by
          by_cases hji : j = i
          · subst hji; exact h3
          · exact HI.out j (by omega))
        generalize (sgG G i).length = n at *
        have h4 : decide ((n : Int) > 300) = false := decide_eq_false (by omega)
        clear HI
        go_wp2
        go_round
        case rel => exact ⟨i + 1, by omega, by go_num, HI2⟩
        case measure => simp [intOf]; omega
      · have HF2 : Hid (r = false) := Lib.hid (by
          rw [HF.out, decide_eq_false (fun h => h3 (h i hlt))]
          rfl)
        generalize (sgG G i).length = n at *
        have h4 : decide ((n : Int) > 300) = true := decide_eq_true (by omega)
        clear HI HF
        go_wp2
        go_ret
        exact ⟨by rw [HF2.out]; rfl, rfl⟩
    · obtain rfl : i = G.length := by omega
      have HF2 : Hid (r = decide ((G.length : Int) ≤ 20)) := Lib.hid (by
        rw [HF.out, decide_eq_true (p := ∀ i, i < G.length → (sgG G i).length ≤ 300) HI.out, Bool.true_and]
        congr 1
        simp only [eq_iff_iff]
        omega)
      clear HF HI
      go_wp2
      go_ret
      exact ⟨by rw [HF2.out]; rfl, rfl⟩
def smallG (G : List (List Int)) (D Wd : Int) : Bool := decide (D ≤ 40) && decide (Wd ≤ 2000) && fewG G
theorem small_any (A : Option Addr) (cp : Nat) (G : List (List Int)) (D Wd O : Int) (w : World) (hr : RdG w A G) (hg : G.length ≤ 4611686018427387904) (hl : ∀ x ∈ G, x.length ≤ 9223372036854775807) : Calls Tryd.prog 9 #[.slice A G.length cp, limV D Wd O] w fun e w' => e = .returned (.bool (smallG G D Wd)) ∧ Below w.heap.size w w' := by
  have HF := fun w' (hb : Below w.heap.size w w') => Lib.hid (few_any A cp G w' (Kd.C_below hr hb) hg hl)
  have HR := Lib.hid (smallG.eq_1 G D Wd)
  have S := Sep.start w
  generalize smallG G D Wd = r at *
  generalize fewG G = q at *
  clear hr hg hl
  by_cases h1 : D ≤ 40
  · by_cases h2 : Wd ≤ 2000
    · have HR : Hid (r = q) := Lib.hid (by rw [HR.out, decide_eq_true h1, decide_eq_true h2]; simp)
      go_enter Tryd.func9, Tryd.ntmps9
      go_wp2_with (first | go_skip | ((with_reducible refine wl ?_); first | refine sn S (fun g w1 S => ?_) | refine ss S (fun w1 S => ?_) | refine sl S ?_ | refine sa S ?_) | ((with_reducible refine (HF _ S.below).out.mono ?_); rintro r' w' ⟨rfl, rfl⟩))
      exact rt S ⟨by rw [HR.out], S.below⟩
    · have HR : Hid (r = false) := Lib.hid (by rw [HR.out, decide_eq_false h2]; simp)
      have t2 : decide (Wd ≤ 2000) = false := decide_eq_false h2
      clear h2
      go_enter Tryd.func9, Tryd.ntmps9
      go_wp2_with (first | go_skip | ((with_reducible refine wl ?_); first | refine sn S (fun g w1 S => ?_) | refine ss S (fun w1 S => ?_) | refine sl S ?_ | refine sa S ?_))
      exact rt S ⟨by rw [HR.out], S.below⟩
  · have HR : Hid (r = false) := Lib.hid (by rw [HR.out, decide_eq_false h1]; simp)
    have t1 : decide (D ≤ 40) = false := decide_eq_false h1
    clear h1
    go_enter Tryd.func9, Tryd.ntmps9
    go_wp2_with (first | go_skip | ((with_reducible refine wl ?_); first | refine sn S (fun g w1 S => ?_) | refine ss S (fun w1 S => ?_) | refine sl S ?_ | refine sa S ?_))
    exact rt S ⟨by rw [HR.out], S.below⟩
theorem MsV.openV {w : World} {q : S37 × Int} {r : Ending} {w' : World} (h : MsV w q r w') : ∃ A3 c3 A4 c4, r = .returned (.tuple #[.agg #[.int .i64 q.1.f0, .int .i64 q.1.f1, .int .i64 q.1.f2, .slice A3 q.1.f3.length c3, .slice A4 q.1.f4.length c4], .int .i64 q.2]) ∧ k37.M w' w.heap.size (fun _ => True) q.1 [.int .i64 q.1.f0, .int .i64 q.1.f1, .int .i64 q.1.f2, .slice A3 q.1.f3.length c3, .slice A4 q.1.f4.length c4] ∧ Below w.heap.size w w' := by
  obtain ⟨v3, v4, h1, h2, h3⟩ := h
  obtain ⟨A3, c3, A4, c4, e, _⟩ := k37_open (k37.K_of_M h2)
  simp only [List.cons.injEq, true_and, and_true] at e
  obtain ⟨rfl, rfl⟩ := e
  exact ⟨A3, c3, A4, c4, h1, h2, h3⟩
def wordsR (s : List Int) (D Wd : Int) : Bool := decide (0 < s.length) && (decide ((msgR [s] D Wd).2 = 0) && decide (visI (visV s D.toNat 0 1) = (s.length : Int)))
theorem msgR_2 {s : List Int} (D Wd : Int) (h0 : 0 < s.length) : (msgR [s] D Wd).2 = (valR [s] D.toNat 0 0 (startM Wd)).2.2 := by
  unfold msgR
  rw [if_neg (fun h => by
    have h2 := h.2
    rw [show sgG [s] 0 = s from rfl] at h2
    omega)]
  split
  · rfl
  · rename_i h
    have h2 : (valR [s] D.toNat 0 0 (startM Wd)).2.2 = 0 := by simpa using h
    exact h2.symm
theorem wordsM_R (s : List Int) (D Wd : Int) : wordsM s D Wd = wordsR s D Wd := by
  unfold wordsM wordsR
  by_cases h0 : 0 < s.length
  · have hA := agr_vis s D.toNat 0 1 Wd.toNat h0 h0
    have hs : ((Wd.toNat : Nat) : Int) = startM Wd := by unfold startM; split <;> omega
    rw [hs] at hA
    have hM := msgR_2 D Wd h0
    rw [hA, hM]
    by_cases he : (valR [s] D.toNat 0 0 (startM Wd)).2.2 = 0
    · rw [if_pos (by exact he), decide_eq_true he]
      cases visV s D.toNat 0 1 with
      | none =>
        rw [show decide (visI none = (s.length : Int)) = false from decide_eq_false (by show ¬ ((-1 : Int) = (s.length : Int)); omega)]
        simp
      | some r =>
        rw [show decide (visI (some r) = (s.length : Int)) = decide (r = s.length) by rw [visI_some]; congr 1; simp only [eq_iff_iff]; omega]
        simp
    · rw [if_neg (by exact he), decide_eq_false he]
      simp
  · simp [h0]
set_option maxRecDepth 100000 in
set_option maxHeartbeats 4000000 in
theorem rwords_all (A : Option Addr) (cp : Nat) (s : List Int) (D Wd O : Int) (w : World) (hr : (Kd.int .u64).C w A s.length s) (hc : s.length ≤ cp) (hl : s.length ≤ 17592186040320) (ok : ∀ x ∈ s, 0 ≤ x ∧ x < 18446744073709551616) (hD : D ≤ 40) (hW : Wd ≤ 2000) :
    Calls Tryd.prog 11 #[.slice A s.length cp, limV D Wd O] w fun e w' => e = .returned (.bool (wordsR s D Wd)) ∧ Below w.heap.size w w' := by
  have S := Sep.start w
  by_cases h0 : 0 < s.length
  · obtain ⟨ad, _, e0, _⟩ := Kd.C_get hr (0 : Int) 0 (by omega) (by omega)
    subst e0
    have hE : EnvS w ad cp s := ⟨hr, hc, hl, ok⟩
    have HM := fun g w' (hb : Below w.heap.size w w') (hg : w'.heap[g]? = some (.cells #[.slice (some ad) s.length cp] 22 (0, 0))) => Lib.hid (show Calls Tryd.prog 16 #[.slice (some ⟨g, 0, none⟩) 1 1, limV D Wd O] w' (MsV w' (msgR [s] D Wd)) from msg_any (some ⟨g, 0, none⟩) 1 [s] D Wd O w' ⟨C_sl1 hg hc (Kd.C_below hr hb), by simp, fun x hx => by simp at hx; subst hx; exact hl, fun x hx y hy => by simp at hx; subst hx; exact ok y hy⟩ hD hW)
    have hok : (msgR [s] D Wd).2 = 0 → Okv s D.toNat 0 := fun h => by
      refine ⟨Wd.toNat, ?_⟩
      have hs : ((Wd.toNat : Nat) : Int) = startM Wd := by unfold startM; split <;> omega
      rw [hs]
      rw [msgR_2 D Wd h0] at h
      exact h
    have HV := fun (h : (msgR [s] D Wd).2 = 0) w' (hb : Below w.heap.size w w') => Lib.hid (show Calls Tryd.prog 22 #[.slice (some ad) s.length cp, .int .i64 1, .int .i64 0] w' (fun e w1 => e = .returned (.int .i64 (visI (visV s D.toNat 0 1))) ∧ Below w'.heap.size w' w1) from vis_all D.toNat ad cp s 1 0 w' (hE.below hb) h0 h0 (hok h))
    have HR := Lib.hid (wordsR.eq_1 s D Wd)
    rw [decide_eq_true h0, Bool.true_and] at HR
    generalize wordsR s D Wd = r at *
    generalize msgR [s] D Wd = q at *
    generalize visI (visV s D.toNat 0 1) = v at *
    obtain ⟨⟨f0, f1, f2, f3, f4⟩, e'⟩ := q
    dsimp only at HR HV
    have hln : ((s.length : Int) == 0) = false := beq_eq_false_iff_ne.2 (by omega)
    have HMA := HM
    clear hE hok hr ok HM
    by_cases he : e' = 0
    · subst he
      replace HV := HV rfl
      replace HR : Hid (r = decide (v = (s.length : Int))) := Lib.hid (by rw [HR.out]; simp)
      go_enter Tryd.func11, Tryd.ntmps11
      go_wp2_with (first | go_skip | ((with_reducible refine wl ?_); first | refine sn S (fun g w1 S => ?_) | refine ss S (fun w1 S => ?_) | refine sl S ?_ | refine sa S ?_ | refine sa (S.new _ _) ?_) | ((with_reducible refine (HMA _ _ (S.new _ _).below ((S.new _ _).blk .here)).out.mono ?_); rintro r' w' hT; obtain ⟨B3, d3, B4, d4, rfl, hM, hb⟩ := MsV.openV hT; replace S := (S.new _ _).push (a := .made k37 _ _) hb hM; dsimp only at S) | ((with_reducible refine (HV _ S.below).out.mono ?_); rintro r' w' ⟨rfl, hb⟩; replace S := S.call hb))
      exact rt S ⟨by rw [HR.out], S.below⟩
    · have te : (e' == 0) = false := beq_eq_false_iff_ne.2 he
      have HR : Hid (r = false) := Lib.hid (by rw [HR.out, decide_eq_false he]; simp)
      clear HV he
      go_enter Tryd.func11, Tryd.ntmps11
      go_wp2_with (first | go_skip | ((with_reducible refine wl ?_); first | refine sn S (fun g w1 S => ?_) | refine ss S (fun w1 S => ?_) | refine sl S ?_ | refine sa S ?_ | refine sa (S.new _ _) ?_) | ((with_reducible refine (HMA _ _ (S.new _ _).below ((S.new _ _).blk .here)).out.mono ?_); rintro r' w' hT; obtain ⟨B3, d3, B4, d4, rfl, hM, hb⟩ := MsV.openV hT; replace S := (S.new _ _).push (a := .made k37 _ _) hb hM; dsimp only at S))
      exact rt S ⟨by rw [HR.out], S.below⟩
  · obtain rfl : s = [] := List.eq_nil_of_length_eq_zero (by omega)
    have HR : Hid (wordsR [] D Wd = false) := Lib.hid rfl
    generalize wordsR [] D Wd = r at *
    go_enter Tryd.func11, Tryd.ntmps11
    go_wp2_with (first | go_skip | ((with_reducible refine wl ?_); first | refine sn S (fun g w1 S => ?_) | refine ss S (fun w1 S => ?_) | refine sl S ?_ | refine sa S ?_ | refine sa (S.new _ _) ?_))
    exact rt S ⟨by rw [HR.out], S.below⟩
end Go.Proofs.YtidglmocekghmaaDoor.Pr
end
section
namespace Go.Proofs.YtidglmocekghmaaDoor.Pr
open Go.RowKit Go.Proofs.YtidglmocekghmaaDoorW.PrintWords Go.Proofs.YtidglmocekghmaaDoorW.PrintLast Go.Proofs.YtidglmocekghmaaDoorW.PrintMore
set_option linter.unusedVariables false
set_option linter.unusedSimpArgs false
def capnplaw16_awake.f : Option Bool := some true
theorem ex0 : canoncheck_Words.f 0 [4294967296, 5] 5 50 0 = some true := by kernel_rfl
theorem ex1 : canoncheck_Words.f 0 [4294967296, 0] 5 50 0 = some false := by kernel_rfl
theorem ex2 : canoncheck_Words.f 0 [4294967296, 5, 0] 5 50 0 = some false := by kernel_rfl
theorem ex3 : canoncheck_Words.f 0 [4294967300, 0, 5] 5 50 0 = some false := by kernel_rfl
theorem ex4 : canoncheck_Words.f 0 [0] 5 50 0 = some true := by kernel_rfl
theorem ex5 : canoncheck_Words.f 0 [] 5 50 0 = some false := by kernel_rfl
theorem ex6 : canoncheck_Words.f 0 [4294967292] 5 50 0 = some true := by kernel_rfl
theorem ex7 : canoncheck_Words.f 0 [562949953421312, 0, 0] 5 50 0 = some false := by kernel_rfl
theorem ex8 : canoncheck_Words.f 0 [107374182401, 7] 5 50 0 = some true := by kernel_rfl
theorem ex9 : canoncheck_Words.f 0 [107374182401, 15] 5 50 0 = some false := by kernel_rfl
theorem ex10 : canoncheck_Words.f 0 [98784247809, 4294967304, 0, 5] 5 50 0 = some true := by kernel_rfl
theorem ex11 : canoncheck_Words.f 0 [98784247809, 4294967304, 0, 0] 5 50 0 = some false := by kernel_rfl
theorem ex12 : canoncheck_Words.f 0 [4294967296, 5] 5 0 0 = some false := by kernel_rfl
set_option maxRecDepth 100000 in
set_option maxHeartbeats 8000000 in
theorem capnplaw16_awake.calls (r : Bool) (w : World) (h : capnplaw16_awake.f = some r) (ht : Tabs w) : Calls Tryd.prog 8 #[] w fun e w' => e = .returned (.bool r) ∧ Below w.heap.size w w' := by
  obtain rfl : true = r := Option.some.inj h
  clear h
  have HT := Lib.hid ht
  clear ht
  go_enter Tryd.func8, Tryd.ntmps8
  have HB := Lib.hid (Below.refl w.heap.size w)
  go_wp2_with fail
  refine calls_at (fun wa0 hW => ?_)
  have hb : Below w.heap.size w wa0 := by rw [hW]; exact ((Below.refl _ _).alloc (Nat.le_refl _) _).alloc (by simp) _
  have nL : wa0.heap[w.heap.size]? = some (.cells #[.int .i64 5, .int .i64 50, .int .i64 0] 24 (0, 0)) := by rw [hW]; exact blk_alloc (heap_alloc_new _ _) _
  have nS : wa0.heap[w.heap.size + 1]? = some (.cells (nums .u64 [4294967296, 5]).toArray 32 (0, 0)) := by rw [hW]; exact blk_new _ _ _ (by simp)
  clear hW
  replace HB := Lib.hid (below_step HB.out hb)
  replace HT := Lib.hid (HT.out.below hb)
  clear hb
  have L := Lib.hid nL
  clear nL
  have hc := canoncheck_Words.calls 0 _ 2 [4294967296, 5] 5 50 0 true wa0 (C_ints nS (by decide)) (Nat.le_refl _) ex0 HT.out
  refine hc.mono ?_
  clear hc nS
  rintro e w1 ⟨rfl, hb⟩
  replace HB := Lib.hid (below_step HB.out hb)
  replace HT := Lib.hid (HT.out.below hb)
  replace L := Lib.hid (blk_below L.out hb)
  clear hb
  have l_L : w.heap.size < w1.heap.size := blk_lt L.out
  have q_L_0 : w1.cell? ⟨w.heap.size, 0, none⟩ = some (.int .i64 5) := (blk_cell L.out 0).trans rfl
  have q_L_1 : w1.cell? ⟨w.heap.size, 1, none⟩ = some (.int .i64 50) := (blk_cell L.out 1).trans rfl
  have q_L_2 : w1.cell? ⟨w.heap.size, 2, none⟩ = some (.int .i64 0) := (blk_cell L.out 2).trans rfl
  go_wp2_with fail
  clear l_L q_L_0 q_L_1 q_L_2
  refine calls_at (fun wa1 hW => ?_)
  have hb : Below w1.heap.size w1 wa1 := by rw [hW]; exact (Below.refl _ _).alloc (Nat.le_refl _) _
  have nS : wa1.heap[w1.heap.size]? = some (.cells (nums .u64 [4294967296, 0]).toArray 32 (0, 0)) := by rw [hW]; exact heap_alloc_new _ _
  clear hW
  replace HB := Lib.hid (below_step HB.out hb)
  replace HT := Lib.hid (HT.out.below hb)
  replace L := Lib.hid (blk_below L.out hb)
  clear hb
  have hc := canoncheck_Words.calls 0 _ 2 [4294967296, 0] 5 50 0 false wa1 (C_ints nS (by decide)) (Nat.le_refl _) ex1 HT.out
  refine hc.mono ?_
  clear hc nS
  rintro e w2 ⟨rfl, hb⟩
  replace HB := Lib.hid (below_step HB.out hb)
  replace HT := Lib.hid (HT.out.below hb)
  replace L := Lib.hid (blk_below L.out hb)
  clear hb
  have l_L : w.heap.size < w2.heap.size := blk_lt L.out
  have q_L_0 : w2.cell? ⟨w.heap.size, 0, none⟩ = some (.int .i64 5) := (blk_cell L.out 0).trans rfl
  have q_L_1 : w2.cell? ⟨w.heap.size, 1, none⟩ = some (.int .i64 50) := (blk_cell L.out 1).trans rfl
  have q_L_2 : w2.cell? ⟨w.heap.size, 2, none⟩ = some (.int .i64 0) := (blk_cell L.out 2).trans rfl
  go_wp2_with fail
  clear l_L q_L_0 q_L_1 q_L_2
  refine calls_at (fun wa2 hW => ?_)
  have hb : Below w2.heap.size w2 wa2 := by rw [hW]; exact (Below.refl _ _).alloc (Nat.le_refl _) _
  have nS : wa2.heap[w2.heap.size]? = some (.cells (nums .u64 [4294967296, 5, 0]).toArray 32 (0, 0)) := by rw [hW]; exact heap_alloc_new _ _
  clear hW
  replace HB := Lib.hid (below_step HB.out hb)
  replace HT := Lib.hid (HT.out.below hb)
  replace L := Lib.hid (blk_below L.out hb)
  clear hb
  have hc := canoncheck_Words.calls 0 _ 3 [4294967296, 5, 0] 5 50 0 false wa2 (C_ints nS (by decide)) (Nat.le_refl _) ex2 HT.out
  refine hc.mono ?_
  clear hc nS
  rintro e w3 ⟨rfl, hb⟩
  replace HB := Lib.hid (below_step HB.out hb)
  replace HT := Lib.hid (HT.out.below hb)
  replace L := Lib.hid (blk_below L.out hb)
  clear hb
  have l_L : w.heap.size < w3.heap.size := blk_lt L.out
  have q_L_0 : w3.cell? ⟨w.heap.size, 0, none⟩ = some (.int .i64 5) := (blk_cell L.out 0).trans rfl
  have q_L_1 : w3.cell? ⟨w.heap.size, 1, none⟩ = some (.int .i64 50) := (blk_cell L.out 1).trans rfl
  have q_L_2 : w3.cell? ⟨w.heap.size, 2, none⟩ = some (.int .i64 0) := (blk_cell L.out 2).trans rfl
  go_wp2_with fail
  clear l_L q_L_0 q_L_1 q_L_2
  refine calls_at (fun wa3 hW => ?_)
  have hb : Below w3.heap.size w3 wa3 := by rw [hW]; exact (Below.refl _ _).alloc (Nat.le_refl _) _
  have nS : wa3.heap[w3.heap.size]? = some (.cells (nums .u64 [4294967300, 0, 5]).toArray 32 (0, 0)) := by rw [hW]; exact heap_alloc_new _ _
  clear hW
  replace HB := Lib.hid (below_step HB.out hb)
  replace HT := Lib.hid (HT.out.below hb)
  replace L := Lib.hid (blk_below L.out hb)
  clear hb
  have hc := canoncheck_Words.calls 0 _ 3 [4294967300, 0, 5] 5 50 0 false wa3 (C_ints nS (by decide)) (Nat.le_refl _) ex3 HT.out
  refine hc.mono ?_
  clear hc nS
  rintro e w4 ⟨rfl, hb⟩
  replace HB := Lib.hid (below_step HB.out hb)
  replace HT := Lib.hid (HT.out.below hb)
  replace L := Lib.hid (blk_below L.out hb)
  clear hb
  have l_L : w.heap.size < w4.heap.size := blk_lt L.out
  have q_L_0 : w4.cell? ⟨w.heap.size, 0, none⟩ = some (.int .i64 5) := (blk_cell L.out 0).trans rfl
  have q_L_1 : w4.cell? ⟨w.heap.size, 1, none⟩ = some (.int .i64 50) := (blk_cell L.out 1).trans rfl
  have q_L_2 : w4.cell? ⟨w.heap.size, 2, none⟩ = some (.int .i64 0) := (blk_cell L.out 2).trans rfl
  go_wp2_with fail
  clear l_L q_L_0 q_L_1 q_L_2
  refine calls_at (fun wa4 hW => ?_)
  have hb : Below w4.heap.size w4 wa4 := by rw [hW]; exact (Below.refl _ _).alloc (Nat.le_refl _) _
  have nS : wa4.heap[w4.heap.size]? = some (.cells (nums .u64 [0]).toArray 32 (0, 0)) := by rw [hW]; exact heap_alloc_new _ _
  clear hW
  replace HB := Lib.hid (below_step HB.out hb)
  replace HT := Lib.hid (HT.out.below hb)
  replace L := Lib.hid (blk_below L.out hb)
  clear hb
  have hc := canoncheck_Words.calls 0 _ 1 [0] 5 50 0 true wa4 (C_ints nS (by decide)) (Nat.le_refl _) ex4 HT.out
  refine hc.mono ?_
  clear hc nS
  rintro e w5 ⟨rfl, hb⟩
  replace HB := Lib.hid (below_step HB.out hb)
  replace HT := Lib.hid (HT.out.below hb)
  replace L := Lib.hid (blk_below L.out hb)
  clear hb
  have l_L : w.heap.size < w5.heap.size := blk_lt L.out
  have q_L_0 : w5.cell? ⟨w.heap.size, 0, none⟩ = some (.int .i64 5) := (blk_cell L.out 0).trans rfl
  have q_L_1 : w5.cell? ⟨w.heap.size, 1, none⟩ = some (.int .i64 50) := (blk_cell L.out 1).trans rfl
  have q_L_2 : w5.cell? ⟨w.heap.size, 2, none⟩ = some (.int .i64 0) := (blk_cell L.out 2).trans rfl
  go_wp2_with fail
  clear l_L q_L_0 q_L_1 q_L_2
  refine calls_at (fun wa5 hW => ?_)
  have hb : Below w5.heap.size w5 wa5 := by rw [hW]; exact Below.refl _ _
  clear hW
  replace HB := Lib.hid (below_step HB.out hb)
  replace HT := Lib.hid (HT.out.below hb)
  replace L := Lib.hid (blk_below L.out hb)
  clear hb
  have hc := canoncheck_Words.calls 0 none 0 [] 5 50 0 false wa5 (Kd.C_nil _ _) (Nat.le_refl _) ex5 HT.out
  refine hc.mono ?_
  clear hc
  rintro e w6 ⟨rfl, hb⟩
  replace HB := Lib.hid (below_step HB.out hb)
  replace HT := Lib.hid (HT.out.below hb)
  replace L := Lib.hid (blk_below L.out hb)
  clear hb
  have l_L : w.heap.size < w6.heap.size := blk_lt L.out
  have q_L_0 : w6.cell? ⟨w.heap.size, 0, none⟩ = some (.int .i64 5) := (blk_cell L.out 0).trans rfl
  have q_L_1 : w6.cell? ⟨w.heap.size, 1, none⟩ = some (.int .i64 50) := (blk_cell L.out 1).trans rfl
  have q_L_2 : w6.cell? ⟨w.heap.size, 2, none⟩ = some (.int .i64 0) := (blk_cell L.out 2).trans rfl
  go_wp2_with fail
  clear l_L q_L_0 q_L_1 q_L_2
  refine calls_at (fun wa6 hW => ?_)
  have hb : Below w6.heap.size w6 wa6 := by rw [hW]; exact (Below.refl _ _).alloc (Nat.le_refl _) _
  have nS : wa6.heap[w6.heap.size]? = some (.cells (nums .u64 [4294967292]).toArray 32 (0, 0)) := by rw [hW]; exact heap_alloc_new _ _
  clear hW
  replace HB := Lib.hid (below_step HB.out hb)
  replace HT := Lib.hid (HT.out.below hb)
  replace L := Lib.hid (blk_below L.out hb)
  clear hb
  have hc := canoncheck_Words.calls 0 _ 1 [4294967292] 5 50 0 true wa6 (C_ints nS (by decide)) (Nat.le_refl _) ex6 HT.out
  refine hc.mono ?_
  clear hc nS
  rintro e w7 ⟨rfl, hb⟩
  replace HB := Lib.hid (below_step HB.out hb)
  replace HT := Lib.hid (HT.out.below hb)
  replace L := Lib.hid (blk_below L.out hb)
  clear hb
  have l_L : w.heap.size < w7.heap.size := blk_lt L.out
  have q_L_0 : w7.cell? ⟨w.heap.size, 0, none⟩ = some (.int .i64 5) := (blk_cell L.out 0).trans rfl
  have q_L_1 : w7.cell? ⟨w.heap.size, 1, none⟩ = some (.int .i64 50) := (blk_cell L.out 1).trans rfl
  have q_L_2 : w7.cell? ⟨w.heap.size, 2, none⟩ = some (.int .i64 0) := (blk_cell L.out 2).trans rfl
  go_wp2_with fail
  clear l_L q_L_0 q_L_1 q_L_2
  refine calls_at (fun wa7 hW => ?_)
  have hb : Below w7.heap.size w7 wa7 := by rw [hW]; exact (Below.refl _ _).alloc (Nat.le_refl _) _
  have nS : wa7.heap[w7.heap.size]? = some (.cells (nums .u64 [562949953421312, 0, 0]).toArray 32 (0, 0)) := by rw [hW]; exact heap_alloc_new _ _
  clear hW
  replace HB := Lib.hid (below_step HB.out hb)
  replace HT := Lib.hid (HT.out.below hb)
  replace L := Lib.hid (blk_below L.out hb)
  clear hb
  have hc := canoncheck_Words.calls 0 _ 3 [562949953421312, 0, 0] 5 50 0 false wa7 (C_ints nS (by decide)) (Nat.le_refl _) ex7 HT.out
  refine hc.mono ?_
  clear hc nS
  rintro e w8 ⟨rfl, hb⟩
  replace HB := Lib.hid (below_step HB.out hb)
  replace HT := Lib.hid (HT.out.below hb)
  replace L := Lib.hid (blk_below L.out hb)
  clear hb
  have l_L : w.heap.size < w8.heap.size := blk_lt L.out
  have q_L_0 : w8.cell? ⟨w.heap.size, 0, none⟩ = some (.int .i64 5) := (blk_cell L.out 0).trans rfl
  have q_L_1 : w8.cell? ⟨w.heap.size, 1, none⟩ = some (.int .i64 50) := (blk_cell L.out 1).trans rfl
  have q_L_2 : w8.cell? ⟨w.heap.size, 2, none⟩ = some (.int .i64 0) := (blk_cell L.out 2).trans rfl
  go_wp2_with fail
  clear l_L q_L_0 q_L_1 q_L_2
  refine calls_at (fun wa8 hW => ?_)
  have hb : Below w8.heap.size w8 wa8 := by rw [hW]; exact (Below.refl _ _).alloc (Nat.le_refl _) _
  have nS : wa8.heap[w8.heap.size]? = some (.cells (nums .u64 [107374182401, 7]).toArray 32 (0, 0)) := by rw [hW]; exact heap_alloc_new _ _
  clear hW
  replace HB := Lib.hid (below_step HB.out hb)
  replace HT := Lib.hid (HT.out.below hb)
  replace L := Lib.hid (blk_below L.out hb)
  clear hb
  have hc := canoncheck_Words.calls 0 _ 2 [107374182401, 7] 5 50 0 true wa8 (C_ints nS (by decide)) (Nat.le_refl _) ex8 HT.out
  refine hc.mono ?_
  clear hc nS
  rintro e w9 ⟨rfl, hb⟩
  replace HB := Lib.hid (below_step HB.out hb)
  replace HT := Lib.hid (HT.out.below hb)
  replace L := Lib.hid (blk_below L.out hb)
  clear hb
  have l_L : w.heap.size < w9.heap.size := blk_lt L.out
  have q_L_0 : w9.cell? ⟨w.heap.size, 0, none⟩ = some (.int .i64 5) := (blk_cell L.out 0).trans rfl
  have q_L_1 : w9.cell? ⟨w.heap.size, 1, none⟩ = some (.int .i64 50) := (blk_cell L.out 1).trans rfl
  have q_L_2 : w9.cell? ⟨w.heap.size, 2, none⟩ = some (.int .i64 0) := (blk_cell L.out 2).trans rfl
  go_wp2_with fail
  clear l_L q_L_0 q_L_1 q_L_2
  refine calls_at (fun wa9 hW => ?_)
  have hb : Below w9.heap.size w9 wa9 := by rw [hW]; exact (Below.refl _ _).alloc (Nat.le_refl _) _
  have nS : wa9.heap[w9.heap.size]? = some (.cells (nums .u64 [107374182401, 15]).toArray 32 (0, 0)) := by rw [hW]; exact heap_alloc_new _ _
  clear hW
  replace HB := Lib.hid (below_step HB.out hb)
  replace HT := Lib.hid (HT.out.below hb)
  replace L := Lib.hid (blk_below L.out hb)
  clear hb
  have hc := canoncheck_Words.calls 0 _ 2 [107374182401, 15] 5 50 0 false wa9 (C_ints nS (by decide)) (Nat.le_refl _) ex9 HT.out
  refine hc.mono ?_
  clear hc nS
  rintro e w10 ⟨rfl, hb⟩
  replace HB := Lib.hid (below_step HB.out hb)
  replace HT := Lib.hid (HT.out.below hb)
  replace L := Lib.hid (blk_below L.out hb)
  clear hb
  have l_L : w.heap.size < w10.heap.size := blk_lt L.out
  have q_L_0 : w10.cell? ⟨w.heap.size, 0, none⟩ = some (.int .i64 5) := (blk_cell L.out 0).trans rfl
  have q_L_1 : w10.cell? ⟨w.heap.size, 1, none⟩ = some (.int .i64 50) := (blk_cell L.out 1).trans rfl
  have q_L_2 : w10.cell? ⟨w.heap.size, 2, none⟩ = some (.int .i64 0) := (blk_cell L.out 2).trans rfl
  go_wp2_with fail
  clear l_L q_L_0 q_L_1 q_L_2
  refine calls_at (fun wa10 hW => ?_)
  have hb : Below w10.heap.size w10 wa10 := by rw [hW]; exact (Below.refl _ _).alloc (Nat.le_refl _) _
  have nS : wa10.heap[w10.heap.size]? = some (.cells (nums .u64 [98784247809, 4294967304, 0, 5]).toArray 32 (0, 0)) := by rw [hW]; exact heap_alloc_new _ _
  clear hW
  replace HB := Lib.hid (below_step HB.out hb)
  replace HT := Lib.hid (HT.out.below hb)
  replace L := Lib.hid (blk_below L.out hb)
  clear hb
  have hc := canoncheck_Words.calls 0 _ 4 [98784247809, 4294967304, 0, 5] 5 50 0 true wa10 (C_ints nS (by decide)) (Nat.le_refl _) ex10 HT.out
  refine hc.mono ?_
  clear hc nS
  rintro e w11 ⟨rfl, hb⟩
  replace HB := Lib.hid (below_step HB.out hb)
  replace HT := Lib.hid (HT.out.below hb)
  replace L := Lib.hid (blk_below L.out hb)
  clear hb
  have l_L : w.heap.size < w11.heap.size := blk_lt L.out
  have q_L_0 : w11.cell? ⟨w.heap.size, 0, none⟩ = some (.int .i64 5) := (blk_cell L.out 0).trans rfl
  have q_L_1 : w11.cell? ⟨w.heap.size, 1, none⟩ = some (.int .i64 50) := (blk_cell L.out 1).trans rfl
  have q_L_2 : w11.cell? ⟨w.heap.size, 2, none⟩ = some (.int .i64 0) := (blk_cell L.out 2).trans rfl
  go_wp2_with fail
  clear l_L q_L_0 q_L_1 q_L_2
  refine calls_at (fun wa11 hW => ?_)
  have hb : Below w11.heap.size w11 wa11 := by rw [hW]; exact (Below.refl _ _).alloc (Nat.le_refl _) _
  have nS : wa11.heap[w11.heap.size]? = some (.cells (nums .u64 [98784247809, 4294967304, 0, 0]).toArray 32 (0, 0)) := by rw [hW]; exact heap_alloc_new _ _
  clear hW
  replace HB := Lib.hid (below_step HB.out hb)
  replace HT := Lib.hid (HT.out.below hb)
  replace L := Lib.hid (blk_below L.out hb)
  clear hb
  have hc := canoncheck_Words.calls 0 _ 4 [98784247809, 4294967304, 0, 0] 5 50 0 false wa11 (C_ints nS (by decide)) (Nat.le_refl _) ex11 HT.out
  refine hc.mono ?_
  clear hc nS
  rintro e w12 ⟨rfl, hb⟩
  replace HB := Lib.hid (below_step HB.out hb)
  replace HT := Lib.hid (HT.out.below hb)
  replace L := Lib.hid (blk_below L.out hb)
  clear hb
  have l_L : w.heap.size < w12.heap.size := blk_lt L.out
  have q_L_0 : w12.cell? ⟨w.heap.size, 0, none⟩ = some (.int .i64 5) := (blk_cell L.out 0).trans rfl
  have q_L_1 : w12.cell? ⟨w.heap.size, 1, none⟩ = some (.int .i64 50) := (blk_cell L.out 1).trans rfl
  have q_L_2 : w12.cell? ⟨w.heap.size, 2, none⟩ = some (.int .i64 0) := (blk_cell L.out 2).trans rfl
  go_wp2_with fail
  clear l_L q_L_0 q_L_1 q_L_2
  refine calls_at (fun wa12 hW => ?_)
  have hb : Below w12.heap.size w12 wa12 := by rw [hW]; exact (Below.refl _ _).alloc (Nat.le_refl _) _
  have nS : wa12.heap[w12.heap.size]? = some (.cells (nums .u64 [4294967296, 5]).toArray 32 (0, 0)) := by rw [hW]; exact heap_alloc_new _ _
  clear hW
  replace HB := Lib.hid (below_step HB.out hb)
  replace HT := Lib.hid (HT.out.below hb)
  replace L := Lib.hid (blk_below L.out hb)
  clear hb
  have hc := canoncheck_Words.calls 0 _ 2 [4294967296, 5] 5 0 0 false wa12 (C_ints nS (by decide)) (Nat.le_refl _) ex12 HT.out
  refine hc.mono ?_
  clear hc nS
  rintro e w13 ⟨rfl, hb⟩
  replace HB := Lib.hid (below_step HB.out hb)
  replace HT := Lib.hid (HT.out.below hb)
  replace L := Lib.hid (blk_below L.out hb)
  clear hb
  have l_L : w.heap.size < w13.heap.size := blk_lt L.out
  have q_L_0 : w13.cell? ⟨w.heap.size, 0, none⟩ = some (.int .i64 5) := (blk_cell L.out 0).trans rfl
  have q_L_1 : w13.cell? ⟨w.heap.size, 1, none⟩ = some (.int .i64 50) := (blk_cell L.out 1).trans rfl
  have q_L_2 : w13.cell? ⟨w.heap.size, 2, none⟩ = some (.int .i64 0) := (blk_cell L.out 2).trans rfl
  go_wp2
  go_ret
  exact ⟨rfl, HB.out⟩
end Go.Proofs.YtidglmocekghmaaDoor.Pr
end
section
namespace Go.Proofs.YtidglmocekghmaaDoor.Pr
open Go.RowKit Go.Proofs.YtidglmocekghmaaDoorW.PrintWords Go.Proofs.YtidglmocekghmaaDoorW.PrintLast Go.Proofs.YtidglmocekghmaaDoorW.PrintMore
set_option linter.unusedVariables false
set_option linter.unusedSimpArgs false
theorem smallG_lim {G : List (List Int)} {D Wd : Int} (h : smallG G D Wd = true) : D ≤ 40 ∧ Wd ≤ 2000 := by
  unfold smallG at h
  simp only [Bool.and_eq_true, decide_eq_true_eq] at h
  exact h.1
theorem smallG_one {s : List Int} {D Wd : Int} (h : smallG [s] D Wd = true) : s.length ≤ 300 := by
  unfold smallG fewG at h
  simp only [Bool.and_eq_true, decide_eq_true_eq] at h
  exact h.2.1 0 (by simp)
set_option maxRecDepth 100000 in
set_option maxHeartbeats 4000000 in
theorem matches_law (A : Option Addr) (cp : Nat) (s : List Int) (D Wd O : Int) (w : World) (hr : (Kd.int .u64).C w A s.length s) (hc : s.length ≤ cp) (ok : ∀ x ∈ s, 0 ≤ x ∧ x < 18446744073709551616) (ht : Tabs w) :
    Calls Tryd.prog 3 #[.slice A s.length cp, limV D Wd O] w fun e w' => e = .returned (.bool true) ∧ Below w.heap.size w w' := by
  have hl0 : s.length ≤ 9223372036854775807 := hr.2.1
  have S := Sep.start w
  have HA := fun w' (hb : Below w.heap.size w w') => Lib.hid (capnplaw16_awake.calls true w' rfl (ht.below hb))
  have HS := fun g w' (hb : Below w.heap.size w w') (hg : w'.heap[g]? = some (.cells #[.slice A s.length cp] 22 (0, 0))) => Lib.hid (show Calls Tryd.prog 9 #[.slice (some ⟨g, 0, none⟩) 1 1, limV D Wd O] w' (fun e w1 => e = .returned (.bool (smallG [s] D Wd)) ∧ Below w'.heap.size w' w1) from small_any (some ⟨g, 0, none⟩) 1 [s] D Wd O w' (C_sl1 hg hc (Kd.C_below hr hb)) (by simp) (fun x hx => by simp at hx; subst hx; exact hl0))
  cases hq : smallG [s] D Wd with
  | false =>
    rw [hq] at HS
    clear hq hr hc hl0 ok ht
    go_enter Tryd.func3, Tryd.ntmps3
    go_wp2_with (first | go_skip | ((with_reducible refine wl ?_); first | refine sn S (fun g w1 S => ?_) | refine ss S (fun w1 S => ?_) | refine sl S ?_ | refine sa S ?_ | refine sa (S.new _ _) ?_) | ((with_reducible refine (HA _ S.below).out.mono ?_); rintro r' w' ⟨rfl, hb⟩; replace S := S.call hb) | ((with_reducible refine (HS _ _ (S.new _ _).below ((S.new _ _).blk .here)).out.mono ?_); rintro r' w' ⟨rfl, hb⟩; replace S := ((S.new _ _).call hb).tail))
    exact rt S ⟨rfl, S.below⟩
  | true =>
    obtain ⟨hD, hW⟩ := smallG_lim hq
    have hl : s.length ≤ 17592186040320 := by have := smallG_one hq; omega
    have H1 := fun w' (hb : Below w.heap.size w w') => Lib.hid (words_any A cp s D Wd O w' ⟨Kd.C_below hr hb, (ht.below hb).tab, (ht.below hb).dec, ok, hl⟩ hc (by omega) (by omega))
    have H2 := fun w' (hb : Below w.heap.size w w') => Lib.hid (rwords_all A cp s D Wd O w' (Kd.C_below hr hb) hc hl ok hD hW)
    rw [hq] at HS
    rw [wordsM_R] at H1
    generalize wordsR s D Wd = b at *
    clear hq hr hc hl hl0 ok ht hD hW
    go_enter Tryd.func3, Tryd.ntmps3
    go_wp2_with (first | go_skip | ((with_reducible refine wl ?_); first | refine sn S (fun g w1 S => ?_) | refine ss S (fun w1 S => ?_) | refine sl S ?_ | refine sa S ?_ | refine sa (S.new _ _) ?_) | ((with_reducible refine (HA _ S.below).out.mono ?_); rintro r' w' ⟨rfl, hb⟩; replace S := S.call hb) | ((with_reducible refine (HS _ _ (S.new _ _).below ((S.new _ _).blk .here)).out.mono ?_); rintro r' w' ⟨rfl, hb⟩; replace S := ((S.new _ _).call hb).tail))
    refine rs [0] S (fun w1 S => ?_)
    refine pu 0 15 ?_
    refine lt 1 S ?_
    refine pu 3 18 ?_
    refine lt 4 S ?_
    refine lc 2 17 Tryd.func10 (H1 _ S.below).out (fun r' w2 hT => ?_)
    obtain ⟨rfl, hb⟩ := hT
    replace S := S.call hb
    refine ⟨_, rfl, S.kpq 0, _, rfl, ?_⟩
    simp only [Act.put, List.setIfInBounds_toArray, List.set_cons_zero, List.set_cons_succ]
    refine lc 5 20 Tryd.func11 (H2 _ S.below).out (fun r' w2 hT => ?_)
    obtain ⟨rfl, hb⟩ := hT
    replace S := S.call hb
    refine ⟨_, rfl, S.kpq 0, _, rfl, ?_⟩
    simp only [Act.put, List.setIfInBounds_toArray, List.set_cons_zero, List.set_cons_succ]
    refine pu 6 21 ?_
    refine pu 7 4 ?_
    refine dn ?_
    go_wp2
    refine rt S ⟨?_, S.below⟩
    simp
end Go.Proofs.YtidglmocekghmaaDoor.Pr
end
section
namespace Go.Proofs.YtidglmocekghmaaDoor.canoncheckMatchesReference
open Go.ChangeShapes Go.WideShapes Go.ChangeAt Go.RowKit Go.Joins
set_option linter.unusedVariables false
set_option linter.unusedSimpArgs false
theorem own : ownKnob Tryd.prog.godebug = none := by kernel_rfl
theorem laidOut : laidOutB Tryd.prog = true := by kernel_rfl
set_option maxRecDepth 100000 in
theorem contract (H : Type) (enc : TypeId × Value → H) (W : World) (base : Nat) (args : Array Value) (ds gs : List (DataW H)) (before : List MemPlace)
    (hval0 : ∀ (j : Nat) t v, Tryd.f3.params[j]? = some t → args[j]? = some v → Value.okWide Tryd.prog W .any base t v)
    (hW : DataW.Whole enc Tryd.prog Tryd.f3.params.toList Rows.canoncheckMatchesReferenceSpec.vars false W args.toList ds gs before) (hL0 : laidMetH Tryd.prog Rows.canoncheckMatchesReferenceRow.laid W) :
    Calls Tryd.prog 3 args W fun e W' => ∃ v, e = .returned v ∧ Rows.canoncheckMatchesReferenceSpec.post enc Tryd.prog Tryd.f3 false true false false W args v W' := by
  have hL : laidMetH Tryd.prog TabD.laidL W := hL0
  have hval : ∀ (j : Nat) t v, Tryd.f3.params[j]? = some t → args[j]? = some v → Value.okWide Tryd.prog W .any base t v := hval0
  have hW' := hW
  obtain ⟨p, q, hA0, hV, rfl, hfz, hnd⟩ := hW
  have hA : DataW.TrodAll enc Tryd.prog W 0 (fun _ => true) true Tryd.f3.params.toList args.toList ds p := hA0
  rw [Tryd.params3] at hA hval
  obtain ⟨v0, vs0, d0, ds0, p0, q0, hargs, rfl, rfl, h0, r0⟩ := trodAll_cons hA
  obtain ⟨v1, vs1, d1, ds1, p1, q1, rfl, rfl, rfl, h1, r1⟩ := trodAll_cons r0
  obtain ⟨rfl, rfl, rfl⟩ := trodAll_nil r1
  obtain rfl : args = #[v0, v1] := by cases args; simp_all
  obtain ⟨rfl, rfl⟩ := trodVars_none hV
  have k0 := h0
  have lt0 : ∀ x ∈ p0, x.block < W.heap.size := by obtain ⟨m, hm⟩ := k0; exact DataW.trod_lt m _ _ _ hm
  obtain ⟨x0, y0, z0, rfl⟩ := okWide_slice Tryd.underlying22 (hval 0 22 v0 rfl rfl)
  obtain ⟨fuel0, hf0⟩ := h0
  obtain ⟨A0, c0, a0, e0, l0, g0, ok0⟩ := TabD.words_in hf0
  have e0' : [Value.slice x0 y0 z0] = [Value.slice A0 a0.length c0] := e0
  simp only [List.cons.injEq, Value.slice.injEq, and_true] at e0'
  obtain ⟨rfl, rfl, rfl⟩ := e0'
  clear e0 hf0
  have k1 := h1
  have lt1 : ∀ x ∈ p1, x.block < W.heap.size := by obtain ⟨m, hm⟩ := k1; exact DataW.trod_lt m _ _ _ hm
  obtain ⟨a1_0, a1_1, a1_2, rfl, w1_0, w1_1, w1_2⟩ : ∃ x0 x1 x2 : Int, v1 = .agg #[.int .i64 x0, .int .i64 x1, .int .i64 x2] ∧ (Lit.int .i64 x0).wf = true ∧ (Lit.int .i64 x1).wf = true ∧ (Lit.int .i64 x2).wf = true := by
    obtain ⟨c0, c1, c2, y0, y1, y2, m, rfl, _, _, e0, e1, e2⟩ := open_agg3 Tryd.underlying24 (by kernel_rfl) (by kernel_rfl) (hval 1 24 v1 rfl rfl) h1
    obtain ⟨x0, g0, _, z0⟩ := DataW.trod_int Tryd.underlying3 e0
    simp at g0
    subst g0
    obtain ⟨x1, g1, _, z1⟩ := DataW.trod_int Tryd.underlying3 e1
    simp at g1
    subst g1
    obtain ⟨x2, g2, _, z2⟩ := DataW.trod_int Tryd.underlying3 e2
    simp at g2
    subst g2
    exact ⟨x0, x1, x2, rfl, z0, z1, z2⟩
  clear hA0 hval0 hL0
  refine (Pr.matches_law x0 z0 a0 a1_0 a1_1 a1_2 W g0 l0 ok0 (TabD.tabs hL)).mono fun e W' ⟨he, bel⟩ => ?_
  subst he
  exact ⟨_, rfl, _, _, _, [], _, [], hW', trodAll_mk1 (shut_bool Tryd.underlying4 _), (trodAll_cons_mk (Below.trod laidOut (by kernel_rfl) (of_decide_eq_true (by kernel_rfl)) k0 bel lt0) (trodAll_cons_mk (Below.trod laidOut (by kernel_rfl) (of_decide_eq_true (by kernel_rfl)) k1 bel lt1) trodAll_mk0)), rfl, bel.frame _, fun h => by cases h⟩
theorem laid_met (os : Os) : laidMetH Tryd.prog Rows.canoncheckMatchesReferenceRow.laid ((World.doorLaid Tryd.prog 600 os).forCall (fun _ _ => 0) ⟨#[], #[.slice none 0 0, .agg #[.int .i64 0, .int .i64 0, .int .i64 0]], []⟩).memory :=
  laidMetH_of_parts3 (fuel := 8) (laidMet_of_run' 8 (by kernel_rfl) (by kernel_rfl)) (by kernel_rfl) (by kernel_rfl)
theorem reads (os : Os) {H : Type} (enc : TypeId × Value → H) : ∃ places, DataW.whole enc Tryd.prog ((World.doorLaid Tryd.prog 600 os).forCall (fun _ _ => 0) ⟨#[], #[.slice none 0 0, .agg #[.int .i64 0, .int .i64 0, .int .i64 0]], []⟩).memory Tryd.f3.params.toList Rows.canoncheckMatchesReferenceSpec.vars false (#[.slice none 0 0, .agg #[.int .i64 0, .int .i64 0, .int .i64 0]] : Array Value).toList 10 = some ([.nil, .agg [.lit (.int .i64 0), .lit (.int .i64 0), .lit (.int .i64 0)]], [], places) :=
  ⟨[], by kernel_rfl⟩
set_option maxRecDepth 100000 in
theorem lifted (os : Os) (started : os.Started) (H : Type) (enc : TypeId × Value → H) (F : Stop.Interp) :
    ReturnsInHanded {} Tryd.checked os 3 .any ((OpenSpec.ofChange Rows.canoncheckMatchesReferenceSpec).preRow enc Tryd.prog Tryd.f3 Rows.canoncheckMatchesReferenceRow.domain false Rows.canoncheckMatchesReferenceRow.laid) (((OpenSpec.ofChange Rows.canoncheckMatchesReferenceSpec).at F).post enc Tryd.prog Tryd.f3 false true false false) := by
  obtain ⟨places, hx⟩ := reads os enc
  refine returnsInHanded_of_row (C := Tryd.checked) (s := (OpenSpec.ofChange Rows.canoncheckMatchesReferenceSpec)) own started (by kernel_rfl) Tryd.func3
    (witness_row_at (enc := enc) (C := Tryd.checked) false (World.doorLaid Tryd.prog 600 os) #[.slice none 0 0, .agg #[.int .i64 0, .int .i64 0, .int .i64 0]] rfl (by kernel_rfl) (by kernel_rfl) (by kernel_rfl)
      (OpenSpec.preRow_of_cond 10 hx (by kernel_rfl) (fun k hk => by cases hk) (by kernel_rfl) (laid_met os))) ?_
  intro W base args ds gs before hval hW _ _ _ hL _ _
  exact contract H enc W base args ds gs before hval hW hL
theorem said : Rows.CanoncheckMatchesReferenceSaid :=
  OpenClaim.holds_of_cond 3 Tryd.f3 rfl rfl rfl rfl rfl rfl rfl ⟨rfl, rfl, rfl, rfl, rfl⟩ rfl rfl rfl rfl rfl (by kernel_rfl) Tryd.func3 (by kernel_rfl)
    (of_decide_eq_true (by kernel_rfl)) (by unfold Func.isWrapper; first | (rw [if_pos (by decide +kernel)]; kernel_rfl) | (rw [if_neg (by decide +kernel)]; exact ⟨rfl, rfl⟩))
    (fun os started H enc _ F => by rw [OpenClaim.pre_eq_preRow]; exact lifted os started H enc F)
theorem plain (f : FuncId) (fn : Func) (hf : Tryd.pinned.checked.prog.funcNamed "capnp/capnplaw16.CanoncheckMatchesReference" = some f) (hfn : Tryd.pinned.checked.prog.funcs[f]? = some fn) :
    true = Tryd.pinned.checked.prog.looks [] ∧ ∀ (j : Nat) t, fn.params[j]? = some t → Tryd.pinned.checked.prog.wantsStandIn t = false := by
  obtain rfl : f = 3 := Option.some.inj ((show Tryd.prog.funcNamed "capnp/capnplaw16.CanoncheckMatchesReference" = some 3 by kernel_rfl).symm.trans hf) |>.symm
  obtain rfl : fn = Tryd.f3 := (Option.some.inj (Tryd.func3.symm.trans hfn)).symm
  refine ⟨by kernel_rfl, fun j t ht => ?_⟩
  rw [Tryd.params3] at ht
  have hm : t = 22 ∨ t = 24 := by have := Array.mem_of_getElem? ht; simp at this; omega
  rcases hm with rfl | rfl
  · exact (show Tryd.prog.wantsStandIn 22 = false by kernel_rfl)
  · exact (show Tryd.prog.wantsStandIn 24 = false by kernel_rfl)
theorem card : Rows.CanoncheckMatchesReferenceCardSaid :=
  Claim7.holds_tied_plain_at .later [] _ _ _ _ said (fun _ h => by cases h) (by kernel_rfl) (fun _ h => by cases h) canoncheckMatchesReference_row_tie rfl ⟨rfl, rfl⟩ (by kernel_rfl) rfl plain (by kernel_rfl)
#print axioms card
end Go.Proofs.YtidglmocekghmaaDoor.canoncheckMatchesReference
namespace Go.Proofs.YtidglmocekghmaaDoor
theorem canoncheckMatchesReference_holds : Rows.CanoncheckMatchesReferenceCardSaid := canoncheckMatchesReference.card
end Go.Proofs.YtidglmocekghmaaDoor
end

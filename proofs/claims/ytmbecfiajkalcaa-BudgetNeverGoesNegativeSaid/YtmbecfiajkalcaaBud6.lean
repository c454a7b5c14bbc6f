/- BudgetNeverGoesNegative's walk: the successful charges of a list of costs add up to at most the budget. Conditions: each number is of its kind; the list lies in memory as the form reads it. -/
import Derived.Test.YtmbecfiajkalcaaBud5
import Derived.Outline
import Derived.Deep.RegionHeld3
import Derived.Deep.DrawnRows
import Derived.Deep.DeepCutAuto
import Derived.Lib.Hide
set_option linter.unusedVariables false
set_option linter.unusedSimpArgs false
namespace Go.Proofs.Ytmbecfiajkalcaa
open Go.RowKit
attribute [local go_sem ↓] Go.wp_at_zero Go.wp_at_succ

/-- What a world that keeps wr shows, in one word. -/
theorem keepS {wr w' : World} (h : Below wr.heap.size wr w') : (∀ b o, b < wr.heap.size → w'.cell? ⟨b, o, none⟩ = wr.cell? ⟨b, o, none⟩) ∧ (∀ b o, b < wr.heap.size → w'.frozen? ⟨b, o, none⟩ = wr.frozen? ⟨b, o, none⟩) ∧ Below wr.heap.size wr w' :=
  ⟨(bcell h).1, (bcell h).2, h⟩

set_option maxHeartbeats 4000000 in
theorem never_some (d m o : Int) (hm : -1125899906842624 ≤ m) (hm' : m ≤ 1125899906842624) (b off len cap : Nat) (h0 : 0 < len) (hlen : len ≤ 100) (zs : List Int) (w : World) (hbw : b < w.heap.size)
    (hc : ∀ j, j < len → w.cell? ⟨b, off + j, none⟩ = some (.int .u16 (zs.getD j 0))) (hz : ∀ j, 0 ≤ zs.getD j 0 ∧ zs.getD j 0 ≤ 65535) (s : Int) (hs : 0 ≤ s) (hs' : s ≤ 1125899906842624) (HS : Hid (mx0 m = s)) :
    Calls Try.prog 4 #[.agg #[.int .i64 d, .int .i64 m, .int .i64 o], .slice (some ⟨b, off, none⟩) len cap] w fun e w' => e = .returned (.bool true) ∧ Below w.heap.size w w' := by
  have g1 : decide (1125899906842624 < m) = false := by simp; omega
  have g2 : decide (m < -1125899906842624) = false := by simp; omega
  have g3 : decide (100 < (len : Int)) = false := by simp; omega
  go_enter Try.func4, Try.ntmps4
  go_wp2_with fail
  refine (awake_any _).mono ?_
  rintro e w1 ⟨rfl, hb1⟩
  obtain ⟨hc1, hf1⟩ := bcell hb1
  have z1 := hb1.size
  try simp at z1
  have za0_1 : w.heap.size < w1.heap.size := by omega
  have ya0_1 : w.heap.size ≤ w1.heap.size := by omega
  go_wp2_with fail
  refine (start_is d m o s _ HS.out).mono ?_
  rintro e w2 ⟨rfl, hb2⟩
  obtain ⟨hc2, hf2⟩ := bcell hb2
  have z2 := hb2.size
  try simp at z2
  have za0_2 : w.heap.size < w2.heap.size := by omega
  have ya0_2 : w.heap.size ≤ w2.heap.size := by omega
  have ya1_2 : w1.heap.size ≤ w2.heap.size := by omega
  go_wp2_with fail
  have B2 : Below w.heap.size w (w2.alloc (Obj.cells #[Value.int IntKind.i64 s] 25)) := by
    repeat (refine Below.alloc ?_ (by first | omega | (simp; done) | (simp; omega)) _)
    refine below_step ?_ (by first | omega | (simp; done) | (simp; omega)) hb2
    repeat (refine Below.alloc ?_ (by first | omega | (simp; done) | (simp; omega)) _)
    refine below_step ?_ (by first | omega | (simp; done) | (simp; omega)) hb1
    repeat (first | exact Below.refl _ _ | refine Below.alloc ?_ (by first | omega | (simp; done) | (simp; omega)) _)
  go_loopw [6, 7] (fun sm i wr => ∃ (k : Nat) (M S : Int), k ≤ len ∧ i = .int .i64 k ∧ sm = .int .i64 S ∧ 0 ≤ M ∧ 0 ≤ S ∧ Hid (M + S = s) ∧ wr.cell? ⟨w2.heap.size, 0, none⟩ = some (.int .i64 M) ∧ wr.frozen? ⟨w2.heap.size, 0, none⟩ = false ∧
      w2.heap.size < wr.heap.size ∧ wr.cell? ⟨w.heap.size, 0, none⟩ = some (.int .i64 d) ∧ wr.cell? ⟨w.heap.size, 1, none⟩ = some (.int .i64 m) ∧ wr.cell? ⟨w.heap.size, 2, none⟩ = some (.int .i64 o) ∧ Below w.heap.size w wr)
    (fun _ i _ => len - (intOf i).toNat)
  case atStart =>
    exact ⟨0, s, 0, Nat.zero_le _, rfl, rfl, hs, Int.le_refl _, (by show s + 0 = s; omega), by simp [go_sem], by simp [go_sem], by simp, by simp [go_sem, *], by simp [go_sem, *], by simp [go_sem, *], B2⟩
  case round =>
    obtain ⟨k, M, S, hk, rfl, rfl, hM0, hS0, HMS, hcM, hfM, hsz, hl0, hl1, hl2, hB⟩ := hrel
    have hsz' : w.heap.size < wr.heap.size := by omega
    by_cases hlt : k < len
    · have hck : wr.cell? ⟨b, off + k, none⟩ = some (.int .u16 (zs.getD k 0)) := (hB.cell (p := ⟨b, off + k, none⟩) hbw).trans (hc k hlt)
      have hzk := hz k
      obtain ⟨c, HC⟩ : ∃ c, Hid (c = zs.getD k 0) := ⟨_, rfl⟩
      rw [← HC.out] at hck hzk
      obtain ⟨hz0, hz1⟩ := hzk
      have hk0 : (0 : Int) ≤ (k : Int) := Int.natCast_nonneg _
      have hk1 : (k : Int) < (len : Int) := by omega
      have hbr : b < wr.heap.size := by omega
      clear hc hz hc1 hf1 hc2 hf2
      have hMs : M ≤ s := by have := HMS.out; omega
      have hSs : S ≤ s := by have := HMS.out; omega
      by_cases hMc : M < c
      · have hE : Hid True := trivial
        have wc : IntKind.i64.wrap c = c := IntWalk.i64_in _ (by omega)
        have KT : Hid (∀ X, Below wr.heap.size wr X → X.cell? ⟨b, off + k, none⟩ = some (.int .u16 c) ∧ X.cell? ⟨w2.heap.size, 0, none⟩ = some (.int .i64 M) ∧ Below wr.heap.size wr X) :=
          fun X h => ⟨(h.cell (p := ⟨b, off + k, none⟩) hbr).trans hck, (h.cell (p := ⟨w2.heap.size, 0, none⟩) hsz).trans hcM, h⟩
        go_upto_region 8 with fail
        go_cut [8, 9] (fun s8 s9 wx => ∃ g : Nat, s8 = .pointer (some ⟨g, 0, none⟩) ∧ s9 = .int .i64 8 ∧ wx.cell? ⟨g, 0, none⟩ = some (.int .i64 (M)) ∧ wr.heap.size ≤ g ∧ Below wr.heap.size wr wx)
        case first =>
          go_region_held3 (fun w' => w'.cell? ⟨b, off + k, none⟩ = some (.int .u16 c) ∧ w'.cell? ⟨w2.heap.size, 0, none⟩ = some (.int .i64 M) ∧ Below wr.heap.size wr w')
            (first | exact KT.out _ (Below.refl _ _).drew | exact KT.out _ ((Below.refl _ _).alloc (Nat.le_refl _) _).drew | exact KT.out _ (below_step (Below.refl _ _).drew (Nat.le_refl _) hbc) | exact KT.out _ (below_step (((Below.refl _ _).alloc (Nat.le_refl _) _).drew) (by simp) hbc) | exact KT.out _ ((below_step (Below.refl _ _).drew (Nat.le_refl _) hbc).alloc hbc.size _) | exact KT.out _ ((below_step (((Below.refl _ _).alloc (Nat.le_refl _) _).drew) (by simp) hbc).setCell (Nat.le_refl _) _) | exact KT.out _ (((below_step (Below.refl _ _).drew (Nat.le_refl _) hbc).alloc hbc.size _).setCell hbc.size _))
            (first | (go_at_call 8; refine (charge_no M c _ hMc).mono ?_; rintro e w' ⟨rfl, hbc⟩; obtain ⟨hcc, hff⟩ := bcell hbc; have hzc := hbc.size))
          all_goals
            rename_i hHeld
            have hKX := hHeld.2.2
            simp at hzc
            have hzd : wr.heap.size < w'.heap.size ∨ wr.heap.size ≤ w'.heap.size := by omega
            go_wp2_with fail
            go_meet
            refine ⟨_, rfl, rfl, ?_, ?_, hKX⟩
            · first | (simp [go_sem]; done) | (rw [World.cell?_setCell_same' _ _ _ (by rw [hcc _ _ (by simp)]; simp [go_sem])])
            · first | exact Nat.le_refl _ | omega
        case rest =>
          obtain ⟨g, rfl, rfl, hcg, hgr, hKX⟩ := hcut
          obtain ⟨hcX, hfX⟩ := bcell hKX
          have hzX := hKX.size
          have hg' : g < wc.heap.size := World.block_lt_of_cell? wc _ hcg
          have hb' : b < wc.heap.size := by omega
          have hA' : w2.heap.size < wc.heap.size := by omega
          have hw' : w.heap.size < wc.heap.size := by omega
          have hne : ¬ g = w2.heap.size := by omega
          have hne' : ¬ w2.heap.size = g := by omega
          have hne2 : ¬ w.heap.size = w2.heap.size := by omega
          have t1 : decide (c ≤ M) = false := by simp; omega
          have t2 : decide (M < 0) = false := by simp; omega
          go_wp2_with fail
          refine wp_region_kept (by kernel_rfl) (by kernel_rfl) (fun C h1 h2 => ?_)
          repeat (
            first
              | (with_reducible refine quiet_not ?_ ?_
                 · rfl)
              | (with_reducible apply quiet_do
                 · rfl
                 · intro W hW
                   first
                     | (obtain ⟨hc, hf⟩ := bcell (h1 _ hW); go_simp; first | exact rfl | exact ⟨rfl, rfl⟩))
            simp only [Act.put, List.setIfInBounds_toArray, List.set_cons_zero, List.set_cons_succ])
          with_reducible refine wpQuiet_nil ?_
          intro w6 hw_
          have hb6 := h1 _ hw_
          clear h1 h2 hw_
          obtain ⟨hc6, hf6⟩ := bcell hb6
          have z6 := hb6.size
          go_wp2
          go_roundw
          case rel =>
            refine ⟨k + 1, M, S, by omega, by go_num, rfl, hM0, hS0, HMS, ?_, ?_, ?_, ?_, ?_, ?_, ?_⟩
            · exact World.cell?_setCell_same' _ _ _ (by simp [go_sem, *])
            · simp [go_sem, *]
            · simp; omega
            · simp [go_sem, *]
            · simp [go_sem, *]
            · simp [go_sem, *]
            · exact (below_step (below_step hB (by omega) hKX) (by omega) hb6).setCell (by show _ ≤ _; omega) _
          case measure => simp [intOf]; omega
      · have hE : Hid True := trivial
        have wc : IntKind.i64.wrap c = c := IntWalk.i64_in _ (by omega)
        have KT : Hid (∀ X, Below wr.heap.size wr X → X.cell? ⟨b, off + k, none⟩ = some (.int .u16 c) ∧ X.cell? ⟨w2.heap.size, 0, none⟩ = some (.int .i64 M) ∧ Below wr.heap.size wr X) :=
          fun X h => ⟨(h.cell (p := ⟨b, off + k, none⟩) hbr).trans hck, (h.cell (p := ⟨w2.heap.size, 0, none⟩) hsz).trans hcM, h⟩
        go_upto_region 8 with fail
        go_cut [8, 9] (fun s8 s9 wx => ∃ g : Nat, s8 = .pointer (some ⟨g, 0, none⟩) ∧ s9 = .int .i64 0 ∧ wx.cell? ⟨g, 0, none⟩ = some (.int .i64 (M - c)) ∧ wr.heap.size ≤ g ∧ Below wr.heap.size wr wx)
        case first =>
          go_region_held3 (fun w' => w'.cell? ⟨b, off + k, none⟩ = some (.int .u16 c) ∧ w'.cell? ⟨w2.heap.size, 0, none⟩ = some (.int .i64 M) ∧ Below wr.heap.size wr w')
            (first | exact KT.out _ (Below.refl _ _).drew | exact KT.out _ ((Below.refl _ _).alloc (Nat.le_refl _) _).drew | exact KT.out _ (below_step (Below.refl _ _).drew (Nat.le_refl _) hbc) | exact KT.out _ (below_step (((Below.refl _ _).alloc (Nat.le_refl _) _).drew) (by simp) hbc) | exact KT.out _ ((below_step (Below.refl _ _).drew (Nat.le_refl _) hbc).alloc hbc.size _) | exact KT.out _ ((below_step (((Below.refl _ _).alloc (Nat.le_refl _) _).drew) (by simp) hbc).setCell (Nat.le_refl _) _) | exact KT.out _ (((below_step (Below.refl _ _).drew (Nat.le_refl _) hbc).alloc hbc.size _).setCell hbc.size _))
            (first | (go_at_call 8; refine (charge_yes M c (M - c) _ hMc hz0 (by omega) rfl).mono ?_; rintro e w' ⟨rfl, hbc⟩; obtain ⟨hcc, hff⟩ := bcell hbc; have hzc := hbc.size))
          all_goals
            rename_i hHeld
            have hKX := hHeld.2.2
            simp at hzc
            have hzd : wr.heap.size < w'.heap.size ∨ wr.heap.size ≤ w'.heap.size := by omega
            go_wp2_with fail
            go_meet
            refine ⟨_, rfl, rfl, ?_, ?_, hKX⟩
            · first | (simp [go_sem]; done) | (rw [World.cell?_setCell_same' _ _ _ (by rw [hcc _ _ (by simp)]; simp [go_sem])])
            · first | exact Nat.le_refl _ | omega
        case rest =>
          obtain ⟨g, rfl, rfl, hcg, hgr, hKX⟩ := hcut
          obtain ⟨hcX, hfX⟩ := bcell hKX
          have hzX := hKX.size
          have hg' : g < wc.heap.size := World.block_lt_of_cell? wc _ hcg
          have hb' : b < wc.heap.size := by omega
          have hA' : w2.heap.size < wc.heap.size := by omega
          have hw' : w.heap.size < wc.heap.size := by omega
          have hne : ¬ g = w2.heap.size := by omega
          have hne' : ¬ w2.heap.size = g := by omega
          have hne2 : ¬ w.heap.size = w2.heap.size := by omega
          have t2 : decide (M - c < 0) = false := by simp; omega
          go_wp2
          go_roundw
          case rel =>
            refine ⟨k + 1, M - c, S + c, by omega, by go_num, rfl, by omega, by omega, (by show M - c + (S + c) = s; have := HMS.out; omega), ?_, ?_, ?_, ?_, ?_, ?_, ?_⟩
            · exact World.cell?_setCell_same' _ _ _ (by simp [go_sem, *])
            · simp [go_sem, *]
            · simp; omega
            · simp [go_sem, *]
            · simp [go_sem, *]
            · simp [go_sem, *]
            · exact (below_step hB (by omega) hKX).setCell (by show _ ≤ _; omega) _
          case measure => simp [intOf]; omega
    · clear hc1 hf1 hc2 hf2 hc hz
      obtain rfl : k = len := by omega
      have hSs : S ≤ s := by have := HMS.out; omega
      have hMs : wrap64 (mx0 m - M) = S := by rw [HS.out, IntWalk.wrap64_in _ (by have := HMS.out; omega)]; have := HMS.out; omega
      have HR := Lib.hid hMs
      clear hMs
      by_cases hm0 : m < 0
      · have hs0 : s = 0 := by have := HS.out; unfold mx0 at this; rw [if_pos hm0] at this; exact this.symm
        have hS1 : S ≤ 0 := by omega
        clear hs0
        go_wp2_with (go_at_call 14; refine (used_is d m o M S _ HR.out).mono ?_; rintro e w5 ⟨rfl, hb5⟩)
        go_ret
        exact ⟨rfl, below_step hB (by omega) hb5⟩
      · have hs0 : s = m := by have := HS.out; unfold mx0 at this; rw [if_neg hm0] at this; exact this.symm
        have hS1 : S ≤ m := by omega
        clear hs0
        go_wp2_with (go_at_call 14; refine (used_is d m o M S _ HR.out).mono ?_; rintro e w5 ⟨rfl, hb5⟩)

        all_goals go_ret
        all_goals exact ⟨rfl, below_step hB (by omega) hb5⟩
end Go.Proofs.Ytmbecfiajkalcaa

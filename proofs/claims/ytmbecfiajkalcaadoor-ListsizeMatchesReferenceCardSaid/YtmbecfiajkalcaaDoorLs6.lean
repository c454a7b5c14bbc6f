/- What capnpref06.Trim returns: the same as listsize.Trim. Conditions: the element size code is 0 to 5, the count 0 to 2^32, the bytes lie in the slice. -/
import Derived.Test.YtmbecfiajkalcaaDoorLs5
set_option linter.unusedVariables false
set_option linter.unusedSimpArgs false
namespace Go.Proofs.YtmbecfiajkalcaaDoor
open Go.RowKit

/-- The j-th byte that the reference appends. -/
def rT (e c : Int) (xs : List Int) (j : Nat) : Int := if e = 1 ∧ c < 8 * j + 8 then xs.getD j 0 % 2 ^ (c - 8 * j).toNat else xs.getD j 0
def rL (e c : Int) (xs : List Int) (k : Nat) : List Int := (List.range k).map (rT e c xs)
theorem rL_succ (e c : Int) (xs : List Int) (k : Nat) : rL e c xs (k + 1) = rL e c xs k ++ [rT e c xs k] := by simp [rL, List.range_succ]
theorem rL_length (e c : Int) (xs : List Int) (k : Nat) : (rL e c xs k).length = k := by simp [rL]

set_option maxHeartbeats 2000000 in
theorem rtrim_other (e c : Int) (h0 : 0 ≤ e) (h5 : e ≤ 5) (he : ¬ e = 1) (hc0 : 0 ≤ c) (hc1 : c ≤ 4294967296) (b off n cap : Nat) (xs : List Int) (w : World) (hn : n ≤ 140737488355328) (hbw : b < w.heap.size)
    (hc : ∀ j, j < n → w.cell? ⟨b, off + j, none⟩ = some (.int .u8 (xs.getD j 0))) (m : Nat) (hm : (m : Int) = bytesOf e c) (hmn : m ≤ n) :
    Calls Tryd.prog 17 #[.int .i64 e, .int .i64 c, .slice (some ⟨b, off, none⟩) n cap] w fun e' w' => (∃ v, e' = .returned v ∧ w'.ownsRow w.heap.size 5 1 v m (nums .u8 (rL e c xs m))) ∧ Below w.heap.size w w' := by
  have HM := Lib.hid hm
  clear hm
  have he' : (e == 1) = false := by simp [he]
  obtain ⟨i0, hi, hz0, hz1, hz2⟩ := info_parts Tryd.info5
  go_enter Tryd.func17, Tryd.ntmps17
  go_wp2_with fail
  go_loopw [7, 8] (fun v i wr => ∃ k : Nat, k ≤ m ∧ i = .int .i64 k ∧ wr.ownsRow w.heap.size 5 1 v k (nums .u8 (rL e c xs k)) ∧ Below w.heap.size w wr) (fun _ i _ => m - (intOf i).toNat)
  case atStart => exact ⟨0, Nat.zero_le _, rfl, World.ownsRow_nil _ _ _ _, Below.refl _ _⟩
  case round =>
    obtain ⟨k, hk, rfl, hown, hB⟩ := hrel
    go_wp2_with fail
    refine (rbytes_any e c h0 (by omega) hc0 hc1 _).mono ?_
    rintro e' w' ⟨rfl, rfl⟩
    rw [← HM.out]
    by_cases hlt : k < m
    · have h1 : wr.cell? ⟨b, off + k, none⟩ = some (.int .u8 (rT e c xs k)) := by
        rw [show rT e c xs k = xs.getD k 0 from if_neg (fun h => he h.1)]
        exact (hB.cell (p := ⟨b, off + k, none⟩) hbw).trans (hc k (by omega))
      have hk0 : (0 : Int) ≤ (k : Int) := Int.natCast_nonneg _
      have hk1 : (k : Int) < (n : Int) := by omega
      have hrs := rL_succ e c xs k
      have HRS := Lib.hid hrs
      clear hc hrs
      obtain ⟨x, hx⟩ : ∃ x, Hid (rT e c xs k = x) := ⟨_, rfl⟩
      rw [hx.out] at h1
      go_wp2_with (at_builtin; refine wpList_append_own_at _ rfl _ _ 22 rfl w.heap.size 5 i0 (.int .u8 0) 1 1 Tryd.underlying22 hi hz0 hz1 hz2 rfl (by decide) _ _ _ rfl (hown.alloc _) ⟨wr.heap.size, 0, none⟩ 1 1 [.int .u8 x] rfl rfl (cell_one_new _ _ _) (by simp [Value.oneCell']) ?c1 ?c2 ?c3 ?_)
      case c1 => simp only [maxLen]; omega
      case c2 => omega
      case c3 => have := hB.size; simp; omega
      intro v' w1 hown' hg _ _
      go_wp2
      go_roundw
      case rel =>
        refine ⟨k + 1, by omega, by go_num, ?_, (hB.alloc hB.size _).grown hg (by have := hB.size; simp; omega) (own_base hown)⟩
        rw [HRS.out, nums_append, hx.out]
        exact hown'
      case measure => simp [intOf]; omega
    · obtain rfl : k = m := by omega
      go_wp2
      go_ret
      exact ⟨⟨_, rfl, hown⟩, hB⟩

set_option maxHeartbeats 4000000 in
theorem rtrim_bits (c : Int) (hc0 : 0 ≤ c) (hc1 : c ≤ 4294967296) (b off n cap : Nat) (xs : List Int) (w : World) (hn : n ≤ 140737488355328) (hbw : b < w.heap.size) (hx : ∀ j, 0 ≤ xs.getD j 0 ∧ xs.getD j 0 ≤ 255)
    (hc : ∀ j, j < n → w.cell? ⟨b, off + j, none⟩ = some (.int .u8 (xs.getD j 0))) (m : Nat) (hm : (m : Int) = bytesOf 1 c) (hmn : m ≤ n) :
    Calls Tryd.prog 17 #[.int .i64 1, .int .i64 c, .slice (some ⟨b, off, none⟩) n cap] w fun e' w' => (∃ v, e' = .returned v ∧ w'.ownsRow w.heap.size 5 1 v m (nums .u8 (rL 1 c xs m))) ∧ Below w.heap.size w w' := by
  have hmc : 8 * (m : Int) < c + 8 := by simp [bytesOf, bitsOf] at hm; omega
  have hmc' : c ≤ 8 * (m : Int) := by simp [bytesOf, bitsOf] at hm; omega
  have HM := Lib.hid hm
  clear hm
  obtain ⟨i0, hi, hz0, hz1, hz2⟩ := info_parts Tryd.info5
  go_enter Tryd.func17, Tryd.ntmps17
  go_wp2_with fail
  go_loopw [7, 8] (fun v i wr => ∃ k : Nat, k ≤ m ∧ i = .int .i64 k ∧ wr.ownsRow w.heap.size 5 1 v k (nums .u8 (rL 1 c xs k)) ∧ Below w.heap.size w wr) (fun _ i _ => m - (intOf i).toNat)
  case atStart => exact ⟨0, Nat.zero_le _, rfl, World.ownsRow_nil _ _ _ _, Below.refl _ _⟩
  case round =>
    obtain ⟨k, hk, rfl, hown, hB⟩ := hrel
    go_wp2_with fail
    refine (rbytes_any 1 c (by omega) (by omega) hc0 hc1 _).mono ?_
    rintro e' w' ⟨rfl, rfl⟩
    rw [← HM.out]
    by_cases hlt : k < m
    · have h1 : wr.cell? ⟨b, off + k, none⟩ = some (.int .u8 (xs.getD k 0)) := (hB.cell (p := ⟨b, off + k, none⟩) hbw).trans (hc k (by omega))
      have hk0 : (0 : Int) ≤ (k : Int) := Int.natCast_nonneg _
      have hk1 : (k : Int) < (n : Int) := by omega
      have hkb : (k : Int) ≤ 536870912 := by omega
      have HRS := Lib.hid (rL_succ 1 c xs k)
      obtain ⟨y, hy⟩ : ∃ y, Hid (xs.getD k 0 = y) := ⟨_, rfl⟩
      rw [hy.out] at h1
      have hy' := hx k
      rw [hy.out] at hy'
      obtain ⟨hy0, hy1⟩ := hy'
      clear hc hx
      by_cases hlast : c < 8 * (k : Int) + 8
      · obtain ⟨r, hr⟩ : ∃ r : Nat, (r : Int) = c - 8 * k := ⟨(c - 8 * k).toNat, by omega⟩
        have hr7 : r ≤ 7 := by omega
        have HR := Lib.hid hr
        clear hr
        obtain ⟨wo, rfl⟩ : ∃ wo : World, wo = wr := ⟨_, rfl⟩
        go_wp2_with fail
        go_loop [11, 12] (fun mm kk => ∃ (j : Nat) (p : Int), j ≤ r ∧ kk = .int .i64 j ∧ mm = .int .i64 p ∧ Hid (p = 2 ^ j) ∧ 1 ≤ p ∧ p ≤ 128) (fun _ kk => r - (intOf kk).toNat)
        case atStart => exact ⟨0, 1, Nat.zero_le _, rfl, rfl, rfl, by omega, by omega⟩
        case round =>
          obtain ⟨j, p, hj, rfl, rfl, hp, hp0, hp1⟩ := hrel
          have hj0 : (0 : Int) ≤ (j : Int) := Int.natCast_nonneg _
          by_cases hjr : j < r
          · have hj1 : (j : Int) < c - 8 * (k : Int) := by have := HR.out; omega
            have hp2 : p ≤ 64 := by
              have h2 : (2 : Nat) ^ j ≤ 2 ^ 6 := Nat.pow_le_pow_right (by omega) (by omega)
              have h3 := hp.out
              have h4 : ((2 ^ j : Nat) : Int) = (2 : Int) ^ j := by simp
              omega
            go_wp2
            go_round
            case rel => exact ⟨j + 1, p * 2, by omega, by go_num, rfl, by show p * 2 = 2 ^ (j + 1); rw [hp.out, Int.pow_succ], by omega, by omega⟩
            case measure => simp [intOf]; omega
          · obtain rfl : j = r := by omega
            have hj1 : ¬ (j : Int) < c - 8 * (k : Int) := by have := HR.out; omega
            have hm0 : 0 ≤ y % p := Int.emod_nonneg _ (by omega)
            have hm1 : y % p ≤ 255 := by have := Int.emod_lt_of_pos y (show 0 < p by omega); omega
            have hx1 : Hid (rT 1 c xs k = y % p) := by
              show _ = _
              rw [show rT 1 c xs k = xs.getD k 0 % 2 ^ (c - 8 * k).toNat from if_pos ⟨rfl, hlast⟩, hy.out, hp.out]
              rw [show (c - 8 * (k : Int)).toNat = j by have := HR.out; omega]
            obtain ⟨z, hz⟩ : ∃ z, Hid (y % p = z) := ⟨_, rfl⟩
            rw [hz.out] at hm0 hm1 hx1
            have hz' : y % p = z := hz.out
            go_wp2_with (at_builtin; refine wpList_append_own_at _ rfl _ _ 22 rfl w.heap.size 5 i0 (.int .u8 0) 1 1 Tryd.underlying22 hi hz0 hz1 hz2 rfl (by decide) _ _ _ rfl (hown.alloc _) ⟨wo.heap.size, 0, none⟩ 1 1 [.int .u8 z] rfl rfl (cell_one_new _ _ _) (by simp [Value.oneCell']) ?c1 ?c2 ?c3 ?_)
            case c1 => simp only [maxLen]; omega
            case c2 => omega
            case c3 => have := hB.size; simp; omega
            intro v' w1 hown' hg _ _
            go_wp2
            go_roundw
            case rel =>
              refine ⟨k + 1, by omega, by go_num, ?_, (hB.alloc hB.size _).grown hg (by have := hB.size; simp; omega) (own_base hown)⟩
              rw [HRS.out, nums_append, hx1.out]
              exact hown'
            case measure => simp [intOf]; omega
      · have hx1 : Hid (rT 1 c xs k = y) := by show _ = _; rw [show rT 1 c xs k = xs.getD k 0 from if_neg (fun h => hlast h.2)]; exact hy.out
        go_wp2_with (at_builtin; refine wpList_append_own_at _ rfl _ _ 22 rfl w.heap.size 5 i0 (.int .u8 0) 1 1 Tryd.underlying22 hi hz0 hz1 hz2 rfl (by decide) _ _ _ rfl (hown.alloc _) ⟨wr.heap.size, 0, none⟩ 1 1 [.int .u8 y] rfl rfl (cell_one_new _ _ _) (by simp [Value.oneCell']) ?c1 ?c2 ?c3 ?_)
        case c1 => simp only [maxLen]; omega
        case c2 => omega
        case c3 => have := hB.size; simp; omega
        intro v' w1 hown' hg _ _
        go_wp2
        go_roundw
        case rel =>
          refine ⟨k + 1, by omega, by go_num, ?_, (hB.alloc hB.size _).grown hg (by have := hB.size; simp; omega) (own_base hown)⟩
          rw [HRS.out, nums_append, hx1.out]
          exact hown'
        case measure => simp [intOf]; omega
    · obtain rfl : k = m := by omega
      go_wp2
      go_ret
      exact ⟨⟨_, rfl, hown⟩, hB⟩
end Go.Proofs.YtmbecfiajkalcaaDoor

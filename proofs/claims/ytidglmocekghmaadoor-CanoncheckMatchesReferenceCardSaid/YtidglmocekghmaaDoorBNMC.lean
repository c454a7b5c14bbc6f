/- A part of the proof of YtidglmocekghmaaDoorMatchesCard (the texts that it stands on, gathered; declarations that nothing uses are left out). -/
import Derived.Test.YtidglmocekghmaaDoorBNMB
import Derived.Below
import Derived.Deep.Draws
import Derived.Deep.AppendLies
import Derived.Maps.AppendAt
import Derived.OwnWalk
import Derived.Laws.BytesArg
import Derived.Laws.MakeOwn
import Derived.Laws.OwnMore
import Derived.Deep.OwnRows
import Derived.Tactics
import Derived.Lib.ConvBytes
import Derived.Laws.Slices
import Derived.WalkKit
import Derived.KernelRfl
import Derived.RowKit3
import Derived.Deep.LoopGhost
import Derived.Deep.QuietTactic
import Derived.BigQuiet
import Derived.WideLaws
import Derived.Deep.DeepCutAuto
import Derived.Deep.CutBlock
import Derived.Deep.RegionHeld3
import Derived.Laws.Rows
import Derived.Lib.AppendStr
import Derived.ArgAppend
import Derived.Laws.IdiomCopy
import Derived.RowKit
import Derived.OrdersHeld
import Derived.Laws.BitsLemmas
import Derived.Laws.StructEq
import Derived.SizedLaws
import Derived.ChangeSlices
import Derived.Test.YtidglmocekghmaaDoorProg
import Derived.Lib.Hide
import Derived.WalkLawsBesides
import Derived.WalkSpells
import Derived.Outline
import Derived.IntWalk
import Derived.Laws.AppendOwn
import Derived.RangeFuncBox
import Derived.Lib.JoinLaws
import Derived.Defers
import Derived.Recover
import Derived.Laws.Pointers
import Derived.Test.YtidglmocekghmaaDoorCards
import Derived.ProofKit
import Derived.LaidMore
import Derived.LaidHandle
import Derived.Maps.Keyed
import Derived.WideKeyElems2
import Derived.Lib.LaidTab
import Derived.OpenShut
import Derived.Lib.SmallJoins
set_option linter.unusedVariables false
set_option linter.unusedSimpArgs false
section
namespace Go.Proofs.YtidglmocekghmaaDoor.Pr
open Go.RowKit Go.Proofs.YtidglmocekghmaaDoorW.PrintWords Go.Proofs.YtidglmocekghmaaDoorW.PrintLast Go.Proofs.YtidglmocekghmaaDoorW.PrintMore
set_option linter.unusedVariables false
set_option linter.unusedSimpArgs false
set_option maxHeartbeats 4000000 in
theorem list_z2 {W0 w : World} {s : List Int} {cp g nx m : Nat} {D Wd O : Int} {sb so at_ c n : Nat} {off depth ee : Int} (hE : Env W0 s (some ⟨sb, so, none⟩)) (hK : Ck W0 s (some ⟨sb, so, none⟩) cp D Wd O g nx m w) (ha : at_ ≤ 17592186040320) (ho0 : -536870912 ≤ off) (ho1 : off ≤ 536870911) (hc0 : c ≤ 536870911) (hx : nx ≤ s.length) (hm : m ≤ 4611686018427387904) (hcp : s.length ≤ cp) (he0 : 0 ≤ ee) (he7 : ee ≤ 7) (hn7 : ¬ ee = 7) (hn : wordsE ee c = (n : Int)) (hnb : n ≤ 536870912) (h6 : ¬ ee = 6) (hob : objM s at_ off n nx = true) (hch : n ≤ m) (hn0 : n = 0) (hcz : ¬ cp = nx) (hr : restM s ee c nx n = true) :
    Calls Tryd.prog 34 #[.pointer (some ⟨g, 0, none⟩), .int .i64 at_, .int .i64 depth, .agg #[.int .i64 1, .int .i64 off, .int .i64 0, .int .i64 0, .int .i64 ee, .int .i64 c, .bool false, .int .i64 0, .int .u32 0, .int .u32 0]] w fun e w' => (e = .returned (.tuple #[]) ∧ Gr g w w' ∧ Ck W0 s (some ⟨sb, so, none⟩) cp D Wd O g (nx + n) (m - n) w') := by
  have HLEN := Lib.hid hE.len
  have hlen := hE.len
  have t7 : (ee == 7) = false := beq_eq_false_iff_ne.2 hn7
  have HN := Lib.hid hn
  have hTab := hE.tab.below hK.below
  clear hn
  have t6 : (ee == 6) = false := beq_eq_false_iff_ne.2 h6
  have HR := Lib.hid hr
  have HN0 := Lib.hid hn0
  clear hr hn0
  have GK := Lib.hid (Gr.refl g w)
  have CK := Lib.hid hK
  have HE := Lib.hid hE
  clear hE hK
  go_enter Tryd.func34, Tryd.ntmps34
  go_wp2_with fail
  have HTB := Lib.hid hTab
  clear hTab
  have lg : g < w.heap.size := blk_lt CK.out.blk
  refine calls_at (fun wa hW => ?_)
  have hb : Below w.heap.size w wa := by rw [hW]; exact (Below.refl _ _).alloc (Nat.le_refl _) _
  have nB : wa.heap[w.heap.size]? = some (.cells #[.int .i64 1, .int .i64 off, .int .i64 0, .int .i64 0, .int .i64 ee, .int .i64 c, .bool false, .int .i64 0, .int .u32 0, .int .u32 0] 67 (0, 0)) := by rw [hW]; exact heap_alloc_new _ _
  have neB : w.heap.size ≠ g := by omega
  clear hW lg
  replace GK := Lib.hid (GK.out.then hb)
  replace CK := Lib.hid (CK.out.then hb)
  replace HTB := Lib.hid (HTB.out.below hb)
  clear hb
  have B := Lib.hid nB
  clear nB
  refine (Ls.words_any ee c he0 he7 (by omega) (by omega) wa HTB.out).mono ?_
  rintro e wy ⟨rfl, rfl⟩
  rw [show Ls.wordsOf ee (c : Int) = (n : Int) from HN.out]
  have l_B : w.heap.size < wa.heap.size := blk_lt B.out
  have q_B_0 := cq0 ⟨B.out⟩
  have q_B_1 := cq1 ⟨B.out⟩
  have q_B_2 := cq2 ⟨B.out⟩
  have q_B_3 := cq3 ⟨B.out⟩
  have q_B_4 := cq4 ⟨B.out⟩
  have q_B_5 := cq5 ⟨B.out⟩
  have q_B_6 := cq6 ⟨B.out⟩
  have q_B_7 := cq7 ⟨B.out⟩
  have q_B_8 := cq8 ⟨B.out⟩
  have q_B_9 := cq9 ⟨B.out⟩
  go_wp2_with fail
  clear l_B q_B_0 q_B_1 q_B_2 q_B_3 q_B_4 q_B_5 q_B_6 q_B_7 q_B_8 q_B_9
  clear HTB
  refine (object_yes HE.out CK.out ha ⟨ho0, ho1⟩ (by omega) hx hcp hob).mono ?_
  rintro e w1 ⟨rfl, hg, hc⟩
  have gB : Hid (Gr g wa w1) := Lib.hid hg
  replace B := Lib.hid (gB.out.blk B.out neB)
  replace GK := Lib.hid (GK.out.trans gB.out)
  clear gB
  clear CK
  have CK := Lib.hid hc
  clear hg hc
  go_wp2_with fail
  refine (charge_ok HE.out CK.out hch (by omega) (by omega)).mono ?_
  rintro e w2 (⟨q, hq, rfl, hg, hc⟩ | ⟨hq, _⟩)
  rotate_left
  · cases hq
  cases hq
  have gB : Hid (Gr g w1 w2) := Lib.hid hg
  replace B := Lib.hid (gB.out.blk B.out neB)
  replace GK := Lib.hid (GK.out.trans gB.out)
  clear gB
  clear CK
  have CK := Lib.hid hc
  clear hg hc
  have l_B : w.heap.size < w2.heap.size := blk_lt B.out
  have q_B_0 := cq0 ⟨B.out⟩
  have q_B_1 := cq1 ⟨B.out⟩
  have q_B_2 := cq2 ⟨B.out⟩
  have q_B_3 := cq3 ⟨B.out⟩
  have q_B_4 := cq4 ⟨B.out⟩
  have q_B_5 := cq5 ⟨B.out⟩
  have q_B_6 := cq6 ⟨B.out⟩
  have q_B_7 := cq7 ⟨B.out⟩
  have q_B_8 := cq8 ⟨B.out⟩
  have q_B_9 := cq9 ⟨B.out⟩
  have l_K : g < w2.heap.size := blk_lt CK.out.blk
  have q_K_0 := cq0 ⟨CK.out.blk⟩
  have s0_ : (0 : Int) ≤ (nx : Int) := Int.natCast_nonneg _
  have s1_ : (nx : Int) + (n : Int) ≤ (cp : Int) := by have := (objM_in hob).2; omega
  have s2_ : (0 : Int) ≤ (n : Int) := Int.natCast_nonneg _
  go_wp2_with fail
  clear l_B q_B_0 q_B_1 q_B_2 q_B_3 q_B_4 q_B_5 q_B_6 q_B_7 q_B_8 q_B_9 l_K q_K_0 s0_ s1_ s2_
  obtain ⟨X, hX⟩ : ∃ X, (s.drop nx).take n = X := ⟨_, rfl⟩
  have HX := Lib.hid hX
  obtain ⟨N8, h8⟩ : ∃ N, 8 * n = N := ⟨_, rfl⟩
  have H8 := Lib.hid h8
  have hXl : X.length = n := by rw [← hX]; have := (objM_in hob).2; simp; omega
  have HXL := Lib.hid hXl
  have h8b : N8 ≤ 4294967296 := by omega
  have hcw : ∀ j, j < n → w2.cell? ⟨sb, so + nx + j, none⟩ = some (.int .u64 (wd X j)) := fun j hj => by rw [← hX, wd_take hj, Nat.add_assoc]; exact wd_cell HE.out CK.out.below (by have := (objM_in hob).2; omega)
  have hbr := bytesL_range X
  refine (wbytes_at sb (so + nx) n _ X w2 hXl (by omega) (fun j => by rw [← hX]; by_cases hj : j < n; rw [wd_take hj]; exact HE.out.word _; rw [show wd ((s.drop nx).take n) j = 0 by unfold wd; rw [List.getD_eq_getElem?_getD, List.getElem?_eq_none (by simp; omega)]; rfl]; omega) hcw (fun h0 => World.block_lt_of_cell? _ _ (hcw 0 h0))).mono ?_
  rintro e w3 ⟨⟨vb, rfl, hown⟩, hb⟩
  replace GK := Lib.hid (GK.out.then hb)
  replace CK := Lib.hid (CK.out.then hb)
  replace B := Lib.hid (blk_below B.out hb)
  clear hb hcw hXl hX
  rw [H8.out] at hown
  clear h8
  obtain ⟨Ab, cb, rfl, hcb, hAb, hRb, hCb⟩ := own_shape hown hbr
  have HTB := Lib.hid (HE.out.tab.below CK.out.below)
  obtain ⟨k, hk⟩ : ∃ k : Nat, (k : Int) = bytesE ee c := ⟨(bytesE ee c).toNat, by have := (bytesE_bdC he0 (by omega : ee ≤ 5) (by omega : (0 : Int) ≤ (c : Int))).1; omega⟩
  have hk8 : k ≤ N8 := by have h1 := (bytesE_bdC he0 (by omega : ee ≤ 5) (by omega : (0 : Int) ≤ (c : Int))).2; have h2 := HN.out; have h3 := H8.out; omega
  have HKE := Lib.hid hk
  have HRB := Lib.hid hRb
  have HCB := Lib.hid hCb
  have HAB := Lib.hid hAb
  have hcb' : (N8 : Int) ≤ (cb : Int) := by omega
  clear hown hk hRb hCb hAb hcb
  have l_B : w.heap.size < w3.heap.size := blk_lt B.out
  have q_B_0 := cq0 ⟨B.out⟩
  have q_B_1 := cq1 ⟨B.out⟩
  have q_B_2 := cq2 ⟨B.out⟩
  have q_B_3 := cq3 ⟨B.out⟩
  have q_B_4 := cq4 ⟨B.out⟩
  have q_B_5 := cq5 ⟨B.out⟩
  have q_B_6 := cq6 ⟨B.out⟩
  have q_B_7 := cq7 ⟨B.out⟩
  have q_B_8 := cq8 ⟨B.out⟩
  have q_B_9 := cq9 ⟨B.out⟩
  go_wp2_with fail
  clear l_B q_B_0 q_B_1 q_B_2 q_B_3 q_B_4 q_B_5 q_B_6 q_B_7 q_B_8 q_B_9
  refine (Ls.trim_any ee c he0 (by omega) (by omega) (by omega) Ab N8 cb (bytesL X) w3 HTB.out (by omega) HAB.out (by omega) HRB.out k HKE.out hk8).mono ?_
  rintro e w4 ⟨⟨vt, rfl, hown⟩, hb4⟩
  have hRt := R_of_nums hown
  rw [trimE_eq] at hRt
  have HRT := Lib.hid hRt
  have hlt : (trimE ee c (bytesL X)).length = k := by have := hown.1; rw [trimE_eq] at this; simpa [Ls.nums] using this
  have HLT := Lib.hid hlt
  have HB4 := Lib.hid hb4
  clear hown hRt hlt hb4
  go_wp2_with ((with_reducible refine gate_builtin (b := .append) (xs := #[.tmp 56, .tmp 58]) rfl ?_); at_builtin; refine Kd.R_append_zeros (Kd.int .u8) (w0 := w3) w3.heap.size rfl (.tmp 56) (.tmp 58) 34 3 5 (.int .u8 0) 1 rfl Tryd.underlying34 Tryd.underlying3 Ls.Tryd.info5 rfl (by decide) (by omega) vt (trimE ee c (bytesL X)) (0 : Int) (N8 : Int) (fun _ => True) rfl rfl ?aZ (fun _ _ => trivial) ?aO (by omega) ?aB ?aS ?aL ?_; (case aZ => exact rfl); (case aO => exact HRT.out); (case aB => exact HB4.out); (case aS => exact HB4.out.size); (case aL => have := HLT.out; omega); intro v5 w5 ho hb hg hat; have HO5 := Lib.hid ho; have HB5 := Lib.hid hb; clear ho hb hg hat)
  replace GK := Lib.hid (GK.out.then HB5.out)
  replace CK := Lib.hid (CK.out.then HB5.out)
  replace B := Lib.hid (blk_below B.out HB5.out)
  replace HCB := Lib.hid (Kd.C_below HCB.out HB5.out)
  clear HTB HRB HB4 HRT
  obtain ⟨Y, hY⟩ : ∃ Y, (trimE ee c (bytesL X) ++ List.replicate ((N8 : Int)).toNat 0).take N8 = Y := ⟨_, rfl⟩
  have HY := Lib.hid hY
  have hll : (trimE ee c (bytesL X) ++ List.replicate ((N8 : Int)).toNat 0).length = k + N8 := by simp [HLT.out]
  have hYl : Y.length = N8 := by rw [← hY, List.length_take, hll]; omega
  have hYr : ∀ y ∈ Y, 0 ≤ y ∧ y ≤ 255 := by intro y hy; rw [← hY] at hy; have := List.mem_of_mem_take hy; rw [List.mem_append] at this; rcases this with h | h; exact trimE_range hbr y h; rw [List.eq_of_mem_replicate h]; omega
  have hbl : (bytesL X).length = N8 := by rw [bytesL_length, HXL.out]; exact H8.out
  have tE : ((strOfNums Y).toList == (strOfNums (bytesL X)).toList) = true := by rw [str_eq hYr hbr]; have h1 := HR.out; unfold restM at h1; dsimp only at h1; rw [HX.out, hbl] at h1; rw [Int.toNat_natCast] at hY; rw [hY] at h1; simpa using h1
  obtain rfl : N8 = 0 := by have := HN0.out; have := H8.out; omega
  have hYn : Y = [] := by rw [← hY]; rfl
  subst hYn
  clear HAB hY HY
  have HLL := Lib.hid hll
  have HTE := Lib.hid tE
  have HYR := Lib.hid hYr
  have HBB := Lib.hid hbr
  have HBL0 := Lib.hid hbl
  clear hll tE hYr hbr hYl hbl
  rcases R_shape HO5.out with ⟨rfl, h0⟩ | ⟨a5, c5, rfl, h51, h52, hC5⟩ <;> cases Ab
  · have hCY : (Kd.int .u8).C w5 none 0 [] := Kd.C_nil _ _
    clear h0
    have hd0 := Kd.C_string (P := Tryd.prog) (src := 34) (dst := 9) (e := 5) (c := 0) Tryd.underlying34 Tryd.underlying5 Tryd.underlying9 (Kd.C_below hCY ((Below.refl _ _).drew))
    have hd1 := Kd.C_string (P := Tryd.prog) (src := 34) (dst := 9) (e := 5) (c := cb) Tryd.underlying34 Tryd.underlying5 Tryd.underlying9 (Kd.C_below HCB.out ((Below.refl _ _).drew))
    have tE := HTE.out
    clear hCY HO5
    generalize strOfNums [] = sy at tE hd0
    generalize strOfNums (bytesL X) = sx at tE hd1
    refine start_ (n := 9) (S := fun w' => (convert 34 9 (.slice (none) 0 0)).run Tryd.prog w' = .ok (.string sy) w' ∧ (convert 34 9 (.slice (none) 0 cb)).run Tryd.prog w' = .ok (.string sx) w') (ds := []) #[false, false, false, false, false, false, false, false, false] (by kernel_rfl) rfl rfl ⟨hd0, hd1⟩ (fun hHeld => ?_)
    obtain ⟨w3, hwd⟩ : ∃ W, W = w5.drew := ⟨_, rfl⟩
    rw [← hwd] at hHeld ⊢
    have hb : Below w5.heap.size w5 w3 := by rw [hwd]; exact (Below.refl _ _).drew
    clear hwd
    replace GK := Lib.hid (GK.out.then hb)
    replace CK := Lib.hid (CK.out.then hb)
    replace B := Lib.hid (blk_below B.out hb)
    clear hb
    refine pu 0 60 ?_
    refine pu 1 61 ?_
    refine pu 2 62 ?_
    refine pu 3 63 ?_
    refine pu 5 65 ?_
    refine tk2 4 64 hHeld ?_
    refine tk2 6 66 hHeld ?_
    refine pu 7 67 ?_
    refine one_ (i := 8) (N := some 68) #[true, true, true, true, true, true, true, true, true] rfl rfl (by kernel_rfl) (by decide) (fun K hK => ?_)
    refine goes_ Tryd.func19 (by kernel_rfl) rfl #[.bool true] (by rfl) rfl rfl (by simp only [List.map_toArray, List.map_cons, List.map_nil]; rfl) ?_
    with_reducible refine (must_yes _).mono ?_
    rintro e w3 ⟨rfl, rfl⟩
    refine ⟨_, rfl, ?_⟩
    refine hK.out _ _ ⟨hHeld.1, hHeld.2⟩ (fun hHeld => ?_)
    clear hK K
    refine norm_ (a' := ?_) ?_ ?_
    rotate_left
    · show Act.put _ (some 68) _ = _
      simp only [Act.put, List.setIfInBounds_toArray, List.set_cons_zero, List.set_cons_succ, i64_w, i32_w]
      rfl
    refine done_ (by kernel_rfl) ?_
    clear hHeld
    first | go_end0 | (go_wp2; go_end0)
    exact ⟨rfl, GK.out, CK.out⟩
  · rename_i ab
    have hCY : (Kd.int .u8).C w5 none 0 [] := Kd.C_nil _ _
    clear h0
    have hd0 := Kd.C_string (P := Tryd.prog) (src := 34) (dst := 9) (e := 5) (c := 0) Tryd.underlying34 Tryd.underlying5 Tryd.underlying9 (Kd.C_below hCY ((Below.refl _ _).drew))
    have hd1 := Kd.C_string (P := Tryd.prog) (src := 34) (dst := 9) (e := 5) (c := cb) Tryd.underlying34 Tryd.underlying5 Tryd.underlying9 (Kd.C_below HCB.out ((Below.refl _ _).drew))
    have tE := HTE.out
    clear hCY HO5
    generalize strOfNums [] = sy at tE hd0
    generalize strOfNums (bytesL X) = sx at tE hd1
    refine start_ (n := 9) (S := fun w' => (convert 34 9 (.slice (none) 0 0)).run Tryd.prog w' = .ok (.string sy) w' ∧ (convert 34 9 (.slice (some ab) 0 cb)).run Tryd.prog w' = .ok (.string sx) w') (ds := []) #[false, false, false, false, false, false, false, false, false] (by kernel_rfl) rfl rfl ⟨hd0, hd1⟩ (fun hHeld => ?_)
    obtain ⟨w3, hwd⟩ : ∃ W, W = w5.drew := ⟨_, rfl⟩
    rw [← hwd] at hHeld ⊢
    have hb : Below w5.heap.size w5 w3 := by rw [hwd]; exact (Below.refl _ _).drew
    clear hwd
    replace GK := Lib.hid (GK.out.then hb)
    replace CK := Lib.hid (CK.out.then hb)
    replace B := Lib.hid (blk_below B.out hb)
    clear hb
    refine pu 0 60 ?_
    refine pu 1 61 ?_
    refine pu 2 62 ?_
    refine pu 3 63 ?_
    refine pu 5 65 ?_
    refine tk2 4 64 hHeld ?_
    refine tk2 6 66 hHeld ?_
    refine pu 7 67 ?_
    refine one_ (i := 8) (N := some 68) #[true, true, true, true, true, true, true, true, true] rfl rfl (by kernel_rfl) (by decide) (fun K hK => ?_)
    refine goes_ Tryd.func19 (by kernel_rfl) rfl #[.bool true] (by rfl) rfl rfl (by simp only [List.map_toArray, List.map_cons, List.map_nil]; rfl) ?_
    with_reducible refine (must_yes _).mono ?_
    rintro e w3 ⟨rfl, rfl⟩
    refine ⟨_, rfl, ?_⟩
    refine hK.out _ _ ⟨hHeld.1, hHeld.2⟩ (fun hHeld => ?_)
    clear hK K
    refine norm_ (a' := ?_) ?_ ?_
    rotate_left
    · show Act.put _ (some 68) _ = _
      simp only [Act.put, List.setIfInBounds_toArray, List.set_cons_zero, List.set_cons_succ, i64_w, i32_w]
      rfl
    refine done_ (by kernel_rfl) ?_
    clear hHeld
    first | go_end0 | (go_wp2; go_end0)
    exact ⟨rfl, GK.out, CK.out⟩
  · have hCY : (Kd.int .u8).C w5 (some a5) 0 [] := by have := Kd.C_take hC5 (Nat.zero_le _); simpa using this
    rw [HLL.out] at h51 ⊢
    clear h52 hC5
    have hd0 := Kd.C_string (P := Tryd.prog) (src := 34) (dst := 9) (e := 5) (c := c5) Tryd.underlying34 Tryd.underlying5 Tryd.underlying9 (Kd.C_below hCY ((Below.refl _ _).drew))
    have hd1 := Kd.C_string (P := Tryd.prog) (src := 34) (dst := 9) (e := 5) (c := cb) Tryd.underlying34 Tryd.underlying5 Tryd.underlying9 (Kd.C_below HCB.out ((Below.refl _ _).drew))
    have tE := HTE.out
    clear hCY HO5
    have n3_ : (0 : Int) ≤ (c5 : Int) := Int.natCast_nonneg _
    clear h51
    generalize strOfNums [] = sy at tE hd0
    generalize strOfNums (bytesL X) = sx at tE hd1
    refine start_ (n := 9) (S := fun w' => (convert 34 9 (.slice (some a5) 0 c5)).run Tryd.prog w' = .ok (.string sy) w' ∧ (convert 34 9 (.slice (none) 0 cb)).run Tryd.prog w' = .ok (.string sx) w') (ds := []) #[false, false, false, false, false, false, false, false, false] (by kernel_rfl) rfl rfl ⟨hd0, hd1⟩ (fun hHeld => ?_)
    obtain ⟨w3, hwd⟩ : ∃ W, W = w5.drew := ⟨_, rfl⟩
    rw [← hwd] at hHeld ⊢
    have hb : Below w5.heap.size w5 w3 := by rw [hwd]; exact (Below.refl _ _).drew
    clear hwd
    replace GK := Lib.hid (GK.out.then hb)
    replace CK := Lib.hid (CK.out.then hb)
    replace B := Lib.hid (blk_below B.out hb)
    clear hb
    refine pu 0 60 ?_
    refine pu 1 61 ?_
    refine pu 2 62 ?_
    refine pu 3 63 ?_
    refine pu 5 65 ?_
    refine tk2 4 64 hHeld ?_
    refine tk2 6 66 hHeld ?_
    refine pu 7 67 ?_
    refine one_ (i := 8) (N := some 68) #[true, true, true, true, true, true, true, true, true] rfl rfl (by kernel_rfl) (by decide) (fun K hK => ?_)
    refine goes_ Tryd.func19 (by kernel_rfl) rfl #[.bool true] (by rfl) rfl rfl (by simp only [List.map_toArray, List.map_cons, List.map_nil]; rfl) ?_
    with_reducible refine (must_yes _).mono ?_
    rintro e w3 ⟨rfl, rfl⟩
    refine ⟨_, rfl, ?_⟩
    refine hK.out _ _ ⟨hHeld.1, hHeld.2⟩ (fun hHeld => ?_)
    clear hK K
    refine norm_ (a' := ?_) ?_ ?_
    rotate_left
    · show Act.put _ (some 68) _ = _
      simp only [Act.put, List.setIfInBounds_toArray, List.set_cons_zero, List.set_cons_succ, i64_w, i32_w]
      rfl
    refine done_ (by kernel_rfl) ?_
    clear hHeld
    first | go_end0 | (go_wp2; go_end0)
    exact ⟨rfl, GK.out, CK.out⟩
  · rename_i ab
    have hCY : (Kd.int .u8).C w5 (some a5) 0 [] := by have := Kd.C_take hC5 (Nat.zero_le _); simpa using this
    rw [HLL.out] at h51 ⊢
    clear h52 hC5
    have hd0 := Kd.C_string (P := Tryd.prog) (src := 34) (dst := 9) (e := 5) (c := c5) Tryd.underlying34 Tryd.underlying5 Tryd.underlying9 (Kd.C_below hCY ((Below.refl _ _).drew))
    have hd1 := Kd.C_string (P := Tryd.prog) (src := 34) (dst := 9) (e := 5) (c := cb) Tryd.underlying34 Tryd.underlying5 Tryd.underlying9 (Kd.C_below HCB.out ((Below.refl _ _).drew))
    have tE := HTE.out
    clear hCY HO5
    have n3_ : (0 : Int) ≤ (c5 : Int) := Int.natCast_nonneg _
    clear h51
    generalize strOfNums [] = sy at tE hd0
    generalize strOfNums (bytesL X) = sx at tE hd1
    refine start_ (n := 9) (S := fun w' => (convert 34 9 (.slice (some a5) 0 c5)).run Tryd.prog w' = .ok (.string sy) w' ∧ (convert 34 9 (.slice (some ab) 0 cb)).run Tryd.prog w' = .ok (.string sx) w') (ds := []) #[false, false, false, false, false, false, false, false, false] (by kernel_rfl) rfl rfl ⟨hd0, hd1⟩ (fun hHeld => ?_)
    obtain ⟨w3, hwd⟩ : ∃ W, W = w5.drew := ⟨_, rfl⟩
    rw [← hwd] at hHeld ⊢
    have hb : Below w5.heap.size w5 w3 := by rw [hwd]; exact (Below.refl _ _).drew
    clear hwd
    replace GK := Lib.hid (GK.out.then hb)
    replace CK := Lib.hid (CK.out.then hb)
    replace B := Lib.hid (blk_below B.out hb)
    clear hb
    refine pu 0 60 ?_
    refine pu 1 61 ?_
    refine pu 2 62 ?_
    refine pu 3 63 ?_
    refine pu 5 65 ?_
    refine tk2 4 64 hHeld ?_
    refine tk2 6 66 hHeld ?_
    refine pu 7 67 ?_
    refine one_ (i := 8) (N := some 68) #[true, true, true, true, true, true, true, true, true] rfl rfl (by kernel_rfl) (by decide) (fun K hK => ?_)
    refine goes_ Tryd.func19 (by kernel_rfl) rfl #[.bool true] (by rfl) rfl rfl (by simp only [List.map_toArray, List.map_cons, List.map_nil]; rfl) ?_
    with_reducible refine (must_yes _).mono ?_
    rintro e w3 ⟨rfl, rfl⟩
    refine ⟨_, rfl, ?_⟩
    refine hK.out _ _ ⟨hHeld.1, hHeld.2⟩ (fun hHeld => ?_)
    clear hK K
    refine norm_ (a' := ?_) ?_ ?_
    rotate_left
    · show Act.put _ (some 68) _ = _
      simp only [Act.put, List.setIfInBounds_toArray, List.set_cons_zero, List.set_cons_succ, i64_w, i32_w]
      rfl
    refine done_ (by kernel_rfl) ?_
    clear hHeld
    first | go_end0 | (go_wp2; go_end0)
    exact ⟨rfl, GK.out, CK.out⟩
end Go.Proofs.YtidglmocekghmaaDoor.Pr
end
section
namespace Go.Proofs.YtidglmocekghmaaDoor.Pr
open Go.RowKit Go.Proofs.YtidglmocekghmaaDoorW.PrintWords Go.Proofs.YtidglmocekghmaaDoorW.PrintLast Go.Proofs.YtidglmocekghmaaDoorW.PrintMore
set_option linter.unusedVariables false
set_option linter.unusedSimpArgs false
set_option maxHeartbeats 4000000 in
theorem list_7 {W0 w : World} {s : List Int} {cp g nx m : Nat} {D Wd O : Int} {sb so at_ : Nat} {depth : Int} {w0 : Int} (hE : Env W0 s (some ⟨sb, so, none⟩)) (hK : Ck W0 s (some ⟨sb, so, none⟩) cp D Wd O g nx m w) (ha : at_ ≤ 17592186040320) (hx : nx ≤ s.length) (hm : m ≤ 4611686018427387904) (hcp : s.length ≤ cp) {v : Nat → Nat → Nat → Option (Nat × Nat)} (hv : InM s v) (hd0_ : 0 ≤ depth) (hd1_ : depth ≤ 1000000) (hV : VisC W0 s (some ⟨sb, so, none⟩) cp D Wd O g v (depth + 1))  :
    Calls Tryd.prog 34 #[.pointer (some ⟨g, 0, none⟩), .int .i64 at_, .int .i64 depth, .agg #[.int .i64 1, .int .i64 (offW w0), .int .i64 0, .int .i64 0, .int .i64 7, .int .i64 (cntW w0), .bool false, .int .i64 0, .int .u32 0, .int .u32 0]] w fun e w' => EndM W0 s (some ⟨sb, so, none⟩) cp D Wd O g w (compM s v at_ w0 nx m) e w' := by
  have HLEN := Lib.hid hE.len
  have hlen := hE.len
  have HI := Lib.hid hv
  have HV := Lib.hid hV
  clear hv hV
  have GK := Lib.hid (Gr.refl g w)
  have CK := Lib.hid hK
  have HE := Lib.hid hE
  clear hE hK
  go_enter Tryd.func34, Tryd.ntmps34
  go_wp2_with fail
  have lg : g < w.heap.size := blk_lt CK.out.blk
  refine calls_at (fun wa hW => ?_)
  have hb : Below w.heap.size w wa := by rw [hW]; exact (Below.refl _ _).alloc (Nat.le_refl _) _
  have nB : wa.heap[w.heap.size]? = some (.cells #[.int .i64 1, .int .i64 (offW w0), .int .i64 0, .int .i64 0, .int .i64 7, .int .i64 (cntW w0), .bool false, .int .i64 0, .int .u32 0, .int .u32 0] 67 (0, 0)) := by rw [hW]; exact heap_alloc_new _ _
  have neB : w.heap.size ≠ g := by omega
  clear hW lg
  replace GK := Lib.hid (GK.out.then hb)
  replace CK := Lib.hid (CK.out.then hb)
  clear hb
  have B := Lib.hid nB
  clear nB
  have hC := composite_any HE.out CK.out w0 ha hx hm hcp HI.out hd0_ hd1_ HV.out
  unfold aggP at hC
  refine hC.mono ?_
  clear hC
  rintro e w9 (⟨q, hq, rfl, hg, hc⟩ | ⟨hq, rfl, hg⟩)
  · have hg' := GK.out.trans hg
    have HQ := Lib.hid hq
    clear hq hg
    go_wp2
    refine bodyPost_ret (results_none rfl _ _ _) rfl ?_
    exact .inl ⟨q, HQ.out, rfl, hg', hc⟩
  · have hg' := GK.out.trans hg
    have HQ := Lib.hid hq
    clear hq hg
    go_wp2
    exact ⟨rfl, .inr ⟨HQ.out, rfl, hg'⟩⟩
theorem list_any {W0 w : World} {s : List Int} {cp g nx m : Nat} {D Wd O : Int} {sb so at_ : Nat} {depth : Int} (hE : Env W0 s (some ⟨sb, so, none⟩)) (hK : Ck W0 s (some ⟨sb, so, none⟩) cp D Wd O g nx m w) (w0 : Int)
    (ha : at_ ≤ 17592186040320) (hx : nx ≤ s.length) (hm : m ≤ 4611686018427387904) (hcp : s.length ≤ cp) {v : Nat → Nat → Nat → Option (Nat × Nat)} (hv : InM s v) (hd0_ : 0 ≤ depth) (hd1_ : depth ≤ 1000000) (hV : VisC W0 s (some ⟨sb, so, none⟩) cp D Wd O g v (depth + 1)) :
    Calls Tryd.prog 34 #[.pointer (some ⟨g, 0, none⟩), .int .i64 at_, .int .i64 depth, aggP 1 (offW w0) 0 0 (elemW w0) (cntW w0) false 0 0 0] w fun e w' => EndM W0 s (some ⟨sb, so, none⟩) cp D Wd O g w (listM s v at_ w0 nx m) e w' := by
  have ho := offW_bd w0
  have hcb := cntW_bd w0
  have heb := elemW_bd w0
  unfold listM aggP
  by_cases h7 : elemW w0 = 7
  · rw [if_pos h7, h7]
    exact list_7 hE hK ha hx hm hcp hv hd0_ hd1_ hV
  · rw [if_neg h7]
    obtain ⟨c, hc'⟩ : ∃ c : Nat, cntW w0 = (c : Int) := ⟨(cntW w0).toNat, by omega⟩
    rw [hc'] at hcb ⊢
    generalize offW w0 = off at ho ⊢
    generalize elemW w0 = ee at h7 heb ⊢
    have hwb := wordsE_bdC (c := (c : Int)) heb.1 heb.2 (by omega)
    obtain ⟨n, hn⟩ : ∃ n : Nat, wordsE ee (c : Int) = (n : Int) := ⟨(wordsE ee c).toNat, by omega⟩
    dsimp only
    rw [hn, Int.toNat_natCast]
    have hc0 : c ≤ 536870911 := by omega
    have hnb : n ≤ 536870912 := by omega
    have bad : ∀ {r : Option (Nat × Nat)}, r = none → (Calls Tryd.prog 34 #[.pointer (some ⟨g, 0, none⟩), .int .i64 at_, .int .i64 depth, .agg #[.int .i64 1, .int .i64 off, .int .i64 0, .int .i64 0, .int .i64 ee, .int .i64 c, .bool false, .int .i64 0, .int .u32 0, .int .u32 0]] w fun e w' => e = .panicked [{ v := .iface 47 (.agg #[]), recovered := false }] ∧ Gr g w w') →
        Calls Tryd.prog 34 #[.pointer (some ⟨g, 0, none⟩), .int .i64 at_, .int .i64 depth, .agg #[.int .i64 1, .int .i64 off, .int .i64 0, .int .i64 0, .int .i64 ee, .int .i64 c, .bool false, .int .i64 0, .int .u32 0, .int .u32 0]] w fun e w' => EndM W0 s (some ⟨sb, so, none⟩) cp D Wd O g w r e w' :=
      fun hr h => h.mono fun e w' ⟨a, b⟩ => .inr ⟨hr, a, b⟩
    by_cases hob : objM s at_ off n nx = true
    · rw [if_pos hob]
      by_cases hch : n ≤ m
      · rw [if_pos hch]
        by_cases h6 : ee = 6
        · rw [if_pos h6]
          exact list_3 hE hK ha ho.1 ho.2 hc0 hx hm hcp heb.1 heb.2 h7 hn hnb hv hd0_ hd1_ hV h6 hob hch
        · rw [if_neg h6]
          by_cases hn0 : n = 0
          · have hr : restM s ee c nx n = true := by unfold restM; rw [hn0]; simp [bytesL]
            rw [if_pos hr]
            by_cases hcz : cp = nx
            · exact (list_z1 hE hK ha ho.1 ho.2 hc0 hx hm hcp heb.1 heb.2 h7 hn hnb h6 hob hch hn0 hcz hr).mono fun e w' ⟨a, b, c⟩ => .inl ⟨_, rfl, a, b, c⟩
            · exact (list_z2 hE hK ha ho.1 ho.2 hc0 hx hm hcp heb.1 heb.2 h7 hn hnb h6 hob hch hn0 hcz hr).mono fun e w' ⟨a, b, c⟩ => .inl ⟨_, rfl, a, b, c⟩
          · by_cases hr : restM s ee c nx n = true
            · rw [if_pos hr]
              exact (list_t hE hK ha ho.1 ho.2 hc0 hx hm hcp heb.1 heb.2 h7 hn hnb h6 hob hch (by omega) hr).mono fun e w' ⟨a, b, c⟩ => .inl ⟨_, rfl, a, b, c⟩
            · rw [if_neg hr]
              exact bad rfl (list_b hE hK ha ho.1 ho.2 hc0 hx hm hcp heb.1 heb.2 h7 hn hnb h6 hob hch (by omega) hr)
      · rw [if_neg hch]
        exact bad rfl (list_2 hE hK ha ho.1 ho.2 hc0 hx hm hcp heb.1 heb.2 h7 hn hnb hob hch)
    · rw [if_neg hob]
      exact bad rfl (list_1 hE hK ha ho.1 ho.2 hc0 hx hm hcp heb.1 heb.2 h7 hn hnb hob)
end Go.Proofs.YtidglmocekghmaaDoor.Pr
end
section
namespace Go.Proofs.YtidglmocekghmaaDoor.Pr
open Go.RowKit Go.Proofs.YtidglmocekghmaaDoorW.PrintWords Go.Proofs.YtidglmocekghmaaDoorW.PrintLast Go.Proofs.YtidglmocekghmaaDoorW.PrintMore
set_option linter.unusedVariables false
set_option linter.unusedSimpArgs false
theorem isnull_any (x : Int) (b : Bool) (w : World) (h : (x == 0) = b) : Calls Tryd.prog 30 #[.int .u64 x] w fun e w' => e = .returned (.bool b) ∧ w = w' := by
  go_enter Tryd.func30, Tryd.ntmps30
  go_wp2
  go_ret
  exact ⟨rfl, rfl⟩
theorem enter_any (D Wd O depth r : Int) (w : World) (h : (if D < depth then (7 : Int) else 0) = r) : Calls Tryd.prog 31 #[.agg #[.int .i64 D, .int .i64 Wd, .int .i64 O], .int .i64 depth] w fun e w' => e = .returned (.int .i64 r) ∧ Below w.heap.size w w' := by
  refine budget_Enter.calls D Wd O depth r w ?_
  unfold budget_Enter.f
  rw [← h]
  by_cases h : D < depth
  · rw [if_pos h, if_pos h]
  · rw [if_neg h, if_neg h]
set_option maxHeartbeats 4000000 in
theorem visit_0 {W0 w : World} {s : List Int} {cp g nx m : Nat} {D Wd O : Int} {sb so a : Nat} {depth x : Int} (hE : Env W0 s (some ⟨sb, so, none⟩)) (hK : Ck W0 s (some ⟨sb, so, none⟩) cp D Wd O g nx m w) (ha : a < s.length) (hx : nx ≤ s.length) (hm : m ≤ 4611686018427387904) (hcp : s.length ≤ cp) (hwx : wd s a = x) (hz : x = 0) :
    Calls Tryd.prog 21 #[.pointer (some ⟨g, 0, none⟩), .int .i64 a, .int .i64 depth] w fun e w' => (e = .returned (.tuple #[]) ∧ Gr g w w' ∧ Ck W0 s (some ⟨sb, so, none⟩) cp D Wd O g nx m w') := by
  have HLEN := Lib.hid hE.len
  have hlen := hE.len
  have HWX := Lib.hid hwx
  clear hwx
  have HZ := Lib.hid hz
  clear hz
  have GK := Lib.hid (Gr.refl g w)
  have CK := Lib.hid hK
  have HE := Lib.hid hE
  clear hE hK
  go_enter Tryd.func21, Tryd.ntmps21
  have hwc := wd_cell HE.out CK.out.below ha
  rw [HWX.out] at hwc
  have hxr := HE.out.word a
  rw [HWX.out] at hxr
  obtain ⟨hx0, hx1⟩ := hxr
  have a0_ : (0 : Int) ≤ (a : Int) := Int.natCast_nonneg _
  have a1_ : (a : Int) < (s.length : Int) := by omega
  have l_K : g < w.heap.size := blk_lt CK.out.blk
  have q_K_0 : w.cell? ⟨g, 0, none⟩ = some (.slice (some ⟨sb, so, none⟩) s.length cp) := (blk_cell CK.out.blk 0).trans rfl
  go_wp2_with fail
  clear hwc a0_ a1_ l_K q_K_0
  refine (isnull_any x true w (beq_iff_eq.2 HZ.out)).mono ?_
  rintro e wy ⟨rfl, rfl⟩
  go_wp2
  refine bodyPost_ret (results_none rfl _ _ _) rfl ?_
  exact ⟨rfl, GK.out, CK.out⟩
set_option maxHeartbeats 4000000 in
theorem visit_1 {W0 w : World} {s : List Int} {cp g nx m : Nat} {D Wd O : Int} {sb so a : Nat} {depth x : Int} (hE : Env W0 s (some ⟨sb, so, none⟩)) (hK : Ck W0 s (some ⟨sb, so, none⟩) cp D Wd O g nx m w) (ha : a < s.length) (hx : nx ≤ s.length) (hm : m ≤ 4611686018427387904) (hcp : s.length ≤ cp) (hwx : wd s a = x) (hz : ¬ x = 0) (hd : D < depth) :
    Calls Tryd.prog 21 #[.pointer (some ⟨g, 0, none⟩), .int .i64 a, .int .i64 depth] w fun e w' => e = .panicked [{ v := .iface 47 (.agg #[]), recovered := false }] ∧ Gr g w w' := by
  have HLEN := Lib.hid hE.len
  have hlen := hE.len
  have HWX := Lib.hid hwx
  clear hwx
  have HZ := Lib.hid hz
  have HD := Lib.hid hd
  clear hz hd
  have GK := Lib.hid (Gr.refl g w)
  have CK := Lib.hid hK
  have HE := Lib.hid hE
  clear hE hK
  go_enter Tryd.func21, Tryd.ntmps21
  have hwc := wd_cell HE.out CK.out.below ha
  rw [HWX.out] at hwc
  have hxr := HE.out.word a
  rw [HWX.out] at hxr
  obtain ⟨hx0, hx1⟩ := hxr
  have a0_ : (0 : Int) ≤ (a : Int) := Int.natCast_nonneg _
  have a1_ : (a : Int) < (s.length : Int) := by omega
  have l_K : g < w.heap.size := blk_lt CK.out.blk
  have q_K_0 : w.cell? ⟨g, 0, none⟩ = some (.slice (some ⟨sb, so, none⟩) s.length cp) := (blk_cell CK.out.blk 0).trans rfl
  go_wp2_with fail
  clear hwc a0_ a1_ l_K q_K_0
  refine (isnull_any x false w (beq_eq_false_iff_ne.2 HZ.out)).mono ?_
  rintro e wy ⟨rfl, rfl⟩
  have l_K : g < w.heap.size := blk_lt CK.out.blk
  have q_K_2 : w.cell? ⟨g, 2, none⟩ = some (.int .i64 D) := (blk_cell CK.out.blk 2).trans rfl
  have q_K_3 : w.cell? ⟨g, 3, none⟩ = some (.int .i64 Wd) := (blk_cell CK.out.blk 3).trans rfl
  have q_K_4 : w.cell? ⟨g, 4, none⟩ = some (.int .i64 O) := (blk_cell CK.out.blk 4).trans rfl
  go_wp2_with fail
  clear l_K q_K_2 q_K_3 q_K_4
  refine (enter_any D Wd O depth 7 _ (if_pos HD.out)).mono ?_
  rintro e w1 ⟨rfl, hb⟩
  replace GK := Lib.hid (GK.out.then hb)
  replace CK := Lib.hid (CK.out.then hb)
  clear hb
  have t1_ : True := trivial
  go_wp2_with fail
  refine (must_no _).mono ?_
  rintro e wy ⟨rfl, rfl⟩
  go_wp2
  exact ⟨rfl, rfl, GK.out⟩
set_option maxHeartbeats 4000000 in
theorem visit_2 {W0 w : World} {s : List Int} {cp g nx m : Nat} {D Wd O : Int} {sb so a : Nat} {depth x : Int} (hE : Env W0 s (some ⟨sb, so, none⟩)) (hK : Ck W0 s (some ⟨sb, so, none⟩) cp D Wd O g nx m w) (ha : a < s.length) (hx : nx ≤ s.length) (hm : m ≤ 4611686018427387904) (hcp : s.length ≤ cp) (hwx : wd s a = x) {v : Nat → Nat → Nat → Option (Nat × Nat)} (hv : InM s v) (hd0_ : 0 ≤ depth) (hd1_ : depth ≤ 1000000) (hV : VisC W0 s (some ⟨sb, so, none⟩) cp D Wd O g v (depth + 1)) (hz : ¬ x = 0) (hd : ¬ D < depth) (hkd : kindW x = 0) :
    Calls Tryd.prog 21 #[.pointer (some ⟨g, 0, none⟩), .int .i64 a, .int .i64 depth] w fun e w' => EndM W0 s (some ⟨sb, so, none⟩) cp D Wd O g w (structM s v a x nx m) e w' := by
  have HLEN := Lib.hid hE.len
  have hlen := hE.len
  have HWX := Lib.hid hwx
  clear hwx
  have HZ := Lib.hid hz
  have HD := Lib.hid hd
  clear hz hd
  have HI := Lib.hid hv
  have HV := Lib.hid hV
  clear hv hV
  have HKD := Lib.hid hkd
  clear hkd
  have GK := Lib.hid (Gr.refl g w)
  have CK := Lib.hid hK
  have HE := Lib.hid hE
  clear hE hK
  go_enter Tryd.func21, Tryd.ntmps21
  have hwc := wd_cell HE.out CK.out.below ha
  rw [HWX.out] at hwc
  have hxr := HE.out.word a
  rw [HWX.out] at hxr
  obtain ⟨hx0, hx1⟩ := hxr
  have a0_ : (0 : Int) ≤ (a : Int) := Int.natCast_nonneg _
  have a1_ : (a : Int) < (s.length : Int) := by omega
  have l_K : g < w.heap.size := blk_lt CK.out.blk
  have q_K_0 : w.cell? ⟨g, 0, none⟩ = some (.slice (some ⟨sb, so, none⟩) s.length cp) := (blk_cell CK.out.blk 0).trans rfl
  go_wp2_with fail
  clear hwc a0_ a1_ l_K q_K_0
  refine (isnull_any x false w (beq_eq_false_iff_ne.2 HZ.out)).mono ?_
  rintro e wy ⟨rfl, rfl⟩
  have l_K : g < w.heap.size := blk_lt CK.out.blk
  have q_K_2 : w.cell? ⟨g, 2, none⟩ = some (.int .i64 D) := (blk_cell CK.out.blk 2).trans rfl
  have q_K_3 : w.cell? ⟨g, 3, none⟩ = some (.int .i64 Wd) := (blk_cell CK.out.blk 3).trans rfl
  have q_K_4 : w.cell? ⟨g, 4, none⟩ = some (.int .i64 O) := (blk_cell CK.out.blk 4).trans rfl
  go_wp2_with fail
  clear l_K q_K_2 q_K_3 q_K_4
  refine (enter_any D Wd O depth 0 _ (if_neg (by have := HD.out; omega))).mono ?_
  rintro e w1 ⟨rfl, hb⟩
  replace GK := Lib.hid (GK.out.then hb)
  replace CK := Lib.hid (CK.out.then hb)
  clear hb
  have t1_ : True := trivial
  go_wp2_with fail
  refine (must_yes _).mono ?_
  rintro e wy ⟨rfl, rfl⟩
  go_wp2_with fail
  refine (decode_any x w1 hx0 hx1 (HE.out.dec.below CK.out.below)).mono ?_
  rw [show decV x = .agg #[.int .i64 0, .int .i64 (offW x), .int .i64 (dataW x), .int .i64 (ptrsW x), .int .i64 0, .int .i64 0, .bool false, .int .i64 0, .int .u32 0, .int .u32 0] by unfold decV aggP; rw [if_pos HKD.out]]
  rintro e w2 ⟨rfl, hb⟩
  replace GK := Lib.hid (GK.out.then hb)
  replace CK := Lib.hid (CK.out.then hb)
  clear hb
  go_wp2_with fail
  refine calls_at (fun wz hW => ?_)
  have hb : Below w2.heap.size w2 wz := by rw [hW]; exact (Below.refl _ _).alloc (Nat.le_refl _) _
  clear hW
  replace GK := Lib.hid (GK.out.then hb)
  replace CK := Lib.hid (CK.out.then hb)
  clear hb
  have hC := structure_any (at_ := a) HE.out CK.out x (by have := HLEN.out; omega) hx hm hcp HI.out hd0_ hd1_ HV.out
  unfold aggP at hC
  refine hC.mono ?_
  clear hC
  rintro e w9 (⟨q, hq, rfl, hg, hc⟩ | ⟨hq, rfl, hg⟩)
  · have hg' := GK.out.trans hg
    have HQ := Lib.hid hq
    clear hq hg
    go_wp2
    first | go_end0 | refine bodyPost_ret (results_none rfl _ _ _) rfl ?_
    exact .inl ⟨q, HQ.out, rfl, hg', hc⟩
  · have hg' := GK.out.trans hg
    have HQ := Lib.hid hq
    clear hq hg
    go_wp2
    exact ⟨rfl, .inr ⟨HQ.out, rfl, hg'⟩⟩
set_option maxHeartbeats 4000000 in
theorem visit_3 {W0 w : World} {s : List Int} {cp g nx m : Nat} {D Wd O : Int} {sb so a : Nat} {depth x : Int} (hE : Env W0 s (some ⟨sb, so, none⟩)) (hK : Ck W0 s (some ⟨sb, so, none⟩) cp D Wd O g nx m w) (ha : a < s.length) (hx : nx ≤ s.length) (hm : m ≤ 4611686018427387904) (hcp : s.length ≤ cp) (hwx : wd s a = x) {v : Nat → Nat → Nat → Option (Nat × Nat)} (hv : InM s v) (hd0_ : 0 ≤ depth) (hd1_ : depth ≤ 1000000) (hV : VisC W0 s (some ⟨sb, so, none⟩) cp D Wd O g v (depth + 1)) (hz : ¬ x = 0) (hd : ¬ D < depth) (hkd : kindW x = 1) :
    Calls Tryd.prog 21 #[.pointer (some ⟨g, 0, none⟩), .int .i64 a, .int .i64 depth] w fun e w' => EndM W0 s (some ⟨sb, so, none⟩) cp D Wd O g w (listM s v a x nx m) e w' := by
  have HLEN := Lib.hid hE.len
  have hlen := hE.len
  have HWX := Lib.hid hwx
  clear hwx
  have HZ := Lib.hid hz
  have HD := Lib.hid hd
  clear hz hd
  have HI := Lib.hid hv
  have HV := Lib.hid hV
  clear hv hV
  have HKD := Lib.hid hkd
  clear hkd
  have GK := Lib.hid (Gr.refl g w)
  have CK := Lib.hid hK
  have HE := Lib.hid hE
  clear hE hK
  go_enter Tryd.func21, Tryd.ntmps21
  have hwc := wd_cell HE.out CK.out.below ha
  rw [HWX.out] at hwc
  have hxr := HE.out.word a
  rw [HWX.out] at hxr
  obtain ⟨hx0, hx1⟩ := hxr
  have a0_ : (0 : Int) ≤ (a : Int) := Int.natCast_nonneg _
  have a1_ : (a : Int) < (s.length : Int) := by omega
  have l_K : g < w.heap.size := blk_lt CK.out.blk
  have q_K_0 : w.cell? ⟨g, 0, none⟩ = some (.slice (some ⟨sb, so, none⟩) s.length cp) := (blk_cell CK.out.blk 0).trans rfl
  go_wp2_with fail
  clear hwc a0_ a1_ l_K q_K_0
  refine (isnull_any x false w (beq_eq_false_iff_ne.2 HZ.out)).mono ?_
  rintro e wy ⟨rfl, rfl⟩
  have l_K : g < w.heap.size := blk_lt CK.out.blk
  have q_K_2 : w.cell? ⟨g, 2, none⟩ = some (.int .i64 D) := (blk_cell CK.out.blk 2).trans rfl
  have q_K_3 : w.cell? ⟨g, 3, none⟩ = some (.int .i64 Wd) := (blk_cell CK.out.blk 3).trans rfl
  have q_K_4 : w.cell? ⟨g, 4, none⟩ = some (.int .i64 O) := (blk_cell CK.out.blk 4).trans rfl
  go_wp2_with fail
  clear l_K q_K_2 q_K_3 q_K_4
  refine (enter_any D Wd O depth 0 _ (if_neg (by have := HD.out; omega))).mono ?_
  rintro e w1 ⟨rfl, hb⟩
  replace GK := Lib.hid (GK.out.then hb)
  replace CK := Lib.hid (CK.out.then hb)
  clear hb
  have t1_ : True := trivial
  go_wp2_with fail
  refine (must_yes _).mono ?_
  rintro e wy ⟨rfl, rfl⟩
  go_wp2_with fail
  refine (decode_any x w1 hx0 hx1 (HE.out.dec.below CK.out.below)).mono ?_
  rw [show decV x = .agg #[.int .i64 1, .int .i64 (offW x), .int .i64 0, .int .i64 0, .int .i64 (elemW x), .int .i64 (cntW x), .bool false, .int .i64 0, .int .u32 0, .int .u32 0] by unfold decV aggP; rw [if_neg (by rw [HKD.out]; decide), if_pos HKD.out]]
  rintro e w2 ⟨rfl, hb⟩
  replace GK := Lib.hid (GK.out.then hb)
  replace CK := Lib.hid (CK.out.then hb)
  clear hb
  go_wp2_with fail
  refine calls_at (fun wz hW => ?_)
  have hb : Below w2.heap.size w2 wz := by rw [hW]; exact (Below.refl _ _).alloc (Nat.le_refl _) _
  clear hW
  replace GK := Lib.hid (GK.out.then hb)
  replace CK := Lib.hid (CK.out.then hb)
  clear hb
  have hC := list_any (at_ := a) HE.out CK.out x (by have := HLEN.out; omega) hx hm hcp HI.out hd0_ hd1_ HV.out
  unfold aggP at hC
  refine hC.mono ?_
  clear hC
  rintro e w9 (⟨q, hq, rfl, hg, hc⟩ | ⟨hq, rfl, hg⟩)
  · have hg' := GK.out.trans hg
    have HQ := Lib.hid hq
    clear hq hg
    go_wp2
    first | go_end0 | refine bodyPost_ret (results_none rfl _ _ _) rfl ?_
    exact .inl ⟨q, HQ.out, rfl, hg', hc⟩
  · have hg' := GK.out.trans hg
    have HQ := Lib.hid hq
    clear hq hg
    go_wp2
    exact ⟨rfl, .inr ⟨HQ.out, rfl, hg'⟩⟩
set_option maxHeartbeats 4000000 in
theorem visit_4 {W0 w : World} {s : List Int} {cp g nx m : Nat} {D Wd O : Int} {sb so a : Nat} {depth x : Int} (hE : Env W0 s (some ⟨sb, so, none⟩)) (hK : Ck W0 s (some ⟨sb, so, none⟩) cp D Wd O g nx m w) (ha : a < s.length) (hx : nx ≤ s.length) (hm : m ≤ 4611686018427387904) (hcp : s.length ≤ cp) (hwx : wd s a = x) (hz : ¬ x = 0) (hd : ¬ D < depth) (hk0 : ¬ kindW x = 0) (hk1 : ¬ kindW x = 1) :
    Calls Tryd.prog 21 #[.pointer (some ⟨g, 0, none⟩), .int .i64 a, .int .i64 depth] w fun e w' => e = .panicked [{ v := .iface 47 (.agg #[]), recovered := false }] ∧ Gr g w w' := by
  have HLEN := Lib.hid hE.len
  have hlen := hE.len
  have HWX := Lib.hid hwx
  clear hwx
  have HZ := Lib.hid hz
  have HD := Lib.hid hd
  clear hz hd
  have t0_ : (kindW x == 0) = false := beq_eq_false_iff_ne.2 hk0
  have t9_ : (kindW x == 1) = false := beq_eq_false_iff_ne.2 hk1
  clear hk0 hk1
  have GK := Lib.hid (Gr.refl g w)
  have CK := Lib.hid hK
  have HE := Lib.hid hE
  clear hE hK
  go_enter Tryd.func21, Tryd.ntmps21
  have hwc := wd_cell HE.out CK.out.below ha
  rw [HWX.out] at hwc
  have hxr := HE.out.word a
  rw [HWX.out] at hxr
  obtain ⟨hx0, hx1⟩ := hxr
  have a0_ : (0 : Int) ≤ (a : Int) := Int.natCast_nonneg _
  have a1_ : (a : Int) < (s.length : Int) := by omega
  have l_K : g < w.heap.size := blk_lt CK.out.blk
  have q_K_0 : w.cell? ⟨g, 0, none⟩ = some (.slice (some ⟨sb, so, none⟩) s.length cp) := (blk_cell CK.out.blk 0).trans rfl
  go_wp2_with fail
  clear hwc a0_ a1_ l_K q_K_0
  refine (isnull_any x false w (beq_eq_false_iff_ne.2 HZ.out)).mono ?_
  rintro e wy ⟨rfl, rfl⟩
  have l_K : g < w.heap.size := blk_lt CK.out.blk
  have q_K_2 : w.cell? ⟨g, 2, none⟩ = some (.int .i64 D) := (blk_cell CK.out.blk 2).trans rfl
  have q_K_3 : w.cell? ⟨g, 3, none⟩ = some (.int .i64 Wd) := (blk_cell CK.out.blk 3).trans rfl
  have q_K_4 : w.cell? ⟨g, 4, none⟩ = some (.int .i64 O) := (blk_cell CK.out.blk 4).trans rfl
  go_wp2_with fail
  clear l_K q_K_2 q_K_3 q_K_4
  refine (enter_any D Wd O depth 0 _ (if_neg (by have := HD.out; omega))).mono ?_
  rintro e w1 ⟨rfl, hb⟩
  replace GK := Lib.hid (GK.out.then hb)
  replace CK := Lib.hid (CK.out.then hb)
  clear hb
  have t1_ : True := trivial
  go_wp2_with fail
  refine (must_yes _).mono ?_
  rintro e wy ⟨rfl, rfl⟩
  go_wp2_with fail
  refine (decode_any x w1 hx0 hx1 (HE.out.dec.below CK.out.below)).mono ?_
  obtain ⟨fo, fd, fp, fe, fc, fb, fpa, fs, fl, hDec, _⟩ := decV_agg x
  rw [hDec]
  clear hDec
  rintro e w2 ⟨rfl, hb⟩
  replace GK := Lib.hid (GK.out.then hb)
  replace CK := Lib.hid (CK.out.then hb)
  clear hb
  go_wp2_with fail
  refine calls_at (fun wz hW => ?_)
  have hb : Below w2.heap.size w2 wz := by rw [hW]; exact (Below.refl _ _).alloc (Nat.le_refl _) _
  clear hW
  replace GK := Lib.hid (GK.out.then hb)
  replace CK := Lib.hid (CK.out.then hb)
  clear hb
  refine (must_no _).mono ?_
  rintro e wy ⟨rfl, rfl⟩
  go_wp2
  exact ⟨rfl, rfl, GK.out⟩
theorem visit_any {W0 : World} {s : List Int} {cp g : Nat} {D Wd O : Int} {sb so : Nat} (hE : Env W0 s (some ⟨sb, so, none⟩)) (hcp : s.length ≤ cp) (hD : D ≤ 900000) : ∀ (f : Nat) (depth : Int), 0 ≤ depth → f = (D + 1 - depth).toNat → VisC W0 s (some ⟨sb, so, none⟩) cp D Wd O g (visM s f) depth
  | 0, depth, hd0, hf => fun a nx m w ha hx hm hK => by
    unfold visM
    by_cases hz : wd s a = 0
    · rw [if_pos hz]
      exact (visit_0 hE hK ha hx hm hcp rfl hz).mono fun e w' ⟨a, b, c⟩ => .inl ⟨_, rfl, a, b, c⟩
    · rw [if_neg hz]
      exact (visit_1 hE hK ha hx hm hcp rfl hz (by omega)).mono fun e w' ⟨a, b⟩ => .inr ⟨rfl, a, b⟩
  | f + 1, depth, hd0, hf => fun a nx m w ha hx hm hK => by
    have hV := visit_any hE hcp hD (Wd := Wd) (O := O) (g := g) f (depth + 1) (by omega) (by omega)
    unfold visM
    by_cases hz : wd s a = 0
    · rw [if_pos hz]
      exact (visit_0 hE hK ha hx hm hcp rfl hz).mono fun e w' ⟨a, b, c⟩ => .inl ⟨_, rfl, a, b, c⟩
    · rw [if_neg hz]
      by_cases hk0 : kindW (wd s a) = 0
      · rw [if_pos hk0]
        exact visit_2 hE hK ha hx hm hcp rfl (visM_in s f) hd0 (by omega) hV hz (by omega) hk0
      · rw [if_neg hk0]
        by_cases hk1 : kindW (wd s a) = 1
        · rw [if_pos hk1]
          exact visit_3 hE hK ha hx hm hcp rfl (visM_in s f) hd0 (by omega) hV hz (by omega) hk1
        · rw [if_neg hk1]
          exact (visit_4 hE hK ha hx hm hcp rfl hz (by omega) hk0 hk1).mono fun e w' ⟨a, b⟩ => .inr ⟨rfl, a, b⟩
end Go.Proofs.YtidglmocekghmaaDoor.Pr
end
section
namespace Go.Proofs.YtidglmocekghmaaDoor.Pr
open Go.RowKit Go.Proofs.YtidglmocekghmaaDoorW.PrintWords Go.Proofs.YtidglmocekghmaaDoorW.PrintLast Go.Proofs.YtidglmocekghmaaDoorW.PrintMore
set_option linter.unusedVariables false
set_option linter.unusedSimpArgs false
def onlyN (Q : Exit → Act → World → Prop) : Exit → Act → World → Prop
  | .normal, a, w => Q .normal a w
  | _, _, _ => False
theorem onlyN_normal {Q : Exit → Act → World → Prop} {a : Act} {w : World} (h : Q .normal a w) : onlyN Q .normal a w := h
theorem wp_onlyN {P : Program} {c : Code} {Q : Exit → Act → World → Prop} {a : Act} {w : World} (h : c.wp P (onlyN Q) a w) : c.wp P Q a w := fun b k cs => by
  obtain ⟨e, a', w', q, r⟩ := h b k cs
  refine ⟨e, a', w', ?_, r⟩
  cases e <;> first | exact q | exact q.elim
set_option maxRecDepth 100000 in
theorem catch_viol (gr : Nat) (x : Bool) (w : World) (hc : w.cell? ⟨gr, 0, none⟩ = some (.bool x)) (hz : w.frozen? ⟨gr, 0, none⟩ = false) :
    CallsD Tryd.prog 18 #[.pointer (some ⟨gr, 0, none⟩)] (.panicking [{ v := .iface 47 (.agg #[]), recovered := false }]) w fun e u' w' =>
      e = .returned (.tuple #[]) ∧ u' = .panicking [{ v := .iface 47 (.agg #[]), recovered := true }] ∧ w' = (w.setCell ⟨gr, 0, none⟩ (.bool false)).alloc (.cells #[] 47) := by
  have hlt : gr < w.heap.size := World.block_lt_of_cell? w _ hc
  have hb : Below w.heap.size w (w.alloc (.cells #[] 47)) := (Below.refl _ _).alloc (Nat.le_refl _) _
  have hc2 := (hb.cell (p := ⟨gr, 0, none⟩) hlt).trans hc
  have hz2 := (hb.frozen (p := ⟨gr, 0, none⟩) hlt).trans hz
  clear hb
  have hta : ∀ w : World, (Instr.typeAssert (.iface 47 (.agg #[])) 20 47 true).run Tryd.prog w = .ok (.tuple #[.agg #[], .bool true]) w := fun w => by kernel_rfl
  refine callsD_of_wpS Tryd.func18 rfl fun c₀ cs hu => ?_
  apply wpS_seq
  apply wpS_region
  simp [wpOpsS, go_sem, recoverD, hu, Tryd.ntmps18, Exit.thenS]
  refine wpS_of_wp ?_
  change Code.wp Tryd.prog _ _ { tmps := #[.pointer (some ⟨gr, 0, none⟩), (Value.iface 47 (Value.agg #[])), undef, undef, (Value.iface 47 (Value.agg #[])), undef, undef, undef, undef, undef, undef, undef, undef, undef, undef], defers := [] } w
  go_wp2
  cases c₀
  simp_all [bodyPostS, results, Tryd.results18]
theorem catch_idle (p : Addr) (w : World) :
    CallsD Tryd.prog 18 #[.pointer (some p)] .returning w fun e u' w' => e = .returned (.tuple #[]) ∧ u' = .returning ∧ w' = w := by
  refine callsD_of_wpS Tryd.func18 rfl fun c₀ cs hu => ?_
  apply wpS_seq
  apply wpS_region
  simp [wpOpsS, go_sem, recoverD, hu, Tryd.ntmps18, Exit.thenS]
  refine wpS_of_wp ?_
  change Code.wp Tryd.prog _ _ { tmps := #[.pointer (some p), .nilIface, undef, undef, .nilIface, undef, undef, undef, undef, undef, undef, undef, undef, undef, undef], defers := [] } w
  go_wp2
  cases c₀
  simp_all [bodyPostS, results, Tryd.results18]
set_option maxHeartbeats 4000000 in
theorem words_none (A : Option Addr) (cp : Nat) (D Wd O : Int) (w : World) :
    Calls Tryd.prog 10 #[.slice A 0 cp, .agg #[.int .i64 D, .int .i64 Wd, .int .i64 O]] w fun e w' => e = .returned (.bool false) ∧ Below w.heap.size w w' := by
  have hmf : ∀ (fn : Fn) (first cap : Array Value) (w : World), (Instr.makeFunc fn first cap).run Tryd.prog w = .ok (.func fn first cap) w := fun _ _ _ _ => rfl
  go_enter_defers Tryd.func10, Tryd.ntmps10
  go_wp2_with fail
  refine calls_at (fun wa hW => ?_)
  have hBa : Below w.heap.size w wa := by rw [hW]; exact ((Below.refl _ _).alloc (Nat.le_refl _) _).alloc (by simp) _
  have hR : wa.heap[w.heap.size + 1]? = some (.cells #[.bool false] 4 (0, 0)) := by rw [hW]; exact blk_new _ _ _ (by simp)
  clear hW
  refine (must_no wa).mono ?_
  rintro e wy ⟨rfl, rfl⟩
  go_wp2
  refine leaves_cons (f := 18) (args := #[.pointer (some ⟨w.heap.size + 1, 0, none⟩)]) (by simp) (by simp [go_sem]) ?_
  refine (catch_viol (w.heap.size + 1) false _ ((blk_cell hR 0).trans rfl) (blk_frozen hR 0)).mono ?_
  rintro e u' w'' ⟨rfl, rfl, rfl⟩
  have hlR : w.heap.size + 1 < wa.heap.size := blk_lt hR
  have hRz : ((wa.setCell ⟨w.heap.size + 1, 0, none⟩ (.bool false)).alloc (.cells #[] 47)).cell? ⟨w.heap.size + 1, 0, none⟩ = some (.bool false) := (blk_cell (blk_alloc (blk_put hR 0 (.bool false) rfl) _) 0).trans rfl
  have hBz : Below w.heap.size w ((wa.setCell ⟨w.heap.size + 1, 0, none⟩ (.bool false)).alloc (.cells #[] 47)) := (hBa.setCell (p := ⟨w.heap.size + 1, 0, none⟩) (Nat.le_succ _) _).alloc (by have := hBa.size; simpa [World.setCell] using this) _
  simp [Leaves, settle, results, Tryd.results10, go_sem, hRz]
  exact hBz
set_option maxHeartbeats 8000000 in
theorem words_some (sb so cp : Nat) (s : List Int) (D Wd O : Int) (w : World) (hE : Env w s (some ⟨sb, so, none⟩)) (h0 : 0 < s.length) (hcp : s.length ≤ cp) (hD : D ≤ 900000) (hWd : Wd ≤ 4611686018427387904) (r : Bool) (hr : wordsM s D Wd = r) :
    Calls Tryd.prog 10 #[.slice (some ⟨sb, so, none⟩) s.length cp, .agg #[.int .i64 D, .int .i64 Wd, .int .i64 O]] w fun e w' => e = .returned (.bool r) ∧ Below w.heap.size w w' := by
  have hmf : ∀ (fn : Fn) (first cap : Array Value) (w : World), (Instr.makeFunc fn first cap).run Tryd.prog w = .ok (.func fn first cap) w := fun _ _ _ _ => rfl
  have HE := Lib.hid hE
  have HR := Lib.hid hr
  have hln := hE.len
  have t0_ : decide ((0 : Int) < (s.length : Int)) = true := decide_eq_true (by omega)
  have t1_ : decide (0 < s.length) = true := decide_eq_true h0
  clear hE hr
  go_enter_defers Tryd.func10, Tryd.ntmps10
  have HB := Lib.hid (Below.refl w.heap.size w)
  go_wp2_with fail
  refine calls_at (fun wa hW => ?_)
  have hb : Below w.heap.size w wa := by rw [hW]; exact ((Below.refl _ _).alloc (Nat.le_refl _) _).alloc (by simp) _
  have nL : wa.heap[w.heap.size]? = some (.cells #[.int .i64 D, .int .i64 Wd, .int .i64 O] 24 (0, 0)) := by rw [hW]; exact blk_alloc (heap_alloc_new _ _) _
  have nR : wa.heap[w.heap.size + 1]? = some (.cells #[.bool false] 4 (0, 0)) := by rw [hW]; exact blk_new _ _ _ (by simp)
  clear hW
  replace HB := Lib.hid (below_step HB.out hb)
  clear hb
  have L := Lib.hid nL
  have R := Lib.hid nR
  clear nL nR
  refine (must_yes wa).mono ?_
  rintro e wy ⟨rfl, rfl⟩
  go_wp2_with fail
  obtain ⟨mt, hmt⟩ : ∃ m, Wd.toNat = m := ⟨_, rfl⟩
  have HMT := Lib.hid hmt
  have hst : budget_Start.f D Wd O = some (mt : Int) := by unfold budget_Start.f mx; congr 1; omega
  clear hmt
  have l_L : w.heap.size < wa.heap.size := blk_lt L.out
  have q_L_0 : wa.cell? ⟨w.heap.size, 0, none⟩ = some (.int .i64 D) := (blk_cell L.out 0).trans rfl
  have q_L_1 : wa.cell? ⟨w.heap.size, 1, none⟩ = some (.int .i64 Wd) := (blk_cell L.out 1).trans rfl
  have q_L_2 : wa.cell? ⟨w.heap.size, 2, none⟩ = some (.int .i64 O) := (blk_cell L.out 2).trans rfl
  refine wp_onlyN ?_
  refine start_ (n := 7) (S := fun w' => w'.cell? ⟨w.heap.size, 0, none⟩ = some (.int .i64 D) ∧ w'.cell? ⟨w.heap.size, 1, none⟩ = some (.int .i64 Wd) ∧ w'.cell? ⟨w.heap.size, 2, none⟩ = some (.int .i64 O)) (ds := []) #[false, false, false, false, false, false, false] (by kernel_rfl) rfl rfl ⟨q_L_0, q_L_1, q_L_2⟩ (fun hHeld => ?_)
  obtain ⟨w1, hwd⟩ : ∃ W, W = wa.drew := ⟨_, rfl⟩
  rw [← hwd] at hHeld ⊢
  have hb : Below wa.heap.size wa w1 := by rw [hwd]; exact (Below.refl _ _).drew
  clear hwd
  replace HB := Lib.hid (below_step HB.out hb)
  replace L := Lib.hid (blk_below L.out hb)
  replace R := Lib.hid (blk_below R.out hb)
  clear hb
  refine pure_ (i := 0) (N := some 11) (v := ?_) (a' := ?_) #[true, false, false, false, false, false, false] rfl rfl (by kernel_rfl) (fun _ _ _ h => h) (Or.inl ⟨by rfl, ?_⟩) ?_ ?_
  rotate_left
  · intro w'
    go_simp
    with_reducible rfl
  rotate_left
  · simp only [Act.put, List.setIfInBounds_toArray, List.set_cons_zero, List.set_cons_succ, i64_w, i32_w]
    rfl
  refine take_ (i := 1) (N := some 12) (v := ?_) (a' := ?_) #[true, true, false, false, false, false, false] rfl rfl (by kernel_rfl) (fun _ _ _ h => h) (Or.inl ⟨by rfl, ?_⟩) hHeld ?_ ?_
  rotate_left
  · rintro w' ⟨s0, s1, s2⟩
    go_simp
    with_reducible rfl
  rotate_left
  · simp only [Act.put, List.setIfInBounds_toArray, List.set_cons_zero, List.set_cons_succ, i64_w, i32_w]
    rfl
  refine take_ (i := 2) (N := some 13) (v := ?_) (a' := ?_) #[true, true, true, false, false, false, false] rfl rfl (by kernel_rfl) (fun _ _ _ h => h) (Or.inl ⟨by rfl, ?_⟩) hHeld ?_ ?_
  rotate_left
  · rintro w' ⟨s0, s1, s2⟩
    go_simp
    with_reducible rfl
  rotate_left
  · simp only [Act.put, List.setIfInBounds_toArray, List.set_cons_zero, List.set_cons_succ, i64_w, i32_w]
    rfl
  refine one_ (i := 3) (N := some 14) #[true, true, true, true, false, false, false] rfl rfl (by kernel_rfl) (by decide) (fun K hK => ?_)
  refine goes_ Tryd.func20 (by kernel_rfl) rfl #[.agg #[.int .i64 D, .int .i64 Wd, .int .i64 O]] (by rfl) rfl rfl (by simp only [List.map_toArray, List.map_cons, List.map_nil]; rfl) ?_
  with_reducible refine (budget_Start.calls D Wd O mt _ hst).mono ?_
  rintro e w3 ⟨rfl, hb⟩
  refine ⟨_, rfl, ?_⟩
  have hll := blk_lt L.out
  have hll3 := Nat.lt_of_lt_of_le hll hb.size
  refine hK.out _ _ ⟨(hb.cell (p := ⟨w.heap.size, 0, none⟩) hll).trans hHeld.1, (hb.cell (p := ⟨w.heap.size, 1, none⟩) hll).trans hHeld.2.1, (hb.cell (p := ⟨w.heap.size, 2, none⟩) hll).trans hHeld.2.2⟩ (fun hHeld => ?_)
  clear hK K
  refine norm_ (a' := ?_) ?_ ?_
  rotate_left
  · show Act.put _ (some 14) _ = _
    simp only [Act.put, List.setIfInBounds_toArray, List.set_cons_zero, List.set_cons_succ, i64_w, i32_w]
    rfl
  refine pure_ (i := 4) (N := some 15) (v := ?_) (a' := ?_) #[true, true, true, true, true, false, false] rfl rfl (by kernel_rfl) (fun _ _ _ h => h) (Or.inl ⟨by rfl, ?_⟩) ?_ ?_
  rotate_left
  · intro w'
    go_simp
    with_reducible rfl
  rotate_left
  · simp only [Act.put, List.setIfInBounds_toArray, List.set_cons_zero, List.set_cons_succ, i64_w, i32_w]
    rfl
  refine one_ (i := 5) (N := some 16) #[true, true, true, true, true, true, false] rfl rfl (by kernel_rfl) (by decide) (fun K hK => ?_)
  refine value_ (w1 := ?_) (v := ?_) (by rfl) rfl ?_ ?_
  rotate_left 2
  · go_simp
    constructor
    · rfl
    · rfl
  refine hK.out _ _ ⟨(((Below.refl _ _).alloc (Nat.le_refl _) _).cell (p := ⟨w.heap.size, 0, none⟩) hll3).trans hHeld.1, (((Below.refl _ _).alloc (Nat.le_refl _) _).cell (p := ⟨w.heap.size, 1, none⟩) hll3).trans hHeld.2.1, (((Below.refl _ _).alloc (Nat.le_refl _) _).cell (p := ⟨w.heap.size, 2, none⟩) hll3).trans hHeld.2.2⟩ (fun hHeld => ?_)
  clear hK K
  refine norm_ (a' := ?_) ?_ ?_
  rotate_left
  · show Act.put _ (some 16) _ = _
    simp only [Act.put, List.setIfInBounds_toArray, List.set_cons_zero, List.set_cons_succ, i64_w, i32_w]
    rfl
  refine pure_ (i := 6) (N := some 5) (v := ?_) (a' := ?_) #[true, true, true, true, true, true, true] rfl rfl (by kernel_rfl) (fun _ _ _ h => h) (Or.inl ⟨by rfl, ?_⟩) ?_ ?_
  rotate_left
  · intro w'
    go_simp
    with_reducible rfl
  rotate_left
  · simp only [Act.put, List.setIfInBounds_toArray, List.set_cons_zero, List.set_cons_succ, i64_w, i32_w]
    rfl
  refine done_ (by kernel_rfl) ?_
  refine onlyN_normal ?_
  clear l_L q_L_0 q_L_1 q_L_2
  clear hHeld hll hll3
  replace HB := Lib.hid (below_step HB.out hb)
  replace L := Lib.hid (blk_below L.out hb)
  replace R := Lib.hid (blk_below R.out hb)
  clear hb hst
  clear L
  go_wp2_with fail
  refine calls_at (fun wc hW => ?_)
  have hb : Below w3.heap.size w3 wc := by rw [hW]; exact (Below.refl _ _).alloc (Nat.le_refl _) _
  obtain ⟨g, hg⟩ : ∃ g, w3.heap.size = g := ⟨_, rfl⟩
  have nK : wc.heap[g]? = some (.cells #[.slice (some ⟨sb, so, none⟩) s.length cp, .int .i64 ((1 : Nat) : Int), .int .i64 D, .int .i64 Wd, .int .i64 O, .int .i64 mt] 55 (0, 0)) := by rw [hW, ← hg]; exact heap_alloc_new _ _
  have hge : w.heap.size ≤ g := by rw [← hg]; exact HB.out.size
  have hRg : w.heap.size + 1 < g := by rw [← hg]; exact blk_lt R.out
  rw [hg]
  clear hW hg
  replace HB := Lib.hid (below_step HB.out hb)
  replace R := Lib.hid (blk_below R.out hb)
  clear hb
  have CK : Hid (Ck w s (some ⟨sb, so, none⟩) cp D Wd O g 1 mt wc) := Lib.hid ⟨HB.out, hge, nK⟩
  clear nK
  have hm : mt ≤ 4611686018427387904 := by have := HMT.out; omega
  have hV := visit_any HE.out hcp hD (Wd := Wd) (O := O) (g := g) D.toNat 1 (by omega) (by omega) 0 1 mt wc h0 (by omega) hm CK.out
  have HV := Lib.hid hV
  clear hV
  have HM : Hid (r = match visM s D.toNat 0 1 mt with | none => false | some q => decide (q.1 = s.length)) := Lib.hid (by rw [← HR.out, ← HMT.out]; unfold wordsM; rw [decide_eq_true h0]; rfl)
  clear HR
  generalize visM s D.toNat 0 1 mt = vr at HV HM
  refine HV.out.mono ?_
  clear HV
  rintro e w9 (⟨q, rfl, rfl, hg, hc⟩ | ⟨rfl, rfl, hg⟩)
  · have R9 := hg.blk R.out (by omega)
    have hcb := hc.below
    have hl9 : g < w9.heap.size := blk_lt hc.blk
    have q9 : w9.cell? ⟨g, 1, none⟩ = some (.int .i64 (q.1 : Int)) := (blk_cell hc.blk 1).trans rfl
    have hr9 : w9.cell? ⟨w.heap.size + 1, 0, none⟩ = some (.bool false) := (blk_cell R9 0).trans rfl
    have hf9 : w9.frozen? ⟨w.heap.size + 1, 0, none⟩ = false := blk_frozen R9 0
    have hrl : w.heap.size + 1 < w9.heap.size := blk_lt R9
    obtain ⟨b9, hb9⟩ : ∃ b, ((q.1 : Int) == (s.length : Int)) = b := ⟨_, rfl⟩
    have HB9 := Lib.hid hb9
    have H9 := Lib.hid R9
    have HCB := Lib.hid hcb
    clear hg hc R9 hcb
    go_wp2
    clear q9 hr9 hf9 hl9
    refine leaves_cons (f := 18) (args := #[.pointer (some ⟨w.heap.size + 1, 0, none⟩)]) (by simp) (by simp [go_sem]) ?_
    refine (catch_idle ⟨w.heap.size + 1, 0, none⟩ _).mono ?_
    rintro e u' w'' ⟨rfl, rfl, rfl⟩
    clear hb9
    have hRz : (w9.setCell ⟨w.heap.size + 1, 0, none⟩ (.bool b9)).cell? ⟨w.heap.size + 1, 0, none⟩ = some (.bool b9) := (blk_cell (blk_put H9.out 0 (.bool b9) rfl) 0).trans rfl
    have hBz : Below w.heap.size w (w9.setCell ⟨w.heap.size + 1, 0, none⟩ (.bool b9)) := HCB.out.setCell (p := ⟨w.heap.size + 1, 0, none⟩) (Nat.le_succ _) _
    simp [Leaves, settle, results, Tryd.results10, go_sem, hRz]
    refine ⟨?_, hBz⟩
    rw [HM.out, ← HB9.out]
    by_cases hq : q.1 = s.length
    · simp [hq]
    · simp [hq]; omega
  · have R9 := hg.blk R.out (by omega)
    have hcb : Below w.heap.size w w9 := HB.out.grown hg HB.out.size (fun k hk => by cases hk; exact hge)
    obtain rfl : r = false := HM.out
    clear HM hg
    go_wp2
    refine leaves_cons (f := 18) (args := #[.pointer (some ⟨w.heap.size + 1, 0, none⟩)]) (by simp) (by simp [go_sem]) ?_
    refine (catch_viol (w.heap.size + 1) false _ ((blk_cell R9 0).trans rfl) (blk_frozen R9 0)).mono ?_
    rintro e u' w'' ⟨rfl, rfl, rfl⟩
    have hlR : w.heap.size + 1 < w9.heap.size := blk_lt R9
    have hRz : ((w9.setCell ⟨w.heap.size + 1, 0, none⟩ (.bool false)).alloc (.cells #[] 47)).cell? ⟨w.heap.size + 1, 0, none⟩ = some (.bool false) := (blk_cell (blk_alloc (blk_put R9 0 (.bool false) rfl) _) 0).trans rfl
    have hBz : Below w.heap.size w ((w9.setCell ⟨w.heap.size + 1, 0, none⟩ (.bool false)).alloc (.cells #[] 47)) := (hcb.setCell (p := ⟨w.heap.size + 1, 0, none⟩) (Nat.le_succ _) _).alloc (by have := hcb.size; simpa [World.setCell] using this) _
    simp [Leaves, settle, results, Tryd.results10, go_sem, hRz]
    exact hBz
theorem words_any (A : Option Addr) (cp : Nat) (s : List Int) (D Wd O : Int) (w : World) (hE : Env w s A) (hcp : s.length ≤ cp) (hD : D ≤ 900000) (hWd : Wd ≤ 4611686018427387904) :
    Calls Tryd.prog 10 #[.slice A s.length cp, .agg #[.int .i64 D, .int .i64 Wd, .int .i64 O]] w fun e w' => e = .returned (.bool (wordsM s D Wd)) ∧ Below w.heap.size w w' := by
  by_cases h0 : 0 < s.length
  · obtain ⟨sb, so, rfl⟩ := hE.addr h0
    exact words_some sb so cp s D Wd O w hE h0 hcp hD hWd _ rfl
  · have hs : s = [] := List.eq_nil_of_length_eq_zero (by omega)
    subst hs
    have e : wordsM [] D Wd = false := by unfold wordsM; simp
    rw [e]
    exact words_none A cp D Wd O w
#print axioms words_any
end Go.Proofs.YtidglmocekghmaaDoor.Pr
end
section
namespace Go.Proofs.YtidglmocekghmaaDoor.Pr
open Go.RowKit Go.Proofs.YtidglmocekghmaaDoorW.PrintWords Go.Proofs.YtidglmocekghmaaDoorW.PrintLast Go.Proofs.YtidglmocekghmaaDoorW.PrintMore
set_option linter.unusedVariables false
set_option linter.unusedSimpArgs false
structure Tabs (w : World) : Prop where
  tab : Ls.Tab w
  dec : Dec w
theorem Tabs.below {w w1 : World} (h : Tabs w) (hb : Below w.heap.size w w1) : Tabs w1 := ⟨h.tab.below hb, h.dec.below hb⟩
def okW (l : List Int) : Bool := (l.all fun x => decide (0 ≤ x) && decide (x < 18446744073709551616)) && Nat.ble l.length 17592186040320
theorem okW_all {l : List Int} (h : okW l = true) : ∀ x ∈ l, 0 ≤ x ∧ x < 18446744073709551616 := fun x hx => by
  unfold okW at h
  rw [Bool.and_eq_true] at h
  have := List.all_eq_true.1 h.1 x hx
  simpa using this
theorem okW_len {l : List Int} (h : okW l = true) : l.length ≤ 17592186040320 := by
  unfold okW at h
  rw [Bool.and_eq_true] at h
  exact Nat.le_of_ble_eq_true h.2
def canoncheck_Words.f (_ : Nat) (l0 : List Int) (a0 a1 a2 : Int) : Option Bool := if okW l0 = true then (if a0 ≤ 900000 then (if a1 ≤ 4611686018427387904 then some (wordsM l0 a0 a1) else none) else none) else none
theorem canoncheck_Words.calls (k : Nat) (A0 : Option Addr) (c0 : Nat) (l0 : List Int) (a0 a1 a2 : Int) (r : Bool) (w : World) (hr0 : Kd.C (Kd.int .u64) w A0 l0.length l0) (hc0 : l0.length ≤ c0) (h : canoncheck_Words.f k l0 a0 a1 a2 = some r) (ht : Tabs w) :
    Calls Tryd.prog 10 #[.slice A0 l0.length c0, .agg #[.int .i64 a0, .int .i64 a1, .int .i64 a2]] w fun e w' => e = .returned (.bool r) ∧ Below w.heap.size w w' := by
  unfold canoncheck_Words.f at h
  split at h
  · rename_i hok
    split at h
    · split at h
      · obtain rfl := Option.some.inj h
        exact words_any A0 c0 l0 a0 a1 a2 w ⟨hr0, ht.tab, ht.dec, okW_all hok, okW_len hok⟩ hc0 (by assumption) (by assumption)
      · cases h
    · cases h
  · cases h
end Go.Proofs.YtidglmocekghmaaDoor.Pr
end
section
namespace Go.Proofs.YtidglmocekghmaaDoor.TabD
open Go.Proofs.YtidglmocekghmaaDoorW.PrintWords Go.Proofs.YtidglmocekghmaaDoorW.PrintLast Go.Proofs.YtidglmocekghmaaDoorW.PrintMore Go.Proofs.YtidglmocekghmaaDoor.Pr Go.WideElems Go.ChangeShapes Go.WideShapes Go.ChangeAt Go.RowKit Go.Maps
set_option linter.unusedVariables false
set_option linter.unusedSimpArgs false
theorem gTab : Tryd.prog.globalNamed "capnp/listsize.bits" = some 1 := by kernel_rfl
theorem gTabType : (Tryd.prog.globals[1]?).map (·.type) = some 114 := by kernel_rfl
theorem cellsT : Tryd.prog.cellsOf 114 = 8 := by kernel_rfl
theorem cellsE : Tryd.prog.cellsOf 3 = 1 := by kernel_rfl
theorem gDec : Tryd.prog.globalNamed "capnp/pointer.decoders" = some 0 := by kernel_rfl
theorem gDecType : (Tryd.prog.globals[0]?).map (·.type) = some 97 := by kernel_rfl
def laidL : List (String × DataW Unit) := [("capnp/pointer.decoders", Rows.laid_capnp_pointer_decoders), ("capnp/listsize.bits", Rows.laid_capnp_listsize_bits)]
theorem ofData {W : World} (h : laidMetH Tryd.prog laidL W) : laidMet Tryd.prog [("capnp/listsize.bits", Rows.laid_capnp_listsize_bits)] W := h.1
theorem table {W : World} (h : laidMetH Tryd.prog laidL W) : Lib.TabIs Tryd.prog W "capnp/listsize.bits" .i64 [0, 1, 8, 16, 32, 64, 64, 0] :=
  Lib.tabIs_of_head (rest := []) gTab gTabType Tryd.underlying114 Tryd.underlying3 cellsE cellsT (ofData h)
theorem tab {W : World} (h : laidMetH Tryd.prog laidL W) : Ls.Tab W :=
  ⟨(table h).cell gTab 0 (by decide), (table h).cell gTab 1 (by decide), (table h).cell gTab 2 (by decide), (table h).cell gTab 3 (by decide), (table h).cell gTab 4 (by decide), (table h).cell gTab 5 (by decide), (table h).cell gTab 6 (by decide), (table h).cell gTab 7 (by decide)⟩
theorem law3 : Keyed Tryd.prog 3 := int_keyed Tryd.underlying3
theorem zero68 (w : World) : (zeroValue 68).run Tryd.prog w = .ok .nilFunc w := by kernel_rfl
theorem one_cell {P : Program} {W : World} {n : Nat} {t : TypeId} {ps rs : Array TypeId} {va : Bool} {v : Value} {y : DataW (List UInt8) × List MemPlace} (ht : P.underlying t = some (.func ps rs va)) (h : elemAt (funcToken P) P W 0 (fun _ => true) true n t v = some y) : DataW.trod (funcToken P) P W 0 (fun _ => true) true n t [v] = some y := by
  unfold elemAt at h
  split at h
  · rename_i hf
    have hc : v.cells = #[v] := by
      cases v with
      | agg cs => simp [Value.formed, ht] at hf
      | _ => rfl
    rw [hc] at h
    exact h
  · cases h
theorem dec {W : World} (h : laidMetH Tryd.prog laidL W) : Dec W := by
  obtain ⟨g, t, cs, fuel, p, hg, ht, hv, hd⟩ := h.funcs (n := "capnp/pointer.decoders") (List.mem_cons_self ..)
  obtain rfl := Option.some.inj (gDec.symm.trans hg)
  obtain rfl := Option.some.inj (gDecType.symm.trans ht)
  have hd' : DataW.trod (funcToken Tryd.prog) Tryd.prog W 0 (fun _ => true) true fuel 97 cs.toList = some (.map [(Lit.int .i64 0, DataW.held [99, 97, 112, 110, 112, 47, 112, 111, 105, 110, 116, 101, 114, 46, 100, 101, 99, 111, 100, 101, 114, 115, 36, 49]), (Lit.int .i64 1, DataW.held [99, 97, 112, 110, 112, 47, 112, 111, 105, 110, 116, 101, 114, 46, 100, 101, 99, 111, 100, 101, 114, 115, 36, 50]), (Lit.int .i64 2, DataW.held [99, 97, 112, 110, 112, 47, 112, 111, 105, 110, 116, 101, 114, 46, 100, 101, 99, 111, 100, 101, 114, 115, 36, 51]), (Lit.int .i64 3, DataW.held [99, 97, 112, 110, 112, 47, 112, 111, 105, 110, 116, 101, 114, 46, 100, 101, 99, 111, 100, 101, 114, 115, 36, 52])], p) := hd
  rcases open_map Tryd.underlying97 hd' with ⟨_, hx⟩ | ⟨b, es, clock, n, rfl, hcs, hb, _, F, hx⟩
  · simp at hx
  · simp only [Prod.mk.injEq] at hx
    obtain ⟨hm, _⟩ := hx
    have hblt : b < W.heap.size := by
      rcases Nat.lt_or_ge b W.heap.size with hl | hl
      · exact hl
      · rw [Array.getElem?_eq_none hl] at hb; cases hb
    have hE : W.cell? ⟨0, 0, none⟩ = some (.map (some b)) := by
      have e : cs = #[.map (some b)] := by cases cs; simp_all
      subst e
      simpa using World.var?_cell hg hv 0
    refine ⟨b, hE, hblt, fun W' hW' => ?_⟩
    have hb' : W'.heap[b]? = some (.map es clock) := hW'.trans hb
    have key : ∀ (i : Int) (c : UInt8) (r : List UInt8) (f0 : FuncId), (Lit.int .i64 i).wf = true → (∀ zd, (DataW.map [(Lit.int .i64 0, DataW.held [99, 97, 112, 110, 112, 47, 112, 111, 105, 110, 116, 101, 114, 46, 100, 101, 99, 111, 100, 101, 114, 115, 36, 49]), (Lit.int .i64 1, DataW.held [99, 97, 112, 110, 112, 47, 112, 111, 105, 110, 116, 101, 114, 46, 100, 101, 99, 111, 100, 101, 114, 115, 36, 50]), (Lit.int .i64 2, DataW.held [99, 97, 112, 110, 112, 47, 112, 111, 105, 110, 116, 101, 114, 46, 100, 101, 99, 111, 100, 101, 114, 115, 36, 51]), (Lit.int .i64 3, DataW.held [99, 97, 112, 110, 112, 47, 112, 111, 105, 110, 116, 101, 114, 46, 100, 101, 99, 111, 100, 101, 114, 115, 36, 52])]).atKey (Lit.int .i64 i) zd = .held (c :: r)) → ((List.range Tryd.prog.funcs.size).filter fun f => (Tryd.prog.funcs[f]?).any (·.name.toUTF8.data.toList == c :: r)) = [f0] →
        (Instr.lookup 97 (.map (some b)) (.int .i64 i) false).run Tryd.prog W' = .ok (.func (.func f0) #[] #[]) W' := by
      intro i c r f0 hwf hat hone
      rcases fit_look false law3 Tryd.underlying97 (zero68 W') hb' F (keyOf_int_mk Tryd.underlying3 hwf) with ⟨_, _, h3⟩ | ⟨e0, y, _, _, hrun, hR, h3, _⟩
      · have := h3 (.nil)
        rw [← hm, hat] at this
        cases this
      · have e1 := h3 (.nil)
        rw [← hm, hat] at e1
        obtain ⟨y1, y2⟩ := y
        simp only at e1
        subst e1
        have e2 := func_of_trod (f0 := f0) Tryd.underlying68 hone (one_cell Tryd.underlying68 hR)
        rw [e2] at hrun
        simpa using hrun
    exact ⟨key 0 _ _ 101 (by decide) (fun zd => rfl) (by kernel_rfl), key 1 _ _ 103 (by decide) (fun zd => rfl) (by kernel_rfl), key 2 _ _ 104 (by decide) (fun zd => rfl) (by kernel_rfl), key 3 _ _ 105 (by decide) (fun zd => rfl) (by kernel_rfl)⟩
theorem tabs {W : World} (h : laidMetH Tryd.prog laidL W) : Pr.Tabs W := ⟨tab h, dec h⟩
theorem word_range {n : Int} (h : (Lit.int .u64 n).wf = true) : 0 ≤ n ∧ n < 18446744073709551616 := by
  simp [Lit.wf, IntKind.min, IntKind.max, IntKind.signed, IntKind.bits] at h
  omega
theorem words_in {H : Type} {enc : TypeId × Value → H} {w : World} {base : Nat} {held : Bool} {fuel : Nat} {cs : List Value} {x : DataW H × List MemPlace} (h : DataW.trod enc Tryd.prog w base (fun _ => true) held fuel 22 cs = some x) :
    ∃ (A : Option Addr) (c : Nat) (xs : List Int), cs = [.slice A xs.length c] ∧ xs.length ≤ c ∧ (Kd.int .u64).C w A xs.length xs ∧ (∀ n ∈ xs, 0 ≤ n ∧ n < 18446744073709551616) := by
  rcases open_ints Tryd.underlying22 Tryd.underlying32 (by kernel_rfl) h with ⟨rfl, rfl⟩ | ⟨ad, len, cap, zs, rfl, hb, hle, hm, hz, rfl, hcell, hwz⟩
  · exact ⟨none, 0, [], rfl, Nat.le_refl _, Kd.C_nil _ _, by simp⟩
  · have hzl : zs.length = cap := by simpa using hz
    have htl : (zs.take len).length = len := by simp; omega
    refine ⟨some ad, cap, zs.take len, by rw [htl], by omega, ⟨rfl, by rw [htl]; simp only [maxLen] at hm; omega, fun hp => ⟨ad, rfl, fun j p hj => ⟨[.int .u64 p], rfl, rfl, fun i u hu => ?_⟩⟩⟩, fun n hn => word_range (hwz n (List.mem_of_mem_take hn))⟩
    match i with
    | 0 =>
      obtain rfl : Value.int .u64 p = u := by simpa using hu
      have hjl := (List.getElem?_eq_some_iff.1 hj).1
      rw [htl] at hjl
      have := hcell j (by omega)
      rw [List.getElem?_take_of_lt hjl] at hj
      rw [List.getD_eq_getElem?_getD, hj] at this
      show w.cell? (ad.add (j * 1 + 0)) = _
      rw [Nat.mul_one, Nat.add_zero]
      exact this
    | i + 1 => simp at hu
end Go.Proofs.YtidglmocekghmaaDoor.TabD
end
section
namespace Go.Proofs.YtidglmocekghmaaDoor.Pr
open Go.RowKit Go.Proofs.YtidglmocekghmaaDoorW.PrintWords Go.Proofs.YtidglmocekghmaaDoorW.PrintLast Go.Proofs.YtidglmocekghmaaDoorW.PrintMore
set_option linter.unusedVariables false
set_option linter.unusedSimpArgs false
inductive Asr : Type 1
  | box (g : Nat) (cs : Array Value) (t : Nat)
  | row {α : Type} (d : Kd α) (e : Nat) (v : Value) (xs : List α)
  | made {α : Type} (d : Kd α) (x : α) (cs : List Value)
def Asr.holds (w : World) (b : Nat) (F : Nat → Prop) : Asr → Prop
  | .box g cs t => F g ∧ b ≤ g ∧ w.heap[g]? = some (.cells cs t (0, 0))
  | .row d e v xs => d.R e w b F v xs
  | .made d x cs => d.M w b F x cs
section
variable {w w1 w0 : World} {b b' : Nat} {F F' F2 A A' : Nat → Prop} {a a2 : Asr} {L L' : List Asr}
theorem Asr.holds.mono (h : a.holds w b F) (hF : ∀ k, F k → F' k) : a.holds w b F' := by
  cases a with
  | box g cs t => exact ⟨hF _ h.1, h.2⟩
  | row d e v xs => exact Kd.R_mono h hF
  | made d x cs => exact d.M_mono hF h
theorem Asr.holds.step (h : a.holds w b F) (hm : ∀ k, F k → k < w.heap.size → w1.heap[k]? = w.heap[k]?) : a.holds w1 b F := by
  cases a with
  | box g cs t => exact ⟨h.1, h.2.1, (hm g h.1 (blk_lt h.2.2)).trans h.2.2⟩
  | row d e v xs => exact Kd.R_step h hm
  | made d x cs => exact Kd.M_step h hm
theorem Asr.holds.bound (h : a.holds w b F) : a.holds w b (fun k => F k ∧ b ≤ k ∧ k < w.heap.size) := by
  cases a with
  | box g cs t => exact ⟨⟨h.1, h.2.1, blk_lt h.2.2⟩, h.2⟩
  | row d e v xs => exact Kd.R_mono (Kd.R_bound h) (fun k hk => ⟨hk.1, hk.2.1, hk.2.2.1⟩)
  | made d x cs => exact d.M_mono (fun k hk => ⟨hk.1, hk.2.1, hk.2.2.1⟩) (d.M_bound h)
theorem Asr.holds.lower (h : a.holds w b F) (hb : b' ≤ b) : a.holds w b' F := by
  cases a with
  | box g cs t => exact ⟨h.1, Nat.le_trans hb h.2.1, h.2.2⟩
  | row d e v xs => exact Kd.R_lower h hb
  | made d x cs => exact d.M_lower hb h
def Sat (w : World) (b : Nat) : List Asr → (Nat → Prop) → Prop
  | [], _ => True
  | a :: r, A => ∃ F, (∀ k, F k → A k) ∧ a.holds w b F ∧ Sat w b r (fun k => A k ∧ ¬ F k)
theorem Sat.mono : ∀ {L : List Asr} {A A' : Nat → Prop}, Sat w b L A → (∀ k, A k → A' k) → Sat w b L A'
  | [], _, _, _, _ => trivial
  | _ :: _, _, _, ⟨F, h1, h2, h3⟩, hA => ⟨F, fun k hk => hA k (h1 k hk), h2, Sat.mono h3 (fun k hk => ⟨hA k hk.1, hk.2⟩)⟩
theorem Sat.step : ∀ {L : List Asr} {A : Nat → Prop}, Sat w b L A → (∀ k, A k → k < w.heap.size → w1.heap[k]? = w.heap[k]?) → Sat w1 b L A
  | [], _, _, _ => trivial
  | _ :: _, _, ⟨F, h1, h2, h3⟩, hm => ⟨F, h1, h2.step (fun k hk => hm k (h1 k hk)), Sat.step h3 (fun k hk => hm k hk.1)⟩
theorem Sat.swap (h : Sat w b (a :: a2 :: L) A) : Sat w b (a2 :: a :: L) A := by
  obtain ⟨F, h1, h2, G, h3, h4, h5⟩ := h
  exact ⟨G, fun k hk => (h3 k hk).1, h4, F, fun k hk => ⟨h1 k hk, fun hg => (h3 k hg).2 hk⟩, h2, h5.mono (fun k hk => ⟨⟨hk.1.1, hk.2⟩, hk.1.2⟩)⟩
theorem Sat.cons (h : Sat w b L A) (ha : a.holds w b F) (hF : ∀ k, F k → A' k) (hA : ∀ k, A k → A' k ∧ ¬ F k) : Sat w b (a :: L) A' := ⟨F, hF, ha, h.mono hA⟩
theorem Sat.tail (h : Sat w b (a :: L) A) : Sat w b L A := by
  obtain ⟨F, _, _, h3⟩ := h
  exact h3.mono (fun k hk => hk.1)
theorem Sat.pick : ∀ {n : Nat} {L : List Asr} {A : Nat → Prop}, Sat w b L A → L[n]? = some a → Sat w b (a :: L.eraseIdx n) A
  | 0, x :: r, _, h, e => by
    obtain rfl : x = a := by simpa using e
    exact h
  | n + 1, x :: r, A, ⟨F, h1, h2, h3⟩, e => by
    have h4 : Sat w b (x :: a :: r.eraseIdx n) A := ⟨F, h1, h2, Sat.pick h3 (by simpa using e)⟩
    exact h4.swap
  | _, [], _, _, e => by simp at e
inductive Has (a : Asr) : List Asr → Prop
  | here {r : List Asr} : Has a (a :: r)
  | there {x : Asr} {r : List Asr} (h : Has a r) : Has a (x :: r)
theorem Sat.has : ∀ {L : List Asr} {A : Nat → Prop}, Has a L → Sat w b L A → a.holds w b A
  | _, _, .here, ⟨_, h1, h2, _⟩ => h2.mono h1
  | _, _, .there h, hs => Sat.has h hs.tail
inductive Upd (g t : Nat) (cs cs' : Array Value) : List Asr → List Asr → Prop
  | here {r : List Asr} : Upd g t cs cs' (.box g cs t :: r) (.box g cs' t :: r)
  | there {x : Asr} {r r' : List Asr} (h : Upd g t cs cs' r r') : Upd g t cs cs' (x :: r) (x :: r')
theorem Upd.has {g t : Nat} {cs cs' : Array Value} {L L' : List Asr} (h : Upd g t cs cs' L L') : Has (.box g cs t) L := by
  induction h with
  | here => exact .here
  | there _ ih => exact .there ih
theorem Sat.upd {g t : Nat} {cs cs' : Array Value} (hc : w1.heap[g]? = some (.cells cs' t (0, 0))) (hk : ∀ k, k ≠ g → w1.heap[k]? = w.heap[k]?) :
    ∀ {L L' : List Asr} {A : Nat → Prop}, Upd g t cs cs' L L' → Sat w b L A → Sat w1 b L' A
  | _, _, _, .here, ⟨F, h1, h2, h3⟩ => ⟨F, h1, ⟨h2.1, h2.2.1, hc⟩, h3.step (fun k h _ => hk k (fun e => h.2 (e ▸ h2.1)))⟩
  | _, _, _, .there h, ⟨F, h1, h2, h3⟩ => ⟨F, h1, h2.step (fun k hF _ => hk k (fun e => (Sat.has h.has h3).1.2 (e ▸ hF))), Sat.upd hc hk h h3⟩
structure Sep (w0 w : World) (L : List Asr) : Prop where
  below : Below w0.heap.size w0 w
  sat : Sat w w0.heap.size L (fun k => k < w.heap.size)
theorem Sep.start (w : World) : Sep w w [] := ⟨Below.refl _ _, trivial⟩
theorem Sep.at_ (h : Sep w0 w L) (e : w1 = w) : Sep w0 w1 L := e ▸ h
theorem Sep.call (S : Sep w0 w L) (hb : Below w.heap.size w w1) : Sep w0 w1 L := ⟨below_step S.below hb, (S.sat.step (fun k hk _ => hb.block k hk)).mono (fun k hk => Nat.lt_of_lt_of_le hk hb.size)⟩
theorem Sep.drew (S : Sep w0 w L) : Sep w0 w.drew L := S.call (below_drew1 (Below.refl _ _))
theorem Sep.drewN (S : Sep w0 w L) (n : Nat) : Sep w0 (w.drewN n) L := S.call (pw_below_drewN (Below.refl _ _) n)
theorem Sep.push (S : Sep w0 w L) (hb : Below w.heap.size w w1) (h : a.holds w1 w.heap.size F) : Sep w0 w1 (a :: L) := by
  have T := S.call hb
  refine ⟨T.below, Sat.cons (S.sat.step (fun k hk _ => hb.block k hk)) (h.bound.lower S.below.size) (fun k hk => hk.2.2) (fun k hk => ⟨Nat.lt_of_lt_of_le hk hb.size, fun e => ?_⟩)⟩
  have := e.2.1
  omega
theorem Sep.new (S : Sep w0 w L) (cs : Array Value) (t : Nat) : Sep w0 (w.alloc (.cells cs t (0, 0))) (.box w.heap.size cs t :: L) :=
  S.push (F := fun _ => True) ((Below.refl _ _).alloc (Nat.le_refl _) _) ⟨trivial, Nat.le_refl _, heap_alloc_new _ _⟩
theorem Sep.tail (S : Sep w0 w (a :: L)) : Sep w0 w L := ⟨S.below, S.sat.tail⟩
theorem Sep.swap (S : Sep w0 w (a :: a2 :: L)) : Sep w0 w (a2 :: a :: L) := ⟨S.below, S.sat.swap⟩
theorem Sep.pick (S : Sep w0 w L) (n : Nat) (h : L[n]? = some a) (e : L.eraseIdx n = L') : Sep w0 w (a :: L') := e ▸ ⟨S.below, S.sat.pick h⟩
theorem Sep.nil (S : Sep w0 w L) {α : Type} (d : Kd α) (e : Nat) : Sep w0 w (.row d e (.slice none 0 0) [] :: L) :=
  ⟨S.below, Sat.cons (F := fun _ => False) S.sat (Kd.R_nil d e w _ _) (fun k h => h.elim) (fun k hk => ⟨hk, fun h => h⟩)⟩
theorem Sep.get (S : Sep w0 w L) (h : Has a L) : a.holds w w0.heap.size (fun k => k < w.heap.size) := Sat.has h S.sat
theorem Sep.blk {g t : Nat} {cs : Array Value} (S : Sep w0 w L) (h : Has (.box g cs t) L) : w.heap[g]? = some (.cells cs t (0, 0)) := (S.get h).2.2
structure Only (g : Nat) (w w1 : World) : Prop where
  os : w1.os = w.os
  tape : w1.tape = w.tape
  output : w1.output = w.output
  size : w1.heap.size = w.heap.size
  block : ∀ k, k ≠ g → w1.heap[k]? = w.heap[k]?
theorem Sep.upd {g t : Nat} {cs cs' : Array Value} (S : Sep w0 w L) (hU : Upd g t cs cs' L L') (ho : Only g w w1) (hc : w1.heap[g]? = some (.cells cs' t (0, 0))) : Sep w0 w1 L' := by
  have hge := (S.get hU.has).2.1
  refine ⟨⟨ho.os.trans S.below.os, ho.tape.trans S.below.tape, ho.output.trans S.below.output, by rw [ho.size]; exact S.below.size, fun k hk => (ho.block k (by omega)).trans (S.below.block k hk)⟩, ?_⟩
  rw [ho.size]
  exact Sat.upd hc ho.block hU S.sat
def cellsOf (w : World) : List Asr → Prop
  | [] => True
  | .box g cs _ :: r => (∀ i, w.cell? ⟨g, i, none⟩ = cs[i]?) ∧ (∀ i, w.frozen? ⟨g, i, none⟩ = false) ∧ cellsOf w r
  | .row _ _ _ _ :: r => cellsOf w r
  | .made _ _ _ :: r => cellsOf w r
theorem Sat.cells : ∀ {L : List Asr} {A : Nat → Prop}, Sat w b L A → cellsOf w L
  | [], _, _ => trivial
  | .box _ _ _ :: _, _, ⟨_, _, h2, h3⟩ => ⟨fun i => blk_cell h2.2.2 i, fun i => blk_frozen h2.2.2 i, Sat.cells h3⟩
  | .row _ _ _ _ :: r, _, ⟨_, _, _, h3⟩ => Sat.cells (L := r) h3
  | .made _ _ _ :: r, _, ⟨_, _, _, h3⟩ => Sat.cells (L := r) h3
theorem Sep.cells (S : Sep w0 w L) : cellsOf w L := S.sat.cells
def putL : List Value → Nat → List Value → List Value
  | cs, _, [] => cs
  | cs, i, v :: r => putL (cs.set i v) (i + 1) r
theorem setCells_putL (g t : Nat) : ∀ (seg : List Value) (o : Nat) (w : World) (cs : List Value), w.heap[g]? = some (.cells cs.toArray t (0, 0)) → (w.setCells g o seg).heap[g]? = some (.cells (putL cs o seg).toArray t (0, 0))
  | [], _, w, cs, h => h
  | v :: r, o, w, cs, h => by
    have h1 := setCells_putL g t r (o + 1) (w.setCell ⟨g, o, none⟩ v) (cs.set o v) (by simpa using blk_set h o v)
    exact h1
theorem setCells_only (g o : Nat) (seg : List Value) (w : World) : Only g w (w.setCells g o seg) := by
  obtain ⟨s1, s2, s3, s4⟩ := setCells_same g seg o w
  exact ⟨s1, s2, s3, s4, fun k hk => setCells_far _ _ k hk⟩
theorem Sep.out {α : Type} {d : Kd α} {x : α} {cs : List Value} (S : Sep w0 w L) (h : Has (.made d x cs) L) : d.M w w0.heap.size (fun _ => True) x cs := d.M_mono (fun _ _ => trivial) (S.get h)
theorem Sep.outR {α : Type} {d : Kd α} {e : Nat} {v : Value} {xs : List α} (S : Sep w0 w L) (h : Has (.row d e v xs) L) : d.R e w w0.heap.size (fun _ => True) v xs := Kd.R_mono (S.get h) (fun _ _ => trivial)
theorem Sep.node {v3 v4 : Value} {f0 f1 f2 : Int} {f3 : List Int} {f4 : List S37} (S : Sep w0 w (.row (Kd.int .u8) 5 v3 f3 :: .row k37 37 v4 f4 :: L)) : Sep w0 w (.made k37 ⟨f0, f1, f2, f3, f4⟩ [.int .i64 f0, .int .i64 f1, .int .i64 f2, v3, v4] :: L) := by
  obtain ⟨B, F, h1, h2, G, h3, h4, h5⟩ := S
  exact ⟨B, fun k => F k ∨ G k, fun k hk => hk.elim (h1 k) (fun h => (h3 k h).1), k37_mkM w _ _ ⟨f0, f1, f2, f3, f4⟩ (Kd.R_mono h2 (fun _ h => .inl h)) (Kd.R_mono h4 (fun _ h => .inr h)), h5.mono (fun k hk => ⟨hk.1.1, fun h => h.elim hk.1.2 hk.2⟩)⟩
end
section
variable {P : Program} {ops : Array Oper} {rest : List Oper} {o : Oper} {a : Act} {Q : Exit → Act → World → Prop} {w0 W : World} {L L' : List Asr} {Kc : Act → World → Prop}
theorem run_store_box (S : Sep w0 W L) {t : TypeId} {p x : Operand} (ho : o.op = .store t p x) {g i ty : Nat} {cs cs' : List Value} {u : Value} {seg : List Value}
    (hp : a.eval p = .pointer (some ⟨g, i, none⟩)) (hx : a.eval x = u) (hu : u.cells.toList = seg) (ht : (P.info? t).map (·.size) = some seg.length) (h1 : (seg.all (·.oneCell')) = true)
    (hU : Upd g ty cs.toArray cs'.toArray L L') (hfit : Nat.ble (i + seg.length) cs.length = true) (hc : putL cs i seg = cs') :
    ∃ w1, (execOp a.eval o).run P W = .ok .skip w1 ∧ Sep w0 w1 L' := by
  have hb := S.blk hU.has
  have hr := run_store_run (P := P) t u seg hb hu ht (by simpa using Nat.le_of_ble_eq_true hfit) (fun q hq => List.all_eq_true.1 h1 q hq)
  refine ⟨_, ?_, S.upd hU (setCells_only g i seg W) (hc ▸ setCells_putL g ty seg i W cs hb)⟩
  unfold execOp
  simp only [ho, hp, hx, Sem.run_bind, Sem.run_pure, Result.andThen_ok, hr]
theorem sp_store {t : TypeId} {p x : Operand} (ho : o.op = .store t p x) (hN : o.dst = none) (hg : o.guard = none) (S : Sep w0 W L) {g i ty : Nat} {cs cs' : List Value} {u : Value} {seg : List Value}
    (hp : a.eval p = .pointer (some ⟨g, i, none⟩)) (hU : Upd g ty cs.toArray cs'.toArray L L') (hx : a.eval x = u) (hu : u.cells.toList = seg) (ht : (P.info? t).map (·.size) = some seg.length) (h1 : (seg.all (·.oneCell')) = true)
    (hfit : Nat.ble (i + seg.length) cs.length = true) (hc : putL cs i seg = cs') (h : ∀ w1, Sep w0 w1 L' → wpList P ops Q rest a w1) : wpList P ops Q (o :: rest) a W := by
  obtain ⟨w1, hr, S1⟩ := run_store_box (a := a) (P := P) S ho hp hx hu ht h1 hU hfit hc
  refine wpList_plain hg fun K hK => ?_
  unfold Oper.wp
  rw [hr]
  show K (a.put o.dst undef) w1
  rw [hN]
  exact hK _ _ (h _ S1)
theorem sp_store_step {t : TypeId} {p x : Operand} (ho : o.op = .store t p x) (hN : o.dst = none) (hw : Region.wanted o (yielded ops a.tmps) = true) (S : Sep w0 W L) {g i ty : Nat} {cs cs' : List Value} {u : Value} {seg : List Value}
    (hp : a.eval p = .pointer (some ⟨g, i, none⟩)) (hU : Upd g ty cs.toArray cs'.toArray L L') (hx : a.eval x = u) (hu : u.cells.toList = seg) (ht : (P.info? t).map (·.size) = some seg.length) (h1 : (seg.all (·.oneCell')) = true)
    (hfit : Nat.ble (i + seg.length) cs.length = true) (hc : putL cs i seg = cs') (h : ∀ w1, Sep w0 w1 L' → Kc a w1) : if Region.wanted o (yielded ops a.tmps) = true then Oper.wp P o a W Kc Q else Kc (a.put none undef) W := by
  obtain ⟨w1, hr, S1⟩ := run_store_box (a := a) (P := P) S ho hp hx hu ht h1 hU hfit hc
  exact skip_ hw hN hr (h _ S1)
end
def aggB (P : Program) (t : TypeId) : Bool := match P.underlying t with
  | some (.struct _) | some (.array _ _) => true
  | _ => false
def scalB (P : Program) (t : TypeId) : Bool := match P.underlying t with
  | some (.struct _) | some (.array _ _) | none => false
  | some _ => true
theorem run_load_one {P : Program} {w : World} {t : TypeId} {ad : Addr} {v : Value} (hs : scalB P t = true) (hc : w.cell? ad = some v) : (Instr.loadAt t (.pointer (some ad))).run P w = .ok v w := by
  unfold scalB at hs
  cases hu : P.underlying t with
  | none => rw [hu] at hs; cases hs
  | some d =>
    rw [hu] at hs
    have hagg : (isAgg t).run P w = .ok false w := by
      unfold isAgg
      rw [Sem.run_bind, run_underlying hu w]
      cases d <;> simp_all
    simp [Instr.loadAt, Instr.sureAddr, loadVar, Sem.run_bind, hagg, hc]
def LoadIs (P : Program) (L : List Asr) (o : Oper) (a : Act) (v : Value) : Prop := ∀ w0 w, Sep w0 w L → (execOp a.eval o).run P w = .ok (.value v) w
section
variable {P : Program} {ops : Array Oper} {rest : List Oper} {o : Oper} {a a' : Act} {Q : Exit → Act → World → Prop} {w0 W : World} {L L' : List Asr} {Kc : Act → World → Prop}
theorem ldA {t : TypeId} {p : Operand} {g : Nat} {cs : Array Value} (ho : o.op = .load t p) (hp : a.eval p = .pointer (some ⟨g, 0, none⟩)) (hm : Has (.box g cs t) L) (ha : aggB P t = true) (hs : (P.info? t).map (·.size) = some cs.size) : LoadIs P L o a (.agg cs) := by
  intro w0 w S
  unfold aggB at ha
  cases hu : P.underlying t with
  | none => rw [hu] at ha; cases ha
  | some d =>
    have hr := run_loadVar_row w g t t cs (0, 0) d (S.blk hm) hu (by rw [hu] at ha; cases d <;> simp_all) hs
    unfold execOp
    simp only [ho, hp, Instr.loadAt, Instr.sureAddr, Sem.run_bind, Sem.run_pure, Result.andThen_ok, hr]
theorem ldS {t : TypeId} {p : Operand} {g i ty : Nat} {cs : Array Value} {v : Value} (ho : o.op = .load t p) (hp : a.eval p = .pointer (some ⟨g, i, none⟩)) (hm : Has (.box g cs ty) L) (hv : cs[i]? = some v) (hs : scalB P t = true) : LoadIs P L o a v := by
  intro w0 w S
  have hr := run_load_one (P := P) hs ((blk_cell (S.blk hm) i).trans hv)
  unfold execOp
  simp only [ho, hp, Sem.run_bind, Sem.run_pure, Result.andThen_ok, hr]
def LdAt (P : Program) (ops : Array Oper) (L : List Asr) (o : Oper) (a a' : Act) : Prop := Region.wanted o (yielded ops a.tmps) = true ∧ ∃ v, LoadIs P L o a v ∧ a.put o.dst v = a'
def isNew (o : Oper) : Bool := match o.op with
  | .alloc _ | .box _ _ => true
  | _ => false
def isStore (o : Oper) : Bool := match o.op with
  | .store _ _ _ => true
  | _ => false
theorem ldAt1 {t : TypeId} {p : Operand} {g i ty : Nat} {cs : Array Value} {v : Value} (h1 : o.op = .load t p) {q : Value} (h2 : a.eval p = q) (hq : q = .pointer (some ⟨g, i, none⟩)) (hw : Region.wanted o (yielded ops a.tmps) = true) (h3 : Has (.box g cs ty) L) (_h : Nat.beq t ty = false) (h4 : cs[i]? = some v) (h5 : scalB P t = true) (h6 : a.put o.dst v = a') : LdAt P ops L o a a' := ⟨hw, v, ldS h1 (h2.trans hq) h3 h4 h5, h6⟩
theorem ldAtN {t : TypeId} {p : Operand} {g : Nat} {cs : Array Value} (h1 : o.op = .load t p) {q : Value} (h2 : a.eval p = q) (hq : q = .pointer (some ⟨g, 0, none⟩)) (hw : Region.wanted o (yielded ops a.tmps) = true) (h3 : Has (.box g cs t) L) (h4 : aggB P t = true) (h5 : (P.info? t).map (·.size) = some cs.size) (h6 : a.put o.dst (.agg cs) = a') : LdAt P ops L o a a' := ⟨hw, _, ldA h1 (h2.trans hq) h3 h4 h5, h6⟩
theorem wl (h : wpList P ops Q (o :: rest) a W) : wpList P ops Q (o :: rest) a W := h
theorem want0 {o : Oper} {y : Nat → Option Bool} (h : o.guard = none) : Region.wanted o y = true := by unfold Region.wanted; rw [h]
theorem LdAt.run (k : LdAt P ops L o a a') (S : Sep w0 W L) (h : wpList P ops Q rest a' W) : wpList P ops Q (o :: rest) a W := by
  obtain ⟨hw, v, hr, rfl⟩ := k
  refine wpList_step fun K hK => ?_
  rw [if_pos hw]
  unfold Oper.wp
  rw [hr _ _ S]
  exact hK _ _ h
theorem sl (S : Sep w0 W L) (h : wpList P ops Q rest a' W)
    (k : LdAt P ops L o a a' := by
      apply ldAt1
      case h1 => with_reducible rfl
      case h2 => go_simp; with_reducible rfl
      case hq => with_reducible rfl
      case hw => first | exact want0 rfl | rfl
      case h3 => repeat (first | exact Has.here | apply Has.there)
      case _h => rfl
      case h4 => rfl
      case h5 => kernel_rfl
      case h6 => simp only [Act.put, List.setIfInBounds_toArray, List.set_cons_zero, List.set_cons_succ]; rfl) : wpList P ops Q (o :: rest) a W := k.run S h
theorem sa (S : Sep w0 W L) (h : wpList P ops Q rest a' W)
    (k : LdAt P ops L o a a' := by
      apply ldAtN
      case h1 => with_reducible rfl
      case h2 => go_simp; with_reducible rfl
      case hq => with_reducible rfl
      case hw => first | exact want0 rfl | rfl
      case h3 => repeat (first | exact Has.here | apply Has.there)
      case h4 => kernel_rfl
      case h5 => kernel_rfl
      case h6 => simp only [Act.put, List.setIfInBounds_toArray, List.set_cons_zero, List.set_cons_succ]; rfl) : wpList P ops Q (o :: rest) a W := k.run S h
def NwAt (P : Program) (W : World) (o : Oper) (a : Act) (cs : Array Value) (t : TypeId) (f : Nat → Act) : Prop :=
  (execOp a.eval o).run P W = .ok (.value (.pointer (some ⟨W.heap.size, 0, none⟩))) (W.alloc (.cells cs t (0, 0))) ∧ ∀ g, a.put o.dst (.pointer (some ⟨g, 0, none⟩)) = f g
theorem sn (S : Sep w0 W L) {cs : Array Value} {t : TypeId} {f : Nat → Act} (h : ∀ g w1, Sep w0 w1 (.box g cs t :: L) → wpList P ops Q rest (f g) w1) (_ : isNew o = true := by rfl) (hg : o.guard = none := by rfl)
    (k : NwAt P W o a cs t f := by
      refine ⟨?_, fun g => ?_⟩
      · first | (go_simp; done) | (go_simp; rfl)
      · simp only [Act.put, List.setIfInBounds_toArray, List.set_cons_zero, List.set_cons_succ]; rfl) : wpList P ops Q (o :: rest) a W := by
  obtain ⟨hr, hf⟩ := k
  refine Kd.event_run hg hr ?_
  rw [hf]
  exact h _ _ (S.new cs t)
def StAt (P : Program) (o : Oper) (a : Act) (L L' : List Asr) : Prop := ∃ (t : TypeId) (p x : Operand) (g i ty : Nat) (cs cs' : List Value) (u : Value) (seg : List Value),
  o.op = .store t p x ∧ o.dst = none ∧ a.eval p = .pointer (some ⟨g, i, none⟩) ∧ Upd g ty cs.toArray cs'.toArray L L' ∧ a.eval x = u ∧ u.cells.toList = seg ∧ (P.info? t).map (·.size) = some seg.length ∧ (seg.all (·.oneCell')) = true ∧ Nat.ble (i + seg.length) cs.length = true ∧ putL cs i seg = cs'
theorem stAt {t : TypeId} {p x : Operand} {g i ty : Nat} {cs cs' : List Value} {seg : List Value} (h1 : o.op = .store t p x) (h2 : o.dst = none) (h3 : a.eval p = .pointer (some ⟨g, i, none⟩)) (h4 : Upd g ty cs.toArray cs'.toArray L L') {u : Value} (h5 : a.eval x = u) (h6 : u.cells.toList = seg)
    (h7 : (P.info? t).map (·.size) = some seg.length) (h8 : (seg.all (·.oneCell')) = true) (h9 : Nat.ble (i + seg.length) cs.length = true) (h10 : putL cs i seg = cs') : StAt P o a L L' := ⟨t, p, x, g, i, ty, cs, cs', u, seg, h1, h2, h3, h4, h5, h6, h7, h8, h9, h10⟩
theorem ss (S : Sep w0 W L) (h : ∀ w1, Sep w0 w1 L' → wpList P ops Q rest a w1) (_ : isStore o = true := by rfl) (hg : o.guard = none := by rfl)
    (k : StAt P o a L L' := by
      apply stAt
      case h1 => rfl
      case h2 => rfl
      case h3 => rfl
      case h4 => repeat (first | exact Upd.here | apply Upd.there)
      case h5 => go_simp; with_reducible rfl
      case h6 => first | exact (rfl : _ = [_]) | exact (rfl : _ = [_, _, _, _, _]) | exact (rfl : _ = [_, _, _]) | exact (rfl : _ = [_, _, _, _, _, _, _, _]) | exact (rfl : _ = [_, _, _, _, _, _, _, _, _, _])
      case h7 => kernel_rfl
      case h8 => rfl
      case h9 => rfl
      case h10 => simp only [putL, List.set_cons_zero, List.set_cons_succ]; rfl) : wpList P ops Q (o :: rest) a W := by
  obtain ⟨t, p, x, g, i, ty, cs, cs', u, seg, h1, h2, h3, h4, h5, h6, h7, h8, h9, h10⟩ := k
  exact sp_store h1 h2 hg S h3 h4 h5 h6 h7 h8 h9 h10 h
end
inductive RVs (P : Program) (L : List Asr) (tmps : Array Value) : List ResultVar → List Value → Prop
  | nil : RVs P L tmps [] []
  | tmp {u : Tmp} {v : Value} {rs : List ResultVar} {vs : List Value} (h1 : tmps.getD u undef = v) (h : RVs P L tmps rs vs) : RVs P L tmps (.tmp u :: rs) (v :: vs)
  | cell {p : Tmp} {ty g : Nat} {cs : Array Value} {rs : List ResultVar} {vs : List Value} (h1 : tmps.getD p undef = .pointer (some ⟨g, 0, none⟩)) (h2 : Has (.box g cs ty) L) (h3 : aggB P ty = true) (h4 : (P.info? ty).map (·.size) = some cs.size) (h : RVs P L tmps rs vs) : RVs P L tmps (.cell p ty :: rs) (.agg cs :: vs)
theorem RVs.vals {P : Program} {L : List Asr} {tmps : Array Value} {w0 w : World} (S : Sep w0 w L) {rs : List ResultVar} {vs : List Value} (h : RVs P L tmps rs vs) : Vals P tmps w rs vs := by
  induction h with
  | nil => exact .nil
  | tmp h1 _ ih => subst h1; exact .tmp ih
  | @cell p ty g cs rs vs h1 h2 h3 h4 _ ih =>
    unfold aggB at h3
    cases hu : P.underlying ty with
    | none => rw [hu] at h3; cases h3
    | some d => exact .cell g ty cs (0, 0) d h1 (S.blk h2) hu (by rw [hu] at h3; cases d <;> simp_all) h4 ih
def RetAt (P : Program) (L : List Asr) (fn : Func) (a : Act) (v : Value) : Prop := a.defers = [] ∧ ∃ rs vs, fn.results = List.toArray rs ∧ RVs P L a.tmps rs vs ∧ v = (if vs.length = 1 then vs.getD 0 undef else .tuple vs.toArray)
theorem retAt1 {P : Program} {L : List Asr} {fn : Func} {a : Act} {v : Value} {r : ResultVar} (h1 : a.defers = []) (h2 : fn.results = #[r]) (h3 : RVs P L a.tmps [r] [v]) : RetAt P L fn a v := ⟨h1, _, _, h2, h3, rfl⟩
theorem retAtN {P : Program} {L : List Asr} {fn : Func} {a : Act} {rs : List ResultVar} {vs : List Value} (h1 : a.defers = []) (h2 : fn.results = rs.toArray) (h3 : RVs P L a.tmps rs vs) (h4 : vs.length ≠ 1) : RetAt P L fn a (.tuple vs.toArray) := ⟨h1, _, _, h2, h3, by rw [if_neg h4]⟩
theorem RetAt.run {P : Program} {L : List Asr} {fn : Func} {a : Act} {v : Value} {w0 w : World} (h : RetAt P L fn a v) (S : Sep w0 w L) : (results fn a.tmps).run P w = .ok v w := by
  obtain ⟨_, rs, vs, h2, h3, rfl⟩ := h
  by_cases hl : vs.length = 1
  · rw [if_pos hl]
    match vs, hl with
    | [v], _ =>
      cases h3 with
      | tmp h1 h => cases h; exact results_single (r := .tmp _) h2 (RVs.vals S (.tmp h1 .nil))
      | cell h1 h4 h5 h6 h => cases h; exact results_single (r := .cell _ _) h2 (RVs.vals S (.cell h1 h4 h5 h6 .nil))
  · rw [if_neg hl]
    exact results_list h2 hl (h3.vals S)
theorem rt {P : Program} {fn : Func} {R : Ending → World → Prop} {a : Act} {w0 w : World} {L : List Asr} {v : Value} (S : Sep w0 w L) (h : R (.returned v) w)
    (k : RetAt P L fn a v := by
      first
        | (apply retAt1
           case h1 => rfl
           case h2 => rfl
           case h3 =>
            first
              | (apply RVs.cell
                 case h1 => rfl
                 case h2 => repeat (first | exact Has.here | apply Has.there)
                 case h3 => kernel_rfl
                 case h4 => kernel_rfl
                 case h => exact RVs.nil)
              | (apply RVs.tmp
                 case h1 => rfl
                 case h => exact RVs.nil))
        | (apply retAtN
           case h1 => rfl
           case h2 => rfl
           case h3 =>
            repeat' (first
              | exact RVs.nil
              | (apply RVs.cell
                 case h1 => rfl
                 case h2 => repeat (first | exact Has.here | apply Has.there)
                 case h3 => kernel_rfl
                 case h4 => kernel_rfl)
              | (apply RVs.tmp
                 case h1 => rfl))
           case h4 => simp)) : bodyPost P fn R .ret a w := ⟨k.1, v, k.run S, h⟩
section
variable {P : Program} {ops : Array Oper} {rest : List Oper} {o : Oper} {a : Act} {Q : Exit → Act → World → Prop} {w0 W w1 : World} {L : List Asr} {Kc : Act → World → Prop} {α : Type} {d : Kd α} {e : Nat} {v v1 : Value} {xs ys : List α} {p : α} {cs : List Value}
theorem Sep.one (S : Sep w0 W L) (enc : α → Value) (h1 : ∀ x, (enc x).oneCell' = true) (x : α) : Sep w0 W (.made (Kd.scalar enc h1) x [enc x] :: L) :=
  ⟨S.below, Sat.cons (F := fun _ => False) S.sat (show [enc x] = [enc x] from rfl) (fun _ h => h.elim) (fun k hk => ⟨hk, fun h => h⟩)⟩
theorem Sep.appended {ok F G : Nat → Prop} {A : Nat → Prop} (hb : Below w0.heap.size w0 W) (hF : ∀ k, F k → k < W.heap.size) (hv : ∀ k, v.ownBlock = some k → F k) (hG : ∀ k, G k → k < W.heap.size ∧ ¬ F k)
    (hL : Sat W w0.heap.size L (fun k => (k < W.heap.size ∧ ¬ F k) ∧ ¬ G k)) (hR : d.R e w1 w0.heap.size (fun k => F k ∨ G k ∨ W.heap.size ≤ k) v1 ys) (hB : Below w0.heap.size w0 w1) (hg : W.grownBy w1 v.ownBlock) : Sep w0 w1 (.row d e v1 ys :: L) := by
  refine ⟨hB, Sat.cons (hL.step (fun k hk hlt => hg.block k hlt (fun e => hk.1.2 (hv k e.symm)))) (Asr.holds.bound (a := .row d e v1 ys) hR) (fun k hk => hk.2.2) (fun k hk => ⟨Nat.lt_of_lt_of_le hk.1.1 hg.size, fun h => ?_⟩)⟩
  rcases h.1 with h | h | h
  · exact hk.1.2 h
  · exact hk.2 h
  · have := hk.1.1
    omega
theorem sp_append (S : Sep w0 W (.row d e v xs :: .made d p cs :: L)) (hgd : o.guard = none) {s x : Operand} {t : TypeId} {z : Value} {bytes : Nat}
    (ho : o.op = .call { callee := .builtin .append, args := #[s, x], argTypes := #[t, t] })
    (ht : P.underlying t = some (.slice e)) (hinfo : (P.info? e).map (fun i => (i.zero, i.size, i.bytes)) = some (some z, d.sz, bytes)) (hz : z.cells.size = d.sz) (hs0 : 0 < d.sz) (hb0 : 0 < bytes)
    (hs : a.eval s = v) (hx : a.eval x = .slice (some ⟨W.heap.size, 0, none⟩) 1 1) (hl : (xs.length + 1) * bytes ≤ 140737488355328)
    (h : ∀ v1 w1, Sep w0 w1 (.row d e v1 (xs ++ [p]) :: L) → wpList P ops Q rest (a.put o.dst v1) w1) : wpList P ops Q (o :: rest) a (W.alloc (.cells cs.toArray e)) := by
  obtain ⟨B, F, h1, h2, G, h3, h4, h5⟩ := S
  refine Kd.R_append d (w0 := w0) w0.heap.size hgd s x t e z bytes ho ht hinfo hz hs0 hb0 v xs p cs (fun k => F k ∨ G k ∨ W.heap.size ≤ k) G hs hx h4 (fun k hk => ⟨.inr (.inl hk), fun he => (h3 k hk).2 (h2.1 k he.symm)⟩) (fun k hk => .inr (.inr hk)) (Kd.R_mono h2 (fun k hk => .inl hk)) B B.size hl ?_
  intro v1 w1 hr hb hg _
  exact h v1 w1 (Sep.appended (ok := fun _ => True) (A := fun _ => True) B h1 h2.1 h3 h5 hr hb hg)
end
def Kp (L : List Asr) (ks : List Nat) (w : World) : Prop := ∀ k ∈ ks, ∀ g cs t, L[k]? = some (.box g cs t) → w.heap[g]? = some (.cells cs t (0, 0))
theorem hasAt {a : Asr} : ∀ {L : List Asr} {k : Nat}, L[k]? = some a → Has a L
  | [], _, e => by simp at e
  | x :: r, 0, e => by
    obtain rfl : x = a := by simpa using e
    exact .here
  | x :: r, k + 1, e => .there (hasAt (k := k) (by simpa using e))
theorem Sep.kp {w0 w : World} {L L' : List Asr} {ks : List Nat} (S : Sep w0 w L') (h : ∀ k ∈ ks, L'[k]? = L[k]?) : Kp L ks w := fun k hk g cs t e => S.blk (hasAt ((h k hk).trans e))
inductive At (a : Asr) : List Asr → Nat → Prop
  | here {r : List Asr} : At a (a :: r) 0
  | there {x : Asr} {r : List Asr} {k : Nat} (h : At a r k) : At a (x :: r) (k + 1)
theorem At.get {a : Asr} {L : List Asr} {k : Nat} (h : At a L k) : L[k]? = some a := by
  induction h with
  | here => rfl
  | there _ ih => simpa using ih
section
variable {P : Program} {md : Region.Mode} {ops : Array Oper} {Q : Exit → Act → World → Prop} {w0 W w : World} {L L' : List Asr} {ks : List Nat}
theorem rs (ks : List Nat) (S : Sep w0 W L) {id n : Nat} {l : Array Bool} {a : Act} (h : ∀ w1, Sep w0 w1 L → wpAnyLast P .any ops Q (Kp L ks) [] n l a w1)
    (h1 : P.follows .mixedOrders = true := by kernel_rfl) (h2 : ops.size = n := by simp only [List.size_toArray, List.length_cons, List.length_nil, Nat.reduceAdd]; rfl)
    (h3 : Array.replicate n false = l := by simp only [Array.replicate_succ, Array.replicate_zero, List.push_toArray, List.nil_append, List.cons_append]; rfl) : (Code.region id ops true).wp P Q a W :=
  start_ (S := Kp L ks) l h1 h2 h3 (S.drew.kp (fun _ _ => rfl)) (fun _ => h _ S.drew)
theorem run_kp {oi : Oper} {a : Act} {t : TypeId} {p : Operand} {g i ty k : Nat} {cs : Array Value} {v : Value} (h1 : oi.op = .load t p) (h2 : a.eval p = .pointer (some ⟨g, i, none⟩)) (h3 : At (.box g cs ty) L k) (h4 : k ∈ ks) (h5 : cs[i]? = some v) (h6 : scalB P t = true) : ∀ w, Kp L ks w → (execOp a.eval oi).run P w = .ok (.value v) w := by
  intro w hw
  have hr := run_load_one (P := P) h6 ((blk_cell (hw k h4 g cs ty h3.get) i).trans h5)
  unfold execOp
  simp only [h1, h2, Sem.run_bind, Sem.run_pure, Result.andThen_ok, hr]
theorem run_kpA {oi : Oper} {a : Act} {t : TypeId} {p : Operand} {g k : Nat} {cs : Array Value} (h1 : oi.op = .load t p) (h2 : a.eval p = .pointer (some ⟨g, 0, none⟩)) (h3 : At (.box g cs t) L k) (h4 : k ∈ ks) (h5 : aggB P t = true) (h6 : (P.info? t).map (·.size) = some cs.size) : ∀ w, Kp L ks w → (execOp a.eval oi).run P w = .ok (.value (.agg cs)) w := by
  intro w hw
  unfold aggB at h5
  cases hu : P.underlying t with
  | none => rw [hu] at h5; cases h5
  | some d =>
    have hr := run_loadVar_row w g t t cs (0, 0) d (hw k h4 g cs t h3.get) hu (by rw [hu] at h5; cases d <;> simp_all) h6
    unfold execOp
    simp only [h1, h2, Instr.loadAt, Instr.sureAddr, Sem.run_bind, Sem.run_pure, Result.andThen_ok, hr]
def LtAt (P : Program) (md : Region.Mode) (ops : Array Oper) (Q : Exit → Act → World → Prop) (L : List Asr) (ks : List Nat) (i : Nat) (l l' : Array Bool) (a a' : Act) : Prop :=
  ∃ oi v, ops[i]? = some oi ∧ l.setIfInBounds i true = l' ∧ takeB md ops [] l l' i = true ∧ oi.guard = none ∧ (∀ w, Kp L ks w → (execOp a.eval oi).run P w = .ok (.value v) w) ∧ a.put oi.dst v = a' ∧ (∀ c v a w, Q (.panic c) (a.put oi.dst v) w → Q (.panic c) a w)
theorem ltAt1 {oi : Oper} {i : Nat} {l l' : Array Bool} {a a' : Act} {t : TypeId} {p : Operand} {g j ty k : Nat} {cs : Array Value} {v q : Value} (h1 : ops[i]? = some oi) (h2 : l.setIfInBounds i true = l') (h3 : takeB md ops [] l l' i = true) (hw : oi.guard = none) (h4 : oi.op = .load t p) (h5 : a.eval p = q) (hq : q = .pointer (some ⟨g, j, none⟩)) (h6 : At (.box g cs ty) L k) (h7 : k ∈ ks) (_h : Nat.beq t ty = false) (h8 : cs[j]? = some v) (h9 : scalB P t = true) (ha : a.put oi.dst v = a') (hp : ∀ c v a w, Q (.panic c) (a.put oi.dst v) w → Q (.panic c) a w) : LtAt P md ops Q L ks i l l' a a' := ⟨oi, v, h1, h2, h3, hw, run_kp h4 (h5.trans hq) h6 h7 h8 h9, ha, hp⟩
theorem ltAtN {oi : Oper} {i : Nat} {l l' : Array Bool} {a a' : Act} {t : TypeId} {p : Operand} {g k : Nat} {cs : Array Value} {q : Value} (h1 : ops[i]? = some oi) (h2 : l.setIfInBounds i true = l') (h3 : takeB md ops [] l l' i = true) (hw : oi.guard = none) (h4 : oi.op = .load t p) (h5 : a.eval p = q) (hq : q = .pointer (some ⟨g, 0, none⟩)) (h6 : At (.box g cs t) L k) (h7 : k ∈ ks) (h8 : aggB P t = true) (h9 : (P.info? t).map (·.size) = some cs.size) (ha : a.put oi.dst (.agg cs) = a') (hp : ∀ c v a w, Q (.panic c) (a.put oi.dst v) w → Q (.panic c) a w) : LtAt P md ops Q L ks i l l' a a' := ⟨oi, _, h1, h2, h3, hw, run_kpA h4 (h5.trans hq) h6 h7 h8 h9, ha, hp⟩
theorem LtAt.run {i : Nat} {l l' : Array Bool} {a a' : Act} {fuel : Nat} (k : LtAt P md ops Q L ks i l l' a a') (S : Kp L ks w) (h : wpAnyLast P md ops Q (Kp L ks) [] fuel l' a' w) : wpAnyLast P md ops Q (Kp L ks) [] (fuel + 1) l a w := by
  obtain ⟨oi, v, h1, h2, h3, hw, hr, ha, h5⟩ := k
  exact take_ l' h1 rfl h3 (fun c a w => h5 c v a w) (.inl ⟨want0 hw, fun w' s => hr _ s⟩) S ha h
theorem lt (i : Nat) (S : Sep w0 w L') {l l' : Array Bool} {a a' : Act} {fuel : Nat} (h : wpAnyLast P md ops Q (Kp L ks) [] fuel l' a' w)
    (hk : ∀ k ∈ ks, L'[k]? = L[k]? := by repeat (first | exact List.forall_mem_nil _ | refine List.forall_mem_cons.2 ⟨rfl, ?_⟩))
    (k : LtAt P md ops Q L ks i l l' a a' := by
      first
        | (apply ltAt1
           case h1 => simp only [List.getElem?_toArray, List.getElem?_cons_zero, List.getElem?_cons_succ]; rfl
           case h2 => simp only [List.setIfInBounds_toArray, List.set_cons_zero, List.set_cons_succ]; rfl
           case h3 => kernel_rfl
           case hw => rfl
           case h4 => with_reducible rfl
           case h5 => go_simp; with_reducible rfl
           case hq => with_reducible rfl
           case h6 => repeat (first | exact At.here | apply At.there)
           case h7 => decide
           case _h => rfl
           case h8 => rfl
           case h9 => kernel_rfl
           case ha => simp only [Act.put, List.setIfInBounds_toArray, List.set_cons_zero, List.set_cons_succ]; rfl
           case hp => exact fun _ _ _ _ h => h)
        | (apply ltAtN
           case h1 => simp only [List.getElem?_toArray, List.getElem?_cons_zero, List.getElem?_cons_succ]; rfl
           case h2 => simp only [List.setIfInBounds_toArray, List.set_cons_zero, List.set_cons_succ]; rfl
           case h3 => kernel_rfl
           case hw => rfl
           case h4 => with_reducible rfl
           case h5 => go_simp; with_reducible rfl
           case hq => with_reducible rfl
           case h6 => repeat (first | exact At.here | apply At.there)
           case h7 => decide
           case h8 => kernel_rfl
           case h9 => kernel_rfl
           case ha => simp only [Act.put, List.setIfInBounds_toArray, List.set_cons_zero, List.set_cons_succ]; rfl
           case hp => exact fun _ _ _ _ h => h)) : wpAnyLast P md ops Q (Kp L ks) [] (fuel + 1) l a w := k.run (S.kp hk) h
def LsAt (P : Program) (md : Region.Mode) (ops : Array Oper) (L L' : List Asr) (i : Nat) (l l' : Array Bool) (a : Act) : Prop :=
  ∃ oi, ops[i]? = some oi ∧ l.setIfInBounds i true = l' ∧ readyB md ops l l' i = true ∧ oi.guard = none ∧ StAt P oi a L L'
theorem lsAt {oi : Oper} {i : Nat} {l l' : Array Bool} {a : Act} (h1 : ops[i]? = some oi) (h2 : l.setIfInBounds i true = l') (h3 : readyB md ops l l' i = true) (h5 : oi.guard = none) (h6 : StAt P oi a L L') : LsAt P md ops L L' i l l' a := ⟨oi, h1, h2, h3, h5, h6⟩
theorem LsAt.run {L0 : List Asr} {i : Nat} {l l' : Array Bool} {a : Act} {fuel : Nat} (k : LsAt P md ops L L' i l l' a) (S : Sep w0 w L) (hk : ∀ k ∈ ks, L'[k]? = L0[k]?) (h : ∀ w1, Sep w0 w1 L' → wpAnyLast P md ops Q (Kp L0 ks) [] fuel l' a w1) : wpAnyLast P md ops Q (Kp L0 ks) [] (fuel + 1) l a w := by
  obtain ⟨oi, h1, h2, h3, h5, t, p, x, g, i', ty, cs, cs', u, seg, e1, e2, e3, e4, e5, e6, e7, e8, e9, e10⟩ := k
  exact one_ l' h1 e2 h3 (by simp) (fun K hK => sp_store_step e1 e2 (want0 h5) S e3 e4 e5 e6 e7 e8 e9 e10 (fun w1 S1 => hK.out _ _ (S1.kp hk) (fun _ => h w1 S1)))
theorem ls (i : Nat) (S : Sep w0 w L) {L0 : List Asr} {l l' : Array Bool} {a : Act} {fuel : Nat} (h : ∀ w1, Sep w0 w1 L' → wpAnyLast P md ops Q (Kp L0 ks) [] fuel l' a w1)
    (k : LsAt P md ops L L' i l l' a := by
      apply lsAt
      case h1 => simp only [List.getElem?_toArray, List.getElem?_cons_zero, List.getElem?_cons_succ]; rfl
      case h2 => simp only [List.setIfInBounds_toArray, List.set_cons_zero, List.set_cons_succ]; rfl
      case h3 => kernel_rfl
      case h5 => rfl
      case h6 =>
        apply stAt
        case h1 => rfl
        case h2 => rfl
        case h3 => rfl
        case h4 => repeat (first | exact Upd.here | apply Upd.there)
        case h5 => go_simp; with_reducible rfl
        case h6 => first | exact (rfl : _ = [_]) | exact (rfl : _ = [_, _, _, _, _]) | exact (rfl : _ = [_, _, _]) | exact (rfl : _ = [_, _, _, _, _, _, _, _]) | exact (rfl : _ = [_, _, _, _, _, _, _, _, _, _])
        case h7 => kernel_rfl
        case h8 => rfl
        case h9 => rfl
        case h10 => simp only [putL, List.set_cons_zero, List.set_cons_succ]; rfl)
    (hk : ∀ k ∈ ks, L'[k]? = L0[k]? := by repeat (first | exact List.forall_mem_nil _ | refine List.forall_mem_cons.2 ⟨rfl, ?_⟩)) : wpAnyLast P md ops Q (Kp L0 ks) [] (fuel + 1) l a w := k.run S hk h
theorem dn {Sp : World → Prop} {ds : List Nat} {l : Array Bool} {a : Act} {n : Nat} (h : Q .normal a w) (hr : (Region.ready md ops l == []) = true := by kernel_rfl) : wpAnyLast P md ops Q Sp ds n l a w := done_ hr h
end
end Go.Proofs.YtidglmocekghmaaDoor.Pr
end
section
namespace Go.Proofs.YtidglmocekghmaaDoor.Pr
open Go.RowKit Go.Proofs.YtidglmocekghmaaDoorW.PrintWords Go.Proofs.YtidglmocekghmaaDoorW.PrintLast Go.Proofs.YtidglmocekghmaaDoorW.PrintMore
set_option linter.unusedVariables false
set_option linter.unusedSimpArgs false
theorem ret_k {k : IntKind} {a b : Int} (h : a = b) : Ending.returned (.int k a) = .returned (.int k b) := by rw [h]
def p2 (k : Nat) : Int := ((2 ^ k : Nat) : Int)
theorem p2_succ (k : Nat) : p2 (k + 1) = p2 k * 2 := by unfold p2; rw [Nat.pow_succ]; omega
theorem p2_add (a k : Nat) : p2 (a + k) = p2 a * p2 k := by unfold p2; rw [Nat.pow_add]; exact Int.natCast_mul ..
theorem p2_pos (k : Nat) : 0 < p2 k := by unfold p2; have := Nat.two_pow_pos k; omega
theorem p2_le {k m : Nat} (h : k ≤ m) : p2 k ≤ p2 m := by unfold p2; have := Nat.pow_le_pow_right (n := 2) (by omega) h; omega
theorem p2_63 : p2 63 = 9223372036854775808 := rfl
theorem emod_mul2 (x m : Int) (h : 0 < m) : x % (m * 2) = x % m + x / m % 2 * m := by
  have h1 := Int.mul_ediv_add_emod x m
  have h2 := Int.mul_ediv_add_emod (x / m) 2
  have h3 := Int.emod_nonneg x (Int.ne_of_gt h)
  have h4 := Int.emod_lt_of_pos x h
  have h5 := Int.emod_two_eq (x / m)
  have e : x = (x % m + x / m % 2 * m) + (m * 2) * (x / m / 2) := by
    have : m * (x / m) = m * (2 * (x / m / 2) + x / m % 2) := by rw [h2]
    rw [Int.mul_add] at this
    have e2 : m * (2 * (x / m / 2)) = m * 2 * (x / m / 2) := by rw [Int.mul_assoc]
    have e3 : m * (x / m % 2) = x / m % 2 * m := Int.mul_comm _ _
    omega
  conv => lhs; rw [e]
  rw [Int.add_mul_emod_self_left]
  apply Int.emod_eq_of_lt
  · rcases h5 with h5 | h5 <;> rw [h5] <;> omega
  · rcases h5 with h5 | h5 <;> rw [h5] <;> omega
def fld (w : Int) (a n : Nat) : Int := w / p2 a % p2 n
theorem fld_succ (w : Int) (a k : Nat) : fld w a (k + 1) = fld w a k + w / p2 (a + k) % 2 * p2 k := by
  unfold fld
  rw [p2_succ, p2_add, ← Int.ediv_ediv_of_nonneg (Int.le_of_lt (p2_pos a))]
  exact emod_mul2 _ _ (p2_pos k)
theorem fld_bd (w : Int) (a n : Nat) : 0 ≤ fld w a n ∧ fld w a n < p2 n := ⟨Int.emod_nonneg _ (Int.ne_of_gt (p2_pos n)), Int.emod_lt_of_pos _ (p2_pos n)⟩
theorem pow_at (n : Nat) (w : World) (hn : n ≤ 63) : Calls Tryd.prog 80 #[.int .i64 n] w fun e w' => e = .returned (.int .u64 (p2 n)) ∧ w' = w := by
  go_enter Tryd.func80, Tryd.ntmps80
  go_wp2
  go_loop [3, 4] (fun v i => ∃ k : Nat, k ≤ n ∧ i = .int .i64 k ∧ v = .int .u64 (p2 k)) (fun _ i => n - (intOf i).toNat)
  case atStart => exact ⟨0, Nat.zero_le _, rfl, rfl⟩
  case round =>
    obtain ⟨k, hk, rfl, rfl⟩ := hrel
    by_cases hlt : k < n
    · have h1 := p2_pos k
      have h2 := p2_le (k := k + 1) (m := 63) (by omega)
      have h3 := Lib.hid (p2_succ k)
      rw [p2_succ, p2_63] at h2
      go_wp2
      go_round
      case rel => exact ⟨k + 1, by omega, by go_num, by rw [h3.out]⟩
      case measure => simp [intOf]; omega
    · obtain rfl : k = n := by omega
      go_wp2
      go_ret
      exact ⟨rfl, rfl⟩
theorem pow_i (i : Int) (n : Nat) (w : World) (h : i = n) (hn : n ≤ 63) : Calls Tryd.prog 80 #[.int .i64 i] w fun e w' => e = .returned (.int .u64 (p2 n)) ∧ w' = w := h ▸ pow_at n w hn
set_option maxRecDepth 100000 in
theorem field_at (x : Int) (a n : Nat) (w : World) (h0 : 0 ≤ x) (h1 : x < 18446744073709551616) (hn : a + n ≤ 64) : Calls Tryd.prog 64 #[.int .u64 x, .int .i64 a, .int .i64 n] w fun e w' => e = .returned (.int .u64 (fld x a n)) ∧ w' = w := by
  go_enter Tryd.func64, Tryd.ntmps64
  go_wp2
  go_loop [7, 8] (fun v i => ∃ k : Nat, k ≤ n ∧ i = .int .i64 k ∧ v = .int .u64 (fld x a k)) (fun _ i => n - (intOf i).toNat)
  case atStart => exact ⟨0, Nat.zero_le _, rfl, by simp [fld, p2, Int.emod_one]⟩
  case round =>
    obtain ⟨k, hk, rfl, rfl⟩ := hrel
    by_cases hlt : k < n
    · have hp := p2_pos (a + k)
      have hq := p2_pos k
      have hf := fld_bd x a k
      have hl := p2_le (k := k) (m := 63) (by omega)
      rw [p2_63] at hl
      obtain ⟨hf0, hf1⟩ := hf
      have h3 := Lib.hid (fld_succ x a k)
      have c1 : p2 (a + k) ≠ 0 := Int.ne_of_gt hp
      have d0 : 0 ≤ x / p2 (a + k) := Int.ediv_nonneg h0 (Int.le_of_lt hp)
      by_cases hb : x / p2 (a + k) % 2 = 1
      · have hb1 : (x / p2 (a + k) % 2 == 1) = true := beq_iff_eq.2 hb
        have HB := Lib.hid hb
        clear hb
        go_wp2_with (first | ((with_reducible refine (pow_i _ (a + k) _ (by omega) (by omega)).mono ?_); rintro e w' ⟨rfl, rfl⟩) | ((with_reducible refine (pow_i _ k _ (by omega) (by omega)).mono ?_); rintro e w' ⟨rfl, rfl⟩))
        go_round
        case rel => exact ⟨k + 1, by omega, by go_num, by rw [h3.out, HB.out, Int.one_mul]⟩
        case measure => simp [intOf]; omega
      · have hb1 : (x / p2 (a + k) % 2 == 1) = false := beq_eq_false_iff_ne.2 hb
        have HB : Hid (x / p2 (a + k) % 2 = 0) := Lib.hid (by omega)
        clear hb
        go_wp2_with ((with_reducible refine (pow_i _ (a + k) _ (by omega) (by omega)).mono ?_); rintro e w' ⟨rfl, rfl⟩)
        go_round
        case rel => exact ⟨k + 1, by omega, by go_num, by rw [h3.out, HB.out, Int.zero_mul, Int.add_zero]⟩
        case measure => simp [intOf]; omega
    · obtain rfl : k = n := by omega
      go_wp2
      go_ret
      exact ⟨rfl, rfl⟩
theorem field_i (x i j : Int) (a n : Nat) (w : World) (h0 : 0 ≤ x) (h1 : x < 18446744073709551616) (hi : i = a) (hj : j = n) (hn : a + n ≤ 64) : Calls Tryd.prog 64 #[.int .u64 x, .int .i64 i, .int .i64 j] w fun e w' => e = .returned (.int .u64 (fld x a n)) ∧ w' = w := hi ▸ hj ▸ field_at x a n w h0 h1 hn
theorem signed_at (x : Int) (w : World) (h0 : 0 ≤ x) (h1 : x < 18446744073709551616) : Calls Tryd.prog 63 #[.int .u64 x, .int .i64 2, .int .i64 30] w fun e w' => e = .returned (.int .i64 (offW x)) ∧ w' = w := by
  have e1 : fld x 2 30 = x / 4 % 1073741824 := rfl
  have hb := fld_bd x 2 30
  have H : Hid (offW x = if fld x 2 30 < 536870912 then fld x 2 30 else fld x 2 30 - 1073741824) := Lib.hid (by unfold offW; rw [e1])
  have hp : p2 29 = 536870912 := rfl
  have hq : p2 30 = 1073741824 := rfl
  rw [hq] at hb
  obtain ⟨b0, b1⟩ := hb
  rw [H.out]
  clear hq e1
  have HF := Lib.hid (field_i x 2 30 2 30 w h0 h1 rfl rfl (by omega))
  have HP := Lib.hid hp
  clear hp h0 h1
  generalize fld x 2 30 = f at *
  by_cases hf : f < 536870912
  · rw [if_pos hf]
    go_enter Tryd.func63, Tryd.ntmps63
    go_wp2_with (first | ((with_reducible refine HF.out.mono ?_); rintro e w' ⟨rfl, rfl⟩) | ((with_reducible refine (pow_i _ 29 _ (by omega) (by omega)).mono ?_); rw [HP.out]; rintro e w' ⟨rfl, rfl⟩))
    go_ret
    exact ⟨rfl, rfl⟩
  · rw [if_neg hf]
    go_enter Tryd.func63, Tryd.ntmps63
    go_wp2_with (first | ((with_reducible refine HF.out.mono ?_); rintro e w' ⟨rfl, rfl⟩) | ((with_reducible refine (pow_i _ 29 _ (by omega) (by omega)).mono ?_); rw [HP.out]; rintro e w' ⟨rfl, rfl⟩))
    go_ret
    exact ⟨ret_k (by omega), rfl⟩
end Go.Proofs.YtidglmocekghmaaDoor.Pr
end
section
namespace Go.Proofs.YtidglmocekghmaaDoor.Pr
open Go.RowKit Go.Proofs.YtidglmocekghmaaDoorW.PrintWords Go.Proofs.YtidglmocekghmaaDoorW.PrintLast Go.Proofs.YtidglmocekghmaaDoorW.PrintMore
set_option linter.unusedVariables false
set_option linter.unusedSimpArgs false
abbrev FldIs (w : Int) (i n : Int) (r : Int) : Prop := ∀ W, Calls Tryd.prog 64 #[.int .u64 w, .int .i64 i, .int .i64 n] W fun e w' => e = .returned (.int .u64 r) ∧ w' = W
theorem fldIs {w : Int} (h0 : 0 ≤ w) (h1 : w < 18446744073709551616) (a n : Nat) {r : Int} (hn : a + n ≤ 64) (hr : fld w a n = r) : FldIs w a n r := fun W => hr ▸ field_at w a n W h0 h1 hn
set_option maxRecDepth 100000 in
set_option maxHeartbeats 1000000 in
theorem rdecode_any (w : Int) (W : World) (h0 : 0 ≤ w) (h1 : w < 18446744073709551616) :
    Calls Tryd.prog 35 #[.int .u64 w] W fun e W' => e = .returned (decV w) ∧ Below W.heap.size W W' := by
  have HS := fun W => Lib.hid (signed_at w W h0 h1)
  have S := Sep.start W
  have hb := kindW_bd w
  have hk : w % 4 = kindW w := rfl
  by_cases k0 : kindW w = 0
  · have HR : Hid (aggP 0 (offW w) (dataW w) (ptrsW w) 0 0 false 0 0 0 = decV w) := Lib.hid (by unfold decV; rw [if_pos k0])
    rw [k0] at hk
    have F0 : Hid (FldIs w 32 16 (dataW w)) := Lib.hid (fldIs h0 h1 32 16 (by omega) rfl)
    obtain ⟨b0, c0⟩ := dataW_bd w
    have F1 : Hid (FldIs w 48 16 (ptrsW w)) := Lib.hid (fldIs h0 h1 48 16 (by omega) rfl)
    obtain ⟨b1, c1⟩ := ptrsW_bd w
    clear hb
    go_enter Tryd.func35, Tryd.ntmps35
    go_wp2_with (first | ((with_reducible refine wl ?_); first | refine sn S (fun g w1 S => ?_) | refine ss S (fun w1 S => ?_) | refine sl S ?_ | refine sa S ?_) | ((with_reducible refine (HS _).out.mono ?_); rintro e w' ⟨rfl, rfl⟩) | ((with_reducible refine (F0.out _).mono ?_); rintro e w' ⟨rfl, rfl⟩) | ((with_reducible refine (F1.out _).mono ?_); rintro e w' ⟨rfl, rfl⟩))
    exact rt S ⟨by rw [← HR.out], S.below⟩
  by_cases k1 : kindW w = 1
  · have HR : Hid (aggP 1 (offW w) 0 0 (elemW w) (cntW w) false 0 0 0 = decV w) := Lib.hid (by unfold decV; rw [if_neg k0, if_pos k1])
    rw [k1] at hk
    clear k0
    have F0 : Hid (FldIs w 32 3 (elemW w)) := Lib.hid (fldIs h0 h1 32 3 (by omega) rfl)
    obtain ⟨b0, c0⟩ := elemW_bd w
    have F1 : Hid (FldIs w 35 29 (cntW w)) := Lib.hid (fldIs h0 h1 35 29 (by omega) rfl)
    obtain ⟨b1, c1⟩ := cntW_bd w
    clear hb
    go_enter Tryd.func35, Tryd.ntmps35
    go_wp2_with (first | ((with_reducible refine wl ?_); first | refine sn S (fun g w1 S => ?_) | refine ss S (fun w1 S => ?_) | refine sl S ?_ | refine sa S ?_) | ((with_reducible refine (HS _).out.mono ?_); rintro e w' ⟨rfl, rfl⟩) | ((with_reducible refine (F0.out _).mono ?_); rintro e w' ⟨rfl, rfl⟩) | ((with_reducible refine (F1.out _).mono ?_); rintro e w' ⟨rfl, rfl⟩))
    exact rt S ⟨by rw [← HR.out], S.below⟩
  by_cases k2 : kindW w = 2
  · have HR : Hid (aggP 2 0 0 0 0 0 (w / 4 % 2 == 1) (padW w) (w / 4294967296) 0 = decV w) := Lib.hid (by unfold decV; rw [if_neg k0, if_neg k1, if_pos k2, show segW w = w / 4294967296 by unfold segW; omega]; rfl)
    rw [k2] at hk
    clear k0 k1
    have F0 : Hid (FldIs w 2 1 (w / 4 % 2)) := Lib.hid (fldIs h0 h1 2 1 (by omega) rfl)
    have F1 : Hid (FldIs w 3 29 (padW w)) := Lib.hid (fldIs h0 h1 3 29 (by omega) rfl)
    obtain ⟨b1, c1⟩ := padW_bd w
    clear hb
    go_enter Tryd.func35, Tryd.ntmps35
    go_wp2_with (first | ((with_reducible refine wl ?_); first | refine sn S (fun g w1 S => ?_) | refine ss S (fun w1 S => ?_) | refine sl S ?_ | refine sa S ?_) | ((with_reducible refine (HS _).out.mono ?_); rintro e w' ⟨rfl, rfl⟩) | ((with_reducible refine (F0.out _).mono ?_); rintro e w' ⟨rfl, rfl⟩) | ((with_reducible refine (F1.out _).mono ?_); rintro e w' ⟨rfl, rfl⟩))
    exact rt S ⟨by rw [← HR.out], S.below⟩
  · obtain k3 : kindW w = 3 := by omega
    have HR : Hid (aggP 3 0 0 0 0 0 false 0 (w / 4294967296) (lowW w) = decV w) := Lib.hid (by unfold decV; rw [if_neg k0, if_neg k1, if_neg k2, show segW w = w / 4294967296 by unfold segW; omega])
    rw [k3] at hk
    clear k0 k1 k2
    have F0 : Hid (FldIs w 2 30 (lowW w)) := Lib.hid (fldIs h0 h1 2 30 (by omega) rfl)
    obtain ⟨b0, c0⟩ := lowW_bd w
    clear hb
    go_enter Tryd.func35, Tryd.ntmps35
    go_wp2_with (first | ((with_reducible refine wl ?_); first | refine sn S (fun g w1 S => ?_) | refine ss S (fun w1 S => ?_) | refine sl S ?_ | refine sa S ?_) | ((with_reducible refine (HS _).out.mono ?_); rintro e w' ⟨rfl, rfl⟩) | ((with_reducible refine (F0.out _).mono ?_); rintro e w' ⟨rfl, rfl⟩))
    exact rt S ⟨by rw [← HR.out], S.below⟩
end Go.Proofs.YtidglmocekghmaaDoor.Pr
end
section
namespace Go.Proofs.YtidglmocekghmaaDoor.Pr
open Go.RowKit Go.Proofs.YtidglmocekghmaaDoorW.PrintWords Go.Proofs.YtidglmocekghmaaDoorW.PrintLast Go.Proofs.YtidglmocekghmaaDoorW.PrintMore
set_option linter.unusedVariables false
set_option linter.unusedSimpArgs false
def sgG (G : List (List Int)) (s : Int) : List Int := G.getD s.toNat []
def inG (G : List (List Int)) (s a n : Int) : Bool := decide (0 ≤ s ∧ s < G.length ∧ 0 ≤ a ∧ 0 ≤ n ∧ a + n ≤ (sgG G s).length)
abbrev RdG (w : World) (A : Option Addr) (G : List (List Int)) : Prop := Kd.C (Kd.slice 32 (Kd.int .u64)) w A G.length G
theorem ret_b {a b : Bool} (h : a = b) : Ending.returned (.bool a) = .returned (.bool b) := by rw [h]
theorem inb_any (A : Option Addr) (c : Nat) (G : List (List Int)) (s a n : Int) (w : World) (hr : RdG w A G) (hs : s ≤ 4611686018427387904) (ha : a ≤ 4611686018427387904) (hn : n ≤ 4611686018427387904) (hl : ∀ x ∈ G, x.length ≤ 4611686018427387904) :
    Calls Tryd.prog 66 #[.slice A G.length c, .int .i64 s, .int .i64 a, .int .i64 n] w fun e w' => e = .returned (.bool (inG G s a n)) ∧ w' = w := by
  by_cases hb : 0 ≤ s ∧ s < G.length
  · obtain ⟨b0, b1⟩ := hb
    obtain ⟨ad, A0, c0, rfl, hc, _, _⟩ := at_L1 hr s b0 b1
    have hlen : (rd_L1 G s).length ≤ 4611686018427387904 := hl _ (by
      unfold rd_L1
      have : s.toNat < G.length := by omega
      rw [List.getD_eq_getElem?_getD, List.getElem?_eq_getElem this]
      exact List.getElem_mem this)
    have HR : Hid (inG G s a n = (decide (0 ≤ a ∧ 0 ≤ n ∧ a + n ≤ (rd_L1 G s).length))) := Lib.hid (by unfold inG sgG rd_L1; simp [b0, b1])
    rw [HR.out]
    generalize (rd_L1 G s).length = m at *
    clear hr hl
    go_enter Tryd.func66, Tryd.ntmps66
    go_wp2
    all_goals (go_ret; exact ⟨ret_b (Bool.eq_iff_iff.2 (by simp; omega)), rfl⟩)
  · have HR : Hid (inG G s a n = false) := Lib.hid (by unfold inG; simp; omega)
    rw [HR.out]
    go_enter Tryd.func66, Tryd.ntmps66
    go_wp2
    all_goals (go_ret; exact ⟨rfl, rfl⟩)
theorem at_G {A : Option Addr} {G : List (List Int)} {w : World} (hr : RdG w A G) (i : Nat) (h : i < G.length) : ∃ ad A0 c0, A = some ad ∧ w.cell? (ad.add i) = some (.slice A0 (sgG G i).length c0) ∧ (∀ k : Nat, k < (sgG G i).length → ∃ a0, A0 = some a0 ∧ w.cell? (a0.add k) = some (.int .u64 (wd (sgG G i) k))) := by
  obtain ⟨ad, A0, c0, e, hc, _, hC⟩ := at_L1 hr i (by omega) (by omega)
  refine ⟨ad, A0, c0, e, hc, fun k hk => ?_⟩
  obtain ⟨a0, c, e0, _, hK, hcc⟩ := Kd.C_get hC (0 : Int) k (by omega) (Int.ofNat_lt.2 hk)
  obtain rfl : c = [.int .u64 (wd (sgG G i) k)] := hK
  refine ⟨a0, e0, ?_⟩
  have := hcc 0 _ rfl
  simpa [Kd.int, Kd.scalar] using this
def wdG (G : List (List Int)) (s a : Int) : Int := if inG G s a 1 = true then wd (sgG G s) a.toNat else 0
theorem inG_1 {G : List (List Int)} {s a : Int} (h : inG G s a 1 = true) : 0 ≤ s ∧ s < G.length ∧ 0 ≤ a ∧ a < (sgG G s).length := by
  unfold inG at h
  rw [decide_eq_true_eq] at h
  omega
theorem word_any (A : Option Addr) (c : Nat) (G : List (List Int)) (s a : Int) (w : World) (hr : RdG w A G) (hg : G.length ≤ 4611686018427387904) (hl : ∀ x ∈ G, x.length ≤ 4611686018427387904) :
    Calls Tryd.prog 67 #[.slice A G.length c, .int .i64 s, .int .i64 a] w fun e w' => e = .returned (.tuple #[.int .u64 (wdG G s a), .bool (inG G s a 1)]) ∧ w' = w := by
  have HR := Lib.hid hr
  have HL : ∀ i : Nat, i < G.length → (sgG G i).length ≤ 4611686018427387904 := fun i hi => hl _ (by
    unfold sgG
    rw [Int.toNat_natCast, List.getD_eq_getElem?_getD, List.getElem?_eq_getElem hi]
    exact List.getElem_mem hi)
  have HL := Lib.hid HL
  clear hr hl
  go_enter Tryd.func67, Tryd.ntmps67
  go_wp2
  go_loop [8] (fun v => ∃ i : Nat, i ≤ G.length ∧ v = .int .i64 i ∧ Hid (inG G s a 1 = true → (i : Int) ≤ s)) (fun v => G.length - (intOf v).toNat)
  case atStart => exact ⟨0, Nat.zero_le _, rfl, fun h => (inG_1 h).1⟩
  case round =>
    obtain ⟨i, hi, rfl, HI⟩ := hrel
    by_cases hlt : i < G.length
    · obtain ⟨ad, A0, c0, rfl, hc, hk⟩ := at_G HR.out i hlt
      have HK := Lib.hid hk
      have hln := HL.out i hlt
      obtain ⟨n, hn⟩ : ∃ n, (sgG G i).length = n := ⟨_, rfl⟩
      rw [hn] at hc hln
      have HN := Lib.hid hn
      clear hk hn
      go_wp2
      go_loop [9] (fun v => ∃ k : Nat, k ≤ n ∧ v = .int .i64 k ∧ Hid (inG G s a 1 = true → s = i → (k : Int) ≤ a)) (fun v => n - (intOf v).toNat)
      case atStart => exact ⟨0, Nat.zero_le _, rfl, fun h _ => (inG_1 h).2.2.1⟩
      case round =>
        obtain ⟨k, hk, rfl, HJ⟩ := hrel
        by_cases hkl : k < n
        · obtain ⟨a0, rfl, hv⟩ := HK.out k (by rw [HN.out]; exact hkl)
          by_cases hs : (i : Int) = s
          · by_cases ha : (k : Int) = a
            · subst hs ha
              have hin : inG G i k 1 = true := by
                unfold inG
                rw [decide_eq_true_eq, HN.out]
                omega
              have HV : Hid (wdG G i k = wd (sgG G i) k) := Lib.hid (by unfold wdG; rw [if_pos hin]; rfl)
              have HIN := Lib.hid hin
              clear hin
              go_wp2
              go_ret2
              exact ⟨by rw [HV.out, HIN.out]; rfl, rfl⟩
            · have ha1 : ((k : Int) == a) = false := beq_eq_false_iff_ne.2 ha
              have hs1 : ((i : Int) == s) = true := beq_iff_eq.2 hs
              have HA := Lib.hid ha
              have HS := Lib.hid hs
              clear ha hs
              go_wp2
              go_round
              case rel => exact ⟨k + 1, by omega, by go_num, fun h e => by have := HJ.out h e; have := HA.out; omega⟩
              case measure => simp [intOf]; omega
          · have hs1 : ((i : Int) == s) = false := beq_eq_false_iff_ne.2 hs
            have HS := Lib.hid hs
            clear hs
            go_wp2
            go_round
            case rel => exact ⟨k + 1, by omega, by go_num, fun h e => absurd e.symm HS.out⟩
            case measure => simp [intOf]; omega
        · obtain rfl : k = n := by omega
          go_wp2
          go_round
          case rel => exact ⟨i + 1, by omega, by go_num, fun h => by
            have h1 := HI.out h
            have h2 := HJ.out h
            have h3 := inG_1 h
            by_cases e : s = i
            · have := h2 e
              rw [e] at h3
              rw [HN.out] at h3
              omega
            · omega⟩
          case measure => simp [intOf]; omega
    · obtain rfl : i = G.length := by omega
      have hin : inG G s a 1 = false := by
        cases h : inG G s a 1 with
        | false => rfl
        | true =>
          have h1 := HI.out h
          have h2 := inG_1 h
          omega
      have HV : Hid (wdG G s a = 0) := Lib.hid (by unfold wdG; rw [hin]; rfl)
      have HIN := Lib.hid hin
      clear hin
      go_wp2
      go_ret2
      exact ⟨by rw [HV.out, HIN.out]; rfl, rfl⟩
end Go.Proofs.YtidglmocekghmaaDoor.Pr
end
section
namespace Go.Proofs.YtidglmocekghmaaDoor.Pr
open Go.RowKit Go.Proofs.YtidglmocekghmaaDoorW.PrintWords Go.Proofs.YtidglmocekghmaaDoorW.PrintLast Go.Proofs.YtidglmocekghmaaDoorW.PrintMore
set_option linter.unusedVariables false
set_option linter.unusedSimpArgs false
def cutG (G : List (List Int)) (s a n : Int) : List Int := ((sgG G s).drop a.toNat).take n.toNat
theorem take_next (xs : List Int) (a k : Nat) (h : a + k < xs.length) : (xs.drop a).take (k + 1) = (xs.drop a).take k ++ [wd xs (a + k)] := by
  rw [List.take_succ_eq_append_getElem (by rw [List.length_drop]; omega)]
  simp [wd, List.getD_eq_getElem?_getD, List.getElem?_eq_getElem h]
theorem sg_len {G : List (List Int)} (hl : ∀ x ∈ G, x.length ≤ 17592186040320) (i : Nat) (hi : i < G.length) : (sgG G i).length ≤ 17592186040320 := hl _ (by
    unfold sgG
    rw [Int.toNat_natCast, List.getD_eq_getElem?_getD, List.getElem?_eq_getElem hi]
    exact List.getElem_mem hi)
theorem slice_at (A : Option Addr) (c : Nat) (G : List (List Int)) (s a n : Int) (w : World) (hr : RdG w A G) (hi : inG G s a n = true) (hg : G.length ≤ 4611686018427387904) (hl : ∀ x ∈ G, x.length ≤ 17592186040320) :
    Calls Tryd.prog 54 #[.slice A G.length c, .int .i64 s, .int .i64 a, .int .i64 n] w fun e w' => ∃ v, e = .returned (.tuple #[v, .bool true]) ∧ Kd.R (Kd.int .u64) 32 w' w.heap.size (fun _ => True) v (cutG G s a n) ∧ Below w.heap.size w w' := by
  have hb : 0 ≤ s ∧ s < G.length ∧ 0 ≤ a ∧ 0 ≤ n ∧ a + n ≤ (sgG G s).length := by unfold inG at hi; rw [decide_eq_true_eq] at hi; exact hi
  obtain ⟨s0, s1, a0, n0, hn⟩ := hb
  obtain ⟨i, rfl⟩ := Int.eq_ofNat_of_zero_le s0
  obtain ⟨a, rfl⟩ := Int.eq_ofNat_of_zero_le a0
  obtain ⟨n, rfl⟩ := Int.eq_ofNat_of_zero_le n0
  have hlt : i < G.length := by omega
  have hln := sg_len hl i hlt
  have HIB := Lib.hid (inb_any A c G i a n w hr (by omega) (by omega) (by omega) (fun x hx => Nat.le_trans (hl x hx) (by omega)))
  have HIN := Lib.hid hi
  obtain ⟨ad, A0, c0, rfl, hc, hk⟩ := at_G hr i hlt
  have HC := Lib.hid hc
  have HK := Lib.hid hk
  have HN := Lib.hid hn
  obtain ⟨m, hm⟩ : ∃ m, (sgG G i).length = m := ⟨_, rfl⟩
  rw [hm] at HC hln hn
  have HM := Lib.hid hm
  have S := Lib.hid ((Sep.start w).nil (Kd.int .u64) 32)
  clear hc hk hm hr hi hl
  go_enter Tryd.func54, Tryd.ntmps54
  go_wp2_with ((with_reducible refine HIB.out.mono ?_); rw [HIN.out]; rintro e w' ⟨rfl, rfl⟩)
  go_loopw [10, 11] (fun v k wr => ∃ j : Nat, j ≤ n ∧ k = .int .i64 j ∧ Hid (Sep w' wr [.row (Kd.int .u64) 32 v (((sgG G i).drop a).take j)])) (fun _ k _ => n - (intOf k).toNat)
  case atStart => exact ⟨0, Nat.zero_le _, rfl, S⟩
  case round =>
    clear S
    obtain ⟨j, hj, rfl, S⟩ := hrel
    by_cases hjl : j < n
    · obtain ⟨a0, rfl, hv⟩ := HK.out (a + j) (by rw [HM.out]; omega)
      have hv := pw_cell_below S.out.below hv
      have hc := pw_cell_below S.out.below HC.out
      have e1 : a + j < m := by omega
      have HT := Lib.hid (take_next (sgG G i) a j (by rw [HM.out]; omega))
      have HL : Hid ((((sgG G i).drop a).take j).length = j) := Lib.hid (by rw [List.length_take, List.length_drop, HM.out]; omega)
      generalize wd (sgG G i) (a + j) = x at *
      have S1 : Sep w' wr [.row (Kd.int .u64) 32 u10 (((sgG G i).drop a).take j), .made (Kd.int .u64) x [.int .u64 x]] := (S.out.one (Value.int .u64) (fun _ => rfl) x).swap
      have S := Lib.hid S1
      clear S1
      go_wp2_with (at_builtin; refine sp_append S.out rfl rfl Tryd.underlying22 info32 rfl (by decide) (by omega) rfl rfl (by rw [HL.out]; omega) (fun v1 w1 S => ?_))
      go_roundw
      case rel => exact ⟨j + 1, by omega, by go_num, Lib.hid (by rw [HT.out]; exact S)⟩
      case measure => simp [intOf]; omega
    · obtain rfl : j = n := by omega
      go_wp2
      go_ret2
      exact ⟨_, rfl, S.out.outR .here, S.out.below⟩
theorem bytesW_next (x : Int) (q : Nat) (h : q < 8) : (bytesW x).take (q + 1) = (bytesW x).take q ++ [x / p2 (8 * q) % 256] := by
  rcases (by omega : q = 0 ∨ q = 1 ∨ q = 2 ∨ q = 3 ∨ q = 4 ∨ q = 5 ∨ q = 6 ∨ q = 7) with rfl | rfl | rfl | rfl | rfl | rfl | rfl | rfl <;> simp [bytesW, p2]
set_option maxRecDepth 100000 in
theorem rbytes_any (A : Option Addr) (c : Nat) (ws : List Int) (w : World) (hr : Kd.C (Kd.int .u64) w A ws.length ws) (hl : ws.length ≤ 17592186040320) (h0 : ∀ x ∈ ws, 0 ≤ x ∧ x < 18446744073709551616) :
    Calls Tryd.prog 38 #[.slice A ws.length c] w fun e w' => ∃ v, e = .returned v ∧ Kd.R (Kd.int .u8) 5 w' w.heap.size (fun _ => True) v (bytesL ws) ∧ Below w.heap.size w w' := by
  have HK : Hid (∀ k : Nat, k < ws.length → ∃ a0, A = some a0 ∧ w.cell? (a0.add k) = some (.int .u64 (wd ws k))) := Lib.hid (fun k hk => by
    obtain ⟨a0, c, e0, _, hK, hcc⟩ := Kd.C_get hr (0 : Int) k (by omega) (Int.ofNat_lt.2 hk)
    obtain rfl : c = [.int .u64 (wd ws k)] := hK
    refine ⟨a0, e0, ?_⟩
    have := hcc 0 _ rfl
    simpa [Kd.int, Kd.scalar] using this)
  have HB : Hid (∀ k : Nat, k < ws.length → 0 ≤ wd ws k ∧ wd ws k < 18446744073709551616) := Lib.hid (fun k hk => h0 _ (by
    unfold wd
    rw [List.getD_eq_getElem?_getD, List.getElem?_eq_getElem hk]
    exact List.getElem_mem hk))
  have S := Lib.hid ((Sep.start w).nil (Kd.int .u8) 5)
  obtain ⟨n, hn⟩ : ∃ n, ws.length = n := ⟨_, rfl⟩
  have HN := Lib.hid hn
  rw [hn] at hl
  rw [HN.out]
  clear hr h0 hn
  go_enter Tryd.func38, Tryd.ntmps38
  go_wp2
  go_loopw [3, 4] (fun v k wr => ∃ j : Nat, j ≤ n ∧ k = .int .i64 j ∧ Hid (Sep w wr [.row (Kd.int .u8) 5 v (bytesL (ws.take j))])) (fun _ k _ => n - (intOf k).toNat)
  case atStart => exact ⟨0, Nat.zero_le _, rfl, S⟩
  case round =>
    clear S
    obtain ⟨j, hj, rfl, S⟩ := hrel
    by_cases hjl : j < n
    · obtain ⟨a0, rfl, hv⟩ := HK.out j (by rw [HN.out]; exact hjl)
      have hv := pw_cell_below S.out.below hv
      obtain ⟨b0, b1⟩ := HB.out j (by rw [HN.out]; exact hjl)
      have HT : Hid (bytesL (ws.take (j + 1)) = bytesL (ws.take j) ++ bytesW (wd ws j)) := Lib.hid (by
        have hkl : j < ws.length := by rw [HN.out]; exact hjl
        rw [bytesL_take ws j hkl]
        simp [wd, List.getD_eq_getElem?_getD, List.getElem?_eq_getElem hkl])
      have HL : Hid ((bytesL (ws.take j)).length = 8 * j) := Lib.hid (by rw [bytesL_length, List.length_take, HN.out]; omega)
      generalize wd ws j = x at *
      go_wp2
      go_loopw [3, 5, 6] (fun v y k wr => ∃ q : Nat, q ≤ 8 ∧ k = .int .i64 q ∧ y = .int .u64 (x / p2 (8 * q)) ∧ Hid (Sep w wr [.row (Kd.int .u8) 5 v (bytesL (ws.take j) ++ (bytesW x).take q)])) (fun _ _ k _ => 8 - (intOf k).toNat)
      case atStart => exact ⟨0, by omega, rfl, by simp [p2], Lib.hid (by simpa using S.out)⟩
      case round =>
        clear S hv
        obtain ⟨q, hq, rfl, rfl, S⟩ := hrel
        by_cases hql : q < 8
        · have HY := Lib.hid (bytesW_next x q hql)
          have HZ : Hid (x / p2 (8 * (q + 1)) = x / p2 (8 * q) / 256) := Lib.hid (by
            rw [show 8 * (q + 1) = 8 * q + 8 by omega, p2_add, ← Int.ediv_ediv_of_nonneg (Int.le_of_lt (p2_pos _))]; rfl)
          have z0 : 0 ≤ x / p2 (8 * q) := Int.ediv_nonneg b0 (Int.le_of_lt (p2_pos _))
          have z1 : x / p2 (8 * q) < 18446744073709551616 := Int.lt_of_le_of_lt (Int.ediv_le_self _ b0) b1
          have HLL : Hid ((bytesL (ws.take j) ++ (bytesW x).take q).length ≤ 140737488322568) := Lib.hid (by
            rw [List.length_append, HL.out, List.length_take]; simp [bytesW]; omega)
          generalize x / p2 (8 * q) = z at *
          have S1 : Sep w wr [.row (Kd.int .u8) 5 u3 (bytesL (ws.take j) ++ (bytesW x).take q), .made (Kd.int .u8) (z % 256) [.int .u8 (z % 256)]] := (S.out.one (Value.int .u8) (fun _ => rfl) (z % 256)).swap
          have S := Lib.hid S1
          clear S1
          go_wp2_with (at_builtin; refine sp_append S.out rfl rfl Tryd.underlying34 info5 rfl (by decide) (by omega) rfl rfl (by have := HLL.out; omega) (fun v1 w1 S => ?_))
          go_roundw
          case rel => exact ⟨q + 1, by omega, by go_num, by rw [HZ.out], Lib.hid (by rw [HY.out, ← List.append_assoc]; exact S)⟩
          case measure => simp [intOf]; omega
        · obtain rfl : q = 8 := by omega
          go_wp2
          go_roundw
          case rel => exact ⟨j + 1, by omega, by go_num, Lib.hid (by rw [HT.out]; exact S.out)⟩
          case measure => simp [intOf]; omega
    · obtain rfl : j = n := by omega
      go_wp2
      go_ret
      exact ⟨_, rfl, by have := S.out.outR .here; rwa [← HN.out, List.take_length] at this, S.out.below⟩
end Go.Proofs.YtidglmocekghmaaDoor.Pr
end
section
namespace Go.Proofs.YtidglmocekghmaaDoor.Pr
open Go.RowKit Go.Proofs.YtidglmocekghmaaDoorW.PrintWords Go.Proofs.YtidglmocekghmaaDoorW.PrintLast Go.Proofs.YtidglmocekghmaaDoorW.PrintMore
set_option linter.unusedVariables false
set_option linter.unusedSimpArgs false
theorem bits_any (e : Int) (w : World) : Calls Tryd.prog 65 #[.int .i64 e] w fun r w' => r = .returned (.int .i64 (bitsE e)) ∧ w' = w := by
  by_cases h : 1 ≤ e ∧ e ≤ 6
  · rcases (by omega : e = 1 ∨ e = 2 ∨ e = 3 ∨ e = 4 ∨ e = 5 ∨ e = 6) with rfl | rfl | rfl | rfl | rfl | rfl
    all_goals
      go_enter Tryd.func65, Tryd.ntmps65
      go_wp2
      go_ret
      exact ⟨rfl, rfl⟩
  · have HR : Hid (bitsE e = 0) := Lib.hid (by unfold bitsE; repeat rw [if_neg (by omega)])
    have h1 : (e == 1) = false := beq_eq_false_iff_ne.2 (by omega)
    have h2 : (e == 2) = false := beq_eq_false_iff_ne.2 (by omega)
    have h3 : (e == 3) = false := beq_eq_false_iff_ne.2 (by omega)
    have h4 : (e == 4) = false := beq_eq_false_iff_ne.2 (by omega)
    have h5 : (e == 5) = false := beq_eq_false_iff_ne.2 (by omega)
    have h6 : (e == 6) = false := beq_eq_false_iff_ne.2 (by omega)
    clear h
    go_enter Tryd.func65, Tryd.ntmps65
    go_wp2
    go_ret
    exact ⟨by rw [HR.out]; rfl, rfl⟩
theorem bitsE_bd (e : Int) : 0 ≤ bitsE e ∧ bitsE e ≤ 64 := by unfold bitsE; repeat' split <;> omega
theorem bitsE_mul (e c : Int) (c0 : 0 ≤ c) (c1 : c ≤ 536870911) : 0 ≤ bitsE e * c ∧ bitsE e * c ≤ 34359738304 := by
  obtain ⟨h0, h1⟩ := bitsE_bd e
  exact ⟨Int.mul_nonneg h0 c0, Int.le_trans (Int.mul_le_mul_of_nonneg_right h1 c0) (by omega)⟩
theorem words_any6 (e c : Int) (w : World) (c0 : 0 ≤ c) (c1 : c ≤ 536870911) : Calls Tryd.prog 36 #[.int .i64 e, .int .i64 c] w fun r w' => r = .returned (.int .i64 (wordsE e c)) ∧ w' = w := by
  by_cases h : e = 7
  · subst h
    go_enter Tryd.func36, Tryd.ntmps36
    go_wp2
    go_ret
    exact ⟨rfl, rfl⟩
  · have h7 : (e == 7) = false := beq_eq_false_iff_ne.2 h
    obtain ⟨b0, b1⟩ := bitsE_mul e c c0 c1
    have HR : Hid (wordsE e c = (bitsE e * c + 63) / 64) := Lib.hid (by unfold wordsE; rw [if_neg h])
    have HB := fun w => Lib.hid (bits_any e w)
    clear h
    generalize bitsE e = b at *
    obtain ⟨n, hp⟩ : ∃ n, b * c = n := ⟨_, rfl⟩
    have HP := Lib.hid hp
    rw [hp] at b0 b1
    by_cases hl : n / 64 * 64 < n
    all_goals
      go_enter Tryd.func36, Tryd.ntmps36
      go_wp2_with ((with_reducible refine (HB _).out.mono ?_); rintro r w' ⟨rfl, rfl⟩)
      go_ret
      exact ⟨ret_k (by rw [HR.out, HP.out]; omega), rfl⟩
theorem bytes_any6 (e c : Int) (w : World) (c0 : 0 ≤ c) (c1 : c ≤ 536870911) : Calls Tryd.prog 44 #[.int .i64 e, .int .i64 c] w fun r w' => r = .returned (.int .i64 (bytesE e c)) ∧ w' = w := by
  obtain ⟨b0, b1⟩ := bitsE_mul e c c0 c1
  have HR : Hid (bytesE e c = (bitsE e * c + 7) / 8) := Lib.hid rfl
  have HB := fun w => Lib.hid (bits_any e w)
  generalize bitsE e = b at *
  obtain ⟨n, hp⟩ : ∃ n, b * c = n := ⟨_, rfl⟩
  have HP := Lib.hid hp
  rw [hp] at b0 b1
  by_cases hl : n / 8 * 8 < n
  all_goals
    go_enter Tryd.func44, Tryd.ntmps44
    go_wp2_with ((with_reducible refine (HB _).out.mono ?_); rintro r w' ⟨rfl, rfl⟩)
    go_ret
    exact ⟨ret_k (by rw [HR.out, HP.out]; omega), rfl⟩
theorem isFar_any (x : Int) (w : World) (h0 : 0 ≤ x) (h1 : x < 18446744073709551616) : Calls Tryd.prog 72 #[.int .u64 x] w fun r w' => r = .returned (.bool (decide (kindW x = 2))) ∧ w' = w := by
  go_enter Tryd.func72, Tryd.ntmps72
  go_wp2
  go_ret
  exact ⟨ret_b rfl, rfl⟩
set_option maxRecDepth 100000 in
theorem landing_any (x : Int) (w : World) (h0 : 0 ≤ x) (h1 : x < 18446744073709551616) : Calls Tryd.prog 73 #[.int .u64 x] w fun r w' => r = .returned (.tuple #[.int .i64 (segW x), .int .i64 (padW x)]) ∧ w' = w := by
  have H1 : Hid (segW x = x / 4294967296) := Lib.hid (by unfold segW; omega)
  have H2 : Hid (padW x = x % 4294967296 / 8) := Lib.hid (by unfold padW; omega)
  go_enter Tryd.func73, Tryd.ntmps73
  go_wp2
  go_ret2
  exact ⟨by rw [H1.out, H2.out]; rfl, rfl⟩
end Go.Proofs.YtidglmocekghmaaDoor.Pr
end
section
namespace Go.Proofs.YtidglmocekghmaaDoor.Pr
open Go.RowKit Go.Proofs.YtidglmocekghmaaDoorW.PrintWords Go.Proofs.YtidglmocekghmaaDoorW.PrintLast Go.Proofs.YtidglmocekghmaaDoorW.PrintMore
set_option linter.unusedVariables false
set_option linter.unusedSimpArgs false
theorem bytesE_bd (e c : Int) (c0 : 0 ≤ c) (c1 : c ≤ 536870911) : 0 ≤ bytesE e c ∧ bytesE e c ≤ 4294967296 := by
  have := bitsE_mul e c c0 c1
  unfold bytesE
  omega
theorem trimE_length (e c : Int) (b : List Int) (h : (bytesE e c).toNat ≤ b.length) : (trimE e c b).length = (bytesE e c).toNat := by
  unfold trimE
  split
  · rw [List.length_set, List.length_take]; omega
  · rw [List.length_take]; omega
theorem trimE_at (e c : Int) (b : List Int) (c0 : 0 ≤ c) (j : Nat) (hj : (j : Int) < bytesE e c) (h : (bytesE e c).toNat ≤ b.length) : wd (trimE e c b) j = if e = 1 ∧ c < 8 * j + 8 then wd b j % p2 (c - 8 * j).toNat else wd b j := by
  have hjl : j < (bytesE e c).toNat := by omega
  unfold trimE
  by_cases h1 : e = 1 ∧ 0 < c % 8
  · obtain ⟨rfl, h8⟩ := h1
    rw [if_pos ⟨rfl, h8⟩]
    have hB : bytesE 1 c = (c + 7) / 8 := by simp [bytesE, bitsE]
    generalize hN : (bytesE 1 c).toNat = N at *
    have hN2 : (N : Int) = (c + 7) / 8 := by rw [← hB, ← hN]; omega
    clear hB hN hj
    by_cases hl : j = N - 1
    · rw [if_pos ⟨rfl, by omega⟩]
      subst hl
      have e1 : (c - 8 * ((N - 1 : Nat) : Int)).toNat = (c % 8).toNat := by omega
      rw [e1]
      unfold wd
      rw [List.getD_eq_getElem?_getD, List.getElem?_set_self (by rw [List.length_take]; omega)]
      rfl
    · rw [if_neg (by omega)]
      unfold wd
      rw [List.getD_eq_getElem?_getD, List.getD_eq_getElem?_getD, List.getElem?_set_ne (by omega), List.getElem?_take_of_lt (by omega)]
      simp [List.getD_eq_getElem?_getD]
  · rw [if_neg h1, if_neg (by
      rintro ⟨rfl, h2⟩
      have hB : bytesE 1 c = (c + 7) / 8 := by simp [bytesE, bitsE]
      rw [hB] at hj
      omega)]
    unfold wd
    rw [List.getD_eq_getElem?_getD, List.getD_eq_getElem?_getD, List.getElem?_take_of_lt hjl]
theorem take_wd (xs : List Int) (k : Nat) (h : k < xs.length) : xs.take (k + 1) = xs.take k ++ [wd xs k] := by
  have := take_next xs 0 k (by omega)
  simpa using this
set_option maxHeartbeats 1000000 in
theorem rtrim_any (e c : Int) (A : Option Addr) (cp : Nat) (b : List Int) (w : World) (hr : Kd.C (Kd.int .u8) w A b.length b) (h0 : ∀ x ∈ b, 0 ≤ x ∧ x < 256) (c0 : 0 ≤ c) (c1 : c ≤ 536870911) (hl : (bytesE e c).toNat ≤ b.length) :
    Calls Tryd.prog 39 #[.int .i64 e, .int .i64 c, .slice A b.length cp] w fun r w' => ∃ v, r = .returned v ∧ Kd.R (Kd.int .u8) 5 w' w.heap.size (fun _ => True) v (trimE e c b) ∧ Below w.heap.size w w' := by
  have HK : Hid (∀ k : Nat, k < b.length → ∃ a0, A = some a0 ∧ w.cell? (a0.add k) = some (.int .u8 (wd b k))) := Lib.hid (fun k hk => by
    obtain ⟨a0, c, e0, _, hK, hcc⟩ := Kd.C_get hr (0 : Int) k (by omega) (Int.ofNat_lt.2 hk)
    obtain rfl : c = [.int .u8 (wd b k)] := hK
    refine ⟨a0, e0, ?_⟩
    have := hcc 0 _ rfl
    simpa [Kd.int, Kd.scalar] using this)
  have HBD : Hid (∀ k : Nat, k < b.length → 0 ≤ wd b k ∧ wd b k < 256) := Lib.hid (fun k hk => h0 _ (by
    unfold wd
    rw [List.getD_eq_getElem?_getD, List.getElem?_eq_getElem hk]
    exact List.getElem_mem hk))
  have S := Lib.hid ((Sep.start w).nil (Kd.int .u8) 5)
  have HT := Lib.hid (fun j hj => trimE_at e c b c0 j hj hl)
  have HTL := Lib.hid (trimE_length e c b hl)
  have HB := fun w => Lib.hid (bytes_any6 e c w c0 c1)
  have hbd := bytesE_bd e c c0 c1
  obtain ⟨n, hn⟩ : ∃ n : Nat, bytesE e c = n := ⟨(bytesE e c).toNat, by omega⟩
  rw [hn] at HB HT HTL hl hbd
  simp only [Int.toNat_natCast] at HTL hl
  generalize trimE e c b = T at *
  obtain ⟨m, hm⟩ : ∃ m, b.length = m := ⟨_, rfl⟩
  have HM := Lib.hid hm
  have HN := Lib.hid hn
  rw [HM.out] at hl ⊢
  clear hr h0 hm hn
  obtain ⟨-, hbd⟩ := hbd
  go_enter Tryd.func39, Tryd.ntmps39
  go_wp2
  go_loopw [7, 8] (fun v k wr => ∃ j : Nat, j ≤ n ∧ k = .int .i64 j ∧ Hid (Sep w wr [.row (Kd.int .u8) 5 v (T.take j)])) (fun _ k _ => n - (intOf k).toNat)
  case atStart => exact ⟨0, Nat.zero_le _, rfl, S⟩
  case round =>
    clear S
    obtain ⟨j, hj, rfl, S⟩ := hrel
    by_cases hjl : j < n
    · obtain ⟨a0, rfl, hv⟩ := HK.out j (by rw [HM.out]; omega)
      have hv := pw_cell_below S.out.below hv
      obtain ⟨b0, b1⟩ := HBD.out j (by rw [HM.out]; omega)
      have HX : Hid (T.take (j + 1) = T.take j ++ [if e = 1 ∧ c < 8 * j + 8 then wd b j % p2 (c - 8 * j).toNat else wd b j]) := Lib.hid (by rw [← HT.out j (by omega)]; exact take_wd T j (by rw [HTL.out]; exact hjl))
      have HLL : Hid ((T.take j).length ≤ 4294967296) := Lib.hid (by rw [List.length_take, HTL.out]; omega)
      generalize wd b j = x at *
      by_cases hh : e = 1 ∧ c < 8 * j + 8
      · obtain ⟨rfl, h8⟩ := hh
        have HX : Hid (T.take (j + 1) = T.take j ++ [x % p2 (c - 8 * j).toNat]) := Lib.hid (by rw [HX.out, if_pos ⟨rfl, h8⟩])
        have d1 : decide (c < 8 * (j : Int) + 8) = true := decide_eq_true h8
        have hn1 : (c + 7) / 8 = (n : Int) := by rw [← HN.out]; simp [bytesE, bitsE]
        obtain ⟨q, hq⟩ : ∃ q : Nat, c - 8 * (j : Int) = q := ⟨(c - 8 * (j : Int)).toNat, by omega⟩
        have hq1 : q ≤ 8 := by omega
        rw [hq, Int.toNat_natCast] at HX
        clear hn1
        go_wp2_with ((with_reducible refine (HB _).out.mono ?_); rintro r w' ⟨rfl, rfl⟩)
        go_loop [11, 12] (fun v k => ∃ i : Nat, i ≤ q ∧ k = .int .i64 i ∧ v = .int .i64 (p2 i)) (fun _ k => q - (intOf k).toNat)
        case atStart => exact ⟨0, Nat.zero_le _, rfl, rfl⟩
        case round =>
          obtain ⟨i, hi, rfl, rfl⟩ := hrel
          have q0 := p2_pos i
          have q1 := p2_le (k := i) (m := 8) (by omega)
          rw [show p2 8 = 256 from rfl] at q1
          by_cases hiq : i < q
          · have h3 := Lib.hid (p2_succ i)
            go_wp2
            go_round
            case rel => exact ⟨i + 1, by omega, by go_num, by rw [h3.out]⟩
            case measure => simp [intOf]; omega
          · obtain rfl : i = q := by omega
            have y0 : 0 ≤ x % p2 i := Int.emod_nonneg _ (Int.ne_of_gt q0)
            have y1 : x % p2 i < 256 := Int.lt_of_lt_of_le (Int.emod_lt_of_pos _ q0) q1
            have q2 : p2 i ≠ 0 := Int.ne_of_gt q0
            have S1 : Sep w w' [.row (Kd.int .u8) 5 u7 (T.take j), .made (Kd.int .u8) (x % p2 i) [.int .u8 (x % p2 i)]] := (S.out.one (Value.int .u8) (fun _ => rfl) (x % p2 i)).swap
            have S := Lib.hid S1
            clear S1
            go_wp2_with (at_builtin; refine sp_append S.out rfl rfl Tryd.underlying34 info5 rfl (by decide) (by omega) rfl rfl (by have := HLL.out; omega) (fun v1 w1 S => ?_))
            go_roundw
            case rel => exact ⟨j + 1, by omega, by go_num, Lib.hid (by rw [HX.out]; exact S)⟩
            case measure => simp [intOf]; omega
      · have HX2 : Hid (T.take (j + 1) = T.take j ++ [x]) := Lib.hid (by rw [HX.out, if_neg hh])
        have S1 : Sep w wr [.row (Kd.int .u8) 5 u7 (T.take j), .made (Kd.int .u8) x [.int .u8 x]] := (S.out.one (Value.int .u8) (fun _ => rfl) x).swap
        have S := Lib.hid S1
        clear S1
        by_cases he : e = 1
        · have d1 : decide (c < 8 * (j : Int) + 8) = false := decide_eq_false (fun h => hh ⟨he, h⟩)
          subst he
          clear hh
          go_wp2_with (first | ((with_reducible refine (HB _).out.mono ?_); rintro r w' ⟨rfl, rfl⟩) | (at_builtin; refine sp_append S.out rfl rfl Tryd.underlying34 info5 rfl (by decide) (by omega) rfl rfl (by have := HLL.out; omega) (fun v1 w1 S => ?_)))
          go_roundw
          case rel => exact ⟨j + 1, by omega, by go_num, Lib.hid (by rw [HX2.out]; exact S)⟩
          case measure => simp [intOf]; omega
        · have d1 : (e == 1) = false := beq_eq_false_iff_ne.2 he
          clear hh he
          go_wp2_with (first | ((with_reducible refine (HB _).out.mono ?_); rintro r w' ⟨rfl, rfl⟩) | (at_builtin; refine sp_append S.out rfl rfl Tryd.underlying34 info5 rfl (by decide) (by omega) rfl rfl (by have := HLL.out; omega) (fun v1 w1 S => ?_)))
          go_roundw
          case rel => exact ⟨j + 1, by omega, by go_num, Lib.hid (by rw [HX2.out]; exact S)⟩
          case measure => simp [intOf]; omega
    · obtain rfl : j = n := by omega
      go_wp2_with ((with_reducible refine (HB _).out.mono ?_); rintro r w' ⟨rfl, rfl⟩)
      go_ret
      exact ⟨_, rfl, by have := S.out.outR .here; rwa [← HTL.out, List.take_length] at this, S.out.below⟩
end Go.Proofs.YtidglmocekghmaaDoor.Pr
end
section
namespace Go.Proofs.YtidglmocekghmaaDoor.Pr
open Go.RowKit Go.Proofs.YtidglmocekghmaaDoorW.PrintWords Go.Proofs.YtidglmocekghmaaDoorW.PrintLast Go.Proofs.YtidglmocekghmaaDoorW.PrintMore
set_option linter.unusedVariables false
set_option linter.unusedSimpArgs false
def pO (w : Int) : Int := if kindW w ≤ 1 then offW w else 0
def pD (w : Int) : Int := if kindW w = 0 then dataW w else 0
def pP (w : Int) : Int := if kindW w = 0 then ptrsW w else 0
def pE (w : Int) : Int := if kindW w = 1 then elemW w else 0
def pC (w : Int) : Int := if kindW w = 1 then cntW w else 0
def pB (w : Int) : Bool := if kindW w = 2 then dblW w else false
def pF (w : Int) : Int := if kindW w = 2 then padW w else 0
def pS (w : Int) : Int := if kindW w ≤ 1 then 0 else segW w
def pL (w : Int) : Int := if kindW w ≤ 2 then 0 else lowW w
theorem decV_lit (w : Int) : decV w = .agg #[.int .i64 (kindW w), .int .i64 (pO w), .int .i64 (pD w), .int .i64 (pP w), .int .i64 (pE w), .int .i64 (pC w), .bool (pB w), .int .i64 (pF w), .int .u32 (pS w), .int .u32 (pL w)] := by
  have hb := kindW_bd w
  unfold decV pO pD pP pE pC pB pF pS pL
  rcases (by omega : kindW w = 0 ∨ kindW w = 1 ∨ kindW w = 2 ∨ kindW w = 3) with h | h | h | h <;> simp [h, aggP]
theorem rdec_lit (w : Int) (W : World) (h0 : 0 ≤ w) (h1 : w < 18446744073709551616) :
    Calls Tryd.prog 35 #[.int .u64 w] W fun e W' => e = .returned (.agg #[.int .i64 (kindW w), .int .i64 (pO w), .int .i64 (pD w), .int .i64 (pP w), .int .i64 (pE w), .int .i64 (pC w), .bool (pB w), .int .i64 (pF w), .int .u32 (pS w), .int .u32 (pL w)]) ∧ Below W.heap.size W W' := decV_lit w ▸ rdecode_any w W h0 h1
def farB (x : Int) : Bool := decide (kindW x = 2)
theorem far_any (x : Int) (w : World) (h0 : 0 ≤ x) (h1 : x < 18446744073709551616) : Calls Tryd.prog 72 #[.int .u64 x] w fun r w' => r = .returned (.bool (farB x)) ∧ w' = w := isFar_any x w h0 h1
def folM (G : List (List Int)) (s a : Int) : Int × Int × Int × Int :=
  if inG G s a 1 = false then (0, 0, 0, 2)
  else if farB (wdG G s a) = false then (wdG G s a, s, a + 1, 0)
  else if inG G (segW (wdG G s a)) (padW (wdG G s a)) 1 = false then (0, 0, 0, 2)
  else if wdG G s a / 4 % 2 = 0 then
    if farB (wdG G (segW (wdG G s a)) (padW (wdG G s a))) = true then (0, 0, 0, 3) else (wdG G (segW (wdG G s a)) (padW (wdG G s a)), segW (wdG G s a), padW (wdG G s a) + 1, 0)
  else if inG G (segW (wdG G s a)) (padW (wdG G s a) + 1) 1 = false then (0, 0, 0, 2)
  else if farB (wdG G (segW (wdG G s a)) (padW (wdG G s a))) = false then (0, 0, 0, 3)
  else if wdG G (segW (wdG G s a)) (padW (wdG G s a)) / 4 % 2 = 1 then (0, 0, 0, 3)
  else if 1 < kindW (wdG G (segW (wdG G s a)) (padW (wdG G s a) + 1)) then (0, 0, 0, 3)
  else if pO (wdG G (segW (wdG G s a)) (padW (wdG G s a) + 1)) ≠ 0 then (0, 0, 0, 3)
  else (wdG G (segW (wdG G s a)) (padW (wdG G s a) + 1), segW (wdG G (segW (wdG G s a)) (padW (wdG G s a))), padW (wdG G (segW (wdG G s a)) (padW (wdG G s a))), 0)
def folV (r : Int × Int × Int × Int) : Value := .tuple #[.int .u64 r.1, .int .i64 r.2.1, .int .i64 r.2.2.1, .int .i64 r.2.2.2]
abbrev OkG (G : List (List Int)) : Prop := ∀ x ∈ G, ∀ y ∈ x, 0 ≤ y ∧ y < 18446744073709551616
theorem wdG_bd {G : List (List Int)} (h : OkG G) (s a : Int) : 0 ≤ wdG G s a ∧ wdG G s a < 18446744073709551616 := by
  unfold wdG
  split
  · rename_i hi
    obtain ⟨s0, s1, a0, a1⟩ := inG_1 hi
    have h1 : s.toNat < G.length := by omega
    have h2 : a.toNat < (sgG G s).length := by omega
    unfold wd
    rw [List.getD_eq_getElem?_getD, List.getElem?_eq_getElem h2]
    refine h _ ?_ _ (List.getElem_mem h2)
    unfold sgG
    rw [List.getD_eq_getElem?_getD, List.getElem?_eq_getElem h1]
    exact List.getElem_mem h1
  · exact ⟨by omega, by omega⟩
set_option maxRecDepth 100000 in
set_option maxHeartbeats 4000000 in
theorem fol_any (A : Option Addr) (c : Nat) (G : List (List Int)) (s a : Int) (w : World) (hr : RdG w A G) (hg : G.length ≤ 4611686018427387904) (hl : ∀ x ∈ G, x.length ≤ 4611686018427387904) (hk : OkG G) (a0 : -4611686018427387904 ≤ a) (a1 : a ≤ 4611686018427387904) :
    Calls Tryd.prog 51 #[.slice A G.length c, .int .i64 s, .int .i64 a] w fun e w' => e = .returned (folV (folM G s a)) ∧ Below w.heap.size w w' := by
  have HW := fun s a w' (hb : Below w.heap.size w w') => Lib.hid (word_any A c G s a w' (Kd.C_below hr hb) hg hl)
  have HBD := Lib.hid (fun s a => wdG_bd hk s a)
  have S := Sep.start w
  clear hr hl hk
  have HR := Lib.hid (folM.eq_1 G s a)
  obtain ⟨x, hx⟩ : ∃ x, wdG G s a = x := ⟨_, rfl⟩
  have HX := Lib.hid hx
  rw [HX.out] at HR
  obtain ⟨x0, x1⟩ := HBD.out s a
  rw [HX.out] at x0 x1
  have HW1 := HW s a w (Below.refl _ _)
  rw [HX.out] at HW1
  obtain ⟨y, hy⟩ : ∃ y, wdG G (segW x) (padW x) = y := ⟨_, rfl⟩
  have HY := Lib.hid hy
  obtain ⟨y0, y1⟩ := HBD.out (segW x) (padW x)
  have HW2 := HW (segW x) (padW x)
  obtain ⟨z, hz⟩ : ∃ z, wdG G (segW x) (padW x + 1) = z := ⟨_, rfl⟩
  have HZ := Lib.hid hz
  obtain ⟨z0, z1⟩ := HBD.out (segW x) (padW x + 1)
  have HW3 := HW (segW x) (padW x + 1)
  rw [HY.out] at HR HW2 y0 y1
  rw [HZ.out] at HR HW3 z0 z1
  obtain ⟨q0, q1⟩ := padW_bd x
  have F1 := fun w => Lib.hid (far_any x w x0 x1)
  have F2 := fun w => Lib.hid (far_any y w y0 y1)
  have L1 := fun w => Lib.hid (landing_any x w x0 x1)
  have L2 := fun w => Lib.hid (landing_any y w y0 y1)
  have D3 := fun w => Lib.hid (rdec_lit z w z0 z1)
  clear hx hy hz HX HY HZ HW HBD
  generalize folM G s a = r at *
  cases h1 : inG G s a 1 with
  | false => replace HR := Lib.hid (HR.out.trans (if_pos h1)); (go_enter Tryd.func51, Tryd.ntmps51; go_wp2_with (first | ((with_reducible refine wl ?_); first | refine sn S (fun g w1 S => ?_) | refine ss S (fun w1 S => ?_) | refine sl S ?_ | refine sa S ?_) | ((with_reducible refine HW1.out.mono ?_); rintro e w' ⟨rfl, rfl⟩) | ((with_reducible refine (HW2 _ S.below).out.mono ?_); rintro e w' ⟨rfl, rfl⟩) | ((with_reducible refine (HW3 _ S.below).out.mono ?_); rintro e w' ⟨rfl, rfl⟩) | ((with_reducible refine (F1 _).out.mono ?_); rintro e w' ⟨rfl, rfl⟩) | ((with_reducible refine (F2 _).out.mono ?_); rintro e w' ⟨rfl, rfl⟩) | ((with_reducible refine (L1 _).out.mono ?_); rintro e w' ⟨rfl, rfl⟩) | ((with_reducible refine (L2 _).out.mono ?_); rintro e w' ⟨rfl, rfl⟩) | ((with_reducible refine (D3 _).out.mono ?_); rintro e w' ⟨rfl, hb⟩; replace S := S.call hb)); exact rt S ⟨by rw [HR.out], S.below⟩)
  | true =>
  replace HR := Lib.hid (HR.out.trans (if_neg (by rw [h1]; simp)))
  cases h2 : farB x with
  | false => replace HR := Lib.hid (HR.out.trans (if_pos h2)); (go_enter Tryd.func51, Tryd.ntmps51; go_wp2_with (first | ((with_reducible refine wl ?_); first | refine sn S (fun g w1 S => ?_) | refine ss S (fun w1 S => ?_) | refine sl S ?_ | refine sa S ?_) | ((with_reducible refine HW1.out.mono ?_); rintro e w' ⟨rfl, rfl⟩) | ((with_reducible refine (HW2 _ S.below).out.mono ?_); rintro e w' ⟨rfl, rfl⟩) | ((with_reducible refine (HW3 _ S.below).out.mono ?_); rintro e w' ⟨rfl, rfl⟩) | ((with_reducible refine (F1 _).out.mono ?_); rintro e w' ⟨rfl, rfl⟩) | ((with_reducible refine (F2 _).out.mono ?_); rintro e w' ⟨rfl, rfl⟩) | ((with_reducible refine (L1 _).out.mono ?_); rintro e w' ⟨rfl, rfl⟩) | ((with_reducible refine (L2 _).out.mono ?_); rintro e w' ⟨rfl, rfl⟩) | ((with_reducible refine (D3 _).out.mono ?_); rintro e w' ⟨rfl, hb⟩; replace S := S.call hb)); exact rt S ⟨by rw [HR.out], S.below⟩)
  | true =>
  replace HR := Lib.hid (HR.out.trans (if_neg (by rw [h2]; simp)))
  cases h3 : inG G (segW x) (padW x) 1 with
  | false => replace HR := Lib.hid (HR.out.trans (if_pos h3)); (go_enter Tryd.func51, Tryd.ntmps51; go_wp2_with (first | ((with_reducible refine wl ?_); first | refine sn S (fun g w1 S => ?_) | refine ss S (fun w1 S => ?_) | refine sl S ?_ | refine sa S ?_) | ((with_reducible refine HW1.out.mono ?_); rintro e w' ⟨rfl, rfl⟩) | ((with_reducible refine (HW2 _ S.below).out.mono ?_); rintro e w' ⟨rfl, rfl⟩) | ((with_reducible refine (HW3 _ S.below).out.mono ?_); rintro e w' ⟨rfl, rfl⟩) | ((with_reducible refine (F1 _).out.mono ?_); rintro e w' ⟨rfl, rfl⟩) | ((with_reducible refine (F2 _).out.mono ?_); rintro e w' ⟨rfl, rfl⟩) | ((with_reducible refine (L1 _).out.mono ?_); rintro e w' ⟨rfl, rfl⟩) | ((with_reducible refine (L2 _).out.mono ?_); rintro e w' ⟨rfl, rfl⟩) | ((with_reducible refine (D3 _).out.mono ?_); rintro e w' ⟨rfl, hb⟩; replace S := S.call hb)); exact rt S ⟨by rw [HR.out], S.below⟩)
  | true =>
  replace HR := Lib.hid (HR.out.trans (if_neg (by rw [h3]; simp)))
  by_cases h4 : x / 4 % 2 = 0
  · replace HR := Lib.hid (HR.out.trans (if_pos h4))
    have t4 : (x / 4 % 2 == 0) = true := beq_iff_eq.2 h4
    clear h4
    cases h5 : farB y with
    | true => replace HR := Lib.hid (HR.out.trans (if_pos h5)); (go_enter Tryd.func51, Tryd.ntmps51; go_wp2_with (first | ((with_reducible refine wl ?_); first | refine sn S (fun g w1 S => ?_) | refine ss S (fun w1 S => ?_) | refine sl S ?_ | refine sa S ?_) | ((with_reducible refine HW1.out.mono ?_); rintro e w' ⟨rfl, rfl⟩) | ((with_reducible refine (HW2 _ S.below).out.mono ?_); rintro e w' ⟨rfl, rfl⟩) | ((with_reducible refine (HW3 _ S.below).out.mono ?_); rintro e w' ⟨rfl, rfl⟩) | ((with_reducible refine (F1 _).out.mono ?_); rintro e w' ⟨rfl, rfl⟩) | ((with_reducible refine (F2 _).out.mono ?_); rintro e w' ⟨rfl, rfl⟩) | ((with_reducible refine (L1 _).out.mono ?_); rintro e w' ⟨rfl, rfl⟩) | ((with_reducible refine (L2 _).out.mono ?_); rintro e w' ⟨rfl, rfl⟩) | ((with_reducible refine (D3 _).out.mono ?_); rintro e w' ⟨rfl, hb⟩; replace S := S.call hb)); exact rt S ⟨by rw [HR.out], S.below⟩)
    | false => replace HR := Lib.hid (HR.out.trans (if_neg (by rw [h5]; simp))); (go_enter Tryd.func51, Tryd.ntmps51; go_wp2_with (first | ((with_reducible refine wl ?_); first | refine sn S (fun g w1 S => ?_) | refine ss S (fun w1 S => ?_) | refine sl S ?_ | refine sa S ?_) | ((with_reducible refine HW1.out.mono ?_); rintro e w' ⟨rfl, rfl⟩) | ((with_reducible refine (HW2 _ S.below).out.mono ?_); rintro e w' ⟨rfl, rfl⟩) | ((with_reducible refine (HW3 _ S.below).out.mono ?_); rintro e w' ⟨rfl, rfl⟩) | ((with_reducible refine (F1 _).out.mono ?_); rintro e w' ⟨rfl, rfl⟩) | ((with_reducible refine (F2 _).out.mono ?_); rintro e w' ⟨rfl, rfl⟩) | ((with_reducible refine (L1 _).out.mono ?_); rintro e w' ⟨rfl, rfl⟩) | ((with_reducible refine (L2 _).out.mono ?_); rintro e w' ⟨rfl, rfl⟩) | ((with_reducible refine (D3 _).out.mono ?_); rintro e w' ⟨rfl, hb⟩; replace S := S.call hb)); exact rt S ⟨by rw [HR.out], S.below⟩)
  replace HR := Lib.hid (HR.out.trans (if_neg h4))
  have t4 : (x / 4 % 2 == 0) = false := beq_eq_false_iff_ne.2 h4
  clear h4
  cases h5 : inG G (segW x) (padW x + 1) 1 with
  | false => replace HR := Lib.hid (HR.out.trans (if_pos h5)); (go_enter Tryd.func51, Tryd.ntmps51; go_wp2_with (first | ((with_reducible refine wl ?_); first | refine sn S (fun g w1 S => ?_) | refine ss S (fun w1 S => ?_) | refine sl S ?_ | refine sa S ?_) | ((with_reducible refine HW1.out.mono ?_); rintro e w' ⟨rfl, rfl⟩) | ((with_reducible refine (HW2 _ S.below).out.mono ?_); rintro e w' ⟨rfl, rfl⟩) | ((with_reducible refine (HW3 _ S.below).out.mono ?_); rintro e w' ⟨rfl, rfl⟩) | ((with_reducible refine (F1 _).out.mono ?_); rintro e w' ⟨rfl, rfl⟩) | ((with_reducible refine (F2 _).out.mono ?_); rintro e w' ⟨rfl, rfl⟩) | ((with_reducible refine (L1 _).out.mono ?_); rintro e w' ⟨rfl, rfl⟩) | ((with_reducible refine (L2 _).out.mono ?_); rintro e w' ⟨rfl, rfl⟩) | ((with_reducible refine (D3 _).out.mono ?_); rintro e w' ⟨rfl, hb⟩; replace S := S.call hb)); exact rt S ⟨by rw [HR.out], S.below⟩)
  | true =>
  replace HR := Lib.hid (HR.out.trans (if_neg (by rw [h5]; simp)))
  cases h6 : farB y with
  | false => replace HR := Lib.hid (HR.out.trans (if_pos h6)); (go_enter Tryd.func51, Tryd.ntmps51; go_wp2_with (first | ((with_reducible refine wl ?_); first | refine sn S (fun g w1 S => ?_) | refine ss S (fun w1 S => ?_) | refine sl S ?_ | refine sa S ?_) | ((with_reducible refine HW1.out.mono ?_); rintro e w' ⟨rfl, rfl⟩) | ((with_reducible refine (HW2 _ S.below).out.mono ?_); rintro e w' ⟨rfl, rfl⟩) | ((with_reducible refine (HW3 _ S.below).out.mono ?_); rintro e w' ⟨rfl, rfl⟩) | ((with_reducible refine (F1 _).out.mono ?_); rintro e w' ⟨rfl, rfl⟩) | ((with_reducible refine (F2 _).out.mono ?_); rintro e w' ⟨rfl, rfl⟩) | ((with_reducible refine (L1 _).out.mono ?_); rintro e w' ⟨rfl, rfl⟩) | ((with_reducible refine (L2 _).out.mono ?_); rintro e w' ⟨rfl, rfl⟩) | ((with_reducible refine (D3 _).out.mono ?_); rintro e w' ⟨rfl, hb⟩; replace S := S.call hb)); exact rt S ⟨by rw [HR.out], S.below⟩)
  | true =>
  replace HR := Lib.hid (HR.out.trans (if_neg (by rw [h6]; simp)))
  by_cases h7 : y / 4 % 2 = 1
  · replace HR := Lib.hid (HR.out.trans (if_pos h7))
    have t7 : (y / 4 % 2 == 1) = true := beq_iff_eq.2 h7
    clear h7
    (go_enter Tryd.func51, Tryd.ntmps51; go_wp2_with (first | ((with_reducible refine wl ?_); first | refine sn S (fun g w1 S => ?_) | refine ss S (fun w1 S => ?_) | refine sl S ?_ | refine sa S ?_) | ((with_reducible refine HW1.out.mono ?_); rintro e w' ⟨rfl, rfl⟩) | ((with_reducible refine (HW2 _ S.below).out.mono ?_); rintro e w' ⟨rfl, rfl⟩) | ((with_reducible refine (HW3 _ S.below).out.mono ?_); rintro e w' ⟨rfl, rfl⟩) | ((with_reducible refine (F1 _).out.mono ?_); rintro e w' ⟨rfl, rfl⟩) | ((with_reducible refine (F2 _).out.mono ?_); rintro e w' ⟨rfl, rfl⟩) | ((with_reducible refine (L1 _).out.mono ?_); rintro e w' ⟨rfl, rfl⟩) | ((with_reducible refine (L2 _).out.mono ?_); rintro e w' ⟨rfl, rfl⟩) | ((with_reducible refine (D3 _).out.mono ?_); rintro e w' ⟨rfl, hb⟩; replace S := S.call hb)); exact rt S ⟨by rw [HR.out], S.below⟩)
  replace HR := Lib.hid (HR.out.trans (if_neg h7))
  have t7 : (y / 4 % 2 == 1) = false := beq_eq_false_iff_ne.2 h7
  clear h7
  by_cases h8 : 1 < kindW z
  · replace HR := Lib.hid (HR.out.trans (if_pos h8))
    have t8 : decide (1 < kindW z) = true := decide_eq_true h8
    clear h8
    (go_enter Tryd.func51, Tryd.ntmps51; go_wp2_with (first | ((with_reducible refine wl ?_); first | refine sn S (fun g w1 S => ?_) | refine ss S (fun w1 S => ?_) | refine sl S ?_ | refine sa S ?_) | ((with_reducible refine HW1.out.mono ?_); rintro e w' ⟨rfl, rfl⟩) | ((with_reducible refine (HW2 _ S.below).out.mono ?_); rintro e w' ⟨rfl, rfl⟩) | ((with_reducible refine (HW3 _ S.below).out.mono ?_); rintro e w' ⟨rfl, rfl⟩) | ((with_reducible refine (F1 _).out.mono ?_); rintro e w' ⟨rfl, rfl⟩) | ((with_reducible refine (F2 _).out.mono ?_); rintro e w' ⟨rfl, rfl⟩) | ((with_reducible refine (L1 _).out.mono ?_); rintro e w' ⟨rfl, rfl⟩) | ((with_reducible refine (L2 _).out.mono ?_); rintro e w' ⟨rfl, rfl⟩) | ((with_reducible refine (D3 _).out.mono ?_); rintro e w' ⟨rfl, hb⟩; replace S := S.call hb)); exact rt S ⟨by rw [HR.out], S.below⟩)
  replace HR := Lib.hid (HR.out.trans (if_neg h8))
  have t8 : decide (1 < kindW z) = false := decide_eq_false h8
  clear h8
  by_cases h9 : pO z ≠ 0
  · replace HR := Lib.hid (HR.out.trans (if_pos h9))
    have t9 : (pO z != 0) = true := bne_iff_ne.2 h9
    clear h9
    (go_enter Tryd.func51, Tryd.ntmps51; go_wp2_with (first | ((with_reducible refine wl ?_); first | refine sn S (fun g w1 S => ?_) | refine ss S (fun w1 S => ?_) | refine sl S ?_ | refine sa S ?_) | ((with_reducible refine HW1.out.mono ?_); rintro e w' ⟨rfl, rfl⟩) | ((with_reducible refine (HW2 _ S.below).out.mono ?_); rintro e w' ⟨rfl, rfl⟩) | ((with_reducible refine (HW3 _ S.below).out.mono ?_); rintro e w' ⟨rfl, rfl⟩) | ((with_reducible refine (F1 _).out.mono ?_); rintro e w' ⟨rfl, rfl⟩) | ((with_reducible refine (F2 _).out.mono ?_); rintro e w' ⟨rfl, rfl⟩) | ((with_reducible refine (L1 _).out.mono ?_); rintro e w' ⟨rfl, rfl⟩) | ((with_reducible refine (L2 _).out.mono ?_); rintro e w' ⟨rfl, rfl⟩) | ((with_reducible refine (D3 _).out.mono ?_); rintro e w' ⟨rfl, hb⟩; replace S := S.call hb)); exact rt S ⟨by rw [HR.out], S.below⟩)
  · replace HR := Lib.hid (HR.out.trans (if_neg h9))
    have t9 : (pO z != 0) = false := bne_eq_false_iff_eq.2 (by omega)
    clear h9
    (go_enter Tryd.func51, Tryd.ntmps51; go_wp2_with (first | ((with_reducible refine wl ?_); first | refine sn S (fun g w1 S => ?_) | refine ss S (fun w1 S => ?_) | refine sl S ?_ | refine sa S ?_) | ((with_reducible refine HW1.out.mono ?_); rintro e w' ⟨rfl, rfl⟩) | ((with_reducible refine (HW2 _ S.below).out.mono ?_); rintro e w' ⟨rfl, rfl⟩) | ((with_reducible refine (HW3 _ S.below).out.mono ?_); rintro e w' ⟨rfl, rfl⟩) | ((with_reducible refine (F1 _).out.mono ?_); rintro e w' ⟨rfl, rfl⟩) | ((with_reducible refine (F2 _).out.mono ?_); rintro e w' ⟨rfl, rfl⟩) | ((with_reducible refine (L1 _).out.mono ?_); rintro e w' ⟨rfl, rfl⟩) | ((with_reducible refine (L2 _).out.mono ?_); rintro e w' ⟨rfl, rfl⟩) | ((with_reducible refine (D3 _).out.mono ?_); rintro e w' ⟨rfl, hb⟩; replace S := S.call hb)); exact rt S ⟨by rw [HR.out], S.below⟩)
end Go.Proofs.YtidglmocekghmaaDoor.Pr
end
section
namespace Go.Proofs.YtidglmocekghmaaDoor.Pr
open Go.RowKit Go.Proofs.YtidglmocekghmaaDoorW.PrintWords Go.Proofs.YtidglmocekghmaaDoorW.PrintLast Go.Proofs.YtidglmocekghmaaDoorW.PrintMore
set_option linter.unusedVariables false
set_option linter.unusedSimpArgs false
structure Ob where
  kd : Int
  sg : Int
  ad : Int
  d : Int
  p : Int
  e : Int
  n : Int
  c : Int
def Ob.z : Ob := ⟨0, 0, 0, 0, 0, 0, 0, 0⟩
abbrev obV (o : Ob) : Value := .agg #[.int .i64 o.kd, .int .i64 o.sg, .int .i64 o.ad, .int .i64 o.d, .int .i64 o.p, .int .i64 o.e, .int .i64 o.n, .int .i64 o.c]
def tagM (sg st e m c t : Int) : Ob × Int :=
  if kindW t ≠ 0 then (Ob.z, 5)
  else if pO t < 0 then (Ob.z, 5)
  else if c < pO t * (pD t + pP t) then (Ob.z, 5)
  else if pD t + pP t = 0 then (⟨2, sg, st + 1, pD t, pP t, e, pO t, m + pO t⟩, 0)
  else (⟨2, sg, st + 1, pD t, pP t, e, pO t, m⟩, 0)
def desM (G : List (List Int)) (x sg st : Int) : Ob × Int :=
  if kindW x = 3 then (if pL x = 0 then (Ob.z, 6) else (Ob.z, 4))
  else if kindW x = 0 then (if inG G sg st (pD x + pP x) = true then (⟨1, sg, st, pD x, pP x, 0, 0, pD x + pP x⟩, 0) else (Ob.z, 2))
  else if inG G sg st (wordsE (pE x) (pC x)) = false then (Ob.z, 2)
  else if pE x ≠ 7 then (⟨2, sg, st, 0, 0, pE x, pC x, wordsE (pE x) (pC x)⟩, 0)
  else tagM sg st (pE x) (wordsE (pE x) (pC x)) (pC x) (wdG G sg st)
def objG (G : List (List Int)) (s a : Int) : Ob × Int :=
  if (folM G s a).2.2.2 ≠ 0 then (Ob.z, (folM G s a).2.2.2)
  else if (folM G s a).1 = 0 then (Ob.z, 0)
  else desM G (folM G s a).1 (folM G s a).2.1 ((folM G s a).2.2.1 + pO (folM G s a).1)
theorem pO_bd (w : Int) : -536870912 ≤ pO w ∧ pO w ≤ 536870911 := by have := offW_bd w; unfold pO; split <;> omega
theorem pD_bd (w : Int) : 0 ≤ pD w ∧ pD w ≤ 65535 := by have := dataW_bd w; unfold pD; split <;> omega
theorem pP_bd (w : Int) : 0 ≤ pP w ∧ pP w ≤ 65535 := by have := ptrsW_bd w; unfold pP; split <;> omega
theorem pE_bd (w : Int) : 0 ≤ pE w ∧ pE w ≤ 7 := by have := elemW_bd w; unfold pE; split <;> omega
theorem pC_bd (w : Int) : 0 ≤ pC w ∧ pC w ≤ 536870911 := by have := cntW_bd w; unfold pC; split <;> omega
theorem wordsE_bd (e c : Int) (c0 : 0 ≤ c) (c1 : c ≤ 536870911) : 0 ≤ wordsE e c ∧ wordsE e c ≤ 536870912 := by
  have := bitsE_mul e c c0 c1
  unfold wordsE
  split <;> omega
theorem folM_bd {G : List (List Int)} (hk : OkG G) (s a : Int) (a0 : -1152921504606846976 ≤ a) (a1 : a ≤ 1152921504606846976) (s0 : s ≤ 4611686018427387904) : 0 ≤ (folM G s a).1 ∧ (folM G s a).1 < 18446744073709551616 ∧ (folM G s a).2.1 ≤ 4611686018427387904 ∧ -1152921504606846976 ≤ (folM G s a).2.2.1 ∧ (folM G s a).2.2.1 ≤ 1152921504606846977 ∧ 0 ≤ (folM G s a).2.2.2 ∧ (folM G s a).2.2.2 ≤ 3 := by
  have h1 := wdG_bd hk s a
  have h2 := wdG_bd hk (segW (wdG G s a)) (padW (wdG G s a))
  have h3 := wdG_bd hk (segW (wdG G s a)) (padW (wdG G s a) + 1)
  have h4 := padW_bd (wdG G s a)
  have h5 := segW_bd (wdG G s a)
  have h6 := padW_bd (wdG G (segW (wdG G s a)) (padW (wdG G s a)))
  have h7 := segW_bd (wdG G (segW (wdG G s a)) (padW (wdG G s a)))
  unfold folM
  repeat' split
  all_goals (dsimp only; omega)
set_option maxRecDepth 100000 in
set_option maxHeartbeats 8000000 in
theorem objG_any (A : Option Addr) (cp : Nat) (G : List (List Int)) (s a : Int) (w : World) (hr : RdG w A G) (hg : G.length ≤ 4611686018427387904) (hl : ∀ x ∈ G, x.length ≤ 4611686018427387904) (hk : OkG G) (a0 : -1152921504606846976 ≤ a) (a1 : a ≤ 1152921504606846976) (s0 : s ≤ 4611686018427387904) :
    Calls Tryd.prog 40 #[.slice A G.length cp, .int .i64 s, .int .i64 a] w fun e w' => e = .returned (.tuple #[obV (objG G s a).1, .int .i64 (objG G s a).2]) ∧ Below w.heap.size w w' := by
  have HF := fun w' (hb : Below w.heap.size w w') => Lib.hid (fol_any A cp G s a w' (Kd.C_below hr hb) hg hl hk (by omega) (by omega))
  have HI := fun s a n w' (hb : Below w.heap.size w w') hs ha hn => Lib.hid (inb_any A cp G s a n w' (Kd.C_below hr hb) hs ha hn hl)
  have HW := fun s a w' (hb : Below w.heap.size w w') => Lib.hid (word_any A cp G s a w' (Kd.C_below hr hb) hg hl)
  have HT := Lib.hid (fun s a => wdG_bd hk s a)
  have hbd := folM_bd hk s a a0 a1 s0
  have HR := Lib.hid (objG.eq_1 G s a)
  have S := Sep.start w
  clear hr hl hk a0 a1 s0
  generalize objG G s a = r at *
  generalize folM G s a = q at *
  obtain ⟨x, sg, ba, er⟩ := q
  dsimp only at HR hbd
  simp only [folV] at HF
  obtain ⟨x0, x1, g1, b0, b1, e0, e1⟩ := hbd
  have D1 := fun w => Lib.hid (rdec_lit x w x0 x1)
  by_cases h1 : er ≠ 0
  · replace HR := Lib.hid (HR.out.trans (if_pos h1))
    have t1 : (er != 0) = true := bne_iff_ne.2 h1
    clear h1
    (go_enter Tryd.func40, Tryd.ntmps40; go_wp2_with (first | go_skip | ((with_reducible refine wl ?_); first | refine sn S (fun g w1 S => ?_) | refine ss S (fun w1 S => ?_) | refine sl S ?_ | refine sa S ?_) | ((with_reducible refine (HF _ S.below).out.mono ?_); rintro e w' ⟨rfl, hb⟩; replace S := S.call hb) | ((with_reducible refine (D1 _).out.mono ?_); rintro e w' ⟨rfl, hb⟩; replace S := S.call hb) | ((with_reducible refine (D2 _).out.mono ?_); rintro e w' ⟨rfl, hb⟩; replace S := S.call hb) | ((with_reducible refine (HI1 _ S.below).out.mono ?_); rintro e w' ⟨rfl, rfl⟩) | ((with_reducible refine (HW1 _ S.below).out.mono ?_); rintro e w' ⟨rfl, rfl⟩) | ((with_reducible refine (HM _).out.mono ?_); rintro e w' ⟨rfl, rfl⟩)); exact rt S ⟨by rw [HR.out], S.below⟩)
  replace HR := Lib.hid (HR.out.trans (if_neg h1))
  obtain rfl : er = 0 := by omega
  clear h1
  by_cases h2 : x = 0
  · replace HR := Lib.hid (HR.out.trans (if_pos h2))
    subst h2
    (go_enter Tryd.func40, Tryd.ntmps40; go_wp2_with (first | go_skip | ((with_reducible refine wl ?_); first | refine sn S (fun g w1 S => ?_) | refine ss S (fun w1 S => ?_) | refine sl S ?_ | refine sa S ?_) | ((with_reducible refine (HF _ S.below).out.mono ?_); rintro e w' ⟨rfl, hb⟩; replace S := S.call hb) | ((with_reducible refine (D1 _).out.mono ?_); rintro e w' ⟨rfl, hb⟩; replace S := S.call hb) | ((with_reducible refine (D2 _).out.mono ?_); rintro e w' ⟨rfl, hb⟩; replace S := S.call hb) | ((with_reducible refine (HI1 _ S.below).out.mono ?_); rintro e w' ⟨rfl, rfl⟩) | ((with_reducible refine (HW1 _ S.below).out.mono ?_); rintro e w' ⟨rfl, rfl⟩) | ((with_reducible refine (HM _).out.mono ?_); rintro e w' ⟨rfl, rfl⟩)); exact rt S ⟨by rw [HR.out], S.below⟩)
  replace HR := Lib.hid (HR.out.trans ((if_neg h2).trans (desM.eq_1 _ _ _ _)))
  have t2 : (x == 0) = false := beq_eq_false_iff_ne.2 h2
  clear h2
  have hkb := kindW_bd x
  obtain ⟨p10, p11⟩ := pO_bd x
  obtain ⟨p20, p21⟩ := pD_bd x
  obtain ⟨p30, p31⟩ := pP_bd x
  obtain ⟨p40, p41⟩ := pE_bd x
  obtain ⟨p50, p51⟩ := pC_bd x
  obtain ⟨m, hm⟩ : ∃ m, wordsE (pE x) (pC x) = m := ⟨_, rfl⟩
  have HM := fun w => Lib.hid (words_any6 (pE x) (pC x) w p50 p51)
  obtain ⟨m0, m1⟩ := wordsE_bd (pE x) (pC x) p50 p51
  rw [hm] at HR HM m0 m1
  clear hm
  by_cases h3 : kindW x = 3
  · replace HR := Lib.hid (HR.out.trans (if_pos h3))
    rw [h3] at D1
    clear h3 hkb
    by_cases h4 : pL x = 0
    · replace HR := Lib.hid (HR.out.trans (if_pos h4))
      have t4 : (pL x == 0) = true := beq_iff_eq.2 h4
      clear h4
      (go_enter Tryd.func40, Tryd.ntmps40; go_wp2_with (first | go_skip | ((with_reducible refine wl ?_); first | refine sn S (fun g w1 S => ?_) | refine ss S (fun w1 S => ?_) | refine sl S ?_ | refine sa S ?_) | ((with_reducible refine (HF _ S.below).out.mono ?_); rintro e w' ⟨rfl, hb⟩; replace S := S.call hb) | ((with_reducible refine (D1 _).out.mono ?_); rintro e w' ⟨rfl, hb⟩; replace S := S.call hb) | ((with_reducible refine (D2 _).out.mono ?_); rintro e w' ⟨rfl, hb⟩; replace S := S.call hb) | ((with_reducible refine (HI1 _ S.below).out.mono ?_); rintro e w' ⟨rfl, rfl⟩) | ((with_reducible refine (HW1 _ S.below).out.mono ?_); rintro e w' ⟨rfl, rfl⟩) | ((with_reducible refine (HM _).out.mono ?_); rintro e w' ⟨rfl, rfl⟩)); exact rt S ⟨by rw [HR.out], S.below⟩)
    · replace HR := Lib.hid (HR.out.trans (if_neg h4))
      have t4 : (pL x == 0) = false := beq_eq_false_iff_ne.2 h4
      clear h4
      (go_enter Tryd.func40, Tryd.ntmps40; go_wp2_with (first | go_skip | ((with_reducible refine wl ?_); first | refine sn S (fun g w1 S => ?_) | refine ss S (fun w1 S => ?_) | refine sl S ?_ | refine sa S ?_) | ((with_reducible refine (HF _ S.below).out.mono ?_); rintro e w' ⟨rfl, hb⟩; replace S := S.call hb) | ((with_reducible refine (D1 _).out.mono ?_); rintro e w' ⟨rfl, hb⟩; replace S := S.call hb) | ((with_reducible refine (D2 _).out.mono ?_); rintro e w' ⟨rfl, hb⟩; replace S := S.call hb) | ((with_reducible refine (HI1 _ S.below).out.mono ?_); rintro e w' ⟨rfl, rfl⟩) | ((with_reducible refine (HW1 _ S.below).out.mono ?_); rintro e w' ⟨rfl, rfl⟩) | ((with_reducible refine (HM _).out.mono ?_); rintro e w' ⟨rfl, rfl⟩)); exact rt S ⟨by rw [HR.out], S.below⟩)
  replace HR := Lib.hid (HR.out.trans (if_neg h3))
  have t3 : (kindW x == 3) = false := beq_eq_false_iff_ne.2 h3
  clear h3
  by_cases h5 : kindW x = 0
  · replace HR := Lib.hid (HR.out.trans (if_pos h5))
    rw [h5] at D1
    clear h5 hkb t3
    have HI1 := fun w' hb => HI sg (ba + pO x) (pD x + pP x) w' hb g1 (by omega) (by omega)
    cases h6 : inG G sg (ba + pO x) (pD x + pP x) with
    | true => replace HR := Lib.hid (HR.out.trans (if_pos h6)); (go_enter Tryd.func40, Tryd.ntmps40; go_wp2_with (first | go_skip | ((with_reducible refine wl ?_); first | refine sn S (fun g w1 S => ?_) | refine ss S (fun w1 S => ?_) | refine sl S ?_ | refine sa S ?_) | ((with_reducible refine (HF _ S.below).out.mono ?_); rintro e w' ⟨rfl, hb⟩; replace S := S.call hb) | ((with_reducible refine (D1 _).out.mono ?_); rintro e w' ⟨rfl, hb⟩; replace S := S.call hb) | ((with_reducible refine (D2 _).out.mono ?_); rintro e w' ⟨rfl, hb⟩; replace S := S.call hb) | ((with_reducible refine (HI1 _ S.below).out.mono ?_); rintro e w' ⟨rfl, rfl⟩) | ((with_reducible refine (HW1 _ S.below).out.mono ?_); rintro e w' ⟨rfl, rfl⟩) | ((with_reducible refine (HM _).out.mono ?_); rintro e w' ⟨rfl, rfl⟩)); exact rt S ⟨by rw [HR.out], S.below⟩)
    | false => replace HR := Lib.hid (HR.out.trans (if_neg (by rw [h6]; simp))); (go_enter Tryd.func40, Tryd.ntmps40; go_wp2_with (first | go_skip | ((with_reducible refine wl ?_); first | refine sn S (fun g w1 S => ?_) | refine ss S (fun w1 S => ?_) | refine sl S ?_ | refine sa S ?_) | ((with_reducible refine (HF _ S.below).out.mono ?_); rintro e w' ⟨rfl, hb⟩; replace S := S.call hb) | ((with_reducible refine (D1 _).out.mono ?_); rintro e w' ⟨rfl, hb⟩; replace S := S.call hb) | ((with_reducible refine (D2 _).out.mono ?_); rintro e w' ⟨rfl, hb⟩; replace S := S.call hb) | ((with_reducible refine (HI1 _ S.below).out.mono ?_); rintro e w' ⟨rfl, rfl⟩) | ((with_reducible refine (HW1 _ S.below).out.mono ?_); rintro e w' ⟨rfl, rfl⟩) | ((with_reducible refine (HM _).out.mono ?_); rintro e w' ⟨rfl, rfl⟩)); exact rt S ⟨by rw [HR.out], S.below⟩)
  replace HR := Lib.hid (HR.out.trans (if_neg h5))
  have t5 : (kindW x == 0) = false := beq_eq_false_iff_ne.2 h5
  clear h5
  have HI1 := fun w' hb => HI sg (ba + pO x) m w' hb g1 (by omega) (by omega)
  cases h7 : inG G sg (ba + pO x) m with
  | false => replace HR := Lib.hid (HR.out.trans (if_pos h7)); (go_enter Tryd.func40, Tryd.ntmps40; go_wp2_with (first | go_skip | ((with_reducible refine wl ?_); first | refine sn S (fun g w1 S => ?_) | refine ss S (fun w1 S => ?_) | refine sl S ?_ | refine sa S ?_) | ((with_reducible refine (HF _ S.below).out.mono ?_); rintro e w' ⟨rfl, hb⟩; replace S := S.call hb) | ((with_reducible refine (D1 _).out.mono ?_); rintro e w' ⟨rfl, hb⟩; replace S := S.call hb) | ((with_reducible refine (D2 _).out.mono ?_); rintro e w' ⟨rfl, hb⟩; replace S := S.call hb) | ((with_reducible refine (HI1 _ S.below).out.mono ?_); rintro e w' ⟨rfl, rfl⟩) | ((with_reducible refine (HW1 _ S.below).out.mono ?_); rintro e w' ⟨rfl, rfl⟩) | ((with_reducible refine (HM _).out.mono ?_); rintro e w' ⟨rfl, rfl⟩)); exact rt S ⟨by rw [HR.out], S.below⟩)
  | true =>
  replace HR := Lib.hid (HR.out.trans (if_neg (by rw [h7]; simp)))
  by_cases h8 : pE x ≠ 7
  · replace HR := Lib.hid (HR.out.trans (if_pos h8))
    have t8 : (pE x != 7) = true := bne_iff_ne.2 h8
    clear h8
    (go_enter Tryd.func40, Tryd.ntmps40; go_wp2_with (first | go_skip | ((with_reducible refine wl ?_); first | refine sn S (fun g w1 S => ?_) | refine ss S (fun w1 S => ?_) | refine sl S ?_ | refine sa S ?_) | ((with_reducible refine (HF _ S.below).out.mono ?_); rintro e w' ⟨rfl, hb⟩; replace S := S.call hb) | ((with_reducible refine (D1 _).out.mono ?_); rintro e w' ⟨rfl, hb⟩; replace S := S.call hb) | ((with_reducible refine (D2 _).out.mono ?_); rintro e w' ⟨rfl, hb⟩; replace S := S.call hb) | ((with_reducible refine (HI1 _ S.below).out.mono ?_); rintro e w' ⟨rfl, rfl⟩) | ((with_reducible refine (HW1 _ S.below).out.mono ?_); rintro e w' ⟨rfl, rfl⟩) | ((with_reducible refine (HM _).out.mono ?_); rintro e w' ⟨rfl, rfl⟩)); exact rt S ⟨by rw [HR.out], S.below⟩)
  replace HR := Lib.hid (HR.out.trans ((if_neg h8).trans (tagM.eq_1 _ _ _ _ _ _)))
  have t8 : (pE x != 7) = false := bne_eq_false_iff_eq.2 (by omega)
  clear h8
  have HW1 := HW sg (ba + pO x)
  obtain ⟨v0, v1⟩ := HT.out sg (ba + pO x)
  generalize wdG G sg (ba + pO x) = v at *
  generalize inG G sg (ba + pO x) 1 = bb at *
  have D2 := fun w => Lib.hid (rdec_lit v w v0 v1)
  obtain ⟨o10, o11⟩ := pO_bd v
  obtain ⟨o20, o21⟩ := pD_bd v
  obtain ⟨o30, o31⟩ := pP_bd v
  by_cases h9 : kindW v ≠ 0
  · replace HR := Lib.hid (HR.out.trans (if_pos h9))
    have t9 : (kindW v != 0) = true := bne_iff_ne.2 h9
    clear h9
    (go_enter Tryd.func40, Tryd.ntmps40; go_wp2_with (first | go_skip | ((with_reducible refine wl ?_); first | refine sn S (fun g w1 S => ?_) | refine ss S (fun w1 S => ?_) | refine sl S ?_ | refine sa S ?_) | ((with_reducible refine (HF _ S.below).out.mono ?_); rintro e w' ⟨rfl, hb⟩; replace S := S.call hb) | ((with_reducible refine (D1 _).out.mono ?_); rintro e w' ⟨rfl, hb⟩; replace S := S.call hb) | ((with_reducible refine (D2 _).out.mono ?_); rintro e w' ⟨rfl, hb⟩; replace S := S.call hb) | ((with_reducible refine (HI1 _ S.below).out.mono ?_); rintro e w' ⟨rfl, rfl⟩) | ((with_reducible refine (HW1 _ S.below).out.mono ?_); rintro e w' ⟨rfl, rfl⟩) | ((with_reducible refine (HM _).out.mono ?_); rintro e w' ⟨rfl, rfl⟩)); exact rt S ⟨by rw [HR.out], S.below⟩)
  replace HR := Lib.hid (HR.out.trans (if_neg h9))
  have t9 : (kindW v != 0) = false := bne_eq_false_iff_eq.2 (by omega)
  clear h9
  by_cases ha : pO v < 0
  · replace HR := Lib.hid (HR.out.trans (if_pos ha))
    have ta : decide (pO v < 0) = true := decide_eq_true ha
    clear ha
    (go_enter Tryd.func40, Tryd.ntmps40; go_wp2_with (first | go_skip | ((with_reducible refine wl ?_); first | refine sn S (fun g w1 S => ?_) | refine ss S (fun w1 S => ?_) | refine sl S ?_ | refine sa S ?_) | ((with_reducible refine (HF _ S.below).out.mono ?_); rintro e w' ⟨rfl, hb⟩; replace S := S.call hb) | ((with_reducible refine (D1 _).out.mono ?_); rintro e w' ⟨rfl, hb⟩; replace S := S.call hb) | ((with_reducible refine (D2 _).out.mono ?_); rintro e w' ⟨rfl, hb⟩; replace S := S.call hb) | ((with_reducible refine (HI1 _ S.below).out.mono ?_); rintro e w' ⟨rfl, rfl⟩) | ((with_reducible refine (HW1 _ S.below).out.mono ?_); rintro e w' ⟨rfl, rfl⟩) | ((with_reducible refine (HM _).out.mono ?_); rintro e w' ⟨rfl, rfl⟩)); exact rt S ⟨by rw [HR.out], S.below⟩)
  replace HR := Lib.hid (HR.out.trans (if_neg ha))
  have ta : decide (pO v < 0) = false := decide_eq_false ha
  have o12 : 0 ≤ pO v := by omega
  clear ha o10
  have y0 : 0 ≤ pO v * (pD v + pP v) := Int.mul_nonneg o12 (by omega)
  have y1 : pO v * (pD v + pP v) ≤ 536870911 * 131070 := Int.le_trans (Int.mul_le_mul_of_nonneg_left (by omega) o12) (Int.mul_le_mul_of_nonneg_right o11 (by omega))
  obtain ⟨y, hy⟩ : ∃ y, pO v * (pD v + pP v) = y := ⟨_, rfl⟩
  rw [hy] at HR y0 y1
  by_cases hb : pC x < y
  · replace HR := Lib.hid (HR.out.trans (if_pos hb))
    have tb : decide (pC x < y) = true := decide_eq_true hb
    clear hb
    (go_enter Tryd.func40, Tryd.ntmps40; go_wp2_with (first | go_skip | ((with_reducible refine wl ?_); first | refine sn S (fun g w1 S => ?_) | refine ss S (fun w1 S => ?_) | refine sl S ?_ | refine sa S ?_) | ((with_reducible refine (HF _ S.below).out.mono ?_); rintro e w' ⟨rfl, hb⟩; replace S := S.call hb) | ((with_reducible refine (D1 _).out.mono ?_); rintro e w' ⟨rfl, hb⟩; replace S := S.call hb) | ((with_reducible refine (D2 _).out.mono ?_); rintro e w' ⟨rfl, hb⟩; replace S := S.call hb) | ((with_reducible refine (HI1 _ S.below).out.mono ?_); rintro e w' ⟨rfl, rfl⟩) | ((with_reducible refine (HW1 _ S.below).out.mono ?_); rintro e w' ⟨rfl, rfl⟩) | ((with_reducible refine (HM _).out.mono ?_); rintro e w' ⟨rfl, rfl⟩)); exact rt S ⟨by rw [HR.out], S.below⟩)
  replace HR := Lib.hid (HR.out.trans (if_neg hb))
  have tb : decide (pC x < y) = false := decide_eq_false hb
  clear hb
  by_cases hc : pD v + pP v = 0
  · replace HR := Lib.hid (HR.out.trans (if_pos hc))
    have tc : (pD v + pP v == 0) = true := beq_iff_eq.2 hc
    clear hc
    (go_enter Tryd.func40, Tryd.ntmps40; go_wp2_with (first | go_skip | ((with_reducible refine wl ?_); first | refine sn S (fun g w1 S => ?_) | refine ss S (fun w1 S => ?_) | refine sl S ?_ | refine sa S ?_) | ((with_reducible refine (HF _ S.below).out.mono ?_); rintro e w' ⟨rfl, hb⟩; replace S := S.call hb) | ((with_reducible refine (D1 _).out.mono ?_); rintro e w' ⟨rfl, hb⟩; replace S := S.call hb) | ((with_reducible refine (D2 _).out.mono ?_); rintro e w' ⟨rfl, hb⟩; replace S := S.call hb) | ((with_reducible refine (HI1 _ S.below).out.mono ?_); rintro e w' ⟨rfl, rfl⟩) | ((with_reducible refine (HW1 _ S.below).out.mono ?_); rintro e w' ⟨rfl, rfl⟩) | ((with_reducible refine (HM _).out.mono ?_); rintro e w' ⟨rfl, rfl⟩)); exact rt S ⟨by rw [HR.out], S.below⟩)
  · replace HR := Lib.hid (HR.out.trans (if_neg hc))
    have tc : (pD v + pP v == 0) = false := beq_eq_false_iff_ne.2 hc
    clear hc
    (go_enter Tryd.func40, Tryd.ntmps40; go_wp2_with (first | go_skip | ((with_reducible refine wl ?_); first | refine sn S (fun g w1 S => ?_) | refine ss S (fun w1 S => ?_) | refine sl S ?_ | refine sa S ?_) | ((with_reducible refine (HF _ S.below).out.mono ?_); rintro e w' ⟨rfl, hb⟩; replace S := S.call hb) | ((with_reducible refine (D1 _).out.mono ?_); rintro e w' ⟨rfl, hb⟩; replace S := S.call hb) | ((with_reducible refine (D2 _).out.mono ?_); rintro e w' ⟨rfl, hb⟩; replace S := S.call hb) | ((with_reducible refine (HI1 _ S.below).out.mono ?_); rintro e w' ⟨rfl, rfl⟩) | ((with_reducible refine (HW1 _ S.below).out.mono ?_); rintro e w' ⟨rfl, rfl⟩) | ((with_reducible refine (HM _).out.mono ?_); rintro e w' ⟨rfl, rfl⟩)); exact rt S ⟨by rw [HR.out], S.below⟩)
end Go.Proofs.YtidglmocekghmaaDoor.Pr
end
section
namespace Go.Proofs.YtidglmocekghmaaDoor.Pr
open Go.RowKit Go.Proofs.YtidglmocekghmaaDoorW.PrintWords Go.Proofs.YtidglmocekghmaaDoorW.PrintLast Go.Proofs.YtidglmocekghmaaDoorW.PrintMore
set_option linter.unusedVariables false
set_option linter.unusedSimpArgs false
def elG (o : Ob) (i : Int) : Ob := ⟨1, o.sg, o.ad + i * (o.d + o.p), o.d, o.p, 0, 0, 0⟩
theorem el_any (o : Ob) (i : Int) (w : World) (i0 : 0 ≤ i) (i1 : i ≤ 536870911) (d0 : 0 ≤ o.d) (d1 : o.d ≤ 65535) (p0 : 0 ≤ o.p) (p1 : o.p ≤ 65535) (a0 : -1152921504606846976 ≤ o.ad) (a1 : o.ad ≤ 2305843009213693952) :
    Calls Tryd.prog 41 #[obV o, .int .i64 i] w fun e w' => e = .returned (obV (elG o i)) ∧ Below w.heap.size w w' := by
  obtain ⟨kd, sg, ad, d, p, e, n, c⟩ := o
  dsimp only at d0 d1 p0 p1 a0 a1
  have y0 : 0 ≤ i * (d + p) := Int.mul_nonneg i0 (by omega)
  have y1 : i * (d + p) ≤ 536870911 * 131070 := Int.le_trans (Int.mul_le_mul_of_nonneg_left (by omega) i0) (Int.mul_le_mul_of_nonneg_right i1 (by omega))
  obtain ⟨y, hy⟩ : ∃ y, i * (d + p) = y := ⟨_, rfl⟩
  rw [hy] at y0 y1
  have HR : Hid (elG ⟨kd, sg, ad, d, p, e, n, c⟩ i = ⟨1, sg, ad + y, d, p, 0, 0, 0⟩) := Lib.hid (by unfold elG; rw [hy])
  have S := Sep.start w
  rw [HR.out]
  go_enter Tryd.func41, Tryd.ntmps41
  go_wp2_with (first | go_skip | ((with_reducible refine wl ?_); first | refine sn S (fun g w1 S => ?_) | refine ss S (fun w1 S => ?_) | refine sl S ?_ | refine sa S ?_))
  exact rt S ⟨rfl, S.below⟩
abbrev limV (D Wd O : Int) : Value := .agg #[.int .i64 D, .int .i64 Wd, .int .i64 O]
def startM (Wd : Int) : Int := if Wd < 0 then 0 else Wd
theorem start_any (D Wd O : Int) (w : World) : Calls Tryd.prog 28 #[limV D Wd O] w fun e w' => e = .returned (.agg #[.int .i64 (startM Wd)]) ∧ Below w.heap.size w w' := by
  have S := Sep.start w
  by_cases h : Wd < 0
  · have HR : Hid (startM Wd = 0) := Lib.hid (if_pos h)
    have t : decide (Wd < 0) = true := decide_eq_true h
    clear h
    go_enter Tryd.func28, Tryd.ntmps28
    go_wp2_with (first | go_skip | ((with_reducible refine wl ?_); first | refine sn S (fun g w1 S => ?_) | refine ss S (fun w1 S => ?_) | refine sl S ?_ | refine sa S ?_))
    exact rt S ⟨by rw [HR.out], S.below⟩
  · have HR : Hid (startM Wd = Wd) := Lib.hid (if_neg h)
    have t : decide (Wd < 0) = false := decide_eq_false h
    clear h
    go_enter Tryd.func28, Tryd.ntmps28
    go_wp2_with (first | go_skip | ((with_reducible refine wl ?_); first | refine sn S (fun g w1 S => ?_) | refine ss S (fun w1 S => ?_) | refine sl S ?_ | refine sa S ?_))
    exact rt S ⟨by rw [HR.out], S.below⟩
theorem rcharge_yes (m c : Int) (w : World) (h : c ≤ m) (c0 : 0 ≤ c) (m1 : m ≤ 4611686018427387904) : Calls Tryd.prog 52 #[.agg #[.int .i64 m], .int .i64 c] w fun e w' => e = .returned (.tuple #[.agg #[.int .i64 (m - c)], .int .i64 0]) ∧ Below w.heap.size w w' := by
  have S := Sep.start w
  have t : decide (m < c) = false := decide_eq_false (by omega)
  go_enter Tryd.func52, Tryd.ntmps52
  go_wp2_with (first | go_skip | ((with_reducible refine wl ?_); first | refine sn S (fun g w1 S => ?_) | refine ss S (fun w1 S => ?_) | refine sl S ?_ | refine sa S ?_))
  exact rt S ⟨rfl, S.below⟩
theorem rcharge_no (m c : Int) (w : World) (h : m < c) : Calls Tryd.prog 52 #[.agg #[.int .i64 m], .int .i64 c] w fun e w' => e = .returned (.tuple #[.agg #[.int .i64 m], .int .i64 8]) ∧ Below w.heap.size w w' := by
  have S := Sep.start w
  have t : decide (m < c) = true := decide_eq_true h
  go_enter Tryd.func52, Tryd.ntmps52
  go_wp2_with (first | go_skip | ((with_reducible refine wl ?_); first | refine sn S (fun g w1 S => ?_) | refine ss S (fun w1 S => ?_) | refine sl S ?_ | refine sa S ?_))
  exact rt S ⟨rfl, S.below⟩
end Go.Proofs.YtidglmocekghmaaDoor.Pr
end
section
namespace Go.Proofs.YtidglmocekghmaaDoor.Pr
open Go.RowKit Go.Proofs.YtidglmocekghmaaDoorW.PrintWords Go.Proofs.YtidglmocekghmaaDoorW.PrintLast Go.Proofs.YtidglmocekghmaaDoorW.PrintMore
def ndZ : S37 := ⟨0, 0, 0, [], []⟩
abbrev Tr := S37 × Int × Int
def kidsR (v : Int → Int → Tr) : Nat → Int → Int → List S37 × Int × Int
  | 0, _, m => ([], m, 0)
  | n + 1, a, m => if (v a m).2.2 ≠ 0 then ([], (v a m).2.1, (v a m).2.2) else ((v a m).1 :: (kidsR v n (a + 1) (v a m).2.1).1, (kidsR v n (a + 1) (v a m).2.1).2)
def strR (G : List (List Int)) (v : Int → Int → Int → Tr) (o : Ob) (m : Int) : Tr :=
  if (kidsR (v o.sg) o.p.toNat (o.ad + o.d) m).2.2 ≠ 0 then (ndZ, (kidsR (v o.sg) o.p.toNat (o.ad + o.d) m).2)
  else (⟨1, 0, 0, bytesL (cutG G o.sg o.ad o.d), (kidsR (v o.sg) o.p.toNat (o.ad + o.d) m).1⟩, (kidsR (v o.sg) o.p.toNat (o.ad + o.d) m).2.1, 0)
def elsR (s : Ob → Int → Tr) (o : Ob) : Nat → Int → Int → List S37 × Int × Int
  | 0, _, m => ([], m, 0)
  | n + 1, i, m => if (s (elG o i) m).2.2 ≠ 0 then ([], (s (elG o i) m).2.1, (s (elG o i) m).2.2) else ((s (elG o i) m).1 :: (elsR s o n (i + 1) (s (elG o i) m).2.1).1, (elsR s o n (i + 1) (s (elG o i) m).2.1).2)
def bodR (G : List (List Int)) (v : Int → Int → Int → Tr) (o : Ob) (m : Int) : Tr :=
  if o.kd = 1 then strR G v o m
  else if o.e < 6 then (⟨2, o.e, o.n, trimE o.e o.n (bytesL (cutG G o.sg o.ad o.c)), []⟩, m, 0)
  else if o.e = 6 then
    if (kidsR (v o.sg) o.n.toNat o.ad m).2.2 ≠ 0 then (ndZ, (kidsR (v o.sg) o.n.toNat o.ad m).2)
    else (⟨2, o.e, o.n, [], (kidsR (v o.sg) o.n.toNat o.ad m).1⟩, (kidsR (v o.sg) o.n.toNat o.ad m).2.1, 0)
  else if (elsR (strR G v) o o.n.toNat 0 m).2.2 ≠ 0 then (ndZ, (elsR (strR G v) o o.n.toNat 0 m).2)
  else (⟨2, o.e, o.n, [], (elsR (strR G v) o o.n.toNat 0 m).1⟩, (elsR (strR G v) o o.n.toNat 0 m).2.1, 0)
def valR (G : List (List Int)) : Nat → Int → Int → Int → Tr
  | f, sg, a, m =>
    if (folM G sg a).2.2.2 ≠ 0 then (ndZ, m, (folM G sg a).2.2.2)
    else if (folM G sg a).1 = 0 then (ndZ, m, 0)
    else match f with
      | 0 => (ndZ, m, 7)
      | f + 1 =>
        if (objG G sg a).2 ≠ 0 then (ndZ, m, (objG G sg a).2)
        else if m < (objG G sg a).1.c then (ndZ, m, 8)
        else bodR G (valR G f) (objG G sg a).1 (m - (objG G sg a).1.c)
def TrV (w : World) (q : Tr) (r : Ending) (w' : World) : Prop := ∃ v3 v4, r = .returned (.tuple #[.agg #[.int .i64 q.1.f0, .int .i64 q.1.f1, .int .i64 q.1.f2, v3, v4], .agg #[.int .i64 q.2.1], .int .i64 q.2.2]) ∧ k37.M w' w.heap.size (fun _ => True) q.1 [.int .i64 q.1.f0, .int .i64 q.1.f1, .int .i64 q.1.f2, v3, v4] ∧ Below w.heap.size w w'
structure EnvG (w : World) (A : Option Addr) (G : List (List Int)) : Prop where
  rd : RdG w A G
  len : G.length ≤ 4611686018427387904
  sgs : ∀ x ∈ G, x.length ≤ 17592186040320
  ok : OkG G
theorem EnvG.below {w w' : World} {A : Option Addr} {G : List (List Int)} (h : EnvG w A G) (hb : Below w.heap.size w w') : EnvG w' A G := ⟨Kd.C_below h.rd hb, h.len, h.sgs, h.ok⟩
def ValC (f : Nat) : Prop := ∀ (A : Option Addr) (cp : Nat) (G : List (List Int)) (D Wd O m sg a dp : Int) (w : World), EnvG w A G → -1152921504606846976 ≤ a → a ≤ 1152921504606846976 → sg ≤ 4611686018427387904 → 0 ≤ m → m ≤ 4611686018427387904 → D ≤ 4611686018427387904 → 0 ≤ dp → dp + f = D + 1 ∨ (f = 0 ∧ D < dp ∧ dp ≤ 4611686018427387904) →
  Calls Tryd.prog 27 #[.slice A G.length cp, limV D Wd O, .agg #[.int .i64 m], .int .i64 sg, .int .i64 a, .int .i64 dp] w (TrV w (valR G f sg a m))
def StrC (f : Nat) : Prop := ∀ (A : Option Addr) (cp : Nat) (G : List (List Int)) (D Wd O m dp : Int) (o : Ob) (w : World), EnvG w A G → inG G o.sg o.ad (o.d + o.p) = true → 0 ≤ o.d → o.d ≤ 65535 → 0 ≤ o.p → o.p ≤ 65535 → 0 ≤ m → m ≤ 4611686018427387904 → D ≤ 4611686018427387904 → 0 ≤ dp → dp + f = D →
  Calls Tryd.prog 53 #[.slice A G.length cp, limV D Wd O, .agg #[.int .i64 m], obV o, .int .i64 dp] w (TrV w (strR G (valR G f) o m))
end Go.Proofs.YtidglmocekghmaaDoor.Pr
end
section
namespace Go.Proofs.YtidglmocekghmaaDoor.Pr
open Go.RowKit Go.Proofs.YtidglmocekghmaaDoorW.PrintWords Go.Proofs.YtidglmocekghmaaDoorW.PrintLast Go.Proofs.YtidglmocekghmaaDoorW.PrintMore
def Sinks (v : Int → Int → Tr) : Prop := ∀ a m, 0 ≤ m → 0 ≤ (v a m).2.1 ∧ (v a m).2.1 ≤ m
theorem kidsR_sinks {v : Int → Int → Tr} (hv : Sinks v) : ∀ n a m, 0 ≤ m → 0 ≤ (kidsR v n a m).2.1 ∧ (kidsR v n a m).2.1 ≤ m
  | 0, a, m, h => ⟨h, Int.le_refl _⟩
  | n + 1, a, m, h => by
    have h1 := hv a m h
    have h2 := kidsR_sinks hv n (a + 1) _ h1.1
    unfold kidsR
    split
    · exact h1
    · exact ⟨h2.1, Int.le_trans h2.2 h1.2⟩
theorem elsR_kids (s : Ob → Int → Tr) (o : Ob) : ∀ n i m, elsR s o n i m = kidsR (fun i m => s (elG o i) m) n i m
  | 0, _, _ => rfl
  | n + 1, i, m => by unfold elsR kidsR; rw [elsR_kids s o n]
theorem strR_sinks (G : List (List Int)) {v : Int → Int → Int → Tr} (hv : ∀ sg, Sinks (v sg)) (o : Ob) (m : Int) (h : 0 ≤ m) : 0 ≤ (strR G v o m).2.1 ∧ (strR G v o m).2.1 ≤ m := by
  have := kidsR_sinks (hv o.sg) o.p.toNat (o.ad + o.d) m h
  unfold strR
  split
  · exact this
  · exact this
theorem bodR_sinks (G : List (List Int)) {v : Int → Int → Int → Tr} (hv : ∀ sg, Sinks (v sg)) (o : Ob) (m : Int) (h : 0 ≤ m) : 0 ≤ (bodR G v o m).2.1 ∧ (bodR G v o m).2.1 ≤ m := by
  have h1 := strR_sinks G hv o m h
  have h2 := kidsR_sinks (hv o.sg) o.n.toNat o.ad m h
  have h3 := kidsR_sinks (v := fun i m => strR G v (elG o i) m) (fun i m hm => strR_sinks G hv (elG o i) m hm) o.n.toNat 0 m h
  rw [← elsR_kids] at h3
  unfold bodR
  repeat' split
  all_goals first | exact h1 | exact h2 | exact h3 | exact ⟨h, Int.le_refl _⟩
theorem tagM_c (sg st e m c t : Int) (h : 0 ≤ m) : 0 ≤ (tagM sg st e m c t).1.c := by
  unfold tagM
  repeat' split
  all_goals first | exact Int.le_refl _ | (dsimp only; omega)
theorem objG_c (G : List (List Int)) (s a : Int) : 0 ≤ (objG G s a).1.c := by
  have h1 := fun x => pD_bd x
  have h2 := fun x => pP_bd x
  have h3 := fun x => wordsE_bd (pE x) (pC x) (pC_bd x).1 (pC_bd x).2
  unfold objG desM
  repeat' split
  all_goals first | exact Int.le_refl _ | exact tagM_c _ _ _ _ _ _ (h3 _).1 | exact (h3 _).1 | exact Int.add_nonneg (h1 _).1 (h2 _).1
theorem valR_sinks (G : List (List Int)) : ∀ f sg, Sinks (valR G f sg)
  | 0, sg => fun a m h => by
    rw [valR]
    by_cases h1 : (folM G sg a).2.2.2 ≠ 0
    · rw [if_pos h1]; exact ⟨h, Int.le_refl _⟩
    · rw [if_neg h1]
      by_cases h2 : (folM G sg a).1 = 0
      · rw [if_pos h2]; exact ⟨h, Int.le_refl _⟩
      · rw [if_neg h2]; exact ⟨h, Int.le_refl _⟩
  | f + 1, sg => fun a m h => by
    rw [valR]
    split
    · exact ⟨h, Int.le_refl _⟩
    split
    · exact ⟨h, Int.le_refl _⟩
    split
    · exact ⟨h, Int.le_refl _⟩
    split
    · exact ⟨h, Int.le_refl _⟩
    have hc := objG_c G sg a
    have := bodR_sinks G (v := valR G f) (fun sg => valR_sinks G f sg) (objG G sg a).1 (m - (objG G sg a).1.c) (by omega)
    exact ⟨this.1, by omega⟩
structure Rnd (v : Int → Int → Tr) (n : Nat) (a m : Int) (i : Nat) (ks : List S37) (mi : Int) : Prop where
  le : i ≤ n
  len : ks.length = i
  lo : 0 ≤ mi
  hi : mi ≤ m
  eq : kidsR v n a m = (ks ++ (kidsR v (n - i) (a + i) mi).1, (kidsR v (n - i) (a + i) mi).2)
theorem Rnd.start (v : Int → Int → Tr) (n : Nat) (a m : Int) (h : 0 ≤ m) : Rnd v n a m 0 [] m := ⟨Nat.zero_le _, rfl, h, Int.le_refl _, by simp⟩
theorem Rnd.stop {v : Int → Int → Tr} {n : Nat} {a m : Int} {i : Nat} {ks : List S37} {mi : Int} (h : Rnd v n a m i ks mi) (hi : i = n) : kidsR v n a m = (ks, mi, 0) := by
  subst hi
  have := h.eq
  simpa [kidsR] using this
theorem Rnd.fail {v : Int → Int → Tr} {n : Nat} {a m : Int} {i : Nat} {ks : List S37} {mi : Int} (h : Rnd v n a m i ks mi) (hi : i < n) (he : (v (a + i) mi).2.2 ≠ 0) : (kidsR v n a m).2 = ((v (a + i) mi).2.1, (v (a + i) mi).2.2) := by
  rw [h.eq]
  obtain ⟨k, hk⟩ : ∃ k, n - i = k + 1 := ⟨n - i - 1, by omega⟩
  rw [hk, kidsR, if_pos he]
theorem Rnd.next {v : Int → Int → Tr} (hv : Sinks v) {n : Nat} {a m : Int} {i : Nat} {ks : List S37} {mi : Int} (h : Rnd v n a m i ks mi) (hi : i < n) (he : (v (a + i) mi).2.2 = 0) : Rnd v n a m (i + 1) (ks ++ [(v (a + i) mi).1]) (v (a + i) mi).2.1 := by
  have h1 := hv (a + i) mi h.lo
  refine ⟨hi, by simp [h.len], h1.1, Int.le_trans h1.2 h.hi, ?_⟩
  rw [h.eq]
  obtain ⟨k, hk⟩ : ∃ k, n - i = k + 1 := ⟨n - i - 1, by omega⟩
  rw [show n - (i + 1) = k by omega, hk, kidsR, if_neg (by simpa using he)]
  have : a + ((i + 1 : Nat) : Int) = a + i + 1 := by omega
  rw [this]
  simp
end Go.Proofs.YtidglmocekghmaaDoor.Pr
end
section
namespace Go.Proofs.YtidglmocekghmaaDoor.Pr
def vptrs (v : Nat → Nat → Option Nat) : Nat → Nat → Nat → Option Nat
  | 0, _, nx => some nx
  | n + 1, a, nx => match v a nx with
    | none => none
    | some r => vptrs v n (a + 1) r
def velems (v : Nat → Nat → Option Nat) (p size : Nat) : Nat → Nat → Nat → Option Nat
  | 0, _, nx => some nx
  | k + 1, a, nx => match vptrs v p a nx with
    | none => none
    | some r => velems v p size k (a + size) r
def vstr (s : List Int) (v : Nat → Nat → Option Nat) (a : Nat) (w : Int) (nx : Nat) : Option Nat :=
  if (dataW w).toNat + (ptrsW w).toNat = 0 then if offW w = -1 then some nx else none
  else if (a : Int) + 1 + offW w = nx then
    if lastM s nx (dataW w).toNat = true then
      if (decide ((ptrsW w).toNat = 0) || decide (wd s (nx + (dataW w).toNat + (ptrsW w).toNat - 1) ≠ 0)) = true then vptrs v (ptrsW w).toNat (nx + (dataW w).toNat) (nx + ((dataW w).toNat + (ptrsW w).toNat)) else none
    else none
  else none
def vcomp (s : List Int) (v : Nat → Nat → Option Nat) (a : Nat) (w : Int) (nx : Nat) : Option Nat :=
  if (a : Int) + 1 + offW w = nx then
    if offW (wd s nx) * (dataW (wd s nx) + ptrsW (wd s nx)) = cntW w then
      if ((decide ((dataW (wd s nx)).toNat = 0) || anyM s ((dataW (wd s nx)).toNat + (ptrsW (wd s nx)).toNat) (offW (wd s nx)).toNat (nx + 1 + (dataW (wd s nx)).toNat - 1)) && (decide ((ptrsW (wd s nx)).toNat = 0) || anyM s ((dataW (wd s nx)).toNat + (ptrsW (wd s nx)).toNat) (offW (wd s nx)).toNat (nx + 1 + ((dataW (wd s nx)).toNat + (ptrsW (wd s nx)).toNat) - 1))) = true then
        velems v (ptrsW (wd s nx)).toNat ((dataW (wd s nx)).toNat + (ptrsW (wd s nx)).toNat) (offW (wd s nx)).toNat (nx + 1 + (dataW (wd s nx)).toNat) (nx + ((cntW w).toNat + 1))
      else none
    else none
  else none
def vlist (s : List Int) (v : Nat → Nat → Option Nat) (a : Nat) (w : Int) (nx : Nat) : Option Nat :=
  if elemW w = 7 then vcomp s v a w nx
  else if (a : Int) + 1 + offW w = nx then
    if elemW w = 6 then vptrs v (wordsE (elemW w) (cntW w)).toNat nx (nx + (wordsE (elemW w) (cntW w)).toNat)
    else if restM s (elemW w) (cntW w) nx (wordsE (elemW w) (cntW w)).toNat = true then some (nx + (wordsE (elemW w) (cntW w)).toNat) else none
  else none
def visV (s : List Int) : Nat → Nat → Nat → Option Nat
  | 0, a, nx => if wd s a = 0 then some nx else none
  | f + 1, a, nx =>
    if wd s a = 0 then some nx
    else if kindW (wd s a) = 0 then vstr s (visV s f) a (wd s a) nx
    else if kindW (wd s a) = 1 then vlist s (visV s f) a (wd s a) nx
    else none
def Agr (s : List Int) (v : Int → Int → Tr) (V : Nat → Nat → Option Nat) (M : Nat → Nat → Nat → Option (Nat × Nat)) : Prop :=
  ∀ a nx m : Nat, a < s.length → nx ≤ s.length → M a nx m = if (v a m).2.2 = 0 then (V a nx).map (fun r => (r, (v a m).2.1.toNat)) else none
section
variable {s : List Int} {v : Int → Int → Tr} {V : Nat → Nat → Option Nat} {M : Nat → Nat → Nat → Option (Nat × Nat)}
theorem agr_kids (H : Agr s v V M) (hv : Sinks v) (hM : InM s M) : ∀ n a nx m : Nat, a + n ≤ s.length → nx ≤ s.length → ptrsM M n a nx m = if (kidsR v n a m).2.2 = 0 then (vptrs V n a nx).map (fun r => (r, (kidsR v n a m).2.1.toNat)) else none
  | 0, a, nx, m, h1, h2 => by simp [ptrsM, vptrs, kidsR]
  | n + 1, a, nx, m, h1, h2 => by
    have h3 := H a nx m (by omega) h2
    have h4 := hM a nx m
    have h5 := hv a m (by omega)
    have h6 := agr_kids H hv hM n (a + 1)
    rw [ptrsM, vptrs, kidsR, h3]
    rw [h3] at h4
    by_cases he : (v a m).2.2 = 0
    · rw [if_pos he] at h4 ⊢
      rw [if_neg (show ¬ (v a m).2.2 ≠ 0 from fun h => h he)]
      cases hV : V a nx with
      | none => simp
      | some r =>
        rw [hV] at h4
        have h7 := (h4 _ rfl h2).2.1
        have h8 := h6 r (v a m).2.1.toNat (by omega) h7
        rw [show ((((v a m).2.1.toNat : Nat)) : Int) = (v a m).2.1 by omega, show (((a + 1 : Nat)) : Int) = (a : Int) + 1 by omega] at h8
        exact h8
    · rw [if_neg he, if_pos he]
      simp [he]
theorem strR_2 (G : List (List Int)) (v : Int → Int → Int → Tr) (o : Ob) (m : Int) : (strR G v o m).2 = (kidsR (v o.sg) o.p.toNat (o.ad + o.d) m).2 := by
  unfold strR
  split
  · rfl
  · rename_i h
    have : (kidsR (v o.sg) o.p.toNat (o.ad + o.d) m).2.2 = 0 := by simpa using h
    exact Prod.ext rfl this.symm
theorem agr_elems (H : Agr s v V M) (hv : Sinks v) (hM : InM s M) (S : Ob → Int → Tr) (o : Ob) (d p ad : Nat) (hd : o.d = d) (hp : o.p = p) (ha : o.ad = ad) (hS : ∀ (o' : Ob) (m : Int), o'.p = (p : Int) → o'.sg = o.sg → (S o' m).2 = (kidsR v p (o'.ad + o'.d) m).2) :
    ∀ k i a nx m : Nat, a = ad + i * (d + p) + d → a + k * (d + p) ≤ s.length + d → nx ≤ s.length → elemsM M p (d + p) k a nx m = if (elsR S o k i m).2.2 = 0 then (velems V p (d + p) k a nx).map (fun r => (r, (elsR S o k i m).2.1.toNat)) else none
  | 0, i, a, nx, m, h0, h1, h2 => by simp [elemsM, velems, elsR]
  | k + 1, i, a, nx, m, h0, h1, h2 => by
    have y1 : (k + 1) * (d + p) = k * (d + p) + (d + p) := by rw [Nat.add_mul, Nat.one_mul]
    have h3 := agr_kids H hv hM p a nx m (by omega) h2
    have h4 := ptrsM_in hM p a nx m
    have h5 := kidsR_sinks hv p a m (by omega)
    have h6 := fun nx m => agr_elems H hv hM S o d p ad hd hp ha hS k (i + 1) (a + (d + p)) nx m
    have h9 : (S (elG o i) m).2 = (kidsR v p a m).2 := by
      rw [hS (elG o i) m hp rfl]
      unfold elG
      dsimp only
      rw [hd, hp, ha, h0]
      congr 2
    rw [elemsM, velems, elsR, h3, h9]
    rw [h3] at h4
    by_cases he : (kidsR v p a m).2.2 = 0
    · rw [if_pos he] at h4 ⊢
      rw [if_neg (show ¬ (kidsR v p a m).2.2 ≠ 0 from fun h => h he)]
      cases hV : vptrs V p a nx with
      | none => simp
      | some r =>
        rw [hV] at h4
        have h7 := (h4 _ rfl h2).2.1
        have y2 : (i + 1) * (d + p) = i * (d + p) + (d + p) := by rw [Nat.add_mul, Nat.one_mul]
        have h8 := h6 r (kidsR v p a m).2.1.toNat (by omega) (by omega) h7
        rw [show ((((kidsR v p a m).2.1.toNat : Nat)) : Int) = (kidsR v p a m).2.1 by omega, show (((i + 1 : Nat)) : Int) = (i : Int) + 1 by omega] at h8
        exact h8
    · rw [if_neg he, if_pos he]
      simp [he]
end
theorem inG_one {s : List Int} {a n : Int} : inG [s] 0 a n = decide (0 ≤ a ∧ 0 ≤ n ∧ a + n ≤ s.length) := by
  unfold inG sgG
  simp
theorem wdG_one {s : List Int} {a : Int} (h0 : 0 ≤ a) (h1 : a < s.length) : wdG [s] 0 a = wd s a.toNat := by
  unfold wdG
  rw [inG_one, if_pos (by simp; omega)]
  simp [sgG]
theorem folM_one {s : List Int} {a : Nat} (h : a < s.length) (hk : kindW (wd s a) ≠ 2) : folM [s] 0 a = (wd s a, 0, (a : Int) + 1, 0) := by
  unfold folM
  rw [inG_one, wdG_one (by omega) (by omega), if_neg (by simp; omega), Int.toNat_natCast, if_pos (by simp [farB, hk])]
theorem agr_str {s : List Int} {f : Nat} (H : Agr s (valR [s] f 0) (visV s f) (visM s f)) (a nx m : Nat) (ha : a < s.length) (hn : nx ≤ s.length) (h0 : wd s a ≠ 0) (hk : kindW (wd s a) = 0) :
    structM s (visM s f) a (wd s a) nx m = if (valR [s] (f + 1) 0 a m).2.2 = 0 then (vstr s (visV s f) a (wd s a) nx).map (fun r => (r, (valR [s] (f + 1) 0 a m).2.1.toNat)) else none := by
  have hF := folM_one ha (by omega)
  have hd := dataW_bd (wd s a)
  have hp := ptrsW_bd (wd s a)
  obtain ⟨d, hd1⟩ := Int.eq_ofNat_of_zero_le hd.1
  obtain ⟨p, hp1⟩ := Int.eq_ofNat_of_zero_le hp.1
  have hO : objG [s] 0 a = if inG [s] 0 ((a : Int) + 1 + offW (wd s a)) ((d : Int) + p) = true then (⟨1, 0, (a : Int) + 1 + offW (wd s a), d, p, 0, 0, (d : Int) + p⟩, 0) else (Ob.z, 2) := by
    unfold objG desM
    rw [hF]
    simp only [pO, pD, pP, hk, hd1, hp1, h0, ne_eq, not_true_eq_false, if_false, if_true, show ((0 : Int) = 3) = False by simp, show ((0 : Int) ≤ 1) = True by simp]
  have hV : valR [s] (f + 1) 0 a m = if (objG [s] 0 a).2 ≠ 0 then (ndZ, (m : Int), (objG [s] 0 a).2) else if (m : Int) < (objG [s] 0 a).1.c then (ndZ, (m : Int), 8) else bodR [s] (valR [s] f) (objG [s] 0 a).1 ((m : Int) - (objG [s] 0 a).1.c) := by
    rw [valR, hF]
    simp [h0]
  unfold structM vstr
  simp only [hd1, hp1, Int.toNat_natCast]
  rw [hV, hO]
  clear hV hO hF
  by_cases h1 : d + p = 0
  · have hd0 : d = 0 := by omega
    have hp0 : p = 0 := by omega
    subst hd0 hp0
    by_cases h2 : offW (wd s a) = -1
    · have : inG [s] 0 ((a : Int) + 1 + offW (wd s a)) (((0 : Nat) : Int) + ((0 : Nat) : Int)) = true := by rw [inG_one, h2]; simp; omega
      rw [this]
      have h3 : ¬ ((m : Int) < 0) := by omega
      simp [h2, bodR, strR, kidsR, h3]
    · simp [h2]
  · simp only [h1, if_false]
    by_cases h2 : (a : Int) + 1 + offW (wd s a) = nx
    · simp only [h2, if_true]
      have hI : inG [s] 0 (nx : Int) ((d : Int) + p) = decide (nx + (d + p) ≤ s.length) := by rw [inG_one]; congr 1; simp only [eq_iff_iff]; omega
      have hB : objM s a (offW (wd s a)) (d + p) nx = decide (nx + (d + p) ≤ s.length) := by unfold objM; simp [h2]
      rw [hI, hB]
      by_cases h3 : nx + (d + p) ≤ s.length
      · simp only [h3, decide_true, if_true, ne_eq, not_true_eq_false, if_false]
        by_cases h4 : d + p ≤ m
        · rw [if_pos h4, if_neg (show ¬ ((m : Int) < (d : Int) + p) by omega)]
          have hK := agr_kids H (valR_sinks [s] f 0) (visM_in s f) p (nx + d) (nx + (d + p)) (m - (d + p)) (by omega) (by omega)
          rw [hK]
          simp only [bodR, if_true]
          rw [strR_2]
          dsimp only
          rw [Int.toNat_natCast, show ((nx : Int) + (d : Int)) = ((nx + d : Nat) : Int) by omega, show ((m : Int) - ((d : Int) + p)) = ((m - (d + p) : Nat) : Int) by omega]
          by_cases h5 : lastM s nx d = true
          · by_cases h6 : (decide (p = 0) || decide (wd s (nx + d + p - 1) ≠ 0)) = true
            · rw [if_pos h5, if_pos h6, if_pos h5, if_pos h6]
            · rw [if_pos h5, if_neg h6, if_pos h5, if_neg h6]; simp
          · rw [if_neg h5, if_neg h5]; simp
        · rw [if_neg h4, if_pos (show ((m : Int) < (d : Int) + p) by omega)]
          simp
      · simp [h3]
    · have hB : objM s a (offW (wd s a)) (d + p) nx = false := by unfold objM; simp [h2]
      simp [h2, hB]
end Go.Proofs.YtidglmocekghmaaDoor.Pr
end
section
namespace Go.Proofs.YtidglmocekghmaaDoor.Pr
theorem elemsM_zero (v : Nat → Nat → Nat → Option (Nat × Nat)) : ∀ k a nx m : Nat, elemsM v 0 0 k a nx m = some (nx, m)
  | 0, _, _, _ => rfl
  | k + 1, a, nx, m => by simp [elemsM, ptrsM, elemsM_zero v k]
theorem valR_obj {s : List Int} {f a m : Nat} (ha : a < s.length) (h0 : wd s a ≠ 0) (hk : kindW (wd s a) ≠ 2) : valR [s] (f + 1) 0 a m = if (objG [s] 0 a).2 ≠ 0 then (ndZ, (m : Int), (objG [s] 0 a).2) else if (m : Int) < (objG [s] 0 a).1.c then (ndZ, (m : Int), 8) else bodR [s] (valR [s] f) (objG [s] 0 a).1 ((m : Int) - (objG [s] 0 a).1.c) := by
  rw [valR, folM_one ha hk]
  simp [h0]
theorem agr_comp {s : List Int} {f : Nat} (H : Agr s (valR [s] f 0) (visV s f) (visM s f)) (a nx m : Nat) (ha : a < s.length) (hn : nx ≤ s.length) (h0 : wd s a ≠ 0) (hk : kindW (wd s a) = 1) (he : elemW (wd s a) = 7) :
    compM s (visM s f) a (wd s a) nx m = if (valR [s] (f + 1) 0 a m).2.2 = 0 then (vcomp s (visV s f) a (wd s a) nx).map (fun r => (r, (valR [s] (f + 1) 0 a m).2.1.toNat)) else none := by
  have hF := folM_one ha (by omega)
  obtain ⟨c, hc⟩ := Int.eq_ofNat_of_zero_le (cntW_bd (wd s a)).1
  rw [valR_obj ha h0 (by omega)]
  unfold compM vcomp
  by_cases h2 : (a : Int) + 1 + offW (wd s a) = nx
  · have hW : wordsE 7 (c : Int) = (c : Int) + 1 := rfl
    have hI : inG [s] 0 (nx : Int) ((c : Int) + 1) = decide (nx + (c + 1) ≤ s.length) := by rw [inG_one]; congr 1; simp only [eq_iff_iff]; omega
    have hB : objM s a (offW (wd s a)) (c + 1) nx = decide (nx + (c + 1) ≤ s.length) := by unfold objM; simp [h2]
    have hO : objG [s] 0 a = if nx + (c + 1) ≤ s.length then tagM 0 nx 7 ((c : Int) + 1) c (wdG [s] 0 nx) else (Ob.z, 2) := by
      unfold objG desM
      rw [hF]
      simp only [pO, pD, pP, pE, pC, hk, he, hc, h0, h2, hW, hI, ne_eq, not_true_eq_false, if_false, if_true, show ((1 : Int) = 3) = False by simp, show ((1 : Int) = 0) = False by simp, show ((1 : Int) ≤ 1) = True by simp, decide_eq_false_iff_not]
      by_cases h3 : nx + (c + 1) ≤ s.length <;> simp [h3]
    simp only [hc, Int.toNat_natCast, h2, if_true]
    rw [hO, hB]
    by_cases h3 : nx + (c + 1) ≤ s.length
    · simp only [h3, decide_true, if_true]
      rw [wdG_one (by omega) (by omega), Int.toNat_natCast]
      generalize wd s nx = t
      obtain ⟨d, hd1⟩ := Int.eq_ofNat_of_zero_le (dataW_bd t).1
      obtain ⟨p, hp1⟩ := Int.eq_ofNat_of_zero_le (ptrsW_bd t).1
      by_cases hkt : kindW t = 0
      · have hpo : pO t = offW t := by unfold pO; rw [if_pos (by omega)]
        have hpd : pD t = d := by unfold pD; rw [if_pos hkt, hd1]
        have hpp : pP t = p := by unfold pP; rw [if_pos hkt, hp1]
        by_cases ho : 0 ≤ offW t
        · obtain ⟨k, hk1⟩ := Int.eq_ofNat_of_zero_le ho
          simp only [hk1, hd1, hp1, Int.toNat_natCast]
          rw [hk1] at hpo
          by_cases hs : (k : Int) * ((d : Int) + p) = c
          · have hs' : k * (d + p) = c := by exact_mod_cast hs
            by_cases hz : d + p = 0
            · have hd0 : d = 0 := by omega
              have hp0 : p = 0 := by omega
              subst hd0 hp0
              have hT : tagM 0 nx 7 ((c : Int) + 1) c t = (⟨2, 0, (nx : Int) + 1, 0, 0, 7, k, (c : Int) + 1 + k⟩, 0) := by
                unfold tagM
                simp only [hpo, hpd, hpp, hkt, ne_eq, not_true_eq_false, if_false]
                rw [if_neg (by omega), if_neg (by simp), if_pos (by simp)]
                rfl
              rw [hT]
              simp only [hkt, hs, true_and, Int.natCast_nonneg, if_true, ne_eq, not_true_eq_false, if_false]
              by_cases h4 : c + 1 ≤ m
              · by_cases h5 : k ≤ m - (c + 1)
                · have hE := agr_elems H (valR_sinks [s] f 0) (visM_in s f) (strR [s] (valR [s] f)) ⟨2, 0, (nx : Int) + 1, 0, 0, 7, k, (c : Int) + 1 + k⟩ 0 0 (nx + 1) rfl rfl (by simp) (fun o' m hp hg => by rw [strR_2, hp, hg]; rfl) k 0 (nx + 1 + 0) (nx + (c + 1)) (m - (c + 1) - k) (by omega) (by omega) (by omega)
                  rw [show (0 : Nat) + 0 = 0 from rfl, elemsM_zero] at hE
                  rw [show ((m - (c + 1) - k : Nat) : Int) = (m : Int) - ((c : Int) + 1 + k) by omega] at hE
                  have hlt : ¬ ((m : Int) < (c : Int) + 1 + k) := by omega
                  simp only [h4, h5, hlt, if_true, if_false, bodR, show ((2 : Int) = 1) = False by simp, show ((7 : Int) < 6) = False by simp, show ((7 : Int) = 6) = False by simp, Int.toNat_natCast]
                  simp only [decide_true, Bool.true_or, Bool.and_self, if_true]
                  generalize elsR (strR [s] (valR [s] f)) ⟨2, 0, (nx : Int) + 1, 0, 0, 7, k, (c : Int) + 1 + k⟩ k 0 ((m : Int) - ((c : Int) + 1 + k)) = z at *
                  obtain ⟨z1, z2, z3⟩ := z
                  dsimp only at hE ⊢
                  by_cases hz3 : z3 = 0
                  · subst hz3
                    simpa using hE
                  · simp [hz3] at hE
                · have hlt : ((m : Int) < (c : Int) + 1 + k) := by omega
                  simp [h4, h5, hlt]
              · have hlt : ((m : Int) < (c : Int) + 1 + k) := by omega
                simp [h4, hlt]
            · have hT : tagM 0 nx 7 ((c : Int) + 1) c t = (⟨2, 0, (nx : Int) + 1, d, p, 7, k, (c : Int) + 1⟩, 0) := by
                unfold tagM
                simp only [hpo, hpd, hpp, hkt, ne_eq, not_true_eq_false, if_false]
                rw [if_neg (by omega), if_neg (by omega), if_neg (by omega)]
              rw [hT]
              simp only [hkt, hs, hz, true_and, Int.natCast_nonneg, if_true, ne_eq, not_true_eq_false, if_false]
              by_cases h4 : c + 1 ≤ m
              · have hE := agr_elems H (valR_sinks [s] f 0) (visM_in s f) (strR [s] (valR [s] f)) ⟨2, 0, (nx : Int) + 1, d, p, 7, k, (c : Int) + 1⟩ d p (nx + 1) rfl rfl (by simp) (fun o' m hp hg => by rw [strR_2, hp, hg]; simp) k 0 (nx + 1 + d) (nx + (c + 1)) (m - (c + 1)) (by omega) (by rw [hs']; omega) (by omega)
                rw [show ((m - (c + 1) : Nat) : Int) = (m : Int) - ((c : Int) + 1) by omega] at hE
                have hlt : ¬ ((m : Int) < (c : Int) + 1) := by omega
                simp only [h4, hlt, if_true, if_false, bodR, show ((2 : Int) = 1) = False by simp, show ((7 : Int) < 6) = False by simp, show ((7 : Int) = 6) = False by simp, Int.toNat_natCast]
                rw [hE]
                generalize elsR (strR [s] (valR [s] f)) ⟨2, 0, (nx : Int) + 1, d, p, 7, k, (c : Int) + 1⟩ k ((0 : Nat) : Int) ((m : Int) - ((c : Int) + 1)) = z
                obtain ⟨z1, z2, z3⟩ := z
                dsimp only
                by_cases hz3 : z3 = 0
                · subst hz3
                  simp only [ne_eq, not_true_eq_false, if_false, if_true]
                  split <;> simp
                · simp [hz3]
              · have hlt : ((m : Int) < (c : Int) + 1) := by omega
                simp [h4, hlt]
          · simp [hs]
        · have hT : (tagM 0 nx 7 ((c : Int) + 1) c t).2 = 5 := by
            unfold tagM
            rw [if_neg (by omega), hpo, if_pos (by omega)]
          simp [ho, hT]
      · have hT : (tagM 0 nx 7 ((c : Int) + 1) c t).2 = 5 := by
          unfold tagM
          rw [if_pos hkt]
        simp [hkt, hT]
    · simp [h3]
  · have hB : objM s a (offW (wd s a)) ((cntW (wd s a)).toNat + 1) nx = false := by unfold objM; simp [h2]
    simp [h2, hB]
theorem agr_list {s : List Int} {f : Nat} (H : Agr s (valR [s] f 0) (visV s f) (visM s f)) (a nx m : Nat) (ha : a < s.length) (hn : nx ≤ s.length) (h0 : wd s a ≠ 0) (hk : kindW (wd s a) = 1) :
    listM s (visM s f) a (wd s a) nx m = if (valR [s] (f + 1) 0 a m).2.2 = 0 then (vlist s (visV s f) a (wd s a) nx).map (fun r => (r, (valR [s] (f + 1) 0 a m).2.1.toNat)) else none := by
  unfold listM vlist
  by_cases he : elemW (wd s a) = 7
  · rw [if_pos he, if_pos he]
    exact agr_comp H a nx m ha hn h0 hk he
  rw [if_neg he, if_neg he]
  have hF := folM_one ha (by omega)
  obtain ⟨c, hc⟩ := Int.eq_ofNat_of_zero_le (cntW_bd (wd s a)).1
  have heb := elemW_bd (wd s a)
  rw [valR_obj ha h0 (by omega), hc]
  obtain ⟨e, hE⟩ : ∃ e, elemW (wd s a) = e := ⟨_, rfl⟩
  rw [hE] at he heb ⊢
  have hcb := (cntW_bd (wd s a)).2
  obtain ⟨n, hw⟩ := Int.eq_ofNat_of_zero_le (wordsE_bd e (c : Int) (by omega) (by omega)).1
  simp only [hw, Int.toNat_natCast]
  by_cases h2 : (a : Int) + 1 + offW (wd s a) = nx
  · have hI : inG [s] 0 (nx : Int) (n : Int) = decide (nx + n ≤ s.length) := by rw [inG_one]; congr 1; simp only [eq_iff_iff]; omega
    have hB : objM s a (offW (wd s a)) n nx = decide (nx + n ≤ s.length) := by unfold objM; simp [h2]
    have hO : objG [s] 0 a = if nx + n ≤ s.length then (⟨2, 0, nx, 0, 0, e, c, n⟩, 0) else (Ob.z, 2) := by
      unfold objG desM
      rw [hF]
      simp only [pO, pD, pP, pE, pC, hk, hE, hc, h0, h2, hw, hI, he, ne_eq, not_true_eq_false, not_false_eq_true, if_false, if_true, show ((1 : Int) = 3) = False by simp, show ((1 : Int) = 0) = False by simp, show ((1 : Int) ≤ 1) = True by simp, decide_eq_false_iff_not]
      by_cases h3 : nx + n ≤ s.length <;> simp [h3]
    simp only [h2, if_true]
    rw [hO, hB]
    by_cases h3 : nx + n ≤ s.length
    · simp only [h3, decide_true, if_true, ne_eq, not_true_eq_false, if_false]
      by_cases h4 : n ≤ m
      · have hlt : ¬ ((m : Int) < n) := by omega
        simp only [h4, hlt, if_true, if_false, bodR, show ((2 : Int) = 1) = False by simp, Int.toNat_natCast]
        by_cases h6 : e = 6
        · have hnc : n = c := by
            rw [h6] at hw
            unfold wordsE bitsE at hw
            simp at hw
            omega
          subst hnc
          have hK := agr_kids H (valR_sinks [s] f 0) (visM_in s f) n nx (nx + n) (m - n) (by omega) (by omega)
          rw [show ((m - n : Nat) : Int) = (m : Int) - n by omega] at hK
          have h7 : ¬ e < 6 := by omega
          rw [if_pos h6, if_pos h6, if_neg h7, if_pos h6, hK]
          generalize kidsR (valR [s] f 0) n nx ((m : Int) - n) = z
          obtain ⟨z1, z2, z3⟩ := z
          dsimp only
          by_cases hz3 : z3 = 0
          · subst hz3
            simp
          · simp [hz3]
        · have h7 : e < 6 := by omega
          rw [if_neg h6, if_neg h6, if_pos h7]
          split
          · simp
          · simp
      · have hlt : ((m : Int) < n) := by omega
        simp [h4, hlt]
    · simp [h3]
  · have hB : objM s a (offW (wd s a)) n nx = false := by unfold objM; simp [h2]
    simp [h2, hB]
theorem agr_vis (s : List Int) : ∀ f, Agr s (valR [s] f 0) (visV s f) (visM s f)
  | 0 => fun a nx m ha hn => by
    unfold visM visV
    by_cases h0 : wd s a = 0
    · have hk : kindW (wd s a) ≠ 2 := by rw [h0]; decide
      rw [valR, folM_one ha hk]
      simp [h0]
    · simp [h0]
  | f + 1 => fun a nx m ha hn => by
    have H := agr_vis s f
    by_cases h0 : wd s a = 0
    · have hk : kindW (wd s a) ≠ 2 := by rw [h0]; decide
      rw [visM, visV, if_pos h0, if_pos h0, valR, folM_one ha hk]
      simp [h0]
    · rw [visM, visV, if_neg h0, if_neg h0]
      by_cases h1 : kindW (wd s a) = 0
      · rw [if_pos h1, if_pos h1]
        exact agr_str H a nx m ha hn h0 h1
      · rw [if_neg h1, if_neg h1]
        by_cases h2 : kindW (wd s a) = 1
        · rw [if_pos h2, if_pos h2]
          exact agr_list H a nx m ha hn h0 h2
        · rw [if_neg h2, if_neg h2]
          simp
end Go.Proofs.YtidglmocekghmaaDoor.Pr
end
section
namespace Go.Proofs.YtidglmocekghmaaDoor.Pr
open Go.RowKit Go.Proofs.YtidglmocekghmaaDoorW.PrintWords Go.Proofs.YtidglmocekghmaaDoorW.PrintLast Go.Proofs.YtidglmocekghmaaDoorW.PrintMore
set_option linter.unusedVariables false
set_option linter.unusedSimpArgs false
theorem cutG_mem {G : List (List Int)} (h : OkG G) (s a n : Int) : ∀ x ∈ cutG G s a n, 0 ≤ x ∧ x < 18446744073709551616 := by
  intro x hx
  have h1 := List.mem_of_mem_drop (List.mem_of_mem_take hx)
  unfold sgG at h1
  by_cases hs : s.toNat < G.length
  · rw [List.getD_eq_getElem?_getD, List.getElem?_eq_getElem hs] at h1
    exact h _ (List.getElem_mem hs) _ h1
  · rw [List.getD_eq_getElem?_getD, List.getElem?_eq_none (by omega)] at h1
    cases h1
theorem cutG_len {G : List (List Int)} {s a n : Int} (h : (sgG G s).length ≤ 17592186040320) : (cutG G s a n).length ≤ 17592186040320 := by
  unfold cutG
  rw [List.length_take, List.length_drop]
  omega
theorem TrV.openV {w : World} {q : Tr} {r : Ending} {w' : World} (h : TrV w q r w') : ∃ A3 c3 A4 c4, r = .returned (.tuple #[.agg #[.int .i64 q.1.f0, .int .i64 q.1.f1, .int .i64 q.1.f2, .slice A3 q.1.f3.length c3, .slice A4 q.1.f4.length c4], .agg #[.int .i64 q.2.1], .int .i64 q.2.2]) ∧ k37.M w' w.heap.size (fun _ => True) q.1 [.int .i64 q.1.f0, .int .i64 q.1.f1, .int .i64 q.1.f2, .slice A3 q.1.f3.length c3, .slice A4 q.1.f4.length c4] ∧ Below w.heap.size w w' := by
  obtain ⟨v3, v4, h1, h2, h3⟩ := h
  obtain ⟨A3, c3, A4, c4, e, _⟩ := k37_open (k37.K_of_M h2)
  simp only [List.cons.injEq, true_and, and_true] at e
  obtain ⟨rfl, rfl⟩ := e
  exact ⟨A3, c3, A4, c4, h1, h2, h3⟩
set_option maxRecDepth 100000 in
set_option maxHeartbeats 4000000 in
theorem str_walk (f : Nat) (hv : ValC f) : StrC f := by
  intro A cp G D Wd O m dp o w hE hin d0 d1 p0 p1 m0 m1 D1 dp0 hdp
  obtain ⟨kd, sg, ad, d, p, e, n0, c⟩ := o
  dsimp only at hin d0 d1 p0 p1
  have hb : 0 ≤ sg ∧ sg < G.length ∧ 0 ≤ ad ∧ 0 ≤ d + p ∧ ad + (d + p) ≤ (sgG G sg).length := by unfold inG at hin; rw [decide_eq_true_eq] at hin; exact hin
  obtain ⟨s0, s1, a0, -, hn⟩ := hb
  have hid : inG G sg ad d = true := decide_eq_true ⟨s0, s1, a0, d0, by omega⟩
  have hlen := hE.len
  have hsl : (sgG G sg).length ≤ 17592186040320 := by
    obtain ⟨i, rfl⟩ := Int.eq_ofNat_of_zero_le s0
    exact sg_len hE.sgs i (by omega)
  obtain ⟨n, rfl⟩ := Int.eq_ofNat_of_zero_le p0
  have HS := fun w' (hb : Below w.heap.size w w') => Lib.hid (slice_at A cp G sg ad d w' (Kd.C_below hE.rd hb) hid hE.len hE.sgs)
  have HBY := fun (A' : Option Addr) c' (w' : World) hr => Lib.hid (rbytes_any A' c' (cutG G sg ad d) w' hr (cutG_len hsl) (cutG_mem hE.ok sg ad d))
  have HV := fun (j : Nat) (hj : j < n) mi (q0 : 0 ≤ mi) (q1 : mi ≤ m) w' (hb : Below w.heap.size w w') => Lib.hid (hv A cp G D Wd O mi sg (ad + d + j) (dp + 1) w' (hE.below hb) (by omega) (by omega) (by omega) q0 (by omega) D1 (by omega) (.inl (by omega)))
  have HN := Lib.hid (valR_sinks G f sg)
  have HR := Lib.hid (strR.eq_1 G (valR G f) ⟨kd, sg, ad, d, (n : Int), e, n0, c⟩ m)
  dsimp only at HR
  rw [Int.toNat_natCast] at HR
  have HR0 := Lib.hid (Rnd.start (valR G f sg) n (ad + d) m m0)
  generalize strR G (valR G f) ⟨kd, sg, ad, d, (n : Int), e, n0, c⟩ m = r at *
  generalize cutG G sg ad d = ws at *
  generalize valR G f sg = v at *
  have a1 : ad ≤ 17592186040320 := by omega
  have S := Sep.start w
  clear hv hin hid hn hE
  go_enter Tryd.func53, Tryd.ntmps53
  go_wp2_with (first | go_skip | ((with_reducible refine wl ?_); first | (refine sn S (fun g w1 S => ?_); first | ((fail_if_success (have := gl)); revert g; intro gl S) | ((fail_if_success (have := gm)); revert g; intro gm S) | ((fail_if_success (have := go)); revert g; intro go S) | ((fail_if_success (have := gr)); revert g; intro gr S) | ((fail_if_success (have := gs)); revert g; intro gs S) | ((fail_if_success (have := gN)); revert g; intro gN S) | ((fail_if_success (have := gM)); revert g; intro gM S)) | refine ss S (fun w1 S => ?_) | refine sl S ?_ | refine sa S ?_)  | ((with_reducible refine (HS _ S.below).out.mono ?_); rintro e w' ⟨vs, rfl, hR, hb⟩; obtain ⟨A', c', rfl, hle, hC⟩ := Kd.R_reads hR; replace S := S.call hb) | ((with_reducible refine (HBY _ _ _ hC).out.mono ?_); rintro e w' ⟨v3, rfl, hR, hb⟩; obtain ⟨A3, c3, rfl⟩ := Kd.R_slice hR; replace S := S.push (a := .row (Kd.int .u8) 5 _ (bytesL ws)) hb hR))
  have S := Lib.hid (S.nil k37 37)
  have S := Lib.hid (S.out.pick 1 rfl rfl)
  have S := Lib.hid (S.out.pick 1 rfl rfl)
  go_loopw [17] (fun k wr => ∃ (j : Nat) (ks : List S37) (mi : Int) (Ak : Option Addr) (ck : Nat), Rnd v n (ad + d) m j ks mi ∧ k = .int .i64 j ∧ Hid (Sep w wr [.row k37 37 (.slice Ak ks.length ck) ks, .box gM #[.int .i64 mi] 52, .row (Kd.int .u8) 5 (.slice A3 (bytesL ws).length c3) (bytesL ws), .box gN #[.int .i64 1, .int .i64 0, .int .i64 0, .slice A3 (bytesL ws).length c3, .slice Ak ks.length ck] 37, .box gs #[.int .i64 0] 52, .box gr #[.int .i64 0, .int .i64 0, .int .i64 0, .slice none 0 0, .slice none 0 0] 37, .box go #[.int .i64 kd, .int .i64 sg, .int .i64 ad, .int .i64 d, .int .i64 n, .int .i64 e, .int .i64 n0, .int .i64 c] 75, .box gm #[.int .i64 m] 52, .box gl #[.int .i64 D, .int .i64 Wd, .int .i64 O] 24])) (fun k _ => n - (intOf k).toNat)
  case atStart => exact ⟨0, [], m, none, 0, HR0.out, rfl, S⟩
  case round =>
    clear S
    obtain ⟨j, ks, mi, Ak, ck, hr, rfl, S⟩ := hrel
    by_cases hj : j < n
    · have HVj := HV j hj mi hr.lo hr.hi
      have e1 := hr.fail hj
      have e2 := hr.next HN.out hj
      generalize v (ad + d + j) mi = q at *
      obtain ⟨⟨f0, f1, f2, f3, f4⟩, m', e'⟩ := q
      dsimp only at e1 e2
      by_cases he : e' ≠ 0
      · have HR := Lib.hid (HR.out.trans (by rw [e1 he, if_pos he]))
        have t1 : (e' != 0) = true := bne_iff_ne.2 he
        clear e1 e2 he HR0
        have S := S.out
        go_wp2_with (first | go_skip | ((with_reducible refine wl ?_); first | refine sn S (fun g w1 S => ?_) | refine ss S (fun w1 S => ?_) | refine sl S ?_ | refine sa S ?_)  | ((with_reducible refine (HVj _ S.below).out.mono ?_); rintro r' w' hT; obtain ⟨B3, d3, B4, d4, rfl, hM, hb⟩ := TrV.openV hT; replace S := S.push (a := .made k37 _ _) hb hM; dsimp only at S))
        refine rs [0] S (fun w1 S => ?_)
        refine pu 0 64 ?_
        refine lt 1 S ?_
        refine pu 2 66 ?_
        refine ls 3 S (fun w2 S => ?_)
        refine ls 4 S (fun w3 S => ?_)
        refine pu 5 12 ?_
        refine dn ?_
        go_wp2
        have S1 := ((S.nil k37 37).nil (Kd.int .u8) 5).node (f0 := 0) (f1 := 0) (f2 := 0)
        have HR := HR.out
        subst HR
        exact rt S ⟨_, _, rfl, S1.out .here, S.below⟩
      · obtain rfl : e' = 0 := by omega
        have hr2 := Lib.hid (e2 rfl)
        clear e1 e2 he
        have S := S.out
        have HLL : Hid ((ks.length + 1) * 72 ≤ 140737488355328) := Lib.hid (by have := hr.len; omega)
        go_wp2_with (first | go_skip | ((with_reducible refine wl ?_); first | refine sn S (fun g w1 S => ?_) | refine ss S (fun w1 S => ?_) | refine sl S ?_ | refine sa S ?_)  | ((with_reducible refine (HVj _ S.below).out.mono ?_); rintro r' w' hT; obtain ⟨B3, d3, B4, d4, rfl, hM, hb⟩ := TrV.openV hT; replace S := S.push (a := .made k37 _ _) hb hM; dsimp only at S) | (at_builtin; refine sp_append S.tail.tail.swap rfl rfl Tryd.underlying35 info37 rfl (by decide) (by omega) rfl rfl HLL.out (fun v1 w1 S => ?_); obtain ⟨Ak, ck, rfl⟩ := Kd.R_slice (S.outR .here)))
        go_roundw
        case rel => exact ⟨j + 1, _, m', Ak, ck, hr2.out, by go_num, Lib.hid (by simp only [List.length_append, List.length_singleton] at S ⊢; exact S)⟩
        case measure => simp [intOf]; omega
    · obtain rfl : j = n := by have := hr.le; omega
      have HR := Lib.hid (HR.out.trans (by rw [hr.stop rfl, if_neg (by simp)]))
      dsimp only at HR
      have S := S.out
      go_wp2_with (first | go_skip | ((with_reducible refine wl ?_); first | refine sn S (fun g w1 S => ?_) | refine ss S (fun w1 S => ?_) | refine sl S ?_ | refine sa S ?_) )
      refine rs [3, 1] S (fun w1 S => ?_)
      refine lt 0 S ?_
      refine lt 1 S ?_
      refine ls 2 S (fun w2 S => ?_)
      refine ls 3 S (fun w3 S => ?_)
      refine pu 4 12 ?_
      refine dn ?_
      go_wp2
      have S1 := (S.pick 2 rfl rfl).node (f0 := 1) (f1 := 0) (f2 := 0)
      have HR := HR.out
      subst HR
      exact rt S ⟨_, _, rfl, S1.out .here, S.below⟩
end Go.Proofs.YtidglmocekghmaaDoor.Pr
end
section
namespace Go.Proofs.YtidglmocekghmaaDoor.Pr
theorem inG_sub {G : List (List Int)} {s a n k b : Int} (h : inG G s a n = true) (hb : a ≤ b) (hk : 0 ≤ k) (hn : b + k ≤ a + n) : inG G s b k = true := by
  unfold inG at *
  rw [decide_eq_true_eq] at *
  omega
theorem inG_bd {G : List (List Int)} {s a n : Int} (h : inG G s a n = true) (hl : ∀ x ∈ G, x.length ≤ 17592186040320) : 0 ≤ s ∧ s < G.length ∧ 0 ≤ a ∧ 0 ≤ n ∧ a + n ≤ 17592186040320 := by
  unfold inG at h
  rw [decide_eq_true_eq] at h
  have := sg_len hl s.toNat (by omega)
  rw [show ((s.toNat : Nat) : Int) = s by omega] at this
  omega
structure ObK (G : List (List Int)) (o : Ob) : Prop where
  c0 : 0 ≤ o.c
  is : (o.kd = 1 ∧ inG G o.sg o.ad (o.d + o.p) = true ∧ 0 ≤ o.d ∧ o.d ≤ 65535 ∧ 0 ≤ o.p ∧ o.p ≤ 65535) ∨
    (o.kd = 2 ∧ 0 ≤ o.e ∧ o.e ≤ 6 ∧ 0 ≤ o.n ∧ o.n ≤ 536870911 ∧ o.c = wordsE o.e o.n ∧ inG G o.sg o.ad o.c = true) ∨
    (o.kd = 2 ∧ o.e = 7 ∧ 0 ≤ o.n ∧ o.n ≤ 536870911 ∧ 0 ≤ o.d ∧ o.d ≤ 65535 ∧ 0 ≤ o.p ∧ o.p ≤ 65535 ∧ ∃ C, inG G o.sg o.ad C = true ∧ o.n * (o.d + o.p) ≤ C)
theorem obj_ok (G : List (List Int)) (s a : Int) (h : (objG G s a).2 = 0) (he : (folM G s a).2.2.2 = 0) (hx : (folM G s a).1 ≠ 0) : ObK G (objG G s a).1 := by
  refine ⟨objG_c G s a, ?_⟩
  revert h
  unfold objG
  rw [if_neg (by simpa using he), if_neg hx]
  generalize folM G s a = q
  obtain ⟨x, sg, ba, er⟩ := q
  dsimp only
  have q1 := pD_bd x
  have q2 := pP_bd x
  have q3 := pE_bd x
  have q4 := pC_bd x
  unfold desM
  split
  · split
    · intro h; cases h
    · intro h; cases h
  split
  · split
    · rename_i hi
      intro _
      exact .inl ⟨rfl, hi, q1.1, q1.2, q2.1, q2.2⟩
    · intro h; cases h
  split
  · intro h; cases h
  rename_i hi
  have hi : inG G sg (ba + pO x) (wordsE (pE x) (pC x)) = true := by
    cases hh : inG G sg (ba + pO x) (wordsE (pE x) (pC x)) with
    | true => rfl
    | false => exact (hi hh).elim
  split
  · intro _
    exact .inr (.inl ⟨rfl, q3.1, by dsimp only; omega, q4.1, q4.2, rfl, hi⟩)
  rename_i he7
  have he7 : pE x = 7 := by omega
  have hw : wordsE (pE x) (pC x) = pC x + 1 := by rw [he7]; rfl
  have t1 := pO_bd (wdG G sg (ba + pO x))
  have t2 := pD_bd (wdG G sg (ba + pO x))
  have t3 := pP_bd (wdG G sg (ba + pO x))
  generalize wdG G sg (ba + pO x) = t at *
  rw [hw] at hi ⊢
  unfold tagM
  split
  · intro h; cases h
  split
  · intro h; cases h
  split
  · intro h; cases h
  rename_i h1 h2 h3
  have hC := inG_sub (b := ba + pO x + 1) (k := pC x) hi (by omega) q4.1 (by omega)
  split
  all_goals
    intro _
    exact .inr (.inr ⟨rfl, he7, by dsimp only; omega, t1.2, t2.1, t2.2, t3.1, t3.2, pC x, hC, by dsimp only; omega⟩)
end Go.Proofs.YtidglmocekghmaaDoor.Pr
end
section
namespace Go.Proofs.YtidglmocekghmaaDoor.Pr
open Go.RowKit Go.Proofs.YtidglmocekghmaaDoorW.PrintWords Go.Proofs.YtidglmocekghmaaDoorW.PrintLast Go.Proofs.YtidglmocekghmaaDoorW.PrintMore
set_option linter.unusedVariables false
section
variable {P : Program} {md : Region.Mode} {ops : Array Oper} {Q : Exit → Act → World → Prop} {w0 W w : World} {L L' L0 : List Asr} {ks : List Nat}
def CaAt (P : Program) (md : Region.Mode) (ops : Array Oper) (i n : Nat) (l l' : Array Bool) (a : Act) (f : FuncId) (fn : Func) (args : Array Value) : Prop :=
  ∃ (oi : Oper) (av : Array Operand) (ts : Array TypeId), ops[i]? = some oi ∧ oi.dst = some n ∧ l.setIfInBounds i true = l' ∧ readyB md ops l l' i = true ∧ oi.guard = none ∧ (fn.name == "runtime.NumGoroutine") = false ∧ fn.body.isSome = true ∧ oi.op = .call { callee := .value (.func f), args := av, argTypes := ts } ∧ av.map a.eval = args
theorem caAt {i n : Nat} {l l' : Array Bool} {a : Act} {f : FuncId} {args : Array Value} {oi : Oper} {fn : Func} {av : Array Operand} {ts : Array TypeId} (h1 : ops[i]? = some oi) (h2 : oi.dst = some n) (h3 : l.setIfInBounds i true = l') (h4 : readyB md ops l l' i = true) (h5 : oi.guard = none) (h7 : (fn.name == "runtime.NumGoroutine") = false) (h8 : fn.body.isSome = true) (h9 : oi.op = .call { callee := .value (.func f), args := av, argTypes := ts }) (h10 : av.map a.eval = args) : CaAt P md ops i n l l' a f fn args :=
  ⟨oi, av, ts, h1, h2, h3, h4, h5, h7, h8, h9, h10⟩
theorem lc (i n : Nat) {f : FuncId} {args : Array Value} {R : Ending → World → Prop} {fuel : Nat} {l l' : Array Bool} {a : Act} {fn : Func} (h6 : P.funcs[f]? = some fn) (hC : Calls P f args w R)
    (h : ∀ e w1, R e w1 → ∃ v, e = .returned v ∧ Kp L0 ks w1 ∧ ∃ a', a.put (some n) v = a' ∧ wpAnyLast P md ops Q (Kp L0 ks) [] fuel l' a' w1)
    (k : CaAt P md ops i n l l' a f fn args := by
      apply caAt
      case h1 => simp only [List.getElem?_toArray, List.getElem?_cons_zero, List.getElem?_cons_succ]; rfl
      case h2 => rfl
      case h3 => simp only [List.setIfInBounds_toArray, List.set_cons_zero, List.set_cons_succ]; rfl
      case h4 => kernel_rfl
      case h5 => rfl
      case h7 => kernel_rfl
      case h8 => kernel_rfl
      case h9 => rfl
      case h10 => simp only [List.map_toArray, List.map_cons, List.map_nil]; rfl) : wpAnyLast P md ops Q (Kp L0 ks) [] (fuel + 1) l a w := by
  obtain ⟨oi, av, ts, h1, h2, h3, h4, h5, h7, h8, h9, h10⟩ := k
  refine one_ l' h1 h2 h4 (by simp) (fun K hK => goes_ h6 h7 h8 args (want0 h5) h2 h9 h10 (hC.mono ?_))
  intro e w1 hR
  obtain ⟨v, he, hk, a', ha, hh⟩ := h e w1 hR
  subst ha
  exact ⟨v, he, hK.out _ _ hk (fun _ => hh)⟩
theorem Sep.kpq {ks : List Nat} (q : Nat) (S : Sep w0 w L') (h : ∀ k ∈ ks, L'[k + q]? = L[k]? := by repeat (first | exact List.forall_mem_nil _ | refine List.forall_mem_cons.2 ⟨rfl, ?_⟩)) : Kp L ks w := fun k hk g cs t e => S.blk (hasAt ((h k hk).trans e))
theorem lsd (i q : Nat) (S : Sep w0 w L) {L0 : List Asr} {l l' : Array Bool} {a : Act} {fuel : Nat} (h : ∀ w1, Sep w0 w1 L' → wpAnyLast P md ops Q (Kp L0 ks) [] fuel l' a w1)
    (k : LsAt P md ops L L' i l l' a := by
      apply lsAt
      case h1 => simp only [List.getElem?_toArray, List.getElem?_cons_zero, List.getElem?_cons_succ]; rfl
      case h2 => simp only [List.setIfInBounds_toArray, List.set_cons_zero, List.set_cons_succ]; rfl
      case h3 => kernel_rfl
      case h5 => rfl
      case h6 =>
        apply stAt
        case h1 => rfl
        case h2 => rfl
        case h3 => rfl
        case h4 => repeat (first | exact Upd.here | apply Upd.there)
        case h5 => go_simp; with_reducible rfl
        case h6 => first | exact (rfl : _ = [_]) | exact (rfl : _ = [_, _, _, _, _]) | exact (rfl : _ = [_, _, _]) | exact (rfl : _ = [_, _, _, _, _, _, _, _]) | exact (rfl : _ = [_, _, _, _, _, _, _, _, _, _])
        case h7 => kernel_rfl
        case h8 => rfl
        case h9 => rfl
        case h10 => simp only [putL, List.set_cons_zero, List.set_cons_succ]; rfl)
    (hk : ∀ k ∈ ks, L'[k + q]? = L0[k]? := by repeat (first | exact List.forall_mem_nil _ | refine List.forall_mem_cons.2 ⟨rfl, ?_⟩)) : wpAnyLast P md ops Q (Kp L0 ks) [] (fuel + 1) l a w := by
  obtain ⟨oi, h1, e2, h3, h5, t, p, x, g, i', ty, cs, cs', u, seg, e1, e2', e3, e4, e5, e6, e7, e8, e9, e10⟩ := k
  exact one_ l' h1 e2' h3 (by simp) (fun K hK => sp_store_step e1 e2' (want0 h5) S e3 e4 e5 e6 e7 e8 e9 e10 (fun w1 S1 => hK.out _ _ (S1.kpq q hk) (fun _ => h w1 S1)))
theorem R_C {α : Type} {d : Kd α} {e b c n : Nat} {F : Nat → Prop} {A : Option Addr} {xs : List α} (h : d.R e w b F (.slice A n c) xs) : d.C w A xs.length xs := by
  obtain ⟨A', c', e', _, hC⟩ := Kd.R_reads h
  injection e' with e1
  exact e1 ▸ hC
end
set_option linter.unusedVariables false
section
variable {P : Program} {md : Region.Mode} {ops : Array Oper} {Q : Exit → Act → World → Prop} {w0 W w : World} {L L' L0 : List Asr} {ks ds : List Nat}
theorem rsd (ks ds : List Nat) (S : Sep w0 W L) {id n : Nat} {l : Array Bool} {a : Act} (h : ∀ w1, Sep w0 w1 L → wpAnyLast P .any ops Q (Kp L ks) ds n l a w1)
    (h1 : P.follows .mixedOrders = true := by kernel_rfl) (h2 : ops.size = n := by simp only [List.size_toArray, List.length_cons, List.length_nil, Nat.reduceAdd]; rfl)
    (h3 : Array.replicate n false = l := by simp only [Array.replicate_succ, Array.replicate_zero, List.push_toArray, List.nil_append, List.cons_append]; rfl) : (Code.region id ops true).wp P Q a W :=
  start_ (S := Kp L ks) l h1 h2 h3 (S.drew.kp (fun _ _ => rfl)) (fun _ => h _ S.drew)
def LtD (P : Program) (md : Region.Mode) (ops : Array Oper) (Q : Exit → Act → World → Prop) (ds : List Nat) (L : List Asr) (ks : List Nat) (i : Nat) (l l' : Array Bool) (a a' : Act) : Prop :=
  ∃ oi v, ops[i]? = some oi ∧ l.setIfInBounds i true = l' ∧ takeB md ops ds l l' i = true ∧ oi.guard = none ∧ (∀ w, Kp L ks w → (execOp a.eval oi).run P w = .ok (.value v) w) ∧ a.put oi.dst v = a' ∧ (∀ c v a w, Q (.panic c) (a.put oi.dst v) w → Q (.panic c) a w)
theorem ltD1 {oi : Oper} {i : Nat} {l l' : Array Bool} {a a' : Act} {t : TypeId} {p : Operand} {g j ty k : Nat} {cs : Array Value} {v q : Value} (h1 : ops[i]? = some oi) (h2 : l.setIfInBounds i true = l') (h3 : takeB md ops ds l l' i = true) (hw : oi.guard = none) (h4 : oi.op = .load t p) (h5 : a.eval p = q) (hq : q = .pointer (some ⟨g, j, none⟩)) (h6 : At (.box g cs ty) L k) (h7 : k ∈ ks) (_h : Nat.beq t ty = false) (h8 : cs[j]? = some v) (h9 : scalB P t = true) (ha : a.put oi.dst v = a') (hp : ∀ c v a w, Q (.panic c) (a.put oi.dst v) w → Q (.panic c) a w) : LtD P md ops Q ds L ks i l l' a a' := ⟨oi, v, h1, h2, h3, hw, run_kp h4 (h5.trans hq) h6 h7 h8 h9, ha, hp⟩
theorem ltDN {oi : Oper} {i : Nat} {l l' : Array Bool} {a a' : Act} {t : TypeId} {p : Operand} {g k : Nat} {cs : Array Value} {q : Value} (h1 : ops[i]? = some oi) (h2 : l.setIfInBounds i true = l') (h3 : takeB md ops ds l l' i = true) (hw : oi.guard = none) (h4 : oi.op = .load t p) (h5 : a.eval p = q) (hq : q = .pointer (some ⟨g, 0, none⟩)) (h6 : At (.box g cs t) L k) (h7 : k ∈ ks) (h8 : aggB P t = true) (h9 : (P.info? t).map (·.size) = some cs.size) (ha : a.put oi.dst (.agg cs) = a') (hp : ∀ c v a w, Q (.panic c) (a.put oi.dst v) w → Q (.panic c) a w) : LtD P md ops Q ds L ks i l l' a a' := ⟨oi, _, h1, h2, h3, hw, run_kpA h4 (h5.trans hq) h6 h7 h8 h9, ha, hp⟩
theorem LtD.run {i : Nat} {l l' : Array Bool} {a a' : Act} {fuel : Nat} (k : LtD P md ops Q ds L ks i l l' a a') (S : Kp L ks w) (h : wpAnyLast P md ops Q (Kp L ks) ds fuel l' a' w) : wpAnyLast P md ops Q (Kp L ks) ds (fuel + 1) l a w := by
  obtain ⟨oi, v, h1, h2, h3, hw, hr, ha, h5⟩ := k
  exact take_ l' h1 rfl h3 (fun c a w => h5 c v a w) (.inl ⟨want0 hw, fun w' s => hr _ s⟩) S ha h
theorem ltd (i : Nat) (S : Sep w0 w L') {l l' : Array Bool} {a a' : Act} {fuel : Nat} (h : wpAnyLast P md ops Q (Kp L ks) ds fuel l' a' w)
    (hk : ∀ k ∈ ks, L'[k]? = L[k]? := by repeat (first | exact List.forall_mem_nil _ | refine List.forall_mem_cons.2 ⟨rfl, ?_⟩))
    (k : LtD P md ops Q ds L ks i l l' a a' := by
      first
        | (apply ltD1
           case h1 => simp only [List.getElem?_toArray, List.getElem?_cons_zero, List.getElem?_cons_succ]; rfl
           case h2 => simp only [List.setIfInBounds_toArray, List.set_cons_zero, List.set_cons_succ]; rfl
           case h3 => kernel_rfl
           case hw => rfl
           case h4 => with_reducible rfl
           case h5 => go_simp; with_reducible rfl
           case hq => with_reducible rfl
           case h6 => repeat (first | exact At.here | apply At.there)
           case h7 => decide
           case _h => rfl
           case h8 => rfl
           case h9 => kernel_rfl
           case ha => simp only [Act.put, List.setIfInBounds_toArray, List.set_cons_zero, List.set_cons_succ]; rfl
           case hp => exact fun _ _ _ _ h => h)
        | (apply ltDN
           case h1 => simp only [List.getElem?_toArray, List.getElem?_cons_zero, List.getElem?_cons_succ]; rfl
           case h2 => simp only [List.setIfInBounds_toArray, List.set_cons_zero, List.set_cons_succ]; rfl
           case h3 => kernel_rfl
           case hw => rfl
           case h4 => with_reducible rfl
           case h5 => go_simp; with_reducible rfl
           case hq => with_reducible rfl
           case h6 => repeat (first | exact At.here | apply At.there)
           case h7 => decide
           case h8 => kernel_rfl
           case h9 => kernel_rfl
           case ha => simp only [Act.put, List.setIfInBounds_toArray, List.set_cons_zero, List.set_cons_succ]; rfl
           case hp => exact fun _ _ _ _ h => h)) : wpAnyLast P md ops Q (Kp L ks) ds (fuel + 1) l a w := k.run (S.kp hk) h
theorem lcd (i n : Nat) {f : FuncId} {args : Array Value} {R : Ending → World → Prop} {fuel : Nat} {l l' : Array Bool} {a : Act} {fn : Func} (h6 : P.funcs[f]? = some fn) (hC : Calls P f args w R)
    (h : ∀ e w1, R e w1 → ∃ v, e = .returned v ∧ Kp L0 ks w1 ∧ ∃ a', a.put (some n) v = a' ∧ wpAnyLast P md ops Q (Kp L0 ks) ds fuel l' a' w1)
    (hd : i ∉ ds := by decide)
    (k : CaAt P md ops i n l l' a f fn args := by
      apply caAt
      case h1 => simp only [List.getElem?_toArray, List.getElem?_cons_zero, List.getElem?_cons_succ]; rfl
      case h2 => rfl
      case h3 => simp only [List.setIfInBounds_toArray, List.set_cons_zero, List.set_cons_succ]; rfl
      case h4 => kernel_rfl
      case h5 => rfl
      case h7 => kernel_rfl
      case h8 => kernel_rfl
      case h9 => rfl
      case h10 => simp only [List.map_toArray, List.map_cons, List.map_nil]; rfl) : wpAnyLast P md ops Q (Kp L0 ks) ds (fuel + 1) l a w := by
  obtain ⟨oi, av, ts, h1, h2, h3, h4, h5, h7, h8, h9, h10⟩ := k
  refine one_ l' h1 h2 h4 hd (fun K hK => goes_ h6 h7 h8 args (want0 h5) h2 h9 h10 (hC.mono ?_))
  intro e w1 hR
  obtain ⟨v, he, hk, a', ha, hh⟩ := h e w1 hR
  subst ha
  exact ⟨v, he, hK.out _ _ hk (fun _ => hh)⟩
theorem lse (i q : Nat) (S : Sep w0 w L) {L0 : List Asr} {l l' : Array Bool} {a : Act} {fuel : Nat} (h : ∀ w1, Sep w0 w1 L' → wpAnyLast P md ops Q (Kp L0 ks) ds fuel l' a w1)
    (k : LsAt P md ops L L' i l l' a := by
      apply lsAt
      case h1 => simp only [List.getElem?_toArray, List.getElem?_cons_zero, List.getElem?_cons_succ]; rfl
      case h2 => simp only [List.setIfInBounds_toArray, List.set_cons_zero, List.set_cons_succ]; rfl
      case h3 => kernel_rfl
      case h5 => rfl
      case h6 =>
        apply stAt
        case h1 => rfl
        case h2 => rfl
        case h3 => rfl
        case h4 => repeat (first | exact Upd.here | apply Upd.there)
        case h5 => go_simp; with_reducible rfl
        case h6 => first | exact (rfl : _ = [_]) | exact (rfl : _ = [_, _, _, _, _]) | exact (rfl : _ = [_, _, _]) | exact (rfl : _ = [_, _, _, _, _, _, _, _]) | exact (rfl : _ = [_, _, _, _, _, _, _, _, _, _])
        case h7 => kernel_rfl
        case h8 => rfl
        case h9 => rfl
        case h10 => simp only [putL, List.set_cons_zero, List.set_cons_succ]; rfl)
    (hd : i ∉ ds := by decide)
    (hk : ∀ k ∈ ks, L'[k + q]? = L0[k]? := by repeat (first | exact List.forall_mem_nil _ | refine List.forall_mem_cons.2 ⟨rfl, ?_⟩)) : wpAnyLast P md ops Q (Kp L0 ks) ds (fuel + 1) l a w := by
  obtain ⟨oi, h1, e2, h3, h5, t, p, x, g, i', ty, cs, cs', u, seg, e1, e2', e3, e4, e5, e6, e7, e8, e9, e10⟩ := k
  exact one_ l' h1 e2' h3 hd (fun K hK => sp_store_step e1 e2' (want0 h5) S e3 e4 e5 e6 e7 e8 e9 e10 (fun w1 S1 => hK.out _ _ (S1.kpq q hk) (fun _ => h w1 S1)))
theorem lsl (i : Nat) (S : Sep w0 w L) {L0 : List Asr} {l l' : Array Bool} {a : Act} {fuel : Nat} (h : ∀ w1, Sep w0 w1 L' → wpAnyLast P md ops Q (Kp L0 ks) ds fuel l' a w1)
    (k : LsAt P md ops L L' i l l' a := by
      apply lsAt
      case h1 => simp only [List.getElem?_toArray, List.getElem?_cons_zero, List.getElem?_cons_succ]; rfl
      case h2 => simp only [List.setIfInBounds_toArray, List.set_cons_zero, List.set_cons_succ]; rfl
      case h3 => kernel_rfl
      case h5 => rfl
      case h6 =>
        apply stAt
        case h1 => rfl
        case h2 => rfl
        case h3 => rfl
        case h4 => repeat (first | exact Upd.here | apply Upd.there)
        case h5 => go_simp; with_reducible rfl
        case h6 => first | exact (rfl : _ = [_]) | exact (rfl : _ = [_, _, _, _, _]) | exact (rfl : _ = [_, _, _]) | exact (rfl : _ = [_, _, _, _, _, _, _, _]) | exact (rfl : _ = [_, _, _, _, _, _, _, _, _, _])
        case h7 => kernel_rfl
        case h8 => rfl
        case h9 => rfl
        case h10 => simp only [putL, List.set_cons_zero, List.set_cons_succ]; rfl)
    (hd : i ∈ ds := by decide) : wpAnyLast P md ops Q (Kp L0 ks) ds (fuel + 1) l a w := by
  obtain ⟨oi, h1, e2, h3, h5, t, p, x, g, i', ty, cs, cs', u, seg, e1, e2', e3, e4, e5, e6, e7, e8, e9, e10⟩ := k
  exact last_ l' h1 e2' h3 hd (fun K hK => sp_store_step e1 e2' (want0 h5) S e3 e4 e5 e6 e7 e8 e9 e10 (fun w1 S1 => hK.out _ _ (h w1 S1)))
end
section
variable {P : Program} {ops : Array Oper} {rest : List Oper} {o : Oper} {a a' : Act} {Q : Exit → Act → World → Prop} {w0 W : World} {L : List Asr}
def XdAt (P : Program) (ops : Array Oper) (o : Oper) (a a' : Act) (ad : Addr) (v : Value) : Prop := Region.wanted o (yielded ops a.tmps) = true ∧ ∃ t p, o.op = .load t p ∧ a.eval p = .pointer (some ad) ∧ scalB P t = true ∧ a.put o.dst v = a'
theorem xdAt {ad : Addr} {v : Value} {t : TypeId} {p : Operand} (hw : Region.wanted o (yielded ops a.tmps) = true) (h1 : o.op = .load t p) (h2 : a.eval p = .pointer (some ad)) (h3 : scalB P t = true) (h4 : a.put o.dst v = a') : XdAt P ops o a a' ad v := ⟨hw, t, p, h1, h2, h3, h4⟩
theorem sx (S : Sep w0 W L) {ad : Addr} {v : Value} (hv : w0.cell? ad = some v) (h : wpList P ops Q rest a' W)
    (k : XdAt P ops o a a' ad v := by
      apply xdAt
      case h1 => with_reducible rfl
      case h2 => go_simp
      case hw => first | exact want0 rfl | rfl
      case h3 => kernel_rfl
      case h4 => simp only [Act.put, List.setIfInBounds_toArray, List.set_cons_zero, List.set_cons_succ]; rfl) : wpList P ops Q (o :: rest) a W := by
  obtain ⟨hw, t, p, h1, h2, h3, rfl⟩ := k
  refine wpList_step fun K hK => ?_
  rw [if_pos hw]
  unfold Oper.wp
  have hr := run_load_one (P := P) h3 (pw_cell_below S.below hv)
  have he : (execOp a.eval o).run P W = .ok (.value v) W := by
    unfold execOp
    simp only [h1, h2, Sem.run_bind, Sem.run_pure, Result.andThen_ok, hr]
  rw [he]
  exact hK _ _ h
end
section
variable {P : Program} {md : Region.Mode} {ops : Array Oper} {Q : Exit → Act → World → Prop} {w0 W w : World} {L L' L0 : List Asr} {ks ds : List Nat}
def Rdy (P : Program) (md : Region.Mode) (ops : Array Oper) (Q : Exit → Act → World → Prop) (S : World → Prop) (ds : List Nat) (fuel : Nat) (l : Array Bool) (a : Act) (w : World) (i : Nat) : Prop :=
  ∃ o, ops[i]? = some o ∧ i ∉ ds ∧ ∀ K : Act → World → Prop, Shut (∀ a' w', S w' → (S w' → wpAnyLast P md ops Q S ds fuel (l.setIfInBounds i true) a' w') → K a' w') → if Region.wanted o (yielded ops a.tmps) = true then Oper.wp P o a w K Q else K (a.put o.dst undef) w
theorem rdAll {S : World → Prop} {fuel : Nat} {l : Array Bool} {a : Act} {w : World} : ∀ {rs : List Nat}, (∀ i ∈ rs, Rdy P md ops Q S ds fuel l a w i) → AllReadyL P md ops Q S ds fuel l a w rs
  | [], _ => AllReadyL.nil
  | i :: rs, h => by
    obtain ⟨o, h1, h2, h3⟩ := h i List.mem_cons_self
    exact AllReadyL.cons h1 h2 (fun K hK => h3 K hK) (rdAll (fun j hj => h j (List.mem_cons_of_mem _ hj)))
theorem rd {S : World → Prop} {fuel : Nat} {l : Array Bool} {a : Act} (rs : List Nat) (hne : rs ≠ []) (h : ∀ i ∈ rs, Rdy P md ops Q S ds fuel l a w i) (hr : (Region.ready md ops l == rs) = true := by kernel_rfl) : wpAnyLast P md ops Q S ds (fuel + 1) l a w :=
  wpAnyLast_ready (by simpa using hr) hne (rdAll h)
def RcAt (P : Program) (ops : Array Oper) (i n : Nat) (l l' : Array Bool) (a : Act) (f : FuncId) (fn : Func) (args : Array Value) : Prop :=
  ∃ (oi : Oper) (av : Array Operand) (ts : Array TypeId), ops[i]? = some oi ∧ oi.dst = some n ∧ l.setIfInBounds i true = l' ∧ oi.guard = none ∧ (fn.name == "runtime.NumGoroutine") = false ∧ fn.body.isSome = true ∧ oi.op = .call { callee := .value (.func f), args := av, argTypes := ts } ∧ av.map a.eval = args
theorem rcAt {i n : Nat} {l l' : Array Bool} {a : Act} {f : FuncId} {fn : Func} {args : Array Value} {oi : Oper} {av : Array Operand} {ts : Array TypeId} (h1 : ops[i]? = some oi) (h2 : oi.dst = some n) (h3 : l.setIfInBounds i true = l') (h5 : oi.guard = none) (h7 : (fn.name == "runtime.NumGoroutine") = false) (h8 : fn.body.isSome = true) (h9 : oi.op = .call { callee := .value (.func f), args := av, argTypes := ts }) (h10 : av.map a.eval = args) : RcAt P ops i n l l' a f fn args :=
  ⟨oi, av, ts, h1, h2, h3, h5, h7, h8, h9, h10⟩
theorem rc (n : Nat) {i : Nat} {f : FuncId} {args : Array Value} {R : Ending → World → Prop} {fuel : Nat} {l l' : Array Bool} {a : Act} {fn : Func} (h6 : P.funcs[f]? = some fn) (hC : Calls P f args w R)
    (h : ∀ e w1, R e w1 → ∃ v, e = .returned v ∧ Kp L0 ks w1 ∧ ∃ a', a.put (some n) v = a' ∧ wpAnyLast P md ops Q (Kp L0 ks) ds fuel l' a' w1)
    (hd : i ∉ ds := by decide)
    (k : RcAt P ops i n l l' a f fn args := by
      apply rcAt
      case h1 => simp only [List.getElem?_toArray, List.getElem?_cons_zero, List.getElem?_cons_succ]; rfl
      case h2 => rfl
      case h3 => simp only [List.setIfInBounds_toArray, List.set_cons_zero, List.set_cons_succ]; rfl
      case h5 => rfl
      case h7 => kernel_rfl
      case h8 => kernel_rfl
      case h9 => rfl
      case h10 => simp only [List.map_toArray, List.map_cons, List.map_nil]; rfl) : Rdy P md ops Q (Kp L0 ks) ds fuel l a w i := by
  obtain ⟨oi, av, ts, h1, h2, h3, h5, h7, h8, h9, h10⟩ := k
  refine ⟨oi, h1, hd, fun K hK => ?_⟩
  rw [h2]
  refine goes_ h6 h7 h8 args (want0 h5) h2 h9 h10 (hC.mono ?_)
  intro e w1 hR
  obtain ⟨v, he, hk, a', ha, hh⟩ := h e w1 hR
  subst ha h3
  exact ⟨v, he, hK.out _ _ hk (fun _ => hh)⟩
def RnAt (P : Program) (W : World) (ops : Array Oper) (i n : Nat) (l l' : Array Bool) (a : Act) (cs : Array Value) (t : TypeId) (f : Nat → Act) : Prop :=
  ∃ oi : Oper, ops[i]? = some oi ∧ oi.dst = some n ∧ l.setIfInBounds i true = l' ∧ oi.guard = none ∧ (execOp a.eval oi).run P W = .ok (.value (.pointer (some ⟨W.heap.size, 0, none⟩))) (W.alloc (.cells cs t (0, 0))) ∧ ∀ g, a.put (some n) (.pointer (some ⟨g, 0, none⟩)) = f g
theorem rnAt {W : World} {i n : Nat} {l l' : Array Bool} {a : Act} {cs : Array Value} {t : TypeId} {f : Nat → Act} {oi : Oper} (h1 : ops[i]? = some oi) (h2 : oi.dst = some n) (h3 : l.setIfInBounds i true = l') (h5 : oi.guard = none) (h6 : (execOp a.eval oi).run P W = .ok (.value (.pointer (some ⟨W.heap.size, 0, none⟩))) (W.alloc (.cells cs t (0, 0)))) (h7 : ∀ g, a.put (some n) (.pointer (some ⟨g, 0, none⟩)) = f g) : RnAt P W ops i n l l' a cs t f := ⟨oi, h1, h2, h3, h5, h6, h7⟩
theorem rn (n : Nat) {i : Nat} (S : Sep w0 W L) {fuel : Nat} {l l' : Array Bool} {a : Act} {cs : Array Value} {t : TypeId} {f : Nat → Act} (h : ∀ g w1, Sep w0 w1 (.box g cs t :: L) → Kp L0 ks w1 ∧ wpAnyLast P md ops Q (Kp L0 ks) ds fuel l' (f g) w1)
    (hd : i ∉ ds := by decide)
    (k : RnAt P W ops i n l l' a cs t f := by
      apply rnAt
      case h1 => simp only [List.getElem?_toArray, List.getElem?_cons_zero, List.getElem?_cons_succ]; rfl
      case h2 => rfl
      case h3 => simp only [List.setIfInBounds_toArray, List.set_cons_zero, List.set_cons_succ]; rfl
      case h5 => rfl
      case h6 => first | (go_simp; done) | (go_simp; rfl)
      case h7 => intro g; simp only [Act.put, List.setIfInBounds_toArray, List.set_cons_zero, List.set_cons_succ]; rfl) : Rdy P md ops Q (Kp L0 ks) ds fuel l a W i := by
  obtain ⟨oi, h1, h2, h3, h5, h6, h7⟩ := k
  refine ⟨oi, h1, hd, fun K hK => ?_⟩
  rw [h2]
  subst h3
  have hh := h _ _ (S.new cs t)
  refine value_ (want0 h5) h2 h6 ?_
  rw [h7]
  exact hK.out _ _ hh.1 (fun _ => hh.2)
end
end Go.Proofs.YtidglmocekghmaaDoor.Pr
end
section
namespace Go.Proofs.YtidglmocekghmaaDoor.Pr
open Go.RowKit Go.Proofs.YtidglmocekghmaaDoorW.PrintWords Go.Proofs.YtidglmocekghmaaDoorW.PrintLast Go.Proofs.YtidglmocekghmaaDoorW.PrintMore
set_option linter.unusedVariables false
set_option linter.unusedSimpArgs false
theorem bytesL_bd : ∀ (l : List Int), ∀ x ∈ bytesL l, 0 ≤ x ∧ x < 256
  | [], x, h => by cases h
  | w :: l, x, h => by
    rcases List.mem_append.1 h with h | h
    · simp only [bytesW, List.mem_cons, List.not_mem_nil, or_false] at h
      omega
    · exact bytesL_bd l x h
abbrev ObG (G : List (List Int)) (A : Option Addr) (cp : Nat) (sg a : Int) (w : World) (o : Ob) (e : Int) : Prop :=
  ∀ w', Below w.heap.size w w' → Hid (Calls Tryd.prog 40 #[.slice A G.length cp, .int .i64 sg, .int .i64 a] w' fun r w1 => r = .returned (.tuple #[obV o, .int .i64 e]) ∧ Below w'.heap.size w' w1)
abbrev FoG (G : List (List Int)) (A : Option Addr) (cp : Nat) (sg a : Int) (w : World) (x s' b' e : Int) : Prop :=
  ∀ w', Below w.heap.size w w' → Hid (Calls Tryd.prog 51 #[.slice A G.length cp, .int .i64 sg, .int .i64 a] w' fun r w1 => r = .returned (.tuple #[.int .u64 x, .int .i64 s', .int .i64 b', .int .i64 e]) ∧ Below w'.heap.size w' w1)
set_option maxRecDepth 100000 in
set_option maxHeartbeats 4000000 in
theorem val_1 (A : Option Addr) (cp : Nat) (G : List (List Int)) (D Wd O m sg a dp x s' b' : Int) (w : World) (r : Tr) (e : Int) (HF : FoG G A cp sg a w x s' b' e) (he : e ≠ 0) (HR : Hid (r = (ndZ, m, e))) :
    Calls Tryd.prog 27 #[.slice A G.length cp, limV D Wd O, .agg #[.int .i64 m], .int .i64 sg, .int .i64 a, .int .i64 dp] w (TrV w r) := by
  have S := Sep.start w
  have t1 : (e != 0) = true := bne_iff_ne.2 he
  clear he
  go_enter Tryd.func27, Tryd.ntmps27
  go_wp2_with (first | go_skip | ((with_reducible refine wl ?_); first | refine sn S (fun g w1 S => ?_) | refine ss S (fun w1 S => ?_) | refine sl S ?_ | refine sa S ?_) | ((with_reducible refine (HF _ S.below).out.mono ?_); rintro r w' ⟨rfl, hb⟩; replace S := S.call hb))
  refine rs [0, 3] S (fun w1 S => ?_)
  refine pu 2 46 ?_
  refine lt 0 S ?_
  refine lt 1 S ?_
  refine ls 3 S (fun w2 S => ?_)
  refine ls 4 S (fun w2 S => ?_)
  refine pu 5 14 ?_
  refine dn ?_
  go_wp2
  have S1 := ((S.nil k37 37).nil (Kd.int .u8) 5).node (f0 := 0) (f1 := 0) (f2 := 0)
  have HR := HR.out
  subst HR
  exact rt S ⟨_, _, rfl, S1.out .here, S.below⟩
set_option maxRecDepth 100000 in
set_option maxHeartbeats 4000000 in
theorem val_2 (A : Option Addr) (cp : Nat) (G : List (List Int)) (D Wd O m sg a dp x s' b' : Int) (w : World) (r : Tr) (HF : FoG G A cp sg a w 0 s' b' 0) (HR : Hid (r = (ndZ, m, 0))) :
    Calls Tryd.prog 27 #[.slice A G.length cp, limV D Wd O, .agg #[.int .i64 m], .int .i64 sg, .int .i64 a, .int .i64 dp] w (TrV w r) := by
  have S := Sep.start w
  go_enter Tryd.func27, Tryd.ntmps27
  go_wp2_with (first | go_skip | ((with_reducible refine wl ?_); first | refine sn S (fun g w1 S => ?_) | refine ss S (fun w1 S => ?_) | refine sl S ?_ | refine sa S ?_) | ((with_reducible refine (HF _ S.below).out.mono ?_); rintro r w' ⟨rfl, hb⟩; replace S := S.call hb))
  refine rs [0, 3] S (fun w1 S => ?_)
  refine pu 2 46 ?_
  refine lt 0 S ?_
  refine lt 1 S ?_
  refine ls 3 S (fun w2 S => ?_)
  refine ls 4 S (fun w2 S => ?_)
  refine pu 5 14 ?_
  refine dn ?_
  go_wp2
  have S1 := ((S.nil k37 37).nil (Kd.int .u8) 5).node (f0 := 0) (f1 := 0) (f2 := 0)
  have HR := HR.out
  subst HR
  exact rt S ⟨_, _, rfl, S1.out .here, S.below⟩
set_option maxRecDepth 100000 in
set_option maxHeartbeats 4000000 in
theorem val_3 (A : Option Addr) (cp : Nat) (G : List (List Int)) (D Wd O m sg a dp x s' b' : Int) (w : World) (r : Tr) (HF : FoG G A cp sg a w x s' b' 0) (hx : x ≠ 0) (hd : D < dp) (HR : Hid (r = (ndZ, m, 7))) :
    Calls Tryd.prog 27 #[.slice A G.length cp, limV D Wd O, .agg #[.int .i64 m], .int .i64 sg, .int .i64 a, .int .i64 dp] w (TrV w r) := by
  have S := Sep.start w
  have tx : (x == 0) = false := beq_eq_false_iff_ne.2 hx
  clear hx
  have td : decide (D < dp) = true := decide_eq_true hd
  clear hd
  go_enter Tryd.func27, Tryd.ntmps27
  go_wp2_with (first | go_skip | ((with_reducible refine wl ?_); first | refine sn S (fun g w1 S => ?_) | refine ss S (fun w1 S => ?_) | refine sl S ?_ | refine sa S ?_) | ((with_reducible refine (HF _ S.below).out.mono ?_); rintro r w' ⟨rfl, hb⟩; replace S := S.call hb))
  refine rs [0, 3] S (fun w1 S => ?_)
  refine lt 0 S ?_
  refine lt 1 S ?_
  refine ls 2 S (fun w2 S => ?_)
  refine ls 3 S (fun w2 S => ?_)
  refine pu 4 14 ?_
  refine dn ?_
  go_wp2
  have S1 := ((S.nil k37 37).nil (Kd.int .u8) 5).node (f0 := 0) (f1 := 0) (f2 := 0)
  have HR := HR.out
  subst HR
  exact rt S ⟨_, _, rfl, S1.out .here, S.below⟩
set_option maxRecDepth 100000 in
set_option maxHeartbeats 4000000 in
theorem val_4 (A : Option Addr) (cp : Nat) (G : List (List Int)) (D Wd O m sg a dp x s' b' : Int) (w : World) (r : Tr) (o : Ob) (e : Int) (HF : FoG G A cp sg a w x s' b' 0) (hx : x ≠ 0) (hd : dp ≤ D) (HO : ObG G A cp sg a w o e) (he : e ≠ 0) (HR : Hid (r = (ndZ, m, e))) :
    Calls Tryd.prog 27 #[.slice A G.length cp, limV D Wd O, .agg #[.int .i64 m], .int .i64 sg, .int .i64 a, .int .i64 dp] w (TrV w r) := by
  have S := Sep.start w
  have tx : (x == 0) = false := beq_eq_false_iff_ne.2 hx
  clear hx
  have td : decide (D < dp) = false := decide_eq_false (by omega)
  clear hd
  have t1 : (e != 0) = true := bne_iff_ne.2 he
  clear he
  go_enter Tryd.func27, Tryd.ntmps27
  go_wp2_with (first | go_skip | ((with_reducible refine wl ?_); first | refine sn S (fun g w1 S => ?_) | refine ss S (fun w1 S => ?_) | refine sl S ?_ | refine sa S ?_) | ((with_reducible refine (HF _ S.below).out.mono ?_); rintro r w' ⟨rfl, hb⟩; replace S := S.call hb) | ((with_reducible refine (HO _ S.below).out.mono ?_); rintro r w' ⟨rfl, hb⟩; replace S := S.call hb))
  refine rs [1, 4] S (fun w1 S => ?_)
  refine pu 2 64 ?_
  refine lt 0 S ?_
  refine lt 1 S ?_
  refine ls 3 S (fun w2 S => ?_)
  refine ls 4 S (fun w2 S => ?_)
  refine pu 5 14 ?_
  refine dn ?_
  go_wp2
  have S1 := ((S.nil k37 37).nil (Kd.int .u8) 5).node (f0 := 0) (f1 := 0) (f2 := 0)
  have HR := HR.out
  subst HR
  exact rt S ⟨_, _, rfl, S1.out .here, S.below⟩
set_option maxRecDepth 100000 in
set_option maxHeartbeats 4000000 in
theorem val_5 (A : Option Addr) (cp : Nat) (G : List (List Int)) (D Wd O m sg a dp x s' b' : Int) (w : World) (r : Tr) (o : Ob) (HF : FoG G A cp sg a w x s' b' 0) (hx : x ≠ 0) (hd : dp ≤ D) (HO : ObG G A cp sg a w o 0) (hc : m < o.c) (HR : Hid (r = (ndZ, m, 8))) :
    Calls Tryd.prog 27 #[.slice A G.length cp, limV D Wd O, .agg #[.int .i64 m], .int .i64 sg, .int .i64 a, .int .i64 dp] w (TrV w r) := by
  have S := Sep.start w
  have tx : (x == 0) = false := beq_eq_false_iff_ne.2 hx
  clear hx
  have td : decide (D < dp) = false := decide_eq_false (by omega)
  clear hd
  obtain ⟨kd, osg, ad, d, p, e, n, c⟩ := o
  dsimp only at hc
  have HC := fun w => Lib.hid (rcharge_no m c w hc)
  clear hc
  go_enter Tryd.func27, Tryd.ntmps27
  go_wp2_with (first | go_skip | ((with_reducible refine wl ?_); first | refine sn S (fun g w1 S => ?_) | refine ss S (fun w1 S => ?_) | refine sl S ?_ | refine sa S ?_) | ((with_reducible refine (HF _ S.below).out.mono ?_); rintro r w' ⟨rfl, hb⟩; replace S := S.call hb) | ((with_reducible refine (HO _ S.below).out.mono ?_); rintro r w' ⟨rfl, hb⟩; replace S := S.call hb) | ((with_reducible refine (HC _).out.mono ?_); rintro r w' ⟨rfl, hb⟩; replace S := S.call hb))
  refine rs [2, 5] S (fun w1 S => ?_)
  refine pu 2 76 ?_
  refine lt 0 S ?_
  refine lt 1 S ?_
  refine ls 3 S (fun w2 S => ?_)
  refine ls 4 S (fun w2 S => ?_)
  refine pu 5 14 ?_
  refine dn ?_
  go_wp2
  have S1 := ((S.nil k37 37).nil (Kd.int .u8) 5).node (f0 := 0) (f1 := 0) (f2 := 0)
  have HR := HR.out
  subst HR
  exact rt S ⟨_, _, rfl, S1.out .here, S.below⟩
set_option maxRecDepth 100000 in
set_option maxHeartbeats 4000000 in
theorem val_6 (A : Option Addr) (cp : Nat) (G : List (List Int)) (D Wd O m sg a dp x s' b' : Int) (w : World) (r : Tr) (o : Ob) (HF : FoG G A cp sg a w x s' b' 0) (hx : x ≠ 0) (hd : dp ≤ D) (HO : ObG G A cp sg a w o 0) (hc0 : 0 ≤ o.c) (hc : o.c ≤ m) (hm : m ≤ 4611686018427387904) (hk : o.kd = 1) (HS : ∀ w', Below w.heap.size w w' → Hid (Calls Tryd.prog 53 #[.slice A G.length cp, limV D Wd O, .agg #[.int .i64 (m - o.c)], obV o, .int .i64 dp] w' (TrV w' r))) :
    Calls Tryd.prog 27 #[.slice A G.length cp, limV D Wd O, .agg #[.int .i64 m], .int .i64 sg, .int .i64 a, .int .i64 dp] w (TrV w r) := by
  have S := Sep.start w
  have tx : (x == 0) = false := beq_eq_false_iff_ne.2 hx
  clear hx
  have td : decide (D < dp) = false := decide_eq_false (by omega)
  clear hd
  obtain ⟨kd, osg, ad, d, p, e, n, c⟩ := o
  dsimp only at hc hc0 hk HS
  subst hk
  have HC := fun w => Lib.hid (rcharge_yes m c w hc hc0 hm)
  obtain ⟨⟨f0, f1, f2, f3, f4⟩, m', e'⟩ := r
  go_enter Tryd.func27, Tryd.ntmps27
  go_wp2_with (first | go_skip | ((with_reducible refine wl ?_); first | refine sn S (fun g w1 S => ?_) | refine ss S (fun w1 S => ?_) | refine sl S ?_ | refine sa S ?_) | ((with_reducible refine (HF _ S.below).out.mono ?_); rintro r w' ⟨rfl, hb⟩; replace S := S.call hb) | ((with_reducible refine (HO _ S.below).out.mono ?_); rintro r w' ⟨rfl, hb⟩; replace S := S.call hb) | ((with_reducible refine (HC _).out.mono ?_); rintro r w' ⟨rfl, hb⟩; replace S := S.call hb) | ((with_reducible refine (HS _ S.below).out.mono ?_); rintro r' w' hT; obtain ⟨B3, d3, B4, d4, rfl, hM, hb⟩ := TrV.openV hT; replace S := S.push (a := .made k37 _ _) hb hM; dsimp only at S))
  exact rt S ⟨_, _, rfl, S.out .here, S.below⟩
set_option maxRecDepth 100000 in
set_option maxHeartbeats 4000000 in
theorem val_7 (A : Option Addr) (cp : Nat) (G : List (List Int)) (D Wd O m sg a dp x s' b' : Int) (w : World) (r : Tr) (o : Ob) (ws : List Int) (HF : FoG G A cp sg a w x s' b' 0) (hx : x ≠ 0) (hd : dp ≤ D) (HO : ObG G A cp sg a w o 0) (hc0 : 0 ≤ o.c) (hc : o.c ≤ m) (hm : m ≤ 4611686018427387904) (hk : o.kd = 2) (he : o.e < 6) (hn0 : 0 ≤ o.n) (hn1 : o.n ≤ 536870911) (HSl : ∀ w', Below w.heap.size w w' → Hid (Calls Tryd.prog 54 #[.slice A G.length cp, .int .i64 o.sg, .int .i64 o.ad, .int .i64 o.c] w' fun e w1 => ∃ v, e = .returned (.tuple #[v, .bool true]) ∧ Kd.R (Kd.int .u64) 32 w1 w'.heap.size (fun _ => True) v ws ∧ Below w'.heap.size w' w1)) (hl : ws.length ≤ 17592186040320) (hw : ∀ x ∈ ws, 0 ≤ x ∧ x < 18446744073709551616) (hb8 : (bytesE o.e o.n).toNat ≤ (bytesL ws).length) (HR : Hid (r = (⟨2, o.e, o.n, trimE o.e o.n (bytesL ws), []⟩, m - o.c, 0))) :
    Calls Tryd.prog 27 #[.slice A G.length cp, limV D Wd O, .agg #[.int .i64 m], .int .i64 sg, .int .i64 a, .int .i64 dp] w (TrV w r) := by
  have S := Sep.start w
  have tx : (x == 0) = false := beq_eq_false_iff_ne.2 hx
  clear hx
  have td : decide (D < dp) = false := decide_eq_false (by omega)
  clear hd
  obtain ⟨kd, osg, ad, d, p, e, n, c⟩ := o
  dsimp only at hc hc0 hk hn0 hn1 he HSl hb8 HR
  have HBY := fun A' c' w' hr => Lib.hid (rbytes_any A' c' ws w' hr hl hw)
  have HTR := fun A' c' w' hr => Lib.hid (rtrim_any e n A' c' (bytesL ws) w' hr (bytesL_bd ws) hn0 hn1 hb8)
  clear hw hl hb8
  subst hk
  have HC := fun w => Lib.hid (rcharge_yes m c w hc hc0 hm)
  have te : decide (e < 6) = true := decide_eq_true he
  clear he
  go_enter Tryd.func27, Tryd.ntmps27
  go_wp2_with (first | go_skip | ((with_reducible refine wl ?_); first | refine sn S (fun g w1 S => ?_) | refine ss S (fun w1 S => ?_) | refine sl S ?_ | refine sa S ?_) | ((with_reducible refine (HF _ S.below).out.mono ?_); rintro r w' ⟨rfl, hb⟩; replace S := S.call hb) | ((with_reducible refine (HO _ S.below).out.mono ?_); rintro r w' ⟨rfl, hb⟩; replace S := S.call hb) | ((with_reducible refine (HC _).out.mono ?_); rintro r w' ⟨rfl, hb⟩; replace S := S.call hb) | ((with_reducible refine (HSl _ S.below).out.mono ?_); rintro r' w' ⟨vs, rfl, hR, hb⟩; obtain ⟨A', c', rfl⟩ := Kd.R_slice hR; replace S := S.push (a := .row (Kd.int .u64) 32 _ ws) hb hR))
  refine rs [2] S (fun w1 S => ?_)
  refine pu 0 110 ?_
  refine lt 1 S ?_
  refine pu 2 112 ?_
  refine lt 3 S ?_
  refine pu 4 114 ?_
  have hC := R_C (S.outR .here)
  refine lc 5 115 Tryd.func38 (HBY _ _ _ hC).out (fun r' w2 hT => ?_)
  obtain ⟨v, rfl, hR2, hb2⟩ := hT
  obtain ⟨A2, c2, rfl, hle2, hC2⟩ := Kd.R_reads hR2
  replace S := S.call hb2
  refine ⟨_, rfl, S.kpq 0, _, rfl, ?_⟩
  simp only [Act.put, List.setIfInBounds_toArray, List.set_cons_zero, List.set_cons_succ]
  refine lc 6 116 Tryd.func39 (HTR _ _ _ hC2).out (fun r' w3 hT => ?_)
  obtain ⟨v, rfl, hR3, hb3⟩ := hT
  obtain ⟨A4, c4, rfl⟩ := Kd.R_slice hR3
  replace S := S.push (a := .row (Kd.int .u8) 5 _ _) hb3 hR3
  refine ⟨_, rfl, S.kpq 1, _, rfl, ?_⟩
  simp only [Act.put, List.setIfInBounds_toArray, List.set_cons_zero, List.set_cons_succ]
  refine pu 7 117 ?_
  refine lsd 8 1 S (fun w4 S => ?_)
  refine dn ?_
  go_wp2
  refine rs [4, 2] S (fun w1 S => ?_)
  refine lt 0 S ?_
  refine lt 1 S ?_
  refine ls 2 S (fun w2 S => ?_)
  refine ls 3 S (fun w2 S => ?_)
  refine pu 4 14 ?_
  refine dn ?_
  go_wp2
  have S1 := (S.nil k37 37).swap.node (f0 := 2) (f1 := e) (f2 := n)
  have HR := HR.out
  subst HR
  exact rt S ⟨_, _, rfl, S1.out .here, S.below⟩
end Go.Proofs.YtidglmocekghmaaDoor.Pr
end
section
namespace Go.Proofs.YtidglmocekghmaaDoor.Pr
open Go.RowKit Go.Proofs.YtidglmocekghmaaDoorW.PrintWords Go.Proofs.YtidglmocekghmaaDoorW.PrintLast Go.Proofs.YtidglmocekghmaaDoorW.PrintMore
set_option linter.unusedVariables false
set_option linter.unusedSimpArgs false
set_option maxRecDepth 100000 in
set_option maxHeartbeats 8000000 in
theorem val_8 (A : Option Addr) (cp : Nat) (G : List (List Int)) (D Wd O m sg a dp x s' b' : Int) (w : World) (r : Tr) (o : Ob) (v : Int → Int → Tr) (HF : FoG G A cp sg a w x s' b' 0) (hx : x ≠ 0) (hd : dp ≤ D) (HO : ObG G A cp sg a w o 0) (hc0 : 0 ≤ o.c) (hc : o.c ≤ m) (hm : m ≤ 4611686018427387904) (hk : o.kd = 2) (hn0 : 0 ≤ o.n) (hn1 : o.n ≤ 536870911) (hdp : 0 ≤ dp) (hD : D ≤ 4611686018427387904) (he : o.e = 6) (ha0 : 0 ≤ o.ad) (ha1 : o.ad ≤ 17592186040320) (HN : Hid (Sinks v)) (HV : ∀ j : Nat, (j : Int) < o.n → ∀ mi, 0 ≤ mi → mi ≤ m - o.c → ∀ w', Below w.heap.size w w' → Hid (Calls Tryd.prog 27 #[.slice A G.length cp, limV D Wd O, .agg #[.int .i64 mi], .int .i64 o.sg, .int .i64 (o.ad + j), .int .i64 (dp + 1)] w' (TrV w' (v (o.ad + j) mi)))) (HR : Hid (r = if (kidsR v o.n.toNat o.ad (m - o.c)).2.2 ≠ 0 then (ndZ, (kidsR v o.n.toNat o.ad (m - o.c)).2) else (⟨2, o.e, o.n, [], (kidsR v o.n.toNat o.ad (m - o.c)).1⟩, (kidsR v o.n.toNat o.ad (m - o.c)).2.1, 0))) :
    Calls Tryd.prog 27 #[.slice A G.length cp, limV D Wd O, .agg #[.int .i64 m], .int .i64 sg, .int .i64 a, .int .i64 dp] w (TrV w r) := by
  have S := Sep.start w
  have tx : (x == 0) = false := beq_eq_false_iff_ne.2 hx
  clear hx
  have td : decide (D < dp) = false := decide_eq_false (by omega)
  obtain ⟨kd, osg, ad, d, p, e, n, c⟩ := o
  dsimp only at hc hc0 hk hn0 hn1 he HV HR ha0 ha1
  have te : decide (e < 6) = false := decide_eq_false (by omega)
  have te6 : (e == 6) = true := beq_iff_eq.2 he
  clear he
  have tk : (kd == 1) = false := beq_eq_false_iff_ne.2 (by omega)
  clear hk
  have HC := fun w => Lib.hid (rcharge_yes m c w hc hc0 hm)
  obtain ⟨n, rfl⟩ := Int.eq_ofNat_of_zero_le hn0
  rw [Int.toNat_natCast] at HR
  obtain ⟨m2, hm2⟩ : ∃ m2, m - c = m2 := ⟨_, rfl⟩
  have hm0 : 0 ≤ m2 := by omega
  have hm1 : m2 ≤ 4611686018427387904 := by omega
  rw [hm2] at HR HC HV
  clear hm2 hc hc0
  have HR0 := Lib.hid (Rnd.start v n ad m2 hm0)
  go_enter Tryd.func27, Tryd.ntmps27
  go_wp2_with (first | go_skip | ((with_reducible refine wl ?_); first | (refine sn S (fun g w1 S => ?_); first | ((fail_if_success (have := g7)); revert g; intro g7 S) | ((fail_if_success (have := g8)); revert g; intro g8 S) | ((fail_if_success (have := g12)); revert g; intro g12 S) | ((fail_if_success (have := g13)); revert g; intro g13 S) | ((fail_if_success (have := g15)); revert g; intro g15 S) | ((fail_if_success (have := g20)); revert g; intro g20 S) | ((fail_if_success (have := g22)); revert g; intro g22 S)) | refine ss S (fun w1 S => ?_) | refine sl S ?_ | refine sa S ?_) | ((with_reducible refine (HF _ S.below).out.mono ?_); rintro r w' ⟨rfl, hb⟩; replace S := S.call hb) | ((with_reducible refine (HO _ S.below).out.mono ?_); rintro r w' ⟨rfl, hb⟩; replace S := S.call hb) | ((with_reducible refine (HC _).out.mono ?_); rintro r w' ⟨rfl, hb⟩; replace S := S.call hb))
  have S := Lib.hid (S.nil k37 37)
  simp only [List.getElem_toArray, List.getElem_cons_zero, List.getElem_cons_succ]
  go_loopw [26] (fun k wr => ∃ (j : Nat) (ks : List S37) (mi : Int) (Ak : Option Addr) (ck : Nat), Rnd v n ad m2 j ks mi ∧ k = .int .i64 j ∧ Hid (Sep w wr [.row k37 37 (.slice Ak ks.length ck) ks, .box g22 #[.int .i64 mi] 52, .box g20 #[.int .i64 kd, .int .i64 osg, .int .i64 ad, .int .i64 d, .int .i64 p, .int .i64 e, .int .i64 n, .int .i64 c] 75, .box g15 #[.int .i64 2, .int .i64 e, .int .i64 n, .slice none 0 0, .slice Ak ks.length ck] 37, .box g13 #[.int .i64 0] 52, .box g12 #[.int .i64 0, .int .i64 0, .int .i64 0, .slice none 0 0, .slice none 0 0] 37, .box g8 #[.int .i64 m] 52, .box g7 #[.int .i64 D, .int .i64 Wd, .int .i64 O] 24])) (fun k _ => n - (intOf k).toNat)
  case atStart => exact ⟨0, [], m2, none, 0, HR0.out, rfl, S⟩
  case round =>
    clear S
    obtain ⟨j, ks, mi, Ak, ck, hr, rfl, S⟩ := hrel
    by_cases hj : j < n
    · have HVj := HV j (by omega) mi hr.lo hr.hi
      have e1 := hr.fail hj
      have e2 := hr.next HN.out hj
      generalize v (ad + j) mi = q at *
      obtain ⟨⟨f0, f1, f2, f3, f4⟩, m', e'⟩ := q
      dsimp only at e1 e2
      by_cases he : e' ≠ 0
      · have HR := Lib.hid (HR.out.trans (by rw [e1 he, if_pos he]))
        have t1 : (e' != 0) = true := bne_iff_ne.2 he
        clear e1 e2 he HR0
        have S := S.out
        go_wp2_with (first | go_skip | ((with_reducible refine wl ?_); first | refine sn S (fun g w1 S => ?_) | refine ss S (fun w1 S => ?_) | refine sl S ?_ | refine sa S ?_) | ((with_reducible refine (HVj _ S.below).out.mono ?_); rintro r' w' hT; obtain ⟨B3, d3, B4, d4, rfl, hM, hb⟩ := TrV.openV hT; replace S := S.push (a := .made k37 _ _) hb hM; dsimp only at S))
        refine rs [3] S (fun w1 S => ?_)
        refine pu 0 159 ?_
        refine lt 1 S ?_
        refine pu 2 161 ?_
        refine ls 3 S (fun w2 S => ?_)
        refine ls 4 S (fun w2 S => ?_)
        refine pu 5 14 ?_
        refine dn ?_
        go_wp2
        have S1 := ((S.nil k37 37).nil (Kd.int .u8) 5).node (f0 := 0) (f1 := 0) (f2 := 0)
        have HR := HR.out
        subst HR
        exact rt S ⟨_, _, rfl, S1.out .here, S.below⟩
      · obtain rfl : e' = 0 := by omega
        have hr2 := Lib.hid (e2 rfl)
        clear e1 e2 he
        have S := S.out
        have HLL : Hid ((ks.length + 1) * 72 ≤ 140737488355328) := Lib.hid (by have := hr.len; omega)
        go_wp2_with (first | go_skip | ((with_reducible refine wl ?_); first | refine sn S (fun g w1 S => ?_) | refine ss S (fun w1 S => ?_) | refine sl S ?_ | refine sa S ?_) | ((with_reducible refine (HVj _ S.below).out.mono ?_); rintro r' w' hT; obtain ⟨B3, d3, B4, d4, rfl, hM, hb⟩ := TrV.openV hT; replace S := S.push (a := .made k37 _ _) hb hM; dsimp only at S) | (at_builtin; refine sp_append S.swap.tail.swap rfl rfl Tryd.underlying35 info37 rfl (by decide) (by omega) rfl rfl HLL.out (fun v1 w1 S => ?_); obtain ⟨Ak, ck, rfl⟩ := Kd.R_slice (S.outR .here)))
        go_roundw
        case rel => exact ⟨j + 1, _, m', Ak, ck, hr2.out, by go_num, Lib.hid (by simp only [List.length_append, List.length_singleton] at S ⊢; exact S)⟩
        case measure => simp [intOf]; omega
    · obtain rfl : j = n := by have := hr.le; omega
      have HR := Lib.hid (HR.out.trans (by rw [hr.stop rfl, if_neg (by simp)]))
      dsimp only at HR
      have S := S.out
      go_wp2_with (first | go_skip | ((with_reducible refine wl ?_); first | refine sn S (fun g w1 S => ?_) | refine ss S (fun w1 S => ?_) | refine sl S ?_ | refine sa S ?_))
      refine rs [3, 1] S (fun w1 S => ?_)
      refine lt 0 S ?_
      refine lt 1 S ?_
      refine ls 2 S (fun w2 S => ?_)
      refine ls 3 S (fun w2 S => ?_)
      refine pu 4 14 ?_
      refine dn ?_
      go_wp2
      have S1 := (S.nil (Kd.int .u8) 5).node (f0 := 2) (f1 := e) (f2 := j)
      have HR := HR.out
      subst HR
      exact rt S ⟨_, _, rfl, S1.out .here, S.below⟩
set_option maxRecDepth 100000 in
set_option maxHeartbeats 8000000 in
theorem val_9 (A : Option Addr) (cp : Nat) (G : List (List Int)) (D Wd O m sg a dp x s' b' : Int) (w : World) (r : Tr) (o : Ob) (v : Int → Int → Tr) (HF : FoG G A cp sg a w x s' b' 0) (hx : x ≠ 0) (hd : dp ≤ D) (HO : ObG G A cp sg a w o 0) (hc0 : 0 ≤ o.c) (hc : o.c ≤ m) (hm : m ≤ 4611686018427387904) (hk : o.kd = 2) (hn0 : 0 ≤ o.n) (hn1 : o.n ≤ 536870911) (hdp : 0 ≤ dp) (hD : D ≤ 4611686018427387904) (he : o.e = 7) (HN : Hid (Sinks v)) (HE : ∀ j : Nat, (j : Int) < o.n → ∀ w', Hid (Calls Tryd.prog 41 #[obV o, .int .i64 j] w' fun e w1 => e = .returned (obV (elG o j)) ∧ Below w'.heap.size w' w1)) (HV : ∀ j : Nat, (j : Int) < o.n → ∀ mi, 0 ≤ mi → mi ≤ m - o.c → ∀ w', Below w.heap.size w w' → Hid (Calls Tryd.prog 53 #[.slice A G.length cp, limV D Wd O, .agg #[.int .i64 mi], obV (elG o j), .int .i64 dp] w' (TrV w' (v (0 + j) mi)))) (HR : Hid (r = if (kidsR v o.n.toNat 0 (m - o.c)).2.2 ≠ 0 then (ndZ, (kidsR v o.n.toNat 0 (m - o.c)).2) else (⟨2, o.e, o.n, [], (kidsR v o.n.toNat 0 (m - o.c)).1⟩, (kidsR v o.n.toNat 0 (m - o.c)).2.1, 0))) :
    Calls Tryd.prog 27 #[.slice A G.length cp, limV D Wd O, .agg #[.int .i64 m], .int .i64 sg, .int .i64 a, .int .i64 dp] w (TrV w r) := by
  have S := Sep.start w
  have tx : (x == 0) = false := beq_eq_false_iff_ne.2 hx
  clear hx
  have td : decide (D < dp) = false := decide_eq_false (by omega)
  obtain ⟨kd, osg, ad, d, p, e, n, c⟩ := o
  dsimp only at hc hc0 hk hn0 hn1 he HV HR HE
  have te : decide (e < 6) = false := decide_eq_false (by omega)
  have te6 : (e == 6) = false := beq_eq_false_iff_ne.2 (by omega)
  clear he
  have tk : (kd == 1) = false := beq_eq_false_iff_ne.2 (by omega)
  clear hk
  have HC := fun w => Lib.hid (rcharge_yes m c w hc hc0 hm)
  obtain ⟨n, rfl⟩ := Int.eq_ofNat_of_zero_le hn0
  rw [Int.toNat_natCast] at HR
  obtain ⟨m2, hm2⟩ : ∃ m2, m - c = m2 := ⟨_, rfl⟩
  have hm0 : 0 ≤ m2 := by omega
  have hm1 : m2 ≤ 4611686018427387904 := by omega
  rw [hm2] at HR HC HV
  clear hm2 hc hc0
  have HR0 := Lib.hid (Rnd.start v n 0 m2 hm0)
  go_enter Tryd.func27, Tryd.ntmps27
  go_wp2_with (first | go_skip | ((with_reducible refine wl ?_); first | (refine sn S (fun g w1 S => ?_); first | ((fail_if_success (have := g7)); revert g; intro g7 S) | ((fail_if_success (have := g8)); revert g; intro g8 S) | ((fail_if_success (have := g12)); revert g; intro g12 S) | ((fail_if_success (have := g13)); revert g; intro g13 S) | ((fail_if_success (have := g15)); revert g; intro g15 S) | ((fail_if_success (have := g20)); revert g; intro g20 S) | ((fail_if_success (have := g22)); revert g; intro g22 S)) | refine ss S (fun w1 S => ?_) | refine sl S ?_ | refine sa S ?_) | ((with_reducible refine (HF _ S.below).out.mono ?_); rintro r w' ⟨rfl, hb⟩; replace S := S.call hb) | ((with_reducible refine (HO _ S.below).out.mono ?_); rintro r w' ⟨rfl, hb⟩; replace S := S.call hb) | ((with_reducible refine (HC _).out.mono ?_); rintro r w' ⟨rfl, hb⟩; replace S := S.call hb))
  have S := Lib.hid (S.nil k37 37)
  simp only [List.getElem_toArray, List.getElem_cons_zero, List.getElem_cons_succ]
  go_loopw [26] (fun k wr => ∃ (j : Nat) (ks : List S37) (mi : Int) (Ak : Option Addr) (ck : Nat), Rnd v n 0 m2 j ks mi ∧ k = .int .i64 j ∧ Hid (Sep w wr [.row k37 37 (.slice Ak ks.length ck) ks, .box g22 #[.int .i64 mi] 52, .box g20 #[.int .i64 kd, .int .i64 osg, .int .i64 ad, .int .i64 d, .int .i64 p, .int .i64 e, .int .i64 n, .int .i64 c] 75, .box g15 #[.int .i64 2, .int .i64 e, .int .i64 n, .slice none 0 0, .slice Ak ks.length ck] 37, .box g13 #[.int .i64 0] 52, .box g12 #[.int .i64 0, .int .i64 0, .int .i64 0, .slice none 0 0, .slice none 0 0] 37, .box g8 #[.int .i64 m] 52, .box g7 #[.int .i64 D, .int .i64 Wd, .int .i64 O] 24])) (fun k _ => n - (intOf k).toNat)
  case atStart => exact ⟨0, [], m2, none, 0, HR0.out, rfl, S⟩
  case round =>
    clear S
    obtain ⟨j, ks, mi, Ak, ck, hr, rfl, S⟩ := hrel
    by_cases hj : j < n
    · have HVj := HV j (by omega) mi hr.lo hr.hi
      have e1 := hr.fail hj
      have e2 := hr.next HN.out hj
      generalize v (0 + j) mi = q at *
      obtain ⟨⟨f0, f1, f2, f3, f4⟩, m', e'⟩ := q
      dsimp only at e1 e2
      by_cases he : e' ≠ 0
      · have HR := Lib.hid (HR.out.trans (by rw [e1 he, if_pos he]))
        have t1 : (e' != 0) = true := bne_iff_ne.2 he
        clear e1 e2 he HR0
        have S := S.out
        go_wp2_with (first | go_skip | ((with_reducible refine wl ?_); first | refine sn S (fun g w1 S => ?_) | refine ss S (fun w1 S => ?_) | refine sl S ?_ | refine sa S ?_))
        refine rsd [2, 3, 8] [13] S (fun w1 S => ?_)
        refine pu 0 146 ?_
        refine ltd 1 S ?_
        refine ltd 2 S ?_
        refine ltd 3 S ?_
        refine pu 4 150 ?_
        refine pu 6 152 ?_
        refine lcd 5 151 Tryd.func41 (HE j (by omega) _).out (fun r' w2 hT => ?_)
        obtain ⟨rfl, hb2⟩ := hT
        replace S := S.call hb2
        refine ⟨_, rfl, S.kpq 0, _, rfl, ?_⟩
        simp only [Act.put, List.setIfInBounds_toArray, List.set_cons_zero, List.set_cons_succ]
        refine lcd 7 153 Tryd.func53 (HVj _ S.below).out (fun r' w3 hT => ?_)
        obtain ⟨B3, d3, B4, d4, rfl, hM, hb3⟩ := TrV.openV hT
        replace S := S.push (a := .made k37 _ _) hb3 hM
        dsimp only at S
        refine ⟨_, rfl, S.kpq 1, _, rfl, ?_⟩
        simp only [Act.put, List.setIfInBounds_toArray, List.set_cons_zero, List.set_cons_succ]
        refine pu 8 145 ?_
        refine pu 9 154 ?_
        refine pu 10 155 ?_
        refine pu 11 156 ?_
        refine lse 12 1 S (fun w4 S => ?_)
        refine lsl 13 S (fun w5 S => ?_)
        refine pu 14 28 ?_
        refine dn ?_
        go_wp2_with (first | go_skip | ((with_reducible refine wl ?_); first | refine sn S (fun g w1 S => ?_) | refine ss S (fun w1 S => ?_) | refine sl S ?_ | refine sa S ?_))
        refine rs [3] S (fun w1 S => ?_)
        refine pu 0 159 ?_
        refine lt 1 S ?_
        refine pu 2 161 ?_
        refine ls 3 S (fun w2 S => ?_)
        refine ls 4 S (fun w2 S => ?_)
        refine pu 5 14 ?_
        refine dn ?_
        go_wp2
        have S1 := ((S.nil k37 37).nil (Kd.int .u8) 5).node (f0 := 0) (f1 := 0) (f2 := 0)
        have HR := HR.out
        subst HR
        exact rt S ⟨_, _, rfl, S1.out .here, S.below⟩
      · obtain rfl : e' = 0 := by omega
        have hr2 := Lib.hid (e2 rfl)
        clear e1 e2 he
        have S := S.out
        have HLL : Hid ((ks.length + 1) * 72 ≤ 140737488355328) := Lib.hid (by have := hr.len; omega)
        go_wp2_with (first | go_skip | ((with_reducible refine wl ?_); first | refine sn S (fun g w1 S => ?_) | refine ss S (fun w1 S => ?_) | refine sl S ?_ | refine sa S ?_))
        refine rsd [2, 3, 8] [13] S (fun w1 S => ?_)
        refine pu 0 146 ?_
        refine ltd 1 S ?_
        refine ltd 2 S ?_
        refine ltd 3 S ?_
        refine pu 4 150 ?_
        refine pu 6 152 ?_
        refine lcd 5 151 Tryd.func41 (HE j (by omega) _).out (fun r' w2 hT => ?_)
        obtain ⟨rfl, hb2⟩ := hT
        replace S := S.call hb2
        refine ⟨_, rfl, S.kpq 0, _, rfl, ?_⟩
        simp only [Act.put, List.setIfInBounds_toArray, List.set_cons_zero, List.set_cons_succ]
        refine lcd 7 153 Tryd.func53 (HVj _ S.below).out (fun r' w3 hT => ?_)
        obtain ⟨B3, d3, B4, d4, rfl, hM, hb3⟩ := TrV.openV hT
        replace S := S.push (a := .made k37 _ _) hb3 hM
        dsimp only at S
        refine ⟨_, rfl, S.kpq 1, _, rfl, ?_⟩
        simp only [Act.put, List.setIfInBounds_toArray, List.set_cons_zero, List.set_cons_succ]
        refine pu 8 145 ?_
        refine pu 9 154 ?_
        refine pu 10 155 ?_
        refine pu 11 156 ?_
        refine lse 12 1 S (fun w4 S => ?_)
        refine lsl 13 S (fun w5 S => ?_)
        refine pu 14 28 ?_
        refine dn ?_
        go_wp2_with (first | go_skip | ((with_reducible refine wl ?_); first | refine sn S (fun g w1 S => ?_) | refine ss S (fun w1 S => ?_) | refine sl S ?_ | refine sa S ?_) | (at_builtin; refine sp_append S.swap.tail.swap rfl rfl Tryd.underlying35 info37 rfl (by decide) (by omega) rfl rfl HLL.out (fun v1 w1 S => ?_); obtain ⟨Ak, ck, rfl⟩ := Kd.R_slice (S.outR .here)))
        go_roundw
        case rel => exact ⟨j + 1, _, m', Ak, ck, hr2.out, by go_num, Lib.hid (by simp only [List.length_append, List.length_singleton] at S ⊢; exact S)⟩
        case measure => simp [intOf]; omega
    · obtain rfl : j = n := by have := hr.le; omega
      have HR := Lib.hid (HR.out.trans (by rw [hr.stop rfl, if_neg (by simp)]))
      dsimp only at HR
      have S := S.out
      go_wp2_with (first | go_skip | ((with_reducible refine wl ?_); first | refine sn S (fun g w1 S => ?_) | refine ss S (fun w1 S => ?_) | refine sl S ?_ | refine sa S ?_))
      refine rs [3, 1] S (fun w1 S => ?_)
      refine lt 0 S ?_
      refine lt 1 S ?_
      refine ls 2 S (fun w2 S => ?_)
      refine ls 3 S (fun w2 S => ?_)
      refine pu 4 14 ?_
      refine dn ?_
      go_wp2
      have S1 := (S.nil (Kd.int .u8) 5).node (f0 := 2) (f1 := e) (f2 := j)
      have HR := HR.out
      subst HR
      exact rt S ⟨_, _, rfl, S1.out .here, S.below⟩
end Go.Proofs.YtidglmocekghmaaDoor.Pr
end
section
namespace Go.Proofs.YtidglmocekghmaaDoor.Pr
open Go.RowKit Go.Proofs.YtidglmocekghmaaDoorW.PrintWords Go.Proofs.YtidglmocekghmaaDoorW.PrintLast Go.Proofs.YtidglmocekghmaaDoorW.PrintMore
set_option linter.unusedVariables false
set_option linter.unusedSimpArgs false
theorem bytes_fit {G : List (List Int)} {s a e n : Int} (h : inG G s a (wordsE e n) = true) (he : e < 6) (n0 : 0 ≤ n) : (bytesE e n).toNat ≤ (bytesL (cutG G s a (wordsE e n))).length := by
  unfold inG at h
  rw [decide_eq_true_eq] at h
  rw [bytesL_length]
  unfold cutG
  rw [List.length_take, List.length_drop]
  have hw : wordsE e n = (bitsE e * n + 63) / 64 := by unfold wordsE; rw [if_neg (by omega)]
  have hb := (bitsE_bd e).1
  have hn := Int.mul_nonneg hb n0
  unfold bytesE
  rw [hw] at h ⊢
  clear hw
  generalize bitsE e * n = b at *
  omega
theorem val_walk (f : Nat) (hf : ∀ f', f = f' + 1 → ValC f' ∧ StrC f') : ValC f := by
  intro A cp G D Wd O m sg a dp w hE a0 a1 s1 m0 m1 D1 dp0 hdp
  have hlen : ∀ x ∈ G, x.length ≤ 4611686018427387904 := fun x hx => Nat.le_trans (hE.sgs x hx) (by omega)
  have HF : FoG G A cp sg a w (folM G sg a).1 (folM G sg a).2.1 (folM G sg a).2.2.1 (folM G sg a).2.2.2 := fun w' hb => Lib.hid (fol_any A cp G sg a w' (Kd.C_below hE.rd hb) hE.len hlen hE.ok (by omega) (by omega))
  by_cases he : (folM G sg a).2.2.2 ≠ 0
  · exact val_1 A cp G D Wd O m sg a dp _ _ _ w _ _ HF he (Lib.hid (by cases f <;> rw [valR, if_pos he]))
  have he0 : (folM G sg a).2.2.2 = 0 := by omega
  rw [he0] at HF
  by_cases hx : (folM G sg a).1 = 0
  · rw [hx] at HF
    exact val_2 A cp G D Wd O m sg a dp 0 _ _ w _ HF (Lib.hid (by cases f <;> rw [valR, if_neg he, if_pos hx]))
  cases f with
  | zero => exact val_3 A cp G D Wd O m sg a dp _ _ _ w _ HF hx (by omega) (Lib.hid (by rw [valR, if_neg he, if_neg hx]))
  | succ f =>
    obtain ⟨hv, hs⟩ := hf f rfl
    have hd : dp + f = D := by omega
    have hV : valR G (f + 1) sg a m = if (objG G sg a).2 ≠ 0 then (ndZ, m, (objG G sg a).2) else if m < (objG G sg a).1.c then (ndZ, m, 8) else bodR G (valR G f) (objG G sg a).1 (m - (objG G sg a).1.c) := by rw [valR, if_neg he, if_neg hx]
    have HO : ObG G A cp sg a w (objG G sg a).1 (objG G sg a).2 := fun w' hb => Lib.hid (objG_any A cp G sg a w' (Kd.C_below hE.rd hb) hE.len hlen hE.ok a0 a1 s1)
    by_cases ho : (objG G sg a).2 ≠ 0
    · exact val_4 A cp G D Wd O m sg a dp _ _ _ w _ _ _ HF hx (by omega) HO ho (Lib.hid (by rw [hV, if_pos ho]))
    have ho0 : (objG G sg a).2 = 0 := by omega
    have hK := obj_ok G sg a ho0 he0 hx
    rw [if_neg ho] at hV
    rw [ho0] at HO
    clear he ho ho0 he0
    generalize objG G sg a = q at *
    obtain ⟨o, _⟩ := q
    dsimp only at hV HO hK
    by_cases hc : m < o.c
    · exact val_5 A cp G D Wd O m sg a dp _ _ _ w _ o HF hx (by omega) HO hc (Lib.hid (by rw [hV, if_pos hc]))
    rw [if_neg hc] at hV
    have hc0 := hK.c0
    unfold bodR at hV
    rcases hK.is with ⟨hk, hi, d0, d1, p0, p1⟩ | ⟨hk, e0, e6, n0, n1, hw, hi⟩ | ⟨hk, e7, n0, n1, d0, d1, p0, p1, C, hi, hC⟩
    · rw [if_pos hk] at hV
      rw [hV]
      exact val_6 A cp G D Wd O m sg a dp _ _ _ w _ o HF hx (by omega) HO hc0 (by omega) m1 hk (fun w' hb => Lib.hid (hs A cp G D Wd O (m - o.c) dp o w' (hE.below hb) hi d0 d1 p0 p1 (by omega) (by omega) D1 dp0 hd))
    · rw [if_neg (by omega)] at hV
      have hib := inG_bd hi hE.sgs
      by_cases he : o.e < 6
      · rw [if_pos he] at hV
        have hsl : (sgG G o.sg).length ≤ 17592186040320 := by
          have := sg_len hE.sgs o.sg.toNat (by omega)
          rwa [show ((o.sg.toNat : Nat) : Int) = o.sg by omega] at this
        exact val_7 A cp G D Wd O m sg a dp _ _ _ w _ o (cutG G o.sg o.ad o.c) HF hx (by omega) HO hc0 (by omega) m1 hk he n0 n1 (fun w' hb => Lib.hid (slice_at A cp G o.sg o.ad o.c w' (Kd.C_below hE.rd hb) hi hE.len hE.sgs)) (cutG_len hsl) (cutG_mem hE.ok _ _ _) (by rw [hw] at hi ⊢; exact bytes_fit hi he n0) (Lib.hid hV)
      · have he6 : o.e = 6 := by omega
        rw [if_neg he, if_pos he6] at hV
        have hwn : o.c = o.n := by rw [hw, he6]; unfold wordsE bitsE; simp; omega
        exact val_8 A cp G D Wd O m sg a dp _ _ _ w _ o (valR G f o.sg) HF hx (by omega) HO hc0 (by omega) m1 hk n0 n1 dp0 D1 he6 (by omega) (by omega) (Lib.hid (valR_sinks G f o.sg)) (fun j hj mi q0 q1 w' hb => Lib.hid (hv A cp G D Wd O mi o.sg (o.ad + j) (dp + 1) w' (hE.below hb) (by omega) (by omega) (by have := hE.len; omega) q0 (by omega) D1 (by omega) (.inl (by omega)))) (Lib.hid hV)
    · rw [if_neg (by omega), if_neg (by omega), if_neg (by omega)] at hV
      rw [elsR_kids] at hV
      have hib := inG_bd hi hE.sgs
      refine val_9 A cp G D Wd O m sg a dp _ _ _ w _ o (fun i m => strR G (valR G f) (elG o i) m) HF hx (by omega) HO hc0 (by omega) m1 hk n0 n1 dp0 D1 e7 (Lib.hid (fun i m h => strR_sinks G (valR_sinks G f) (elG o i) m h)) (fun j hj w' => Lib.hid (el_any o j w' (by omega) (by omega) d0 d1 p0 p1 (by omega) (by omega))) (fun j hj mi q0 q1 w' hb => Lib.hid ?_) (Lib.hid hV)
      rw [Int.zero_add]
      have y0 : 0 ≤ (j : Int) * (o.d + o.p) := Int.mul_nonneg (by omega) (by omega)
      have y1 : ((j : Int) + 1) * (o.d + o.p) ≤ o.n * (o.d + o.p) := Int.mul_le_mul_of_nonneg_right (by omega) (by omega)
      rw [Int.add_mul, Int.one_mul] at y1
      exact hs A cp G D Wd O mi dp (elG o j) w' (hE.below hb) (inG_sub hi (by unfold elG; dsimp only; omega) (by unfold elG; dsimp only; omega) (by unfold elG; dsimp only; omega)) d0 d1 p0 p1 q0 (by omega) D1 dp0 hd
end Go.Proofs.YtidglmocekghmaaDoor.Pr
end

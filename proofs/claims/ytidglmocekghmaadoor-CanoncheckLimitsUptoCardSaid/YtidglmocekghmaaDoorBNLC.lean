/- A part of the proof of YtidglmocekghmaaDoorLimitsCard (the texts that it stands on, gathered; declarations that nothing uses are left out). -/
import Derived.Test.YtidglmocekghmaaDoorBNLB
import Derived.Below
import Derived.Deep.Draws
import Derived.Deep.AppendLies
import Derived.Maps.AppendAt
import Derived.OwnWalk
import Derived.Laws.BytesArg
import Derived.Laws.MakeOwn
import Derived.Laws.OwnMore
import Derived.Deep.OwnRows
import Derived.Tactics
import Derived.Lib.ConvBytes
import Derived.Laws.Slices
import Derived.WalkKit
import Derived.KernelRfl
import Derived.RowKit3
import Derived.Deep.LoopGhost
import Derived.Deep.QuietTactic
import Derived.BigQuiet
import Derived.WideLaws
import Derived.Deep.DeepCutAuto
import Derived.Deep.CutBlock
import Derived.Deep.RegionHeld3
import Derived.Laws.Rows
import Derived.Lib.AppendStr
import Derived.ArgAppend
import Derived.Laws.IdiomCopy
import Derived.RowKit
import Derived.OrdersHeld
import Derived.Laws.BitsLemmas
import Derived.Laws.StructEq
import Derived.SizedLaws
import Derived.ChangeSlices
import Derived.Test.YtidglmocekghmaaDoorProg
import Derived.Lib.Hide
import Derived.WalkLawsBesides
import Derived.WalkSpells
import Derived.Outline
import Derived.IntWalk
import Derived.Laws.AppendOwn
import Derived.RangeFuncBox
import Derived.Lib.JoinLaws
import Derived.Defers
import Derived.Recover
import Derived.Laws.Pointers
import Derived.Test.YtidglmocekghmaaDoorCards
import Derived.ProofKit
import Derived.LaidMore
import Derived.LaidHandle
import Derived.Maps.Keyed
import Derived.WideKeyElems2
import Derived.Lib.LaidTab
import Derived.OpenShut
import Derived.Lib.SmallJoins
set_option linter.unusedVariables false
set_option linter.unusedSimpArgs false
section
namespace Go.Proofs.YtidglmocekghmaaDoor.Pr
open Go.RowKit Go.Proofs.YtidglmocekghmaaDoorW.PrintWords Go.Proofs.YtidglmocekghmaaDoorW.PrintLast Go.Proofs.YtidglmocekghmaaDoorW.PrintMore
set_option linter.unusedVariables false
set_option linter.unusedSimpArgs false
set_option maxHeartbeats 4000000 in
theorem list_z2 {W0 w : World} {s : List Int} {cp g nx m : Nat} {D Wd O : Int} {sb so at_ c n : Nat} {off depth ee : Int} (hE : Env W0 s (some ⟨sb, so, none⟩)) (hK : Ck W0 s (some ⟨sb, so, none⟩) cp D Wd O g nx m w) (ha : at_ ≤ 17592186040320) (ho0 : -536870912 ≤ off) (ho1 : off ≤ 536870911) (hc0 : c ≤ 536870911) (hx : nx ≤ s.length) (hm : m ≤ 4611686018427387904) (hcp : s.length ≤ cp) (he0 : 0 ≤ ee) (he7 : ee ≤ 7) (hn7 : ¬ ee = 7) (hn : wordsE ee c = (n : Int)) (hnb : n ≤ 536870912) (h6 : ¬ ee = 6) (hob : objM s at_ off n nx = true) (hch : n ≤ m) (hn0 : n = 0) (hcz : ¬ cp = nx) (hr : restM s ee c nx n = true) :
  Calls Tryd.prog 34 #[.pointer (some ⟨g, 0, none⟩), .int .i64 at_, .int .i64 depth, .agg #[.int .i64 1, .int .i64 off, .int .i64 0, .int .i64 0, .int .i64 ee, .int .i64 c, .bool false, .int .i64 0, .int .u32 0, .int .u32 0]] w fun e w' => (e = .returned (.tuple #[]) ∧ Gr g w w' ∧ Ck W0 s (some ⟨sb, so, none⟩) cp D Wd O g (nx + n) (m - n) w') := by
 have HLEN := Lib.hid hE.len
 have hlen := hE.len
 have t7 : (ee == 7) = false := beq_eq_false_iff_ne.2 hn7
 have HN := Lib.hid hn
 have hTab := hE.tab.below hK.below
 clear hn
 have t6 : (ee == 6) = false := beq_eq_false_iff_ne.2 h6
 have HR := Lib.hid hr
 have HN0 := Lib.hid hn0
 clear hr hn0
 have GK := Lib.hid (Gr.refl g w)
 have CK := Lib.hid hK
 have HE := Lib.hid hE
 clear hE hK
 go_enter Tryd.func34, Tryd.ntmps34
 go_wp2_with fail
 have HTB := Lib.hid hTab
 clear hTab
 have lg : g < w.heap.size := blk_lt CK.out.blk
 refine calls_at (fun wa hW => ?_)
 have hb : Below w.heap.size w wa := by rw [hW]; exact (Below.refl _ _).alloc (Nat.le_refl _) _
 have nB : wa.heap[w.heap.size]? = some (.cells #[.int .i64 1, .int .i64 off, .int .i64 0, .int .i64 0, .int .i64 ee, .int .i64 c, .bool false, .int .i64 0, .int .u32 0, .int .u32 0] 67 (0, 0)) := by rw [hW]; exact heap_alloc_new _ _
 have neB : w.heap.size ≠ g := by omega
 clear hW lg
 replace GK := Lib.hid (GK.out.then hb)
 replace CK := Lib.hid (CK.out.then hb)
 replace HTB := Lib.hid (HTB.out.below hb)
 clear hb
 have B := Lib.hid nB
 clear nB
 refine (Ls.words_any ee c he0 he7 (by omega) (by omega) wa HTB.out).mono ?_
 rintro e wy ⟨rfl, rfl⟩
 rw [show Ls.wordsOf ee (c : Int) = (n : Int) from HN.out]
 have l_B : w.heap.size < wa.heap.size := blk_lt B.out
 have q_B_0 := cq0 ⟨B.out⟩
 have q_B_1 := cq1 ⟨B.out⟩
 have q_B_2 := cq2 ⟨B.out⟩
 have q_B_3 := cq3 ⟨B.out⟩
 have q_B_4 := cq4 ⟨B.out⟩
 have q_B_5 := cq5 ⟨B.out⟩
 have q_B_6 := cq6 ⟨B.out⟩
 have q_B_7 := cq7 ⟨B.out⟩
 have q_B_8 := cq8 ⟨B.out⟩
 have q_B_9 := cq9 ⟨B.out⟩
 go_wp2_with fail
 clear l_B q_B_0 q_B_1 q_B_2 q_B_3 q_B_4 q_B_5 q_B_6 q_B_7 q_B_8 q_B_9
 clear HTB
 refine (object_yes HE.out CK.out ha ⟨ho0, ho1⟩ (by omega) hx hcp hob).mono ?_
 rintro e w1 ⟨rfl, hg, hc⟩
 have gB : Hid (Gr g wa w1) := Lib.hid hg
 replace B := Lib.hid (gB.out.blk B.out neB)
 replace GK := Lib.hid (GK.out.trans gB.out)
 clear gB
 clear CK
 have CK := Lib.hid hc
 clear hg hc
 go_wp2_with fail
 refine (charge_ok HE.out CK.out hch (by omega) (by omega)).mono ?_
 rintro e w2 (⟨q, hq, rfl, hg, hc⟩ | ⟨hq, _⟩)
 rotate_left
 ·cases hq
 cases hq
 have gB : Hid (Gr g w1 w2) := Lib.hid hg
 replace B := Lib.hid (gB.out.blk B.out neB)
 replace GK := Lib.hid (GK.out.trans gB.out)
 clear gB
 clear CK
 have CK := Lib.hid hc
 clear hg hc
 have l_B : w.heap.size < w2.heap.size := blk_lt B.out
 have q_B_0 := cq0 ⟨B.out⟩
 have q_B_1 := cq1 ⟨B.out⟩
 have q_B_2 := cq2 ⟨B.out⟩
 have q_B_3 := cq3 ⟨B.out⟩
 have q_B_4 := cq4 ⟨B.out⟩
 have q_B_5 := cq5 ⟨B.out⟩
 have q_B_6 := cq6 ⟨B.out⟩
 have q_B_7 := cq7 ⟨B.out⟩
 have q_B_8 := cq8 ⟨B.out⟩
 have q_B_9 := cq9 ⟨B.out⟩
 have l_K : g < w2.heap.size := blk_lt CK.out.blk
 have q_K_0 := cq0 ⟨CK.out.blk⟩
 have s0_ : (0 : Int) ≤ (nx : Int) := Int.natCast_nonneg _
 have s1_ : (nx : Int) + (n : Int) ≤ (cp : Int) := by have := (objM_in hob).2; omega
 have s2_ : (0 : Int) ≤ (n : Int) := Int.natCast_nonneg _
 go_wp2_with fail
 clear l_B q_B_0 q_B_1 q_B_2 q_B_3 q_B_4 q_B_5 q_B_6 q_B_7 q_B_8 q_B_9 l_K q_K_0 s0_ s1_ s2_
 obtain ⟨X, hX⟩ : ∃ X, (s.drop nx).take n = X := ⟨_, rfl⟩
 have HX := Lib.hid hX
 obtain ⟨N8, h8⟩ : ∃ N, 8 * n = N := ⟨_, rfl⟩
 have H8 := Lib.hid h8
 have hXl : X.length = n := by rw [← hX]; have := (objM_in hob).2; simp; omega
 have HXL := Lib.hid hXl
 have h8b : N8 ≤ 4294967296 := by omega
 have hcw : ∀ j, j < n → w2.cell? ⟨sb, so + nx + j, none⟩ = some (.int .u64 (wd X j)) := fun j hj => by rw [← hX, wd_take hj, Nat.add_assoc]; exact wd_cell HE.out CK.out.below (by have := (objM_in hob).2; omega)
 have hbr := bytesL_range X
 refine (wbytes_at sb (so + nx) n _ X w2 hXl (by omega) (fun j => by rw [← hX]; by_cases hj : j < n; rw [wd_take hj]; exact HE.out.word _; rw [show wd ((s.drop nx).take n) j = 0 by unfold wd; rw [List.getD_eq_getElem?_getD, List.getElem?_eq_none (by simp; omega)]; rfl]; omega) hcw (fun h0 => World.block_lt_of_cell? _ _ (hcw 0 h0))).mono ?_
 rintro e w3 ⟨⟨vb, rfl, hown⟩, hb⟩
 replace GK := Lib.hid (GK.out.then hb)
 replace CK := Lib.hid (CK.out.then hb)
 replace B := Lib.hid (blk_below B.out hb)
 clear hb hcw hXl hX
 rw [H8.out] at hown
 clear h8
 obtain ⟨Ab, cb, rfl, hcb, hAb, hRb, hCb⟩ := own_shape hown hbr
 have HTB := Lib.hid (HE.out.tab.below CK.out.below)
 obtain ⟨k, hk⟩ : ∃ k : Nat, (k : Int) = bytesE ee c := ⟨(bytesE ee c).toNat, by have := (bytesE_bdC he0 (by omega : ee ≤ 5) (by omega : (0 : Int) ≤ (c : Int))).1; omega⟩
 have hk8 : k ≤ N8 := by have h1 := (bytesE_bdC he0 (by omega : ee ≤ 5) (by omega : (0 : Int) ≤ (c : Int))).2; have h2 := HN.out; have h3 := H8.out; omega
 have HKE := Lib.hid hk
 have HRB := Lib.hid hRb
 have HCB := Lib.hid hCb
 have HAB := Lib.hid hAb
 have hcb' : (N8 : Int) ≤ (cb : Int) := by omega
 clear hown hk hRb hCb hAb hcb
 have l_B : w.heap.size < w3.heap.size := blk_lt B.out
 have q_B_0 := cq0 ⟨B.out⟩
 have q_B_1 := cq1 ⟨B.out⟩
 have q_B_2 := cq2 ⟨B.out⟩
 have q_B_3 := cq3 ⟨B.out⟩
 have q_B_4 := cq4 ⟨B.out⟩
 have q_B_5 := cq5 ⟨B.out⟩
 have q_B_6 := cq6 ⟨B.out⟩
 have q_B_7 := cq7 ⟨B.out⟩
 have q_B_8 := cq8 ⟨B.out⟩
 have q_B_9 := cq9 ⟨B.out⟩
 go_wp2_with fail
 clear l_B q_B_0 q_B_1 q_B_2 q_B_3 q_B_4 q_B_5 q_B_6 q_B_7 q_B_8 q_B_9
 refine (Ls.trim_any ee c he0 (by omega) (by omega) (by omega) Ab N8 cb (bytesL X) w3 HTB.out (by omega) HAB.out (by omega) HRB.out k HKE.out hk8).mono ?_
 rintro e w4 ⟨⟨vt, rfl, hown⟩, hb4⟩
 have hRt := R_of_nums hown
 rw [trimE_eq] at hRt
 have HRT := Lib.hid hRt
 have hlt : (trimE ee c (bytesL X)).length = k := by have := hown.1; rw [trimE_eq] at this; simpa [Ls.nums] using this
 have HLT := Lib.hid hlt
 have HB4 := Lib.hid hb4
 clear hown hRt hlt hb4
 go_wp2_with ((with_reducible refine gate_builtin (b := .append) (xs := #[.tmp 56, .tmp 58]) rfl ?_); at_builtin; refine Kd.R_append_zeros (Kd.int .u8) (w0 := w3) w3.heap.size rfl (.tmp 56) (.tmp 58) 34 3 5 (.int .u8 0) 1 rfl Tryd.underlying34 Tryd.underlying3 Ls.Tryd.info5 rfl (by decide) (by omega) vt (trimE ee c (bytesL X)) (0 : Int) (N8 : Int) (fun _ => True) rfl rfl ?aZ (fun _ _ => trivial) ?aO (by omega) ?aB ?aS ?aL ?_; (case aZ => exact rfl); (case aO => exact HRT.out); (case aB => exact HB4.out); (case aS => exact HB4.out.size); (case aL => have := HLT.out; omega); intro v5 w5 ho hb hg hat; have HO5 := Lib.hid ho; have HB5 := Lib.hid hb; clear ho hb hg hat)
 replace GK := Lib.hid (GK.out.then HB5.out)
 replace CK := Lib.hid (CK.out.then HB5.out)
 replace B := Lib.hid (blk_below B.out HB5.out)
 replace HCB := Lib.hid (Kd.C_below HCB.out HB5.out)
 clear HTB HRB HB4 HRT
 obtain ⟨Y, hY⟩ : ∃ Y, (trimE ee c (bytesL X) ++ List.replicate ((N8 : Int)).toNat 0).take N8 = Y := ⟨_, rfl⟩
 have HY := Lib.hid hY
 have hll : (trimE ee c (bytesL X) ++ List.replicate ((N8 : Int)).toNat 0).length = k + N8 := by simp [HLT.out]
 have hYl : Y.length = N8 := by rw [← hY, List.length_take, hll]; omega
 have hYr : ∀ y ∈ Y, 0 ≤ y ∧ y ≤ 255 := by intro y hy; rw [← hY] at hy; have := List.mem_of_mem_take hy; rw [List.mem_append] at this; rcases this with h | h; exact trimE_range hbr y h; rw [List.eq_of_mem_replicate h]; omega
 have hbl : (bytesL X).length = N8 := by rw [bytesL_length, HXL.out]; exact H8.out
 have tE : ((strOfNums Y).toList == (strOfNums (bytesL X)).toList) = true := by rw [str_eq hYr hbr]; have h1 := HR.out; unfold restM at h1; dsimp only at h1; rw [HX.out, hbl] at h1; rw [Int.toNat_natCast] at hY; rw [hY] at h1; simpa using h1
 obtain rfl : N8 = 0 := by have := HN0.out; have := H8.out; omega
 have hYn : Y = [] := by rw [← hY]; rfl
 subst hYn
 clear HAB hY HY
 have HLL := Lib.hid hll
 have HTE := Lib.hid tE
 have HYR := Lib.hid hYr
 have HBB := Lib.hid hbr
 have HBL0 := Lib.hid hbl
 clear hll tE hYr hbr hYl hbl
 rcases R_shape HO5.out with ⟨rfl, h0⟩ | ⟨a5, c5, rfl, h51, h52, hC5⟩ <;> cases Ab
 ·have hCY : (Kd.int .u8).C w5 none 0 [] := Kd.C_nil _ _
  clear h0
  have hd0 := Kd.C_string (P := Tryd.prog) (src := 34) (dst := 9) (e := 5) (c := 0) Tryd.underlying34 Tryd.underlying5 Tryd.underlying9 (Kd.C_below hCY ((Below.refl _ _).drew))
  have hd1 := Kd.C_string (P := Tryd.prog) (src := 34) (dst := 9) (e := 5) (c := cb) Tryd.underlying34 Tryd.underlying5 Tryd.underlying9 (Kd.C_below HCB.out ((Below.refl _ _).drew))
  have tE := HTE.out
  clear hCY HO5
  generalize strOfNums [] = sy at tE hd0
  generalize strOfNums (bytesL X) = sx at tE hd1
  refine start_ (n := 9) (S := fun w' => (convert 34 9 (.slice (none) 0 0)).run Tryd.prog w' = .ok (.string sy) w' ∧ (convert 34 9 (.slice (none) 0 cb)).run Tryd.prog w' = .ok (.string sx) w') (ds := []) #[false, false, false, false, false, false, false, false, false] (by kernel_rfl) rfl rfl ⟨hd0, hd1⟩ (fun hHeld => ?_)
  obtain ⟨w3, hwd⟩ : ∃ W, W = w5.drew := ⟨_, rfl⟩
  rw [← hwd] at hHeld ⊢
  have hb : Below w5.heap.size w5 w3 := by rw [hwd]; exact (Below.refl _ _).drew
  clear hwd
  replace GK := Lib.hid (GK.out.then hb)
  replace CK := Lib.hid (CK.out.then hb)
  replace B := Lib.hid (blk_below B.out hb)
  clear hb
  refine pu 0 60 ?_
  refine pu 1 61 ?_
  refine pu 2 62 ?_
  refine pu 3 63 ?_
  refine pu 5 65 ?_
  refine tk2 4 64 hHeld ?_
  refine tk2 6 66 hHeld ?_
  refine pu 7 67 ?_
  refine one_ (i := 8) (N := some 68) #[true, true, true, true, true, true, true, true, true] rfl rfl (by kernel_rfl) (by decide) (fun K hK => ?_)
  refine goes_ Tryd.func19 (by kernel_rfl) rfl #[.bool true] (by rfl) rfl rfl (by simp only [List.map_toArray, List.map_cons, List.map_nil]; rfl) ?_
  with_reducible refine (must_yes _).mono ?_
  rintro e w3 ⟨rfl, rfl⟩
  refine ⟨_, rfl, ?_⟩
  refine hK.out _ _ ⟨hHeld.1, hHeld.2⟩ (fun hHeld => ?_)
  clear hK K
  refine norm_ (a' := ?_) ?_ ?_
  rotate_left
  ·show Act.put _ (some 68) _ = _
   simp only [Act.put, List.setIfInBounds_toArray, List.set_cons_zero, List.set_cons_succ, i64_w, i32_w]
   rfl
  refine done_ (by kernel_rfl) ?_
  clear hHeld
  first | go_end0 | (go_wp2; go_end0)
  exact ⟨rfl, GK.out, CK.out⟩
 ·rename_i ab
  have hCY : (Kd.int .u8).C w5 none 0 [] := Kd.C_nil _ _
  clear h0
  have hd0 := Kd.C_string (P := Tryd.prog) (src := 34) (dst := 9) (e := 5) (c := 0) Tryd.underlying34 Tryd.underlying5 Tryd.underlying9 (Kd.C_below hCY ((Below.refl _ _).drew))
  have hd1 := Kd.C_string (P := Tryd.prog) (src := 34) (dst := 9) (e := 5) (c := cb) Tryd.underlying34 Tryd.underlying5 Tryd.underlying9 (Kd.C_below HCB.out ((Below.refl _ _).drew))
  have tE := HTE.out
  clear hCY HO5
  generalize strOfNums [] = sy at tE hd0
  generalize strOfNums (bytesL X) = sx at tE hd1
  refine start_ (n := 9) (S := fun w' => (convert 34 9 (.slice (none) 0 0)).run Tryd.prog w' = .ok (.string sy) w' ∧ (convert 34 9 (.slice (some ab) 0 cb)).run Tryd.prog w' = .ok (.string sx) w') (ds := []) #[false, false, false, false, false, false, false, false, false] (by kernel_rfl) rfl rfl ⟨hd0, hd1⟩ (fun hHeld => ?_)
  obtain ⟨w3, hwd⟩ : ∃ W, W = w5.drew := ⟨_, rfl⟩
  rw [← hwd] at hHeld ⊢
  have hb : Below w5.heap.size w5 w3 := by rw [hwd]; exact (Below.refl _ _).drew
  clear hwd
  replace GK := Lib.hid (GK.out.then hb)
  replace CK := Lib.hid (CK.out.then hb)
  replace B := Lib.hid (blk_below B.out hb)
  clear hb
  refine pu 0 60 ?_
  refine pu 1 61 ?_
  refine pu 2 62 ?_
  refine pu 3 63 ?_
  refine pu 5 65 ?_
  refine tk2 4 64 hHeld ?_
  refine tk2 6 66 hHeld ?_
  refine pu 7 67 ?_
  refine one_ (i := 8) (N := some 68) #[true, true, true, true, true, true, true, true, true] rfl rfl (by kernel_rfl) (by decide) (fun K hK => ?_)
  refine goes_ Tryd.func19 (by kernel_rfl) rfl #[.bool true] (by rfl) rfl rfl (by simp only [List.map_toArray, List.map_cons, List.map_nil]; rfl) ?_
  with_reducible refine (must_yes _).mono ?_
  rintro e w3 ⟨rfl, rfl⟩
  refine ⟨_, rfl, ?_⟩
  refine hK.out _ _ ⟨hHeld.1, hHeld.2⟩ (fun hHeld => ?_)
  clear hK K
  refine norm_ (a' := ?_) ?_ ?_
  rotate_left
  ·show Act.put _ (some 68) _ = _
   simp only [Act.put, List.setIfInBounds_toArray, List.set_cons_zero, List.set_cons_succ, i64_w, i32_w]
   rfl
  refine done_ (by kernel_rfl) ?_
  clear hHeld
  first | go_end0 | (go_wp2; go_end0)
  exact ⟨rfl, GK.out, CK.out⟩
 ·have hCY : (Kd.int .u8).C w5 (some a5) 0 [] := by have := Kd.C_take hC5 (Nat.zero_le _); simpa using this
  rw [HLL.out] at h51 ⊢
  clear h52 hC5
  have hd0 := Kd.C_string (P := Tryd.prog) (src := 34) (dst := 9) (e := 5) (c := c5) Tryd.underlying34 Tryd.underlying5 Tryd.underlying9 (Kd.C_below hCY ((Below.refl _ _).drew))
  have hd1 := Kd.C_string (P := Tryd.prog) (src := 34) (dst := 9) (e := 5) (c := cb) Tryd.underlying34 Tryd.underlying5 Tryd.underlying9 (Kd.C_below HCB.out ((Below.refl _ _).drew))
  have tE := HTE.out
  clear hCY HO5
  have n3_ : (0 : Int) ≤ (c5 : Int) := Int.natCast_nonneg _
  clear h51
  generalize strOfNums [] = sy at tE hd0
  generalize strOfNums (bytesL X) = sx at tE hd1
  refine start_ (n := 9) (S := fun w' => (convert 34 9 (.slice (some a5) 0 c5)).run Tryd.prog w' = .ok (.string sy) w' ∧ (convert 34 9 (.slice (none) 0 cb)).run Tryd.prog w' = .ok (.string sx) w') (ds := []) #[false, false, false, false, false, false, false, false, false] (by kernel_rfl) rfl rfl ⟨hd0, hd1⟩ (fun hHeld => ?_)
  obtain ⟨w3, hwd⟩ : ∃ W, W = w5.drew := ⟨_, rfl⟩
  rw [← hwd] at hHeld ⊢
  have hb : Below w5.heap.size w5 w3 := by rw [hwd]; exact (Below.refl _ _).drew
  clear hwd
  replace GK := Lib.hid (GK.out.then hb)
  replace CK := Lib.hid (CK.out.then hb)
  replace B := Lib.hid (blk_below B.out hb)
  clear hb
  refine pu 0 60 ?_
  refine pu 1 61 ?_
  refine pu 2 62 ?_
  refine pu 3 63 ?_
  refine pu 5 65 ?_
  refine tk2 4 64 hHeld ?_
  refine tk2 6 66 hHeld ?_
  refine pu 7 67 ?_
  refine one_ (i := 8) (N := some 68) #[true, true, true, true, true, true, true, true, true] rfl rfl (by kernel_rfl) (by decide) (fun K hK => ?_)
  refine goes_ Tryd.func19 (by kernel_rfl) rfl #[.bool true] (by rfl) rfl rfl (by simp only [List.map_toArray, List.map_cons, List.map_nil]; rfl) ?_
  with_reducible refine (must_yes _).mono ?_
  rintro e w3 ⟨rfl, rfl⟩
  refine ⟨_, rfl, ?_⟩
  refine hK.out _ _ ⟨hHeld.1, hHeld.2⟩ (fun hHeld => ?_)
  clear hK K
  refine norm_ (a' := ?_) ?_ ?_
  rotate_left
  ·show Act.put _ (some 68) _ = _
   simp only [Act.put, List.setIfInBounds_toArray, List.set_cons_zero, List.set_cons_succ, i64_w, i32_w]
   rfl
  refine done_ (by kernel_rfl) ?_
  clear hHeld
  first | go_end0 | (go_wp2; go_end0)
  exact ⟨rfl, GK.out, CK.out⟩
 ·rename_i ab
  have hCY : (Kd.int .u8).C w5 (some a5) 0 [] := by have := Kd.C_take hC5 (Nat.zero_le _); simpa using this
  rw [HLL.out] at h51 ⊢
  clear h52 hC5
  have hd0 := Kd.C_string (P := Tryd.prog) (src := 34) (dst := 9) (e := 5) (c := c5) Tryd.underlying34 Tryd.underlying5 Tryd.underlying9 (Kd.C_below hCY ((Below.refl _ _).drew))
  have hd1 := Kd.C_string (P := Tryd.prog) (src := 34) (dst := 9) (e := 5) (c := cb) Tryd.underlying34 Tryd.underlying5 Tryd.underlying9 (Kd.C_below HCB.out ((Below.refl _ _).drew))
  have tE := HTE.out
  clear hCY HO5
  have n3_ : (0 : Int) ≤ (c5 : Int) := Int.natCast_nonneg _
  clear h51
  generalize strOfNums [] = sy at tE hd0
  generalize strOfNums (bytesL X) = sx at tE hd1
  refine start_ (n := 9) (S := fun w' => (convert 34 9 (.slice (some a5) 0 c5)).run Tryd.prog w' = .ok (.string sy) w' ∧ (convert 34 9 (.slice (some ab) 0 cb)).run Tryd.prog w' = .ok (.string sx) w') (ds := []) #[false, false, false, false, false, false, false, false, false] (by kernel_rfl) rfl rfl ⟨hd0, hd1⟩ (fun hHeld => ?_)
  obtain ⟨w3, hwd⟩ : ∃ W, W = w5.drew := ⟨_, rfl⟩
  rw [← hwd] at hHeld ⊢
  have hb : Below w5.heap.size w5 w3 := by rw [hwd]; exact (Below.refl _ _).drew
  clear hwd
  replace GK := Lib.hid (GK.out.then hb)
  replace CK := Lib.hid (CK.out.then hb)
  replace B := Lib.hid (blk_below B.out hb)
  clear hb
  refine pu 0 60 ?_
  refine pu 1 61 ?_
  refine pu 2 62 ?_
  refine pu 3 63 ?_
  refine pu 5 65 ?_
  refine tk2 4 64 hHeld ?_
  refine tk2 6 66 hHeld ?_
  refine pu 7 67 ?_
  refine one_ (i := 8) (N := some 68) #[true, true, true, true, true, true, true, true, true] rfl rfl (by kernel_rfl) (by decide) (fun K hK => ?_)
  refine goes_ Tryd.func19 (by kernel_rfl) rfl #[.bool true] (by rfl) rfl rfl (by simp only [List.map_toArray, List.map_cons, List.map_nil]; rfl) ?_
  with_reducible refine (must_yes _).mono ?_
  rintro e w3 ⟨rfl, rfl⟩
  refine ⟨_, rfl, ?_⟩
  refine hK.out _ _ ⟨hHeld.1, hHeld.2⟩ (fun hHeld => ?_)
  clear hK K
  refine norm_ (a' := ?_) ?_ ?_
  rotate_left
  ·show Act.put _ (some 68) _ = _
   simp only [Act.put, List.setIfInBounds_toArray, List.set_cons_zero, List.set_cons_succ, i64_w, i32_w]
   rfl
  refine done_ (by kernel_rfl) ?_
  clear hHeld
  first | go_end0 | (go_wp2; go_end0)
  exact ⟨rfl, GK.out, CK.out⟩
end Go.Proofs.YtidglmocekghmaaDoor.Pr
end
section
namespace Go.Proofs.YtidglmocekghmaaDoor.Pr
open Go.RowKit Go.Proofs.YtidglmocekghmaaDoorW.PrintWords Go.Proofs.YtidglmocekghmaaDoorW.PrintLast Go.Proofs.YtidglmocekghmaaDoorW.PrintMore
set_option linter.unusedVariables false
set_option linter.unusedSimpArgs false
set_option maxHeartbeats 4000000 in
theorem list_7 {W0 w : World} {s : List Int} {cp g nx m : Nat} {D Wd O : Int} {sb so at_ : Nat} {depth : Int} {w0 : Int} (hE : Env W0 s (some ⟨sb, so, none⟩)) (hK : Ck W0 s (some ⟨sb, so, none⟩) cp D Wd O g nx m w) (ha : at_ ≤ 17592186040320) (hx : nx ≤ s.length) (hm : m ≤ 4611686018427387904) (hcp : s.length ≤ cp) {v : Nat → Nat → Nat → Option (Nat × Nat)} (hv : InM s v) (hd0_ : 0 ≤ depth) (hd1_ : depth ≤ 1000000) (hV : VisC W0 s (some ⟨sb, so, none⟩) cp D Wd O g v (depth + 1))  :
  Calls Tryd.prog 34 #[.pointer (some ⟨g, 0, none⟩), .int .i64 at_, .int .i64 depth, .agg #[.int .i64 1, .int .i64 (offW w0), .int .i64 0, .int .i64 0, .int .i64 7, .int .i64 (cntW w0), .bool false, .int .i64 0, .int .u32 0, .int .u32 0]] w fun e w' => EndM W0 s (some ⟨sb, so, none⟩) cp D Wd O g w (compM s v at_ w0 nx m) e w' := by
 have HLEN := Lib.hid hE.len
 have hlen := hE.len
 have HI := Lib.hid hv
 have HV := Lib.hid hV
 clear hv hV
 have GK := Lib.hid (Gr.refl g w)
 have CK := Lib.hid hK
 have HE := Lib.hid hE
 clear hE hK
 go_enter Tryd.func34, Tryd.ntmps34
 go_wp2_with fail
 have lg : g < w.heap.size := blk_lt CK.out.blk
 refine calls_at (fun wa hW => ?_)
 have hb : Below w.heap.size w wa := by rw [hW]; exact (Below.refl _ _).alloc (Nat.le_refl _) _
 have nB : wa.heap[w.heap.size]? = some (.cells #[.int .i64 1, .int .i64 (offW w0), .int .i64 0, .int .i64 0, .int .i64 7, .int .i64 (cntW w0), .bool false, .int .i64 0, .int .u32 0, .int .u32 0] 67 (0, 0)) := by rw [hW]; exact heap_alloc_new _ _
 have neB : w.heap.size ≠ g := by omega
 clear hW lg
 replace GK := Lib.hid (GK.out.then hb)
 replace CK := Lib.hid (CK.out.then hb)
 clear hb
 have B := Lib.hid nB
 clear nB
 have hC := composite_any HE.out CK.out w0 ha hx hm hcp HI.out hd0_ hd1_ HV.out
 unfold aggP at hC
 refine hC.mono ?_
 clear hC
 rintro e w9 (⟨q, hq, rfl, hg, hc⟩ | ⟨hq, rfl, hg⟩)
 ·have hg' := GK.out.trans hg
  have HQ := Lib.hid hq
  clear hq hg
  go_wp2
  refine bodyPost_ret (results_none rfl _ _ _) rfl ?_
  exact .inl ⟨q, HQ.out, rfl, hg', hc⟩
 ·have hg' := GK.out.trans hg
  have HQ := Lib.hid hq
  clear hq hg
  go_wp2
  exact ⟨rfl, .inr ⟨HQ.out, rfl, hg'⟩⟩
theorem list_any {W0 w : World} {s : List Int} {cp g nx m : Nat} {D Wd O : Int} {sb so at_ : Nat} {depth : Int} (hE : Env W0 s (some ⟨sb, so, none⟩)) (hK : Ck W0 s (some ⟨sb, so, none⟩) cp D Wd O g nx m w) (w0 : Int)
  (ha : at_ ≤ 17592186040320) (hx : nx ≤ s.length) (hm : m ≤ 4611686018427387904) (hcp : s.length ≤ cp) {v : Nat → Nat → Nat → Option (Nat × Nat)} (hv : InM s v) (hd0_ : 0 ≤ depth) (hd1_ : depth ≤ 1000000) (hV : VisC W0 s (some ⟨sb, so, none⟩) cp D Wd O g v (depth + 1)) :
  Calls Tryd.prog 34 #[.pointer (some ⟨g, 0, none⟩), .int .i64 at_, .int .i64 depth, aggP 1 (offW w0) 0 0 (elemW w0) (cntW w0) false 0 0 0] w fun e w' => EndM W0 s (some ⟨sb, so, none⟩) cp D Wd O g w (listM s v at_ w0 nx m) e w' := by
 have ho := offW_bd w0
 have hcb := cntW_bd w0
 have heb := elemW_bd w0
 unfold listM aggP
 by_cases h7 : elemW w0 = 7
 ·rw [if_pos h7, h7]
  exact list_7 hE hK ha hx hm hcp hv hd0_ hd1_ hV
 ·rw [if_neg h7]
  obtain ⟨c, hc'⟩ : ∃ c : Nat, cntW w0 = (c : Int) := ⟨(cntW w0).toNat, by omega⟩
  rw [hc'] at hcb ⊢
  generalize offW w0 = off at ho ⊢
  generalize elemW w0 = ee at h7 heb ⊢
  have hwb := wordsE_bdC (c := (c : Int)) heb.1 heb.2 (by omega)
  obtain ⟨n, hn⟩ : ∃ n : Nat, wordsE ee (c : Int) = (n : Int) := ⟨(wordsE ee c).toNat, by omega⟩
  dsimp only
  rw [hn, Int.toNat_natCast]
  have hc0 : c ≤ 536870911 := by omega
  have hnb : n ≤ 536870912 := by omega
  have bad : ∀ {r : Option (Nat × Nat)}, r = none → (Calls Tryd.prog 34 #[.pointer (some ⟨g, 0, none⟩), .int .i64 at_, .int .i64 depth, .agg #[.int .i64 1, .int .i64 off, .int .i64 0, .int .i64 0, .int .i64 ee, .int .i64 c, .bool false, .int .i64 0, .int .u32 0, .int .u32 0]] w fun e w' => e = .panicked [{ v := .iface 47 (.agg #[]), recovered := false }] ∧ Gr g w w') →
    Calls Tryd.prog 34 #[.pointer (some ⟨g, 0, none⟩), .int .i64 at_, .int .i64 depth, .agg #[.int .i64 1, .int .i64 off, .int .i64 0, .int .i64 0, .int .i64 ee, .int .i64 c, .bool false, .int .i64 0, .int .u32 0, .int .u32 0]] w fun e w' => EndM W0 s (some ⟨sb, so, none⟩) cp D Wd O g w r e w' :=
   fun hr h => h.mono fun e w' ⟨a, b⟩ => .inr ⟨hr, a, b⟩
  by_cases hob : objM s at_ off n nx = true
  ·rw [if_pos hob]
   by_cases hch : n ≤ m
   ·rw [if_pos hch]
    by_cases h6 : ee = 6
    ·rw [if_pos h6]
     exact list_3 hE hK ha ho.1 ho.2 hc0 hx hm hcp heb.1 heb.2 h7 hn hnb hv hd0_ hd1_ hV h6 hob hch
    ·rw [if_neg h6]
     by_cases hn0 : n = 0
     ·have hr : restM s ee c nx n = true := by unfold restM; rw [hn0]; simp [bytesL]
      rw [if_pos hr]
      by_cases hcz : cp = nx
      ·exact (list_z1 hE hK ha ho.1 ho.2 hc0 hx hm hcp heb.1 heb.2 h7 hn hnb h6 hob hch hn0 hcz hr).mono fun e w' ⟨a, b, c⟩ => .inl ⟨_, rfl, a, b, c⟩
      ·exact (list_z2 hE hK ha ho.1 ho.2 hc0 hx hm hcp heb.1 heb.2 h7 hn hnb h6 hob hch hn0 hcz hr).mono fun e w' ⟨a, b, c⟩ => .inl ⟨_, rfl, a, b, c⟩
     ·by_cases hr : restM s ee c nx n = true
      ·rw [if_pos hr]
       exact (list_t hE hK ha ho.1 ho.2 hc0 hx hm hcp heb.1 heb.2 h7 hn hnb h6 hob hch (by omega) hr).mono fun e w' ⟨a, b, c⟩ => .inl ⟨_, rfl, a, b, c⟩
      ·rw [if_neg hr]
       exact bad rfl (list_b hE hK ha ho.1 ho.2 hc0 hx hm hcp heb.1 heb.2 h7 hn hnb h6 hob hch (by omega) hr)
   ·rw [if_neg hch]
    exact bad rfl (list_2 hE hK ha ho.1 ho.2 hc0 hx hm hcp heb.1 heb.2 h7 hn hnb hob hch)
  ·rw [if_neg hob]
   exact bad rfl (list_1 hE hK ha ho.1 ho.2 hc0 hx hm hcp heb.1 heb.2 h7 hn hnb hob)
end Go.Proofs.YtidglmocekghmaaDoor.Pr
end
section
namespace Go.Proofs.YtidglmocekghmaaDoor.Pr
open Go.RowKit Go.Proofs.YtidglmocekghmaaDoorW.PrintWords Go.Proofs.YtidglmocekghmaaDoorW.PrintLast Go.Proofs.YtidglmocekghmaaDoorW.PrintMore
set_option linter.unusedVariables false
set_option linter.unusedSimpArgs false
theorem isnull_any (x : Int) (b : Bool) (w : World) (h : (x == 0) = b) : Calls Tryd.prog 30 #[.int .u64 x] w fun e w' => e = .returned (.bool b) ∧ w = w' := by
 go_enter Tryd.func30, Tryd.ntmps30
 go_wp2
 go_ret
 exact ⟨rfl, rfl⟩
theorem enter_any (D Wd O depth r : Int) (w : World) (h : (if D < depth then (7 : Int) else 0) = r) : Calls Tryd.prog 31 #[.agg #[.int .i64 D, .int .i64 Wd, .int .i64 O], .int .i64 depth] w fun e w' => e = .returned (.int .i64 r) ∧ Below w.heap.size w w' := by
 refine budget_Enter.calls D Wd O depth r w ?_
 unfold budget_Enter.f
 rw [← h]
 by_cases h : D < depth
 ·rw [if_pos h, if_pos h]
 ·rw [if_neg h, if_neg h]
set_option maxHeartbeats 4000000 in
theorem visit_0 {W0 w : World} {s : List Int} {cp g nx m : Nat} {D Wd O : Int} {sb so a : Nat} {depth x : Int} (hE : Env W0 s (some ⟨sb, so, none⟩)) (hK : Ck W0 s (some ⟨sb, so, none⟩) cp D Wd O g nx m w) (ha : a < s.length) (hx : nx ≤ s.length) (hm : m ≤ 4611686018427387904) (hcp : s.length ≤ cp) (hwx : wd s a = x) (hz : x = 0) :
  Calls Tryd.prog 21 #[.pointer (some ⟨g, 0, none⟩), .int .i64 a, .int .i64 depth] w fun e w' => (e = .returned (.tuple #[]) ∧ Gr g w w' ∧ Ck W0 s (some ⟨sb, so, none⟩) cp D Wd O g nx m w') := by
 have HLEN := Lib.hid hE.len
 have hlen := hE.len
 have HWX := Lib.hid hwx
 clear hwx
 have HZ := Lib.hid hz
 clear hz
 have GK := Lib.hid (Gr.refl g w)
 have CK := Lib.hid hK
 have HE := Lib.hid hE
 clear hE hK
 go_enter Tryd.func21, Tryd.ntmps21
 have hwc := wd_cell HE.out CK.out.below ha
 rw [HWX.out] at hwc
 have hxr := HE.out.word a
 rw [HWX.out] at hxr
 obtain ⟨hx0, hx1⟩ := hxr
 have a0_ : (0 : Int) ≤ (a : Int) := Int.natCast_nonneg _
 have a1_ : (a : Int) < (s.length : Int) := by omega
 have l_K : g < w.heap.size := blk_lt CK.out.blk
 have q_K_0 : w.cell? ⟨g, 0, none⟩ = some (.slice (some ⟨sb, so, none⟩) s.length cp) := (blk_cell CK.out.blk 0).trans rfl
 go_wp2_with fail
 clear hwc a0_ a1_ l_K q_K_0
 refine (isnull_any x true w (beq_iff_eq.2 HZ.out)).mono ?_
 rintro e wy ⟨rfl, rfl⟩
 go_wp2
 refine bodyPost_ret (results_none rfl _ _ _) rfl ?_
 exact ⟨rfl, GK.out, CK.out⟩
set_option maxHeartbeats 4000000 in
theorem visit_1 {W0 w : World} {s : List Int} {cp g nx m : Nat} {D Wd O : Int} {sb so a : Nat} {depth x : Int} (hE : Env W0 s (some ⟨sb, so, none⟩)) (hK : Ck W0 s (some ⟨sb, so, none⟩) cp D Wd O g nx m w) (ha : a < s.length) (hx : nx ≤ s.length) (hm : m ≤ 4611686018427387904) (hcp : s.length ≤ cp) (hwx : wd s a = x) (hz : ¬ x = 0) (hd : D < depth) :
  Calls Tryd.prog 21 #[.pointer (some ⟨g, 0, none⟩), .int .i64 a, .int .i64 depth] w fun e w' => e = .panicked [{ v := .iface 47 (.agg #[]), recovered := false }] ∧ Gr g w w' := by
 have HLEN := Lib.hid hE.len
 have hlen := hE.len
 have HWX := Lib.hid hwx
 clear hwx
 have HZ := Lib.hid hz
 have HD := Lib.hid hd
 clear hz hd
 have GK := Lib.hid (Gr.refl g w)
 have CK := Lib.hid hK
 have HE := Lib.hid hE
 clear hE hK
 go_enter Tryd.func21, Tryd.ntmps21
 have hwc := wd_cell HE.out CK.out.below ha
 rw [HWX.out] at hwc
 have hxr := HE.out.word a
 rw [HWX.out] at hxr
 obtain ⟨hx0, hx1⟩ := hxr
 have a0_ : (0 : Int) ≤ (a : Int) := Int.natCast_nonneg _
 have a1_ : (a : Int) < (s.length : Int) := by omega
 have l_K : g < w.heap.size := blk_lt CK.out.blk
 have q_K_0 : w.cell? ⟨g, 0, none⟩ = some (.slice (some ⟨sb, so, none⟩) s.length cp) := (blk_cell CK.out.blk 0).trans rfl
 go_wp2_with fail
 clear hwc a0_ a1_ l_K q_K_0
 refine (isnull_any x false w (beq_eq_false_iff_ne.2 HZ.out)).mono ?_
 rintro e wy ⟨rfl, rfl⟩
 have l_K : g < w.heap.size := blk_lt CK.out.blk
 have q_K_2 : w.cell? ⟨g, 2, none⟩ = some (.int .i64 D) := (blk_cell CK.out.blk 2).trans rfl
 have q_K_3 : w.cell? ⟨g, 3, none⟩ = some (.int .i64 Wd) := (blk_cell CK.out.blk 3).trans rfl
 have q_K_4 : w.cell? ⟨g, 4, none⟩ = some (.int .i64 O) := (blk_cell CK.out.blk 4).trans rfl
 go_wp2_with fail
 clear l_K q_K_2 q_K_3 q_K_4
 refine (enter_any D Wd O depth 7 _ (if_pos HD.out)).mono ?_
 rintro e w1 ⟨rfl, hb⟩
 replace GK := Lib.hid (GK.out.then hb)
 replace CK := Lib.hid (CK.out.then hb)
 clear hb
 have t1_ : True := trivial
 go_wp2_with fail
 refine (must_no _).mono ?_
 rintro e wy ⟨rfl, rfl⟩
 go_wp2
 exact ⟨rfl, rfl, GK.out⟩
set_option maxHeartbeats 4000000 in
theorem visit_2 {W0 w : World} {s : List Int} {cp g nx m : Nat} {D Wd O : Int} {sb so a : Nat} {depth x : Int} (hE : Env W0 s (some ⟨sb, so, none⟩)) (hK : Ck W0 s (some ⟨sb, so, none⟩) cp D Wd O g nx m w) (ha : a < s.length) (hx : nx ≤ s.length) (hm : m ≤ 4611686018427387904) (hcp : s.length ≤ cp) (hwx : wd s a = x) {v : Nat → Nat → Nat → Option (Nat × Nat)} (hv : InM s v) (hd0_ : 0 ≤ depth) (hd1_ : depth ≤ 1000000) (hV : VisC W0 s (some ⟨sb, so, none⟩) cp D Wd O g v (depth + 1)) (hz : ¬ x = 0) (hd : ¬ D < depth) (hkd : kindW x = 0) :
  Calls Tryd.prog 21 #[.pointer (some ⟨g, 0, none⟩), .int .i64 a, .int .i64 depth] w fun e w' => EndM W0 s (some ⟨sb, so, none⟩) cp D Wd O g w (structM s v a x nx m) e w' := by
 have HLEN := Lib.hid hE.len
 have hlen := hE.len
 have HWX := Lib.hid hwx
 clear hwx
 have HZ := Lib.hid hz
 have HD := Lib.hid hd
 clear hz hd
 have HI := Lib.hid hv
 have HV := Lib.hid hV
 clear hv hV
 have HKD := Lib.hid hkd
 clear hkd
 have GK := Lib.hid (Gr.refl g w)
 have CK := Lib.hid hK
 have HE := Lib.hid hE
 clear hE hK
 go_enter Tryd.func21, Tryd.ntmps21
 have hwc := wd_cell HE.out CK.out.below ha
 rw [HWX.out] at hwc
 have hxr := HE.out.word a
 rw [HWX.out] at hxr
 obtain ⟨hx0, hx1⟩ := hxr
 have a0_ : (0 : Int) ≤ (a : Int) := Int.natCast_nonneg _
 have a1_ : (a : Int) < (s.length : Int) := by omega
 have l_K : g < w.heap.size := blk_lt CK.out.blk
 have q_K_0 : w.cell? ⟨g, 0, none⟩ = some (.slice (some ⟨sb, so, none⟩) s.length cp) := (blk_cell CK.out.blk 0).trans rfl
 go_wp2_with fail
 clear hwc a0_ a1_ l_K q_K_0
 refine (isnull_any x false w (beq_eq_false_iff_ne.2 HZ.out)).mono ?_
 rintro e wy ⟨rfl, rfl⟩
 have l_K : g < w.heap.size := blk_lt CK.out.blk
 have q_K_2 : w.cell? ⟨g, 2, none⟩ = some (.int .i64 D) := (blk_cell CK.out.blk 2).trans rfl
 have q_K_3 : w.cell? ⟨g, 3, none⟩ = some (.int .i64 Wd) := (blk_cell CK.out.blk 3).trans rfl
 have q_K_4 : w.cell? ⟨g, 4, none⟩ = some (.int .i64 O) := (blk_cell CK.out.blk 4).trans rfl
 go_wp2_with fail
 clear l_K q_K_2 q_K_3 q_K_4
 refine (enter_any D Wd O depth 0 _ (if_neg (by have := HD.out; omega))).mono ?_
 rintro e w1 ⟨rfl, hb⟩
 replace GK := Lib.hid (GK.out.then hb)
 replace CK := Lib.hid (CK.out.then hb)
 clear hb
 have t1_ : True := trivial
 go_wp2_with fail
 refine (must_yes _).mono ?_
 rintro e wy ⟨rfl, rfl⟩
 go_wp2_with fail
 refine (decode_any x w1 hx0 hx1 (HE.out.dec.below CK.out.below)).mono ?_
 rw [show decV x = .agg #[.int .i64 0, .int .i64 (offW x), .int .i64 (dataW x), .int .i64 (ptrsW x), .int .i64 0, .int .i64 0, .bool false, .int .i64 0, .int .u32 0, .int .u32 0] by unfold decV aggP; rw [if_pos HKD.out]]
 rintro e w2 ⟨rfl, hb⟩
 replace GK := Lib.hid (GK.out.then hb)
 replace CK := Lib.hid (CK.out.then hb)
 clear hb
 go_wp2_with fail
 refine calls_at (fun wz hW => ?_)
 have hb : Below w2.heap.size w2 wz := by rw [hW]; exact (Below.refl _ _).alloc (Nat.le_refl _) _
 clear hW
 replace GK := Lib.hid (GK.out.then hb)
 replace CK := Lib.hid (CK.out.then hb)
 clear hb
 have hC := structure_any (at_ := a) HE.out CK.out x (by have := HLEN.out; omega) hx hm hcp HI.out hd0_ hd1_ HV.out
 unfold aggP at hC
 refine hC.mono ?_
 clear hC
 rintro e w9 (⟨q, hq, rfl, hg, hc⟩ | ⟨hq, rfl, hg⟩)
 ·have hg' := GK.out.trans hg
  have HQ := Lib.hid hq
  clear hq hg
  go_wp2
  first | go_end0 | refine bodyPost_ret (results_none rfl _ _ _) rfl ?_
  exact .inl ⟨q, HQ.out, rfl, hg', hc⟩
 ·have hg' := GK.out.trans hg
  have HQ := Lib.hid hq
  clear hq hg
  go_wp2
  exact ⟨rfl, .inr ⟨HQ.out, rfl, hg'⟩⟩
set_option maxHeartbeats 4000000 in
theorem visit_3 {W0 w : World} {s : List Int} {cp g nx m : Nat} {D Wd O : Int} {sb so a : Nat} {depth x : Int} (hE : Env W0 s (some ⟨sb, so, none⟩)) (hK : Ck W0 s (some ⟨sb, so, none⟩) cp D Wd O g nx m w) (ha : a < s.length) (hx : nx ≤ s.length) (hm : m ≤ 4611686018427387904) (hcp : s.length ≤ cp) (hwx : wd s a = x) {v : Nat → Nat → Nat → Option (Nat × Nat)} (hv : InM s v) (hd0_ : 0 ≤ depth) (hd1_ : depth ≤ 1000000) (hV : VisC W0 s (some ⟨sb, so, none⟩) cp D Wd O g v (depth + 1)) (hz : ¬ x = 0) (hd : ¬ D < depth) (hkd : kindW x = 1) :
  Calls Tryd.prog 21 #[.pointer (some ⟨g, 0, none⟩), .int .i64 a, .int .i64 depth] w fun e w' => EndM W0 s (some ⟨sb, so, none⟩) cp D Wd O g w (listM s v a x nx m) e w' := by
 have HLEN := Lib.hid hE.len
 have hlen := hE.len
 have HWX := Lib.hid hwx
 clear hwx
 have HZ := Lib.hid hz
 have HD := Lib.hid hd
 clear hz hd
 have HI := Lib.hid hv
 have HV := Lib.hid hV
 clear hv hV
 have HKD := Lib.hid hkd
 clear hkd
 have GK := Lib.hid (Gr.refl g w)
 have CK := Lib.hid hK
 have HE := Lib.hid hE
 clear hE hK
 go_enter Tryd.func21, Tryd.ntmps21
 have hwc := wd_cell HE.out CK.out.below ha
 rw [HWX.out] at hwc
 have hxr := HE.out.word a
 rw [HWX.out] at hxr
 obtain ⟨hx0, hx1⟩ := hxr
 have a0_ : (0 : Int) ≤ (a : Int) := Int.natCast_nonneg _
 have a1_ : (a : Int) < (s.length : Int) := by omega
 have l_K : g < w.heap.size := blk_lt CK.out.blk
 have q_K_0 : w.cell? ⟨g, 0, none⟩ = some (.slice (some ⟨sb, so, none⟩) s.length cp) := (blk_cell CK.out.blk 0).trans rfl
 go_wp2_with fail
 clear hwc a0_ a1_ l_K q_K_0
 refine (isnull_any x false w (beq_eq_false_iff_ne.2 HZ.out)).mono ?_
 rintro e wy ⟨rfl, rfl⟩
 have l_K : g < w.heap.size := blk_lt CK.out.blk
 have q_K_2 : w.cell? ⟨g, 2, none⟩ = some (.int .i64 D) := (blk_cell CK.out.blk 2).trans rfl
 have q_K_3 : w.cell? ⟨g, 3, none⟩ = some (.int .i64 Wd) := (blk_cell CK.out.blk 3).trans rfl
 have q_K_4 : w.cell? ⟨g, 4, none⟩ = some (.int .i64 O) := (blk_cell CK.out.blk 4).trans rfl
 go_wp2_with fail
 clear l_K q_K_2 q_K_3 q_K_4
 refine (enter_any D Wd O depth 0 _ (if_neg (by have := HD.out; omega))).mono ?_
 rintro e w1 ⟨rfl, hb⟩
 replace GK := Lib.hid (GK.out.then hb)
 replace CK := Lib.hid (CK.out.then hb)
 clear hb
 have t1_ : True := trivial
 go_wp2_with fail
 refine (must_yes _).mono ?_
 rintro e wy ⟨rfl, rfl⟩
 go_wp2_with fail
 refine (decode_any x w1 hx0 hx1 (HE.out.dec.below CK.out.below)).mono ?_
 rw [show decV x = .agg #[.int .i64 1, .int .i64 (offW x), .int .i64 0, .int .i64 0, .int .i64 (elemW x), .int .i64 (cntW x), .bool false, .int .i64 0, .int .u32 0, .int .u32 0] by unfold decV aggP; rw [if_neg (by rw [HKD.out]; decide), if_pos HKD.out]]
 rintro e w2 ⟨rfl, hb⟩
 replace GK := Lib.hid (GK.out.then hb)
 replace CK := Lib.hid (CK.out.then hb)
 clear hb
 go_wp2_with fail
 refine calls_at (fun wz hW => ?_)
 have hb : Below w2.heap.size w2 wz := by rw [hW]; exact (Below.refl _ _).alloc (Nat.le_refl _) _
 clear hW
 replace GK := Lib.hid (GK.out.then hb)
 replace CK := Lib.hid (CK.out.then hb)
 clear hb
 have hC := list_any (at_ := a) HE.out CK.out x (by have := HLEN.out; omega) hx hm hcp HI.out hd0_ hd1_ HV.out
 unfold aggP at hC
 refine hC.mono ?_
 clear hC
 rintro e w9 (⟨q, hq, rfl, hg, hc⟩ | ⟨hq, rfl, hg⟩)
 ·have hg' := GK.out.trans hg
  have HQ := Lib.hid hq
  clear hq hg
  go_wp2
  first | go_end0 | refine bodyPost_ret (results_none rfl _ _ _) rfl ?_
  exact .inl ⟨q, HQ.out, rfl, hg', hc⟩
 ·have hg' := GK.out.trans hg
  have HQ := Lib.hid hq
  clear hq hg
  go_wp2
  exact ⟨rfl, .inr ⟨HQ.out, rfl, hg'⟩⟩
set_option maxHeartbeats 4000000 in
theorem visit_4 {W0 w : World} {s : List Int} {cp g nx m : Nat} {D Wd O : Int} {sb so a : Nat} {depth x : Int} (hE : Env W0 s (some ⟨sb, so, none⟩)) (hK : Ck W0 s (some ⟨sb, so, none⟩) cp D Wd O g nx m w) (ha : a < s.length) (hx : nx ≤ s.length) (hm : m ≤ 4611686018427387904) (hcp : s.length ≤ cp) (hwx : wd s a = x) (hz : ¬ x = 0) (hd : ¬ D < depth) (hk0 : ¬ kindW x = 0) (hk1 : ¬ kindW x = 1) :
  Calls Tryd.prog 21 #[.pointer (some ⟨g, 0, none⟩), .int .i64 a, .int .i64 depth] w fun e w' => e = .panicked [{ v := .iface 47 (.agg #[]), recovered := false }] ∧ Gr g w w' := by
 have HLEN := Lib.hid hE.len
 have hlen := hE.len
 have HWX := Lib.hid hwx
 clear hwx
 have HZ := Lib.hid hz
 have HD := Lib.hid hd
 clear hz hd
 have t0_ : (kindW x == 0) = false := beq_eq_false_iff_ne.2 hk0
 have t9_ : (kindW x == 1) = false := beq_eq_false_iff_ne.2 hk1
 clear hk0 hk1
 have GK := Lib.hid (Gr.refl g w)
 have CK := Lib.hid hK
 have HE := Lib.hid hE
 clear hE hK
 go_enter Tryd.func21, Tryd.ntmps21
 have hwc := wd_cell HE.out CK.out.below ha
 rw [HWX.out] at hwc
 have hxr := HE.out.word a
 rw [HWX.out] at hxr
 obtain ⟨hx0, hx1⟩ := hxr
 have a0_ : (0 : Int) ≤ (a : Int) := Int.natCast_nonneg _
 have a1_ : (a : Int) < (s.length : Int) := by omega
 have l_K : g < w.heap.size := blk_lt CK.out.blk
 have q_K_0 : w.cell? ⟨g, 0, none⟩ = some (.slice (some ⟨sb, so, none⟩) s.length cp) := (blk_cell CK.out.blk 0).trans rfl
 go_wp2_with fail
 clear hwc a0_ a1_ l_K q_K_0
 refine (isnull_any x false w (beq_eq_false_iff_ne.2 HZ.out)).mono ?_
 rintro e wy ⟨rfl, rfl⟩
 have l_K : g < w.heap.size := blk_lt CK.out.blk
 have q_K_2 : w.cell? ⟨g, 2, none⟩ = some (.int .i64 D) := (blk_cell CK.out.blk 2).trans rfl
 have q_K_3 : w.cell? ⟨g, 3, none⟩ = some (.int .i64 Wd) := (blk_cell CK.out.blk 3).trans rfl
 have q_K_4 : w.cell? ⟨g, 4, none⟩ = some (.int .i64 O) := (blk_cell CK.out.blk 4).trans rfl
 go_wp2_with fail
 clear l_K q_K_2 q_K_3 q_K_4
 refine (enter_any D Wd O depth 0 _ (if_neg (by have := HD.out; omega))).mono ?_
 rintro e w1 ⟨rfl, hb⟩
 replace GK := Lib.hid (GK.out.then hb)
 replace CK := Lib.hid (CK.out.then hb)
 clear hb
 have t1_ : True := trivial
 go_wp2_with fail
 refine (must_yes _).mono ?_
 rintro e wy ⟨rfl, rfl⟩
 go_wp2_with fail
 refine (decode_any x w1 hx0 hx1 (HE.out.dec.below CK.out.below)).mono ?_
 obtain ⟨fo, fd, fp, fe, fc, fb, fpa, fs, fl, hDec, _⟩ := decV_agg x
 rw [hDec]
 clear hDec
 rintro e w2 ⟨rfl, hb⟩
 replace GK := Lib.hid (GK.out.then hb)
 replace CK := Lib.hid (CK.out.then hb)
 clear hb
 go_wp2_with fail
 refine calls_at (fun wz hW => ?_)
 have hb : Below w2.heap.size w2 wz := by rw [hW]; exact (Below.refl _ _).alloc (Nat.le_refl _) _
 clear hW
 replace GK := Lib.hid (GK.out.then hb)
 replace CK := Lib.hid (CK.out.then hb)
 clear hb
 refine (must_no _).mono ?_
 rintro e wy ⟨rfl, rfl⟩
 go_wp2
 exact ⟨rfl, rfl, GK.out⟩
theorem visit_any {W0 : World} {s : List Int} {cp g : Nat} {D Wd O : Int} {sb so : Nat} (hE : Env W0 s (some ⟨sb, so, none⟩)) (hcp : s.length ≤ cp) (hD : D ≤ 900000) : ∀ (f : Nat) (depth : Int), 0 ≤ depth → f = (D + 1 - depth).toNat → VisC W0 s (some ⟨sb, so, none⟩) cp D Wd O g (visM s f) depth
 | 0, depth, hd0, hf => fun a nx m w ha hx hm hK => by
  unfold visM
  by_cases hz : wd s a = 0
  ·rw [if_pos hz]
   exact (visit_0 hE hK ha hx hm hcp rfl hz).mono fun e w' ⟨a, b, c⟩ => .inl ⟨_, rfl, a, b, c⟩
  ·rw [if_neg hz]
   exact (visit_1 hE hK ha hx hm hcp rfl hz (by omega)).mono fun e w' ⟨a, b⟩ => .inr ⟨rfl, a, b⟩
 | f + 1, depth, hd0, hf => fun a nx m w ha hx hm hK => by
  have hV := visit_any hE hcp hD (Wd := Wd) (O := O) (g := g) f (depth + 1) (by omega) (by omega)
  unfold visM
  by_cases hz : wd s a = 0
  ·rw [if_pos hz]
   exact (visit_0 hE hK ha hx hm hcp rfl hz).mono fun e w' ⟨a, b, c⟩ => .inl ⟨_, rfl, a, b, c⟩
  ·rw [if_neg hz]
   by_cases hk0 : kindW (wd s a) = 0
   ·rw [if_pos hk0]
    exact visit_2 hE hK ha hx hm hcp rfl (visM_in s f) hd0 (by omega) hV hz (by omega) hk0
   ·rw [if_neg hk0]
    by_cases hk1 : kindW (wd s a) = 1
    ·rw [if_pos hk1]
     exact visit_3 hE hK ha hx hm hcp rfl (visM_in s f) hd0 (by omega) hV hz (by omega) hk1
    ·rw [if_neg hk1]
     exact (visit_4 hE hK ha hx hm hcp rfl hz (by omega) hk0 hk1).mono fun e w' ⟨a, b⟩ => .inr ⟨rfl, a, b⟩
end Go.Proofs.YtidglmocekghmaaDoor.Pr
end
section
namespace Go.Proofs.YtidglmocekghmaaDoor.Pr
open Go.RowKit Go.Proofs.YtidglmocekghmaaDoorW.PrintWords Go.Proofs.YtidglmocekghmaaDoorW.PrintLast Go.Proofs.YtidglmocekghmaaDoorW.PrintMore
set_option linter.unusedVariables false
set_option linter.unusedSimpArgs false
def onlyN (Q : Exit → Act → World → Prop) : Exit → Act → World → Prop
 | .normal, a, w => Q .normal a w
 | _, _, _ => False
theorem onlyN_normal {Q : Exit → Act → World → Prop} {a : Act} {w : World} (h : Q .normal a w) : onlyN Q .normal a w := h
theorem wp_onlyN {P : Program} {c : Code} {Q : Exit → Act → World → Prop} {a : Act} {w : World} (h : c.wp P (onlyN Q) a w) : c.wp P Q a w := fun b k cs => by
 obtain ⟨e, a', w', q, r⟩ := h b k cs
 refine ⟨e, a', w', ?_, r⟩
 cases e <;> first | exact q | exact q.elim
set_option maxRecDepth 100000 in
theorem catch_viol (gr : Nat) (x : Bool) (w : World) (hc : w.cell? ⟨gr, 0, none⟩ = some (.bool x)) (hz : w.frozen? ⟨gr, 0, none⟩ = false) :
  CallsD Tryd.prog 18 #[.pointer (some ⟨gr, 0, none⟩)] (.panicking [{ v := .iface 47 (.agg #[]), recovered := false }]) w fun e u' w' =>
   e = .returned (.tuple #[]) ∧ u' = .panicking [{ v := .iface 47 (.agg #[]), recovered := true }] ∧ w' = (w.setCell ⟨gr, 0, none⟩ (.bool false)).alloc (.cells #[] 47) := by
 have hlt : gr < w.heap.size := World.block_lt_of_cell? w _ hc
 have hb : Below w.heap.size w (w.alloc (.cells #[] 47)) := (Below.refl _ _).alloc (Nat.le_refl _) _
 have hc2 := (hb.cell (p := ⟨gr, 0, none⟩) hlt).trans hc
 have hz2 := (hb.frozen (p := ⟨gr, 0, none⟩) hlt).trans hz
 clear hb
 have hta : ∀ w : World, (Instr.typeAssert (.iface 47 (.agg #[])) 20 47 true).run Tryd.prog w = .ok (.tuple #[.agg #[], .bool true]) w := fun w => by kernel_rfl
 refine callsD_of_wpS Tryd.func18 rfl fun c₀ cs hu => ?_
 apply wpS_seq
 apply wpS_region
 simp [wpOpsS, go_sem, recoverD, hu, Tryd.ntmps18, Exit.thenS]
 refine wpS_of_wp ?_
 change Code.wp Tryd.prog _ _ { tmps := #[.pointer (some ⟨gr, 0, none⟩), (Value.iface 47 (Value.agg #[])), undef, undef, (Value.iface 47 (Value.agg #[])), undef, undef, undef, undef, undef, undef, undef, undef, undef, undef], defers := [] } w
 go_wp2
 cases c₀
 simp_all [bodyPostS, results, Tryd.results18]
theorem catch_idle (p : Addr) (w : World) :
  CallsD Tryd.prog 18 #[.pointer (some p)] .returning w fun e u' w' => e = .returned (.tuple #[]) ∧ u' = .returning ∧ w' = w := by
 refine callsD_of_wpS Tryd.func18 rfl fun c₀ cs hu => ?_
 apply wpS_seq
 apply wpS_region
 simp [wpOpsS, go_sem, recoverD, hu, Tryd.ntmps18, Exit.thenS]
 refine wpS_of_wp ?_
 change Code.wp Tryd.prog _ _ { tmps := #[.pointer (some p), .nilIface, undef, undef, .nilIface, undef, undef, undef, undef, undef, undef, undef, undef, undef, undef], defers := [] } w
 go_wp2
 cases c₀
 simp_all [bodyPostS, results, Tryd.results18]
set_option maxHeartbeats 4000000 in
theorem words_none (A : Option Addr) (cp : Nat) (D Wd O : Int) (w : World) :
    Calls Tryd.prog 10 #[.slice A 0 cp, .agg #[.int .i64 D, .int .i64 Wd, .int .i64 O]] w fun e w' => e = .returned (.bool false) ∧ Below w.heap.size w w' := by
  have hmf : ∀ (fn : Fn) (first cap : Array Value) (w : World), (Instr.makeFunc fn first cap).run Tryd.prog w = .ok (.func fn first cap) w := fun _ _ _ _ => rfl
  go_enter_defers Tryd.func10, Tryd.ntmps10
  go_wp2_with fail
  refine calls_at (fun wa hW => ?_)
  have hBa : Below w.heap.size w wa := by rw [hW]; exact ((Below.refl _ _).alloc (Nat.le_refl _) _).alloc (by simp) _
  have hR : wa.heap[w.heap.size + 1]? = some (.cells #[.bool false] 4 (0, 0)) := by rw [hW]; exact blk_new _ _ _ (by simp)
  clear hW
  refine (must_no wa).mono ?_
  rintro e wy ⟨rfl, rfl⟩
  go_wp2
  refine leaves_cons (f := 18) (args := #[.pointer (some ⟨w.heap.size + 1, 0, none⟩)]) (by simp) (by simp [go_sem]) ?_
  refine (catch_viol (w.heap.size + 1) false _ ((blk_cell hR 0).trans rfl) (blk_frozen hR 0)).mono ?_
  rintro e u' w'' ⟨rfl, rfl, rfl⟩
  have hlR : w.heap.size + 1 < wa.heap.size := blk_lt hR
  have hRz : ((wa.setCell ⟨w.heap.size + 1, 0, none⟩ (.bool false)).alloc (.cells #[] 47)).cell? ⟨w.heap.size + 1, 0, none⟩ = some (.bool false) := (blk_cell (blk_alloc (blk_put hR 0 (.bool false) rfl) _) 0).trans rfl
  have hBz : Below w.heap.size w ((wa.setCell ⟨w.heap.size + 1, 0, none⟩ (.bool false)).alloc (.cells #[] 47)) := (hBa.setCell (p := ⟨w.heap.size + 1, 0, none⟩) (Nat.le_succ _) _).alloc (by have := hBa.size; simpa [World.setCell] using this) _
  simp [Leaves, settle, results, Tryd.results10, go_sem, hRz]
  exact hBz
set_option maxHeartbeats 8000000 in
theorem words_some (sb so cp : Nat) (s : List Int) (D Wd O : Int) (w : World) (hE : Env w s (some ⟨sb, so, none⟩)) (h0 : 0 < s.length) (hcp : s.length ≤ cp) (hD : D ≤ 900000) (hWd : Wd ≤ 4611686018427387904) (r : Bool) (hr : wordsM s D Wd = r) :
    Calls Tryd.prog 10 #[.slice (some ⟨sb, so, none⟩) s.length cp, .agg #[.int .i64 D, .int .i64 Wd, .int .i64 O]] w fun e w' => e = .returned (.bool r) ∧ Below w.heap.size w w' := by
  have hmf : ∀ (fn : Fn) (first cap : Array Value) (w : World), (Instr.makeFunc fn first cap).run Tryd.prog w = .ok (.func fn first cap) w := fun _ _ _ _ => rfl
  have HE := Lib.hid hE
  have HR := Lib.hid hr
  have hln := hE.len
  have t0_ : decide ((0 : Int) < (s.length : Int)) = true := decide_eq_true (by omega)
  have t1_ : decide (0 < s.length) = true := decide_eq_true h0
  clear hE hr
  go_enter_defers Tryd.func10, Tryd.ntmps10
  have HB := Lib.hid (Below.refl w.heap.size w)
  go_wp2_with fail
  refine calls_at (fun wa hW => ?_)
  have hb : Below w.heap.size w wa := by rw [hW]; exact ((Below.refl _ _).alloc (Nat.le_refl _) _).alloc (by simp) _
  have nL : wa.heap[w.heap.size]? = some (.cells #[.int .i64 D, .int .i64 Wd, .int .i64 O] 24 (0, 0)) := by rw [hW]; exact blk_alloc (heap_alloc_new _ _) _
  have nR : wa.heap[w.heap.size + 1]? = some (.cells #[.bool false] 4 (0, 0)) := by rw [hW]; exact blk_new _ _ _ (by simp)
  clear hW
  replace HB := Lib.hid (below_step HB.out hb)
  clear hb
  have L := Lib.hid nL
  have R := Lib.hid nR
  clear nL nR
  refine (must_yes wa).mono ?_
  rintro e wy ⟨rfl, rfl⟩
  go_wp2_with fail
  obtain ⟨mt, hmt⟩ : ∃ m, Wd.toNat = m := ⟨_, rfl⟩
  have HMT := Lib.hid hmt
  have hst : budget_Start.f D Wd O = some (mt : Int) := by unfold budget_Start.f mx; congr 1; omega
  clear hmt
  have l_L : w.heap.size < wa.heap.size := blk_lt L.out
  have q_L_0 : wa.cell? ⟨w.heap.size, 0, none⟩ = some (.int .i64 D) := (blk_cell L.out 0).trans rfl
  have q_L_1 : wa.cell? ⟨w.heap.size, 1, none⟩ = some (.int .i64 Wd) := (blk_cell L.out 1).trans rfl
  have q_L_2 : wa.cell? ⟨w.heap.size, 2, none⟩ = some (.int .i64 O) := (blk_cell L.out 2).trans rfl
  refine wp_onlyN ?_
  refine start_ (n := 7) (S := fun w' => w'.cell? ⟨w.heap.size, 0, none⟩ = some (.int .i64 D) ∧ w'.cell? ⟨w.heap.size, 1, none⟩ = some (.int .i64 Wd) ∧ w'.cell? ⟨w.heap.size, 2, none⟩ = some (.int .i64 O)) (ds := []) #[false, false, false, false, false, false, false] (by kernel_rfl) rfl rfl ⟨q_L_0, q_L_1, q_L_2⟩ (fun hHeld => ?_)
  obtain ⟨w1, hwd⟩ : ∃ W, W = wa.drew := ⟨_, rfl⟩
  rw [← hwd] at hHeld ⊢
  have hb : Below wa.heap.size wa w1 := by rw [hwd]; exact (Below.refl _ _).drew
  clear hwd
  replace HB := Lib.hid (below_step HB.out hb)
  replace L := Lib.hid (blk_below L.out hb)
  replace R := Lib.hid (blk_below R.out hb)
  clear hb
  refine pure_ (i := 0) (N := some 11) (v := ?_) (a' := ?_) #[true, false, false, false, false, false, false] rfl rfl (by kernel_rfl) (fun _ _ _ h => h) (Or.inl ⟨by rfl, ?_⟩) ?_ ?_
  rotate_left
  · intro w'
    go_simp
    with_reducible rfl
  rotate_left
  · simp only [Act.put, List.setIfInBounds_toArray, List.set_cons_zero, List.set_cons_succ, i64_w, i32_w]
    rfl
  refine take_ (i := 1) (N := some 12) (v := ?_) (a' := ?_) #[true, true, false, false, false, false, false] rfl rfl (by kernel_rfl) (fun _ _ _ h => h) (Or.inl ⟨by rfl, ?_⟩) hHeld ?_ ?_
  rotate_left
  · rintro w' ⟨s0, s1, s2⟩
    go_simp
    with_reducible rfl
  rotate_left
  · simp only [Act.put, List.setIfInBounds_toArray, List.set_cons_zero, List.set_cons_succ, i64_w, i32_w]
    rfl
  refine take_ (i := 2) (N := some 13) (v := ?_) (a' := ?_) #[true, true, true, false, false, false, false] rfl rfl (by kernel_rfl) (fun _ _ _ h => h) (Or.inl ⟨by rfl, ?_⟩) hHeld ?_ ?_
  rotate_left
  · rintro w' ⟨s0, s1, s2⟩
    go_simp
    with_reducible rfl
  rotate_left
  · simp only [Act.put, List.setIfInBounds_toArray, List.set_cons_zero, List.set_cons_succ, i64_w, i32_w]
    rfl
  refine one_ (i := 3) (N := some 14) #[true, true, true, true, false, false, false] rfl rfl (by kernel_rfl) (by decide) (fun K hK => ?_)
  refine goes_ Tryd.func20 (by kernel_rfl) rfl #[.agg #[.int .i64 D, .int .i64 Wd, .int .i64 O]] (by rfl) rfl rfl (by simp only [List.map_toArray, List.map_cons, List.map_nil]; rfl) ?_
  with_reducible refine (budget_Start.calls D Wd O mt _ hst).mono ?_
  rintro e w3 ⟨rfl, hb⟩
  refine ⟨_, rfl, ?_⟩
  have hll := blk_lt L.out
  have hll3 := Nat.lt_of_lt_of_le hll hb.size
  refine hK.out _ _ ⟨(hb.cell (p := ⟨w.heap.size, 0, none⟩) hll).trans hHeld.1, (hb.cell (p := ⟨w.heap.size, 1, none⟩) hll).trans hHeld.2.1, (hb.cell (p := ⟨w.heap.size, 2, none⟩) hll).trans hHeld.2.2⟩ (fun hHeld => ?_)
  clear hK K
  refine norm_ (a' := ?_) ?_ ?_
  rotate_left
  · show Act.put _ (some 14) _ = _
    simp only [Act.put, List.setIfInBounds_toArray, List.set_cons_zero, List.set_cons_succ, i64_w, i32_w]
    rfl
  refine pure_ (i := 4) (N := some 15) (v := ?_) (a' := ?_) #[true, true, true, true, true, false, false] rfl rfl (by kernel_rfl) (fun _ _ _ h => h) (Or.inl ⟨by rfl, ?_⟩) ?_ ?_
  rotate_left
  · intro w'
    go_simp
    with_reducible rfl
  rotate_left
  · simp only [Act.put, List.setIfInBounds_toArray, List.set_cons_zero, List.set_cons_succ, i64_w, i32_w]
    rfl
  refine one_ (i := 5) (N := some 16) #[true, true, true, true, true, true, false] rfl rfl (by kernel_rfl) (by decide) (fun K hK => ?_)
  refine value_ (w1 := ?_) (v := ?_) (by rfl) rfl ?_ ?_
  rotate_left 2
  · go_simp
    constructor
    · rfl
    · rfl
  refine hK.out _ _ ⟨(((Below.refl _ _).alloc (Nat.le_refl _) _).cell (p := ⟨w.heap.size, 0, none⟩) hll3).trans hHeld.1, (((Below.refl _ _).alloc (Nat.le_refl _) _).cell (p := ⟨w.heap.size, 1, none⟩) hll3).trans hHeld.2.1, (((Below.refl _ _).alloc (Nat.le_refl _) _).cell (p := ⟨w.heap.size, 2, none⟩) hll3).trans hHeld.2.2⟩ (fun hHeld => ?_)
  clear hK K
  refine norm_ (a' := ?_) ?_ ?_
  rotate_left
  · show Act.put _ (some 16) _ = _
    simp only [Act.put, List.setIfInBounds_toArray, List.set_cons_zero, List.set_cons_succ, i64_w, i32_w]
    rfl
  refine pure_ (i := 6) (N := some 5) (v := ?_) (a' := ?_) #[true, true, true, true, true, true, true] rfl rfl (by kernel_rfl) (fun _ _ _ h => h) (Or.inl ⟨by rfl, ?_⟩) ?_ ?_
  rotate_left
  · intro w'
    go_simp
    with_reducible rfl
  rotate_left
  · simp only [Act.put, List.setIfInBounds_toArray, List.set_cons_zero, List.set_cons_succ, i64_w, i32_w]
    rfl
  refine done_ (by kernel_rfl) ?_
  refine onlyN_normal ?_
  clear l_L q_L_0 q_L_1 q_L_2
  clear hHeld hll hll3
  replace HB := Lib.hid (below_step HB.out hb)
  replace L := Lib.hid (blk_below L.out hb)
  replace R := Lib.hid (blk_below R.out hb)
  clear hb hst
  clear L
  go_wp2_with fail
  refine calls_at (fun wc hW => ?_)
  have hb : Below w3.heap.size w3 wc := by rw [hW]; exact (Below.refl _ _).alloc (Nat.le_refl _) _
  obtain ⟨g, hg⟩ : ∃ g, w3.heap.size = g := ⟨_, rfl⟩
  have nK : wc.heap[g]? = some (.cells #[.slice (some ⟨sb, so, none⟩) s.length cp, .int .i64 ((1 : Nat) : Int), .int .i64 D, .int .i64 Wd, .int .i64 O, .int .i64 mt] 55 (0, 0)) := by rw [hW, ← hg]; exact heap_alloc_new _ _
  have hge : w.heap.size ≤ g := by rw [← hg]; exact HB.out.size
  have hRg : w.heap.size + 1 < g := by rw [← hg]; exact blk_lt R.out
  rw [hg]
  clear hW hg
  replace HB := Lib.hid (below_step HB.out hb)
  replace R := Lib.hid (blk_below R.out hb)
  clear hb
  have CK : Hid (Ck w s (some ⟨sb, so, none⟩) cp D Wd O g 1 mt wc) := Lib.hid ⟨HB.out, hge, nK⟩
  clear nK
  have hm : mt ≤ 4611686018427387904 := by have := HMT.out; omega
  have hV := visit_any HE.out hcp hD (Wd := Wd) (O := O) (g := g) D.toNat 1 (by omega) (by omega) 0 1 mt wc h0 (by omega) hm CK.out
  have HV := Lib.hid hV
  clear hV
  have HM : Hid (r = match visM s D.toNat 0 1 mt with | none => false | some q => decide (q.1 = s.length)) := Lib.hid (by rw [← HR.out, ← HMT.out]; unfold wordsM; rw [decide_eq_true h0]; rfl)
  clear HR
  generalize visM s D.toNat 0 1 mt = vr at HV HM
  refine HV.out.mono ?_
  clear HV
  rintro e w9 (⟨q, rfl, rfl, hg, hc⟩ | ⟨rfl, rfl, hg⟩)
  · have R9 := hg.blk R.out (by omega)
    have hcb := hc.below
    have hl9 : g < w9.heap.size := blk_lt hc.blk
    have q9 : w9.cell? ⟨g, 1, none⟩ = some (.int .i64 (q.1 : Int)) := (blk_cell hc.blk 1).trans rfl
    have hr9 : w9.cell? ⟨w.heap.size + 1, 0, none⟩ = some (.bool false) := (blk_cell R9 0).trans rfl
    have hf9 : w9.frozen? ⟨w.heap.size + 1, 0, none⟩ = false := blk_frozen R9 0
    have hrl : w.heap.size + 1 < w9.heap.size := blk_lt R9
    obtain ⟨b9, hb9⟩ : ∃ b, ((q.1 : Int) == (s.length : Int)) = b := ⟨_, rfl⟩
    have HB9 := Lib.hid hb9
    have H9 := Lib.hid R9
    have HCB := Lib.hid hcb
    clear hg hc R9 hcb
    go_wp2
    clear q9 hr9 hf9 hl9
    refine leaves_cons (f := 18) (args := #[.pointer (some ⟨w.heap.size + 1, 0, none⟩)]) (by simp) (by simp [go_sem]) ?_
    refine (catch_idle ⟨w.heap.size + 1, 0, none⟩ _).mono ?_
    rintro e u' w'' ⟨rfl, rfl, rfl⟩
    clear hb9
    have hRz : (w9.setCell ⟨w.heap.size + 1, 0, none⟩ (.bool b9)).cell? ⟨w.heap.size + 1, 0, none⟩ = some (.bool b9) := (blk_cell (blk_put H9.out 0 (.bool b9) rfl) 0).trans rfl
    have hBz : Below w.heap.size w (w9.setCell ⟨w.heap.size + 1, 0, none⟩ (.bool b9)) := HCB.out.setCell (p := ⟨w.heap.size + 1, 0, none⟩) (Nat.le_succ _) _
    simp [Leaves, settle, results, Tryd.results10, go_sem, hRz]
    refine ⟨?_, hBz⟩
    rw [HM.out, ← HB9.out]
    by_cases hq : q.1 = s.length
    · simp [hq]
    · simp [hq]; omega
  · have R9 := hg.blk R.out (by omega)
    have hcb : Below w.heap.size w w9 := HB.out.grown hg HB.out.size (fun k hk => by cases hk; exact hge)
    obtain rfl : r = false := HM.out
    clear HM hg
    go_wp2
    refine leaves_cons (f := 18) (args := #[.pointer (some ⟨w.heap.size + 1, 0, none⟩)]) (by simp) (by simp [go_sem]) ?_
    refine (catch_viol (w.heap.size + 1) false _ ((blk_cell R9 0).trans rfl) (blk_frozen R9 0)).mono ?_
    rintro e u' w'' ⟨rfl, rfl, rfl⟩
    have hlR : w.heap.size + 1 < w9.heap.size := blk_lt R9
    have hRz : ((w9.setCell ⟨w.heap.size + 1, 0, none⟩ (.bool false)).alloc (.cells #[] 47)).cell? ⟨w.heap.size + 1, 0, none⟩ = some (.bool false) := (blk_cell (blk_alloc (blk_put R9 0 (.bool false) rfl) _) 0).trans rfl
    have hBz : Below w.heap.size w ((w9.setCell ⟨w.heap.size + 1, 0, none⟩ (.bool false)).alloc (.cells #[] 47)) := (hcb.setCell (p := ⟨w.heap.size + 1, 0, none⟩) (Nat.le_succ _) _).alloc (by have := hcb.size; simpa [World.setCell] using this) _
    simp [Leaves, settle, results, Tryd.results10, go_sem, hRz]
    exact hBz
theorem words_any (A : Option Addr) (cp : Nat) (s : List Int) (D Wd O : Int) (w : World) (hE : Env w s A) (hcp : s.length ≤ cp) (hD : D ≤ 900000) (hWd : Wd ≤ 4611686018427387904) :
  Calls Tryd.prog 10 #[.slice A s.length cp, .agg #[.int .i64 D, .int .i64 Wd, .int .i64 O]] w fun e w' => e = .returned (.bool (wordsM s D Wd)) ∧ Below w.heap.size w w' := by
 by_cases h0 : 0 < s.length
 ·obtain ⟨sb, so, rfl⟩ := hE.addr h0
  exact words_some sb so cp s D Wd O w hE h0 hcp hD hWd _ rfl
 ·have hs : s = [] := List.eq_nil_of_length_eq_zero (by omega)
  subst hs
  have e : wordsM [] D Wd = false := by unfold wordsM; simp
  rw [e]
  exact words_none A cp D Wd O w
#print axioms words_any
end Go.Proofs.YtidglmocekghmaaDoor.Pr
end
section
namespace Go.Proofs.YtidglmocekghmaaDoor.Pr
open Go.RowKit Go.Proofs.YtidglmocekghmaaDoorW.PrintWords Go.Proofs.YtidglmocekghmaaDoorW.PrintLast Go.Proofs.YtidglmocekghmaaDoorW.PrintMore
set_option linter.unusedVariables false
set_option linter.unusedSimpArgs false
structure Tabs (w : World) : Prop where
 tab : Ls.Tab w
 dec : Dec w
theorem Tabs.below {w w1 : World} (h : Tabs w) (hb : Below w.heap.size w w1) : Tabs w1 := ⟨h.tab.below hb, h.dec.below hb⟩
def okW (l : List Int) : Bool := (l.all fun x => decide (0 ≤ x) && decide (x < 18446744073709551616)) && Nat.ble l.length 17592186040320
theorem okW_all {l : List Int} (h : okW l = true) : ∀ x ∈ l, 0 ≤ x ∧ x < 18446744073709551616 := fun x hx => by
 unfold okW at h
 rw [Bool.and_eq_true] at h
 have := List.all_eq_true.1 h.1 x hx
 simpa using this
theorem okW_len {l : List Int} (h : okW l = true) : l.length ≤ 17592186040320 := by
 unfold okW at h
 rw [Bool.and_eq_true] at h
 exact Nat.le_of_ble_eq_true h.2
def canoncheck_Words.f (_ : Nat) (l0 : List Int) (a0 a1 a2 : Int) : Option Bool := if okW l0 = true then (if a0 ≤ 900000 then (if a1 ≤ 4611686018427387904 then some (wordsM l0 a0 a1) else none) else none) else none
theorem canoncheck_Words.calls (k : Nat) (A0 : Option Addr) (c0 : Nat) (l0 : List Int) (a0 a1 a2 : Int) (r : Bool) (w : World) (hr0 : Kd.C (Kd.int .u64) w A0 l0.length l0) (hc0 : l0.length ≤ c0) (h : canoncheck_Words.f k l0 a0 a1 a2 = some r) (ht : Tabs w) :
  Calls Tryd.prog 10 #[.slice A0 l0.length c0, .agg #[.int .i64 a0, .int .i64 a1, .int .i64 a2]] w fun e w' => e = .returned (.bool r) ∧ Below w.heap.size w w' := by
 unfold canoncheck_Words.f at h
 split at h
 ·rename_i hok
  split at h
  ·split at h
   ·obtain rfl := Option.some.inj h
    exact words_any A0 c0 l0 a0 a1 a2 w ⟨hr0, ht.tab, ht.dec, okW_all hok, okW_len hok⟩ hc0 (by assumption) (by assumption)
   ·cases h
  ·cases h
 ·cases h
end Go.Proofs.YtidglmocekghmaaDoor.Pr
end
section
namespace Go.Proofs.YtidglmocekghmaaDoor.TabD
open Go.Proofs.YtidglmocekghmaaDoorW.PrintWords Go.Proofs.YtidglmocekghmaaDoorW.PrintLast Go.Proofs.YtidglmocekghmaaDoorW.PrintMore Go.Proofs.YtidglmocekghmaaDoor.Pr Go.WideElems Go.ChangeShapes Go.WideShapes Go.ChangeAt Go.RowKit Go.Maps
set_option linter.unusedVariables false
set_option linter.unusedSimpArgs false
theorem gTab : Tryd.prog.globalNamed "capnp/listsize.bits" = some 1 := by kernel_rfl
theorem gTabType : (Tryd.prog.globals[1]?).map (·.type) = some 114 := by kernel_rfl
theorem cellsT : Tryd.prog.cellsOf 114 = 8 := by kernel_rfl
theorem cellsE : Tryd.prog.cellsOf 3 = 1 := by kernel_rfl
theorem gDec : Tryd.prog.globalNamed "capnp/pointer.decoders" = some 0 := by kernel_rfl
theorem gDecType : (Tryd.prog.globals[0]?).map (·.type) = some 97 := by kernel_rfl
def laidL : List (String × DataW Unit) := [("capnp/pointer.decoders", Rows.laid_capnp_pointer_decoders), ("capnp/listsize.bits", Rows.laid_capnp_listsize_bits)]
theorem ofData {W : World} (h : laidMetH Tryd.prog laidL W) : laidMet Tryd.prog [("capnp/listsize.bits", Rows.laid_capnp_listsize_bits)] W := h.1
theorem table {W : World} (h : laidMetH Tryd.prog laidL W) : Lib.TabIs Tryd.prog W "capnp/listsize.bits" .i64 [0, 1, 8, 16, 32, 64, 64, 0] :=
 Lib.tabIs_of_head (rest := []) gTab gTabType Tryd.underlying114 Tryd.underlying3 cellsE cellsT (ofData h)
theorem tab {W : World} (h : laidMetH Tryd.prog laidL W) : Ls.Tab W :=
 ⟨(table h).cell gTab 0 (by decide), (table h).cell gTab 1 (by decide), (table h).cell gTab 2 (by decide), (table h).cell gTab 3 (by decide), (table h).cell gTab 4 (by decide), (table h).cell gTab 5 (by decide), (table h).cell gTab 6 (by decide), (table h).cell gTab 7 (by decide)⟩
theorem law3 : Keyed Tryd.prog 3 := int_keyed Tryd.underlying3
theorem zero68 (w : World) : (zeroValue 68).run Tryd.prog w = .ok .nilFunc w := by kernel_rfl
theorem one_cell {P : Program} {W : World} {n : Nat} {t : TypeId} {ps rs : Array TypeId} {va : Bool} {v : Value} {y : DataW (List UInt8) × List MemPlace} (ht : P.underlying t = some (.func ps rs va)) (h : elemAt (funcToken P) P W 0 (fun _ => true) true n t v = some y) : DataW.trod (funcToken P) P W 0 (fun _ => true) true n t [v] = some y := by
 unfold elemAt at h
 split at h
 ·rename_i hf
  have hc : v.cells = #[v] := by
   cases v with
   | agg cs => simp [Value.formed, ht] at hf
   | _ => rfl
  rw [hc] at h
  exact h
 ·cases h
theorem dec {W : World} (h : laidMetH Tryd.prog laidL W) : Dec W := by
 obtain ⟨g, t, cs, fuel, p, hg, ht, hv, hd⟩ := h.funcs (n := "capnp/pointer.decoders") (List.mem_cons_self ..)
 obtain rfl := Option.some.inj (gDec.symm.trans hg)
 obtain rfl := Option.some.inj (gDecType.symm.trans ht)
 have hd' : DataW.trod (funcToken Tryd.prog) Tryd.prog W 0 (fun _ => true) true fuel 97 cs.toList = some (.map [(Lit.int .i64 0, DataW.held [99, 97, 112, 110, 112, 47, 112, 111, 105, 110, 116, 101, 114, 46, 100, 101, 99, 111, 100, 101, 114, 115, 36, 49]), (Lit.int .i64 1, DataW.held [99, 97, 112, 110, 112, 47, 112, 111, 105, 110, 116, 101, 114, 46, 100, 101, 99, 111, 100, 101, 114, 115, 36, 50]), (Lit.int .i64 2, DataW.held [99, 97, 112, 110, 112, 47, 112, 111, 105, 110, 116, 101, 114, 46, 100, 101, 99, 111, 100, 101, 114, 115, 36, 51]), (Lit.int .i64 3, DataW.held [99, 97, 112, 110, 112, 47, 112, 111, 105, 110, 116, 101, 114, 46, 100, 101, 99, 111, 100, 101, 114, 115, 36, 52])], p) := hd
 rcases open_map Tryd.underlying97 hd' with ⟨_, hx⟩ | ⟨b, es, clock, n, rfl, hcs, hb, _, F, hx⟩
 ·simp at hx
 ·simp only [Prod.mk.injEq] at hx
  obtain ⟨hm, _⟩ := hx
  have hblt : b < W.heap.size := by
   rcases Nat.lt_or_ge b W.heap.size with hl | hl
   ·exact hl
   ·rw [Array.getElem?_eq_none hl] at hb; cases hb
  have hE : W.cell? ⟨0, 0, none⟩ = some (.map (some b)) := by
   have e : cs = #[.map (some b)] := by cases cs; simp_all
   subst e
   simpa using World.var?_cell hg hv 0
  refine ⟨b, hE, hblt, fun W' hW' => ?_⟩
  have hb' : W'.heap[b]? = some (.map es clock) := hW'.trans hb
  have key : ∀ (i : Int) (c : UInt8) (r : List UInt8) (f0 : FuncId), (Lit.int .i64 i).wf = true → (∀ zd, (DataW.map [(Lit.int .i64 0, DataW.held [99, 97, 112, 110, 112, 47, 112, 111, 105, 110, 116, 101, 114, 46, 100, 101, 99, 111, 100, 101, 114, 115, 36, 49]), (Lit.int .i64 1, DataW.held [99, 97, 112, 110, 112, 47, 112, 111, 105, 110, 116, 101, 114, 46, 100, 101, 99, 111, 100, 101, 114, 115, 36, 50]), (Lit.int .i64 2, DataW.held [99, 97, 112, 110, 112, 47, 112, 111, 105, 110, 116, 101, 114, 46, 100, 101, 99, 111, 100, 101, 114, 115, 36, 51]), (Lit.int .i64 3, DataW.held [99, 97, 112, 110, 112, 47, 112, 111, 105, 110, 116, 101, 114, 46, 100, 101, 99, 111, 100, 101, 114, 115, 36, 52])]).atKey (Lit.int .i64 i) zd = .held (c :: r)) → ((List.range Tryd.prog.funcs.size).filter fun f => (Tryd.prog.funcs[f]?).any (·.name.toUTF8.data.toList == c :: r)) = [f0] →
    (Instr.lookup 97 (.map (some b)) (.int .i64 i) false).run Tryd.prog W' = .ok (.func (.func f0) #[] #[]) W' := by
   intro i c r f0 hwf hat hone
   rcases fit_look false law3 Tryd.underlying97 (zero68 W') hb' F (keyOf_int_mk Tryd.underlying3 hwf) with ⟨_, _, h3⟩ | ⟨e0, y, _, _, hrun, hR, h3, _⟩
   ·have := h3 (.nil)
    rw [← hm, hat] at this
    cases this
   ·have e1 := h3 (.nil)
    rw [← hm, hat] at e1
    obtain ⟨y1, y2⟩ := y
    simp only at e1
    subst e1
    have e2 := func_of_trod (f0 := f0) Tryd.underlying68 hone (one_cell Tryd.underlying68 hR)
    rw [e2] at hrun
    simpa using hrun
  exact ⟨key 0 _ _ 101 (by decide) (fun zd => rfl) (by kernel_rfl), key 1 _ _ 103 (by decide) (fun zd => rfl) (by kernel_rfl), key 2 _ _ 104 (by decide) (fun zd => rfl) (by kernel_rfl), key 3 _ _ 105 (by decide) (fun zd => rfl) (by kernel_rfl)⟩
theorem tabs {W : World} (h : laidMetH Tryd.prog laidL W) : Pr.Tabs W := ⟨tab h, dec h⟩
theorem u8_range {n : Int} (h : (Lit.int .u8 n).wf = true) : 0 ≤ n ∧ n ≤ 255 := by
 simpa [Lit.wf, IntKind.min, IntKind.max, IntKind.signed, IntKind.bits] using h
end Go.Proofs.YtidglmocekghmaaDoor.TabD
end
section
namespace Go.Proofs.YtidglmocekghmaaDoor.Pr
open Go.RowKit Go.Proofs.YtidglmocekghmaaDoorW.PrintWords Go.Proofs.YtidglmocekghmaaDoorW.PrintLast Go.Proofs.YtidglmocekghmaaDoorW.PrintMore
set_option linter.unusedVariables false
set_option linter.unusedSimpArgs false
inductive Asr : Type 1
 | box (g : Nat) (cs : Array Value) (t : Nat)
 | row {α : Type} (d : Kd α) (e : Nat) (v : Value) (xs : List α)
 | made {α : Type} (d : Kd α) (x : α) (cs : List Value)
def Asr.holds (w : World) (b : Nat) (F : Nat → Prop) : Asr → Prop
 | .box g cs t => F g ∧ b ≤ g ∧ w.heap[g]? = some (.cells cs t (0, 0))
 | .row d e v xs => d.R e w b F v xs
 | .made d x cs => d.M w b F x cs
section
variable {w w1 w0 : World} {b b' : Nat} {F F' F2 A A' : Nat → Prop} {a a2 : Asr} {L L' : List Asr}
theorem Asr.holds.mono (h : a.holds w b F) (hF : ∀ k, F k → F' k) : a.holds w b F' := by
 cases a with
 | box g cs t => exact ⟨hF _ h.1, h.2⟩
 | row d e v xs => exact Kd.R_mono h hF
 | made d x cs => exact d.M_mono hF h
theorem Asr.holds.step (h : a.holds w b F) (hm : ∀ k, F k → k < w.heap.size → w1.heap[k]? = w.heap[k]?) : a.holds w1 b F := by
 cases a with
 | box g cs t => exact ⟨h.1, h.2.1, (hm g h.1 (blk_lt h.2.2)).trans h.2.2⟩
 | row d e v xs => exact Kd.R_step h hm
 | made d x cs => exact Kd.M_step h hm
theorem Asr.holds.bound (h : a.holds w b F) : a.holds w b (fun k => F k ∧ b ≤ k ∧ k < w.heap.size) := by
 cases a with
 | box g cs t => exact ⟨⟨h.1, h.2.1, blk_lt h.2.2⟩, h.2⟩
 | row d e v xs => exact Kd.R_mono (Kd.R_bound h) (fun k hk => ⟨hk.1, hk.2.1, hk.2.2.1⟩)
 | made d x cs => exact d.M_mono (fun k hk => ⟨hk.1, hk.2.1, hk.2.2.1⟩) (d.M_bound h)
theorem Asr.holds.lower (h : a.holds w b F) (hb : b' ≤ b) : a.holds w b' F := by
 cases a with
 | box g cs t => exact ⟨h.1, Nat.le_trans hb h.2.1, h.2.2⟩
 | row d e v xs => exact Kd.R_lower h hb
 | made d x cs => exact d.M_lower hb h
def Sat (w : World) (b : Nat) : List Asr → (Nat → Prop) → Prop
 | [], _ => True
 | a :: r, A => ∃ F, (∀ k, F k → A k) ∧ a.holds w b F ∧ Sat w b r (fun k => A k ∧ ¬ F k)
theorem Sat.mono : ∀ {L : List Asr} {A A' : Nat → Prop}, Sat w b L A → (∀ k, A k → A' k) → Sat w b L A'
 | [], _, _, _, _ => trivial
 | _ :: _, _, _, ⟨F, h1, h2, h3⟩, hA => ⟨F, fun k hk => hA k (h1 k hk), h2, Sat.mono h3 (fun k hk => ⟨hA k hk.1, hk.2⟩)⟩
theorem Sat.step : ∀ {L : List Asr} {A : Nat → Prop}, Sat w b L A → (∀ k, A k → k < w.heap.size → w1.heap[k]? = w.heap[k]?) → Sat w1 b L A
 | [], _, _, _ => trivial
 | _ :: _, _, ⟨F, h1, h2, h3⟩, hm => ⟨F, h1, h2.step (fun k hk => hm k (h1 k hk)), Sat.step h3 (fun k hk => hm k hk.1)⟩
theorem Sat.swap (h : Sat w b (a :: a2 :: L) A) : Sat w b (a2 :: a :: L) A := by
 obtain ⟨F, h1, h2, G, h3, h4, h5⟩ := h
 exact ⟨G, fun k hk => (h3 k hk).1, h4, F, fun k hk => ⟨h1 k hk, fun hg => (h3 k hg).2 hk⟩, h2, h5.mono (fun k hk => ⟨⟨hk.1.1, hk.2⟩, hk.1.2⟩)⟩
theorem Sat.cons (h : Sat w b L A) (ha : a.holds w b F) (hF : ∀ k, F k → A' k) (hA : ∀ k, A k → A' k ∧ ¬ F k) : Sat w b (a :: L) A' := ⟨F, hF, ha, h.mono hA⟩
theorem Sat.tail (h : Sat w b (a :: L) A) : Sat w b L A := by
 obtain ⟨F, _, _, h3⟩ := h
 exact h3.mono (fun k hk => hk.1)
theorem Sat.pick : ∀ {n : Nat} {L : List Asr} {A : Nat → Prop}, Sat w b L A → L[n]? = some a → Sat w b (a :: L.eraseIdx n) A
 | 0, x :: r, _, h, e => by
  obtain rfl : x = a := by simpa using e
  exact h
 | n + 1, x :: r, A, ⟨F, h1, h2, h3⟩, e => by
  have h4 : Sat w b (x :: a :: r.eraseIdx n) A := ⟨F, h1, h2, Sat.pick h3 (by simpa using e)⟩
  exact h4.swap
 | _, [], _, _, e => by simp at e
inductive Has (a : Asr) : List Asr → Prop
 | here {r : List Asr} : Has a (a :: r)
 | there {x : Asr} {r : List Asr} (h : Has a r) : Has a (x :: r)
theorem Sat.has : ∀ {L : List Asr} {A : Nat → Prop}, Has a L → Sat w b L A → a.holds w b A
 | _, _, .here, ⟨_, h1, h2, _⟩ => h2.mono h1
 | _, _, .there h, hs => Sat.has h hs.tail
inductive Upd (g t : Nat) (cs cs' : Array Value) : List Asr → List Asr → Prop
 | here {r : List Asr} : Upd g t cs cs' (.box g cs t :: r) (.box g cs' t :: r)
 | there {x : Asr} {r r' : List Asr} (h : Upd g t cs cs' r r') : Upd g t cs cs' (x :: r) (x :: r')
theorem Upd.has {g t : Nat} {cs cs' : Array Value} {L L' : List Asr} (h : Upd g t cs cs' L L') : Has (.box g cs t) L := by
 induction h with
 | here => exact .here
 | there _ ih => exact .there ih
theorem Sat.upd {g t : Nat} {cs cs' : Array Value} (hc : w1.heap[g]? = some (.cells cs' t (0, 0))) (hk : ∀ k, k ≠ g → w1.heap[k]? = w.heap[k]?) :
  ∀ {L L' : List Asr} {A : Nat → Prop}, Upd g t cs cs' L L' → Sat w b L A → Sat w1 b L' A
 | _, _, _, .here, ⟨F, h1, h2, h3⟩ => ⟨F, h1, ⟨h2.1, h2.2.1, hc⟩, h3.step (fun k h _ => hk k (fun e => h.2 (e ▸ h2.1)))⟩
 | _, _, _, .there h, ⟨F, h1, h2, h3⟩ => ⟨F, h1, h2.step (fun k hF _ => hk k (fun e => (Sat.has h.has h3).1.2 (e ▸ hF))), Sat.upd hc hk h h3⟩
structure Sep (w0 w : World) (L : List Asr) : Prop where
 below : Below w0.heap.size w0 w
 sat : Sat w w0.heap.size L (fun k => k < w.heap.size)
theorem Sep.start (w : World) : Sep w w [] := ⟨Below.refl _ _, trivial⟩
theorem Sep.at_ (h : Sep w0 w L) (e : w1 = w) : Sep w0 w1 L := e ▸ h
theorem Sep.call (S : Sep w0 w L) (hb : Below w.heap.size w w1) : Sep w0 w1 L := ⟨below_step S.below hb, (S.sat.step (fun k hk _ => hb.block k hk)).mono (fun k hk => Nat.lt_of_lt_of_le hk hb.size)⟩
theorem Sep.drew (S : Sep w0 w L) : Sep w0 w.drew L := S.call (below_drew1 (Below.refl _ _))
theorem Sep.drewN (S : Sep w0 w L) (n : Nat) : Sep w0 (w.drewN n) L := S.call (pw_below_drewN (Below.refl _ _) n)
theorem Sep.push (S : Sep w0 w L) (hb : Below w.heap.size w w1) (h : a.holds w1 w.heap.size F) : Sep w0 w1 (a :: L) := by
 have T := S.call hb
 refine ⟨T.below, Sat.cons (S.sat.step (fun k hk _ => hb.block k hk)) (h.bound.lower S.below.size) (fun k hk => hk.2.2) (fun k hk => ⟨Nat.lt_of_lt_of_le hk hb.size, fun e => ?_⟩)⟩
 have := e.2.1
 omega
theorem Sep.new (S : Sep w0 w L) (cs : Array Value) (t : Nat) : Sep w0 (w.alloc (.cells cs t (0, 0))) (.box w.heap.size cs t :: L) :=
 S.push (F := fun _ => True) ((Below.refl _ _).alloc (Nat.le_refl _) _) ⟨trivial, Nat.le_refl _, heap_alloc_new _ _⟩
theorem Sep.tail (S : Sep w0 w (a :: L)) : Sep w0 w L := ⟨S.below, S.sat.tail⟩
theorem Sep.swap (S : Sep w0 w (a :: a2 :: L)) : Sep w0 w (a2 :: a :: L) := ⟨S.below, S.sat.swap⟩
theorem Sep.pick (S : Sep w0 w L) (n : Nat) (h : L[n]? = some a) (e : L.eraseIdx n = L') : Sep w0 w (a :: L') := e ▸ ⟨S.below, S.sat.pick h⟩
theorem Sep.nil (S : Sep w0 w L) {α : Type} (d : Kd α) (e : Nat) : Sep w0 w (.row d e (.slice none 0 0) [] :: L) :=
 ⟨S.below, Sat.cons (F := fun _ => False) S.sat (Kd.R_nil d e w _ _) (fun k h => h.elim) (fun k hk => ⟨hk, fun h => h⟩)⟩
theorem Sep.get (S : Sep w0 w L) (h : Has a L) : a.holds w w0.heap.size (fun k => k < w.heap.size) := Sat.has h S.sat
theorem Sep.blk {g t : Nat} {cs : Array Value} (S : Sep w0 w L) (h : Has (.box g cs t) L) : w.heap[g]? = some (.cells cs t (0, 0)) := (S.get h).2.2
structure Only (g : Nat) (w w1 : World) : Prop where
 os : w1.os = w.os
 tape : w1.tape = w.tape
 output : w1.output = w.output
 size : w1.heap.size = w.heap.size
 block : ∀ k, k ≠ g → w1.heap[k]? = w.heap[k]?
theorem Sep.upd {g t : Nat} {cs cs' : Array Value} (S : Sep w0 w L) (hU : Upd g t cs cs' L L') (ho : Only g w w1) (hc : w1.heap[g]? = some (.cells cs' t (0, 0))) : Sep w0 w1 L' := by
 have hge := (S.get hU.has).2.1
 refine ⟨⟨ho.os.trans S.below.os, ho.tape.trans S.below.tape, ho.output.trans S.below.output, by rw [ho.size]; exact S.below.size, fun k hk => (ho.block k (by omega)).trans (S.below.block k hk)⟩, ?_⟩
 rw [ho.size]
 exact Sat.upd hc ho.block hU S.sat
def cellsOf (w : World) : List Asr → Prop
 | [] => True
 | .box g cs _ :: r => (∀ i, w.cell? ⟨g, i, none⟩ = cs[i]?) ∧ (∀ i, w.frozen? ⟨g, i, none⟩ = false) ∧ cellsOf w r
 | .row _ _ _ _ :: r => cellsOf w r
 | .made _ _ _ :: r => cellsOf w r
theorem Sat.cells : ∀ {L : List Asr} {A : Nat → Prop}, Sat w b L A → cellsOf w L
 | [], _, _ => trivial
 | .box _ _ _ :: _, _, ⟨_, _, h2, h3⟩ => ⟨fun i => blk_cell h2.2.2 i, fun i => blk_frozen h2.2.2 i, Sat.cells h3⟩
 | .row _ _ _ _ :: r, _, ⟨_, _, _, h3⟩ => Sat.cells (L := r) h3
 | .made _ _ _ :: r, _, ⟨_, _, _, h3⟩ => Sat.cells (L := r) h3
theorem Sep.cells (S : Sep w0 w L) : cellsOf w L := S.sat.cells
def putL : List Value → Nat → List Value → List Value
 | cs, _, [] => cs
 | cs, i, v :: r => putL (cs.set i v) (i + 1) r
theorem setCells_putL (g t : Nat) : ∀ (seg : List Value) (o : Nat) (w : World) (cs : List Value), w.heap[g]? = some (.cells cs.toArray t (0, 0)) → (w.setCells g o seg).heap[g]? = some (.cells (putL cs o seg).toArray t (0, 0))
 | [], _, w, cs, h => h
 | v :: r, o, w, cs, h => by
  have h1 := setCells_putL g t r (o + 1) (w.setCell ⟨g, o, none⟩ v) (cs.set o v) (by simpa using blk_set h o v)
  exact h1
theorem setCells_only (g o : Nat) (seg : List Value) (w : World) : Only g w (w.setCells g o seg) := by
 obtain ⟨s1, s2, s3, s4⟩ := setCells_same g seg o w
 exact ⟨s1, s2, s3, s4, fun k hk => setCells_far _ _ k hk⟩
theorem Sep.out {α : Type} {d : Kd α} {x : α} {cs : List Value} (S : Sep w0 w L) (h : Has (.made d x cs) L) : d.M w w0.heap.size (fun _ => True) x cs := d.M_mono (fun _ _ => trivial) (S.get h)
theorem Sep.outR {α : Type} {d : Kd α} {e : Nat} {v : Value} {xs : List α} (S : Sep w0 w L) (h : Has (.row d e v xs) L) : d.R e w w0.heap.size (fun _ => True) v xs := Kd.R_mono (S.get h) (fun _ _ => trivial)
theorem Sep.node {v3 v4 : Value} {f0 f1 f2 : Int} {f3 : List Int} {f4 : List S37} (S : Sep w0 w (.row (Kd.int .u8) 5 v3 f3 :: .row k37 37 v4 f4 :: L)) : Sep w0 w (.made k37 ⟨f0, f1, f2, f3, f4⟩ [.int .i64 f0, .int .i64 f1, .int .i64 f2, v3, v4] :: L) := by
 obtain ⟨B, F, h1, h2, G, h3, h4, h5⟩ := S
 exact ⟨B, fun k => F k ∨ G k, fun k hk => hk.elim (h1 k) (fun h => (h3 k h).1), k37_mkM w _ _ ⟨f0, f1, f2, f3, f4⟩ (Kd.R_mono h2 (fun _ h => .inl h)) (Kd.R_mono h4 (fun _ h => .inr h)), h5.mono (fun k hk => ⟨hk.1.1, fun h => h.elim hk.1.2 hk.2⟩)⟩
end
section
variable {P : Program} {ops : Array Oper} {rest : List Oper} {o : Oper} {a : Act} {Q : Exit → Act → World → Prop} {w0 W : World} {L L' : List Asr} {Kc : Act → World → Prop}
theorem run_store_box (S : Sep w0 W L) {t : TypeId} {p x : Operand} (ho : o.op = .store t p x) {g i ty : Nat} {cs cs' : List Value} {u : Value} {seg : List Value}
  (hp : a.eval p = .pointer (some ⟨g, i, none⟩)) (hx : a.eval x = u) (hu : u.cells.toList = seg) (ht : (P.info? t).map (·.size) = some seg.length) (h1 : (seg.all (·.oneCell')) = true)
  (hU : Upd g ty cs.toArray cs'.toArray L L') (hfit : Nat.ble (i + seg.length) cs.length = true) (hc : putL cs i seg = cs') :
  ∃ w1, (execOp a.eval o).run P W = .ok .skip w1 ∧ Sep w0 w1 L' := by
 have hb := S.blk hU.has
 have hr := run_store_run (P := P) t u seg hb hu ht (by simpa using Nat.le_of_ble_eq_true hfit) (fun q hq => List.all_eq_true.1 h1 q hq)
 refine ⟨_, ?_, S.upd hU (setCells_only g i seg W) (hc ▸ setCells_putL g ty seg i W cs hb)⟩
 unfold execOp
 simp only [ho, hp, hx, Sem.run_bind, Sem.run_pure, Result.andThen_ok, hr]
theorem sp_store {t : TypeId} {p x : Operand} (ho : o.op = .store t p x) (hN : o.dst = none) (hg : o.guard = none) (S : Sep w0 W L) {g i ty : Nat} {cs cs' : List Value} {u : Value} {seg : List Value}
  (hp : a.eval p = .pointer (some ⟨g, i, none⟩)) (hU : Upd g ty cs.toArray cs'.toArray L L') (hx : a.eval x = u) (hu : u.cells.toList = seg) (ht : (P.info? t).map (·.size) = some seg.length) (h1 : (seg.all (·.oneCell')) = true)
  (hfit : Nat.ble (i + seg.length) cs.length = true) (hc : putL cs i seg = cs') (h : ∀ w1, Sep w0 w1 L' → wpList P ops Q rest a w1) : wpList P ops Q (o :: rest) a W := by
 obtain ⟨w1, hr, S1⟩ := run_store_box (a := a) (P := P) S ho hp hx hu ht h1 hU hfit hc
 refine wpList_plain hg fun K hK => ?_
 unfold Oper.wp
 rw [hr]
 show K (a.put o.dst undef) w1
 rw [hN]
 exact hK _ _ (h _ S1)
theorem sp_store_step {t : TypeId} {p x : Operand} (ho : o.op = .store t p x) (hN : o.dst = none) (hw : Region.wanted o (yielded ops a.tmps) = true) (S : Sep w0 W L) {g i ty : Nat} {cs cs' : List Value} {u : Value} {seg : List Value}
  (hp : a.eval p = .pointer (some ⟨g, i, none⟩)) (hU : Upd g ty cs.toArray cs'.toArray L L') (hx : a.eval x = u) (hu : u.cells.toList = seg) (ht : (P.info? t).map (·.size) = some seg.length) (h1 : (seg.all (·.oneCell')) = true)
  (hfit : Nat.ble (i + seg.length) cs.length = true) (hc : putL cs i seg = cs') (h : ∀ w1, Sep w0 w1 L' → Kc a w1) : if Region.wanted o (yielded ops a.tmps) = true then Oper.wp P o a W Kc Q else Kc (a.put none undef) W := by
 obtain ⟨w1, hr, S1⟩ := run_store_box (a := a) (P := P) S ho hp hx hu ht h1 hU hfit hc
 exact skip_ hw hN hr (h _ S1)
end
def aggB (P : Program) (t : TypeId) : Bool := match P.underlying t with
 | some (.struct _) | some (.array _ _) => true
 | _ => false
def scalB (P : Program) (t : TypeId) : Bool := match P.underlying t with
 | some (.struct _) | some (.array _ _) | none => false
 | some _ => true
theorem run_load_one {P : Program} {w : World} {t : TypeId} {ad : Addr} {v : Value} (hs : scalB P t = true) (hc : w.cell? ad = some v) : (Instr.loadAt t (.pointer (some ad))).run P w = .ok v w := by
 unfold scalB at hs
 cases hu : P.underlying t with
 | none => rw [hu] at hs; cases hs
 | some d =>
  rw [hu] at hs
  have hagg : (isAgg t).run P w = .ok false w := by
   unfold isAgg
   rw [Sem.run_bind, run_underlying hu w]
   cases d <;> simp_all
  simp [Instr.loadAt, Instr.sureAddr, loadVar, Sem.run_bind, hagg, hc]
def LoadIs (P : Program) (L : List Asr) (o : Oper) (a : Act) (v : Value) : Prop := ∀ w0 w, Sep w0 w L → (execOp a.eval o).run P w = .ok (.value v) w
section
variable {P : Program} {ops : Array Oper} {rest : List Oper} {o : Oper} {a a' : Act} {Q : Exit → Act → World → Prop} {w0 W : World} {L L' : List Asr} {Kc : Act → World → Prop}
theorem ldA {t : TypeId} {p : Operand} {g : Nat} {cs : Array Value} (ho : o.op = .load t p) (hp : a.eval p = .pointer (some ⟨g, 0, none⟩)) (hm : Has (.box g cs t) L) (ha : aggB P t = true) (hs : (P.info? t).map (·.size) = some cs.size) : LoadIs P L o a (.agg cs) := by
 intro w0 w S
 unfold aggB at ha
 cases hu : P.underlying t with
 | none => rw [hu] at ha; cases ha
 | some d =>
  have hr := run_loadVar_row w g t t cs (0, 0) d (S.blk hm) hu (by rw [hu] at ha; cases d <;> simp_all) hs
  unfold execOp
  simp only [ho, hp, Instr.loadAt, Instr.sureAddr, Sem.run_bind, Sem.run_pure, Result.andThen_ok, hr]
theorem ldS {t : TypeId} {p : Operand} {g i ty : Nat} {cs : Array Value} {v : Value} (ho : o.op = .load t p) (hp : a.eval p = .pointer (some ⟨g, i, none⟩)) (hm : Has (.box g cs ty) L) (hv : cs[i]? = some v) (hs : scalB P t = true) : LoadIs P L o a v := by
 intro w0 w S
 have hr := run_load_one (P := P) hs ((blk_cell (S.blk hm) i).trans hv)
 unfold execOp
 simp only [ho, hp, Sem.run_bind, Sem.run_pure, Result.andThen_ok, hr]
def LdAt (P : Program) (ops : Array Oper) (L : List Asr) (o : Oper) (a a' : Act) : Prop := Region.wanted o (yielded ops a.tmps) = true ∧ ∃ v, LoadIs P L o a v ∧ a.put o.dst v = a'
def isNew (o : Oper) : Bool := match o.op with
 | .alloc _ | .box _ _ => true
 | _ => false
def isStore (o : Oper) : Bool := match o.op with
 | .store _ _ _ => true
 | _ => false
theorem ldAt1 {t : TypeId} {p : Operand} {g i ty : Nat} {cs : Array Value} {v : Value} (h1 : o.op = .load t p) {q : Value} (h2 : a.eval p = q) (hq : q = .pointer (some ⟨g, i, none⟩)) (hw : Region.wanted o (yielded ops a.tmps) = true) (h3 : Has (.box g cs ty) L) (_h : Nat.beq t ty = false) (h4 : cs[i]? = some v) (h5 : scalB P t = true) (h6 : a.put o.dst v = a') : LdAt P ops L o a a' := ⟨hw, v, ldS h1 (h2.trans hq) h3 h4 h5, h6⟩
theorem ldAtN {t : TypeId} {p : Operand} {g : Nat} {cs : Array Value} (h1 : o.op = .load t p) {q : Value} (h2 : a.eval p = q) (hq : q = .pointer (some ⟨g, 0, none⟩)) (hw : Region.wanted o (yielded ops a.tmps) = true) (h3 : Has (.box g cs t) L) (h4 : aggB P t = true) (h5 : (P.info? t).map (·.size) = some cs.size) (h6 : a.put o.dst (.agg cs) = a') : LdAt P ops L o a a' := ⟨hw, _, ldA h1 (h2.trans hq) h3 h4 h5, h6⟩
theorem wl (h : wpList P ops Q (o :: rest) a W) : wpList P ops Q (o :: rest) a W := h
theorem want0 {o : Oper} {y : Nat → Option Bool} (h : o.guard = none) : Region.wanted o y = true := by unfold Region.wanted; rw [h]
theorem LdAt.run (k : LdAt P ops L o a a') (S : Sep w0 W L) (h : wpList P ops Q rest a' W) : wpList P ops Q (o :: rest) a W := by
 obtain ⟨hw, v, hr, rfl⟩ := k
 refine wpList_step fun K hK => ?_
 rw [if_pos hw]
 unfold Oper.wp
 rw [hr _ _ S]
 exact hK _ _ h
theorem sl (S : Sep w0 W L) (h : wpList P ops Q rest a' W)
    (k : LdAt P ops L o a a' := by
      apply ldAt1
      case h1 => with_reducible rfl
      case h2 => go_simp; with_reducible rfl
      case hq => with_reducible rfl
      case hw => first | exact want0 rfl | rfl
      case h3 => repeat (first | exact Has.here | apply Has.there)
      case _h => rfl
      case h4 => rfl
      case h5 => kernel_rfl
      case h6 => simp only [Act.put, List.setIfInBounds_toArray, List.set_cons_zero, List.set_cons_succ]; rfl) : wpList P ops Q (o :: rest) a W := k.run S h
theorem sa (S : Sep w0 W L) (h : wpList P ops Q rest a' W)
    (k : LdAt P ops L o a a' := by
      apply ldAtN
      case h1 => with_reducible rfl
      case h2 => go_simp; with_reducible rfl
      case hq => with_reducible rfl
      case hw => first | exact want0 rfl | rfl
      case h3 => repeat (first | exact Has.here | apply Has.there)
      case h4 => kernel_rfl
      case h5 => kernel_rfl
      case h6 => simp only [Act.put, List.setIfInBounds_toArray, List.set_cons_zero, List.set_cons_succ]; rfl) : wpList P ops Q (o :: rest) a W := k.run S h
def NwAt (P : Program) (W : World) (o : Oper) (a : Act) (cs : Array Value) (t : TypeId) (f : Nat → Act) : Prop :=
 (execOp a.eval o).run P W = .ok (.value (.pointer (some ⟨W.heap.size, 0, none⟩))) (W.alloc (.cells cs t (0, 0))) ∧ ∀ g, a.put o.dst (.pointer (some ⟨g, 0, none⟩)) = f g
theorem sn (S : Sep w0 W L) {cs : Array Value} {t : TypeId} {f : Nat → Act} (h : ∀ g w1, Sep w0 w1 (.box g cs t :: L) → wpList P ops Q rest (f g) w1) (_ : isNew o = true := by rfl) (hg : o.guard = none := by rfl)
    (k : NwAt P W o a cs t f := by
      refine ⟨?_, fun g => ?_⟩
      · first | (go_simp; done) | (go_simp; rfl)
      · simp only [Act.put, List.setIfInBounds_toArray, List.set_cons_zero, List.set_cons_succ]; rfl) : wpList P ops Q (o :: rest) a W := by
  obtain ⟨hr, hf⟩ := k
  refine Kd.event_run hg hr ?_
  rw [hf]
  exact h _ _ (S.new cs t)
def StAt (P : Program) (o : Oper) (a : Act) (L L' : List Asr) : Prop := ∃ (t : TypeId) (p x : Operand) (g i ty : Nat) (cs cs' : List Value) (u : Value) (seg : List Value),
 o.op = .store t p x ∧ o.dst = none ∧ a.eval p = .pointer (some ⟨g, i, none⟩) ∧ Upd g ty cs.toArray cs'.toArray L L' ∧ a.eval x = u ∧ u.cells.toList = seg ∧ (P.info? t).map (·.size) = some seg.length ∧ (seg.all (·.oneCell')) = true ∧ Nat.ble (i + seg.length) cs.length = true ∧ putL cs i seg = cs'
theorem stAt {t : TypeId} {p x : Operand} {g i ty : Nat} {cs cs' : List Value} {seg : List Value} (h1 : o.op = .store t p x) (h2 : o.dst = none) (h3 : a.eval p = .pointer (some ⟨g, i, none⟩)) (h4 : Upd g ty cs.toArray cs'.toArray L L') {u : Value} (h5 : a.eval x = u) (h6 : u.cells.toList = seg)
  (h7 : (P.info? t).map (·.size) = some seg.length) (h8 : (seg.all (·.oneCell')) = true) (h9 : Nat.ble (i + seg.length) cs.length = true) (h10 : putL cs i seg = cs') : StAt P o a L L' := ⟨t, p, x, g, i, ty, cs, cs', u, seg, h1, h2, h3, h4, h5, h6, h7, h8, h9, h10⟩
theorem ss (S : Sep w0 W L) (h : ∀ w1, Sep w0 w1 L' → wpList P ops Q rest a w1) (_ : isStore o = true := by rfl) (hg : o.guard = none := by rfl)
    (k : StAt P o a L L' := by
      apply stAt
      case h1 => rfl
      case h2 => rfl
      case h3 => rfl
      case h4 => repeat (first | exact Upd.here | apply Upd.there)
      case h5 => go_simp; with_reducible rfl
      case h6 => first | exact (rfl : _ = [_]) | exact (rfl : _ = [_, _, _, _, _]) | exact (rfl : _ = [_, _, _]) | exact (rfl : _ = [_, _, _, _, _, _, _, _]) | exact (rfl : _ = [_, _, _, _, _, _, _, _, _, _])
      case h7 => kernel_rfl
      case h8 => rfl
      case h9 => rfl
      case h10 => simp only [putL, List.set_cons_zero, List.set_cons_succ]; rfl) : wpList P ops Q (o :: rest) a W := by
  obtain ⟨t, p, x, g, i, ty, cs, cs', u, seg, h1, h2, h3, h4, h5, h6, h7, h8, h9, h10⟩ := k
  exact sp_store h1 h2 hg S h3 h4 h5 h6 h7 h8 h9 h10 h
end
inductive RVs (P : Program) (L : List Asr) (tmps : Array Value) : List ResultVar → List Value → Prop
 | nil : RVs P L tmps [] []
 | tmp {u : Tmp} {v : Value} {rs : List ResultVar} {vs : List Value} (h1 : tmps.getD u undef = v) (h : RVs P L tmps rs vs) : RVs P L tmps (.tmp u :: rs) (v :: vs)
 | cell {p : Tmp} {ty g : Nat} {cs : Array Value} {rs : List ResultVar} {vs : List Value} (h1 : tmps.getD p undef = .pointer (some ⟨g, 0, none⟩)) (h2 : Has (.box g cs ty) L) (h3 : aggB P ty = true) (h4 : (P.info? ty).map (·.size) = some cs.size) (h : RVs P L tmps rs vs) : RVs P L tmps (.cell p ty :: rs) (.agg cs :: vs)
theorem RVs.vals {P : Program} {L : List Asr} {tmps : Array Value} {w0 w : World} (S : Sep w0 w L) {rs : List ResultVar} {vs : List Value} (h : RVs P L tmps rs vs) : Vals P tmps w rs vs := by
 induction h with
 | nil => exact .nil
 | tmp h1 _ ih => subst h1; exact .tmp ih
 | @cell p ty g cs rs vs h1 h2 h3 h4 _ ih =>
  unfold aggB at h3
  cases hu : P.underlying ty with
  | none => rw [hu] at h3; cases h3
  | some d => exact .cell g ty cs (0, 0) d h1 (S.blk h2) hu (by rw [hu] at h3; cases d <;> simp_all) h4 ih
def RetAt (P : Program) (L : List Asr) (fn : Func) (a : Act) (v : Value) : Prop := a.defers = [] ∧ ∃ rs vs, fn.results = List.toArray rs ∧ RVs P L a.tmps rs vs ∧ v = (if vs.length = 1 then vs.getD 0 undef else .tuple vs.toArray)
theorem retAt1 {P : Program} {L : List Asr} {fn : Func} {a : Act} {v : Value} {r : ResultVar} (h1 : a.defers = []) (h2 : fn.results = #[r]) (h3 : RVs P L a.tmps [r] [v]) : RetAt P L fn a v := ⟨h1, _, _, h2, h3, rfl⟩
theorem retAtN {P : Program} {L : List Asr} {fn : Func} {a : Act} {rs : List ResultVar} {vs : List Value} (h1 : a.defers = []) (h2 : fn.results = rs.toArray) (h3 : RVs P L a.tmps rs vs) (h4 : vs.length ≠ 1) : RetAt P L fn a (.tuple vs.toArray) := ⟨h1, _, _, h2, h3, by rw [if_neg h4]⟩
theorem RetAt.run {P : Program} {L : List Asr} {fn : Func} {a : Act} {v : Value} {w0 w : World} (h : RetAt P L fn a v) (S : Sep w0 w L) : (results fn a.tmps).run P w = .ok v w := by
 obtain ⟨_, rs, vs, h2, h3, rfl⟩ := h
 by_cases hl : vs.length = 1
 ·rw [if_pos hl]
  match vs, hl with
  | [v], _ =>
   cases h3 with
   | tmp h1 h => cases h; exact results_single (r := .tmp _) h2 (RVs.vals S (.tmp h1 .nil))
   | cell h1 h4 h5 h6 h => cases h; exact results_single (r := .cell _ _) h2 (RVs.vals S (.cell h1 h4 h5 h6 .nil))
 ·rw [if_neg hl]
  exact results_list h2 hl (h3.vals S)
theorem rt {P : Program} {fn : Func} {R : Ending → World → Prop} {a : Act} {w0 w : World} {L : List Asr} {v : Value} (S : Sep w0 w L) (h : R (.returned v) w)
    (k : RetAt P L fn a v := by
      first
        | (apply retAt1
           case h1 => rfl
           case h2 => rfl
           case h3 =>
            first
              | (apply RVs.cell
                 case h1 => rfl
                 case h2 => repeat (first | exact Has.here | apply Has.there)
                 case h3 => kernel_rfl
                 case h4 => kernel_rfl
                 case h => exact RVs.nil)
              | (apply RVs.tmp
                 case h1 => rfl
                 case h => exact RVs.nil))
        | (apply retAtN
           case h1 => rfl
           case h2 => rfl
           case h3 =>
            repeat' (first
              | exact RVs.nil
              | (apply RVs.cell
                 case h1 => rfl
                 case h2 => repeat (first | exact Has.here | apply Has.there)
                 case h3 => kernel_rfl
                 case h4 => kernel_rfl)
              | (apply RVs.tmp
                 case h1 => rfl))
           case h4 => simp)) : bodyPost P fn R .ret a w := ⟨k.1, v, k.run S, h⟩
section
variable {P : Program} {ops : Array Oper} {rest : List Oper} {o : Oper} {a : Act} {Q : Exit → Act → World → Prop} {w0 W w1 : World} {L : List Asr} {Kc : Act → World → Prop} {α : Type} {d : Kd α} {e : Nat} {v v1 : Value} {xs ys : List α} {p : α} {cs : List Value}
theorem Sep.one (S : Sep w0 W L) (enc : α → Value) (h1 : ∀ x, (enc x).oneCell' = true) (x : α) : Sep w0 W (.made (Kd.scalar enc h1) x [enc x] :: L) :=
 ⟨S.below, Sat.cons (F := fun _ => False) S.sat (show [enc x] = [enc x] from rfl) (fun _ h => h.elim) (fun k hk => ⟨hk, fun h => h⟩)⟩
theorem Sep.appended {ok F G : Nat → Prop} {A : Nat → Prop} (hb : Below w0.heap.size w0 W) (hF : ∀ k, F k → k < W.heap.size) (hv : ∀ k, v.ownBlock = some k → F k) (hG : ∀ k, G k → k < W.heap.size ∧ ¬ F k)
  (hL : Sat W w0.heap.size L (fun k => (k < W.heap.size ∧ ¬ F k) ∧ ¬ G k)) (hR : d.R e w1 w0.heap.size (fun k => F k ∨ G k ∨ W.heap.size ≤ k) v1 ys) (hB : Below w0.heap.size w0 w1) (hg : W.grownBy w1 v.ownBlock) : Sep w0 w1 (.row d e v1 ys :: L) := by
 refine ⟨hB, Sat.cons (hL.step (fun k hk hlt => hg.block k hlt (fun e => hk.1.2 (hv k e.symm)))) (Asr.holds.bound (a := .row d e v1 ys) hR) (fun k hk => hk.2.2) (fun k hk => ⟨Nat.lt_of_lt_of_le hk.1.1 hg.size, fun h => ?_⟩)⟩
 rcases h.1 with h | h | h
 ·exact hk.1.2 h
 ·exact hk.2 h
 ·have := hk.1.1
  omega
theorem sp_append (S : Sep w0 W (.row d e v xs :: .made d p cs :: L)) (hgd : o.guard = none) {s x : Operand} {t : TypeId} {z : Value} {bytes : Nat}
  (ho : o.op = .call { callee := .builtin .append, args := #[s, x], argTypes := #[t, t] })
  (ht : P.underlying t = some (.slice e)) (hinfo : (P.info? e).map (fun i => (i.zero, i.size, i.bytes)) = some (some z, d.sz, bytes)) (hz : z.cells.size = d.sz) (hs0 : 0 < d.sz) (hb0 : 0 < bytes)
  (hs : a.eval s = v) (hx : a.eval x = .slice (some ⟨W.heap.size, 0, none⟩) 1 1) (hl : (xs.length + 1) * bytes ≤ 140737488355328)
  (h : ∀ v1 w1, Sep w0 w1 (.row d e v1 (xs ++ [p]) :: L) → wpList P ops Q rest (a.put o.dst v1) w1) : wpList P ops Q (o :: rest) a (W.alloc (.cells cs.toArray e)) := by
 obtain ⟨B, F, h1, h2, G, h3, h4, h5⟩ := S
 refine Kd.R_append d (w0 := w0) w0.heap.size hgd s x t e z bytes ho ht hinfo hz hs0 hb0 v xs p cs (fun k => F k ∨ G k ∨ W.heap.size ≤ k) G hs hx h4 (fun k hk => ⟨.inr (.inl hk), fun he => (h3 k hk).2 (h2.1 k he.symm)⟩) (fun k hk => .inr (.inr hk)) (Kd.R_mono h2 (fun k hk => .inl hk)) B B.size hl ?_
 intro v1 w1 hr hb hg _
 exact h v1 w1 (Sep.appended (ok := fun _ => True) (A := fun _ => True) B h1 h2.1 h3 h5 hr hb hg)
end
def Kp (L : List Asr) (ks : List Nat) (w : World) : Prop := ∀ k ∈ ks, ∀ g cs t, L[k]? = some (.box g cs t) → w.heap[g]? = some (.cells cs t (0, 0))
theorem hasAt {a : Asr} : ∀ {L : List Asr} {k : Nat}, L[k]? = some a → Has a L
 | [], _, e => by simp at e
 | x :: r, 0, e => by
  obtain rfl : x = a := by simpa using e
  exact .here
 | x :: r, k + 1, e => .there (hasAt (k := k) (by simpa using e))
theorem Sep.kp {w0 w : World} {L L' : List Asr} {ks : List Nat} (S : Sep w0 w L') (h : ∀ k ∈ ks, L'[k]? = L[k]?) : Kp L ks w := fun k hk g cs t e => S.blk (hasAt ((h k hk).trans e))
inductive At (a : Asr) : List Asr → Nat → Prop
 | here {r : List Asr} : At a (a :: r) 0
 | there {x : Asr} {r : List Asr} {k : Nat} (h : At a r k) : At a (x :: r) (k + 1)
theorem At.get {a : Asr} {L : List Asr} {k : Nat} (h : At a L k) : L[k]? = some a := by
 induction h with
 | here => rfl
 | there _ ih => simpa using ih
section
variable {P : Program} {md : Region.Mode} {ops : Array Oper} {Q : Exit → Act → World → Prop} {w0 W w : World} {L L' : List Asr} {ks : List Nat}
theorem rs (ks : List Nat) (S : Sep w0 W L) {id n : Nat} {l : Array Bool} {a : Act} (h : ∀ w1, Sep w0 w1 L → wpAnyLast P .any ops Q (Kp L ks) [] n l a w1)
  (h1 : P.follows .mixedOrders = true := by kernel_rfl) (h2 : ops.size = n := by simp only [List.size_toArray, List.length_cons, List.length_nil, Nat.reduceAdd]; rfl)
  (h3 : Array.replicate n false = l := by simp only [Array.replicate_succ, Array.replicate_zero, List.push_toArray, List.nil_append, List.cons_append]; rfl) : (Code.region id ops true).wp P Q a W :=
 start_ (S := Kp L ks) l h1 h2 h3 (S.drew.kp (fun _ _ => rfl)) (fun _ => h _ S.drew)
theorem run_kp {oi : Oper} {a : Act} {t : TypeId} {p : Operand} {g i ty k : Nat} {cs : Array Value} {v : Value} (h1 : oi.op = .load t p) (h2 : a.eval p = .pointer (some ⟨g, i, none⟩)) (h3 : At (.box g cs ty) L k) (h4 : k ∈ ks) (h5 : cs[i]? = some v) (h6 : scalB P t = true) : ∀ w, Kp L ks w → (execOp a.eval oi).run P w = .ok (.value v) w := by
 intro w hw
 have hr := run_load_one (P := P) h6 ((blk_cell (hw k h4 g cs ty h3.get) i).trans h5)
 unfold execOp
 simp only [h1, h2, Sem.run_bind, Sem.run_pure, Result.andThen_ok, hr]
theorem run_kpA {oi : Oper} {a : Act} {t : TypeId} {p : Operand} {g k : Nat} {cs : Array Value} (h1 : oi.op = .load t p) (h2 : a.eval p = .pointer (some ⟨g, 0, none⟩)) (h3 : At (.box g cs t) L k) (h4 : k ∈ ks) (h5 : aggB P t = true) (h6 : (P.info? t).map (·.size) = some cs.size) : ∀ w, Kp L ks w → (execOp a.eval oi).run P w = .ok (.value (.agg cs)) w := by
 intro w hw
 unfold aggB at h5
 cases hu : P.underlying t with
 | none => rw [hu] at h5; cases h5
 | some d =>
  have hr := run_loadVar_row w g t t cs (0, 0) d (hw k h4 g cs t h3.get) hu (by rw [hu] at h5; cases d <;> simp_all) h6
  unfold execOp
  simp only [h1, h2, Instr.loadAt, Instr.sureAddr, Sem.run_bind, Sem.run_pure, Result.andThen_ok, hr]
def LtAt (P : Program) (md : Region.Mode) (ops : Array Oper) (Q : Exit → Act → World → Prop) (L : List Asr) (ks : List Nat) (i : Nat) (l l' : Array Bool) (a a' : Act) : Prop :=
 ∃ oi v, ops[i]? = some oi ∧ l.setIfInBounds i true = l' ∧ takeB md ops [] l l' i = true ∧ oi.guard = none ∧ (∀ w, Kp L ks w → (execOp a.eval oi).run P w = .ok (.value v) w) ∧ a.put oi.dst v = a' ∧ (∀ c v a w, Q (.panic c) (a.put oi.dst v) w → Q (.panic c) a w)
theorem ltAt1 {oi : Oper} {i : Nat} {l l' : Array Bool} {a a' : Act} {t : TypeId} {p : Operand} {g j ty k : Nat} {cs : Array Value} {v q : Value} (h1 : ops[i]? = some oi) (h2 : l.setIfInBounds i true = l') (h3 : takeB md ops [] l l' i = true) (hw : oi.guard = none) (h4 : oi.op = .load t p) (h5 : a.eval p = q) (hq : q = .pointer (some ⟨g, j, none⟩)) (h6 : At (.box g cs ty) L k) (h7 : k ∈ ks) (_h : Nat.beq t ty = false) (h8 : cs[j]? = some v) (h9 : scalB P t = true) (ha : a.put oi.dst v = a') (hp : ∀ c v a w, Q (.panic c) (a.put oi.dst v) w → Q (.panic c) a w) : LtAt P md ops Q L ks i l l' a a' := ⟨oi, v, h1, h2, h3, hw, run_kp h4 (h5.trans hq) h6 h7 h8 h9, ha, hp⟩
theorem ltAtN {oi : Oper} {i : Nat} {l l' : Array Bool} {a a' : Act} {t : TypeId} {p : Operand} {g k : Nat} {cs : Array Value} {q : Value} (h1 : ops[i]? = some oi) (h2 : l.setIfInBounds i true = l') (h3 : takeB md ops [] l l' i = true) (hw : oi.guard = none) (h4 : oi.op = .load t p) (h5 : a.eval p = q) (hq : q = .pointer (some ⟨g, 0, none⟩)) (h6 : At (.box g cs t) L k) (h7 : k ∈ ks) (h8 : aggB P t = true) (h9 : (P.info? t).map (·.size) = some cs.size) (ha : a.put oi.dst (.agg cs) = a') (hp : ∀ c v a w, Q (.panic c) (a.put oi.dst v) w → Q (.panic c) a w) : LtAt P md ops Q L ks i l l' a a' := ⟨oi, _, h1, h2, h3, hw, run_kpA h4 (h5.trans hq) h6 h7 h8 h9, ha, hp⟩
theorem LtAt.run {i : Nat} {l l' : Array Bool} {a a' : Act} {fuel : Nat} (k : LtAt P md ops Q L ks i l l' a a') (S : Kp L ks w) (h : wpAnyLast P md ops Q (Kp L ks) [] fuel l' a' w) : wpAnyLast P md ops Q (Kp L ks) [] (fuel + 1) l a w := by
 obtain ⟨oi, v, h1, h2, h3, hw, hr, ha, h5⟩ := k
 exact take_ l' h1 rfl h3 (fun c a w => h5 c v a w) (.inl ⟨want0 hw, fun w' s => hr _ s⟩) S ha h
theorem lt (i : Nat) (S : Sep w0 w L') {l l' : Array Bool} {a a' : Act} {fuel : Nat} (h : wpAnyLast P md ops Q (Kp L ks) [] fuel l' a' w)
    (hk : ∀ k ∈ ks, L'[k]? = L[k]? := by repeat (first | exact List.forall_mem_nil _ | refine List.forall_mem_cons.2 ⟨rfl, ?_⟩))
    (k : LtAt P md ops Q L ks i l l' a a' := by
      first
        | (apply ltAt1
           case h1 => simp only [List.getElem?_toArray, List.getElem?_cons_zero, List.getElem?_cons_succ]; rfl
           case h2 => simp only [List.setIfInBounds_toArray, List.set_cons_zero, List.set_cons_succ]; rfl
           case h3 => kernel_rfl
           case hw => rfl
           case h4 => with_reducible rfl
           case h5 => go_simp; with_reducible rfl
           case hq => with_reducible rfl
           case h6 => repeat (first | exact At.here | apply At.there)
           case h7 => decide
           case _h => rfl
           case h8 => rfl
           case h9 => kernel_rfl
           case ha => simp only [Act.put, List.setIfInBounds_toArray, List.set_cons_zero, List.set_cons_succ]; rfl
           case hp => exact fun _ _ _ _ h => h)
        | (apply ltAtN
           case h1 => simp only [List.getElem?_toArray, List.getElem?_cons_zero, List.getElem?_cons_succ]; rfl
           case h2 => simp only [List.setIfInBounds_toArray, List.set_cons_zero, List.set_cons_succ]; rfl
           case h3 => kernel_rfl
           case hw => rfl
           case h4 => with_reducible rfl
           case h5 => go_simp; with_reducible rfl
           case hq => with_reducible rfl
           case h6 => repeat (first | exact At.here | apply At.there)
           case h7 => decide
           case h8 => kernel_rfl
           case h9 => kernel_rfl
           case ha => simp only [Act.put, List.setIfInBounds_toArray, List.set_cons_zero, List.set_cons_succ]; rfl
           case hp => exact fun _ _ _ _ h => h)) : wpAnyLast P md ops Q (Kp L ks) [] (fuel + 1) l a w := k.run (S.kp hk) h
def LsAt (P : Program) (md : Region.Mode) (ops : Array Oper) (L L' : List Asr) (i : Nat) (l l' : Array Bool) (a : Act) : Prop :=
 ∃ oi, ops[i]? = some oi ∧ l.setIfInBounds i true = l' ∧ readyB md ops l l' i = true ∧ oi.guard = none ∧ StAt P oi a L L'
theorem lsAt {oi : Oper} {i : Nat} {l l' : Array Bool} {a : Act} (h1 : ops[i]? = some oi) (h2 : l.setIfInBounds i true = l') (h3 : readyB md ops l l' i = true) (h5 : oi.guard = none) (h6 : StAt P oi a L L') : LsAt P md ops L L' i l l' a := ⟨oi, h1, h2, h3, h5, h6⟩
theorem LsAt.run {L0 : List Asr} {i : Nat} {l l' : Array Bool} {a : Act} {fuel : Nat} (k : LsAt P md ops L L' i l l' a) (S : Sep w0 w L) (hk : ∀ k ∈ ks, L'[k]? = L0[k]?) (h : ∀ w1, Sep w0 w1 L' → wpAnyLast P md ops Q (Kp L0 ks) [] fuel l' a w1) : wpAnyLast P md ops Q (Kp L0 ks) [] (fuel + 1) l a w := by
 obtain ⟨oi, h1, h2, h3, h5, t, p, x, g, i', ty, cs, cs', u, seg, e1, e2, e3, e4, e5, e6, e7, e8, e9, e10⟩ := k
 exact one_ l' h1 e2 h3 (by simp) (fun K hK => sp_store_step e1 e2 (want0 h5) S e3 e4 e5 e6 e7 e8 e9 e10 (fun w1 S1 => hK.out _ _ (S1.kp hk) (fun _ => h w1 S1)))
theorem ls (i : Nat) (S : Sep w0 w L) {L0 : List Asr} {l l' : Array Bool} {a : Act} {fuel : Nat} (h : ∀ w1, Sep w0 w1 L' → wpAnyLast P md ops Q (Kp L0 ks) [] fuel l' a w1)
    (k : LsAt P md ops L L' i l l' a := by
      apply lsAt
      case h1 => simp only [List.getElem?_toArray, List.getElem?_cons_zero, List.getElem?_cons_succ]; rfl
      case h2 => simp only [List.setIfInBounds_toArray, List.set_cons_zero, List.set_cons_succ]; rfl
      case h3 => kernel_rfl
      case h5 => rfl
      case h6 =>
        apply stAt
        case h1 => rfl
        case h2 => rfl
        case h3 => rfl
        case h4 => repeat (first | exact Upd.here | apply Upd.there)
        case h5 => go_simp; with_reducible rfl
        case h6 => first | exact (rfl : _ = [_]) | exact (rfl : _ = [_, _, _, _, _]) | exact (rfl : _ = [_, _, _]) | exact (rfl : _ = [_, _, _, _, _, _, _, _]) | exact (rfl : _ = [_, _, _, _, _, _, _, _, _, _])
        case h7 => kernel_rfl
        case h8 => rfl
        case h9 => rfl
        case h10 => simp only [putL, List.set_cons_zero, List.set_cons_succ]; rfl)
    (hk : ∀ k ∈ ks, L'[k]? = L0[k]? := by repeat (first | exact List.forall_mem_nil _ | refine List.forall_mem_cons.2 ⟨rfl, ?_⟩)) : wpAnyLast P md ops Q (Kp L0 ks) [] (fuel + 1) l a w := k.run S hk h
theorem dn {Sp : World → Prop} {ds : List Nat} {l : Array Bool} {a : Act} {n : Nat} (h : Q .normal a w) (hr : (Region.ready md ops l == []) = true := by kernel_rfl) : wpAnyLast P md ops Q Sp ds n l a w := done_ hr h
end
end Go.Proofs.YtidglmocekghmaaDoor.Pr
end
section
namespace Go.Proofs.YtidglmocekghmaaDoor.Pr
set_option linter.unusedSimpArgs false
open Go.RowKit Go.Proofs.YtidglmocekghmaaDoorW.PrintWords Go.Proofs.YtidglmocekghmaaDoorW.PrintLast Go.Proofs.YtidglmocekghmaaDoorW.PrintMore
set_option linter.unusedVariables false
section
variable {P : Program} {md : Region.Mode} {ops : Array Oper} {Q : Exit → Act → World → Prop} {w0 W w : World} {L L' L0 : List Asr} {ks : List Nat}
def CaAt (P : Program) (md : Region.Mode) (ops : Array Oper) (i n : Nat) (l l' : Array Bool) (a : Act) (f : FuncId) (fn : Func) (args : Array Value) : Prop :=
 ∃ (oi : Oper) (av : Array Operand) (ts : Array TypeId), ops[i]? = some oi ∧ oi.dst = some n ∧ l.setIfInBounds i true = l' ∧ readyB md ops l l' i = true ∧ oi.guard = none ∧ (fn.name == "runtime.NumGoroutine") = false ∧ fn.body.isSome = true ∧ oi.op = .call { callee := .value (.func f), args := av, argTypes := ts } ∧ av.map a.eval = args
theorem caAt {i n : Nat} {l l' : Array Bool} {a : Act} {f : FuncId} {args : Array Value} {oi : Oper} {fn : Func} {av : Array Operand} {ts : Array TypeId} (h1 : ops[i]? = some oi) (h2 : oi.dst = some n) (h3 : l.setIfInBounds i true = l') (h4 : readyB md ops l l' i = true) (h5 : oi.guard = none) (h7 : (fn.name == "runtime.NumGoroutine") = false) (h8 : fn.body.isSome = true) (h9 : oi.op = .call { callee := .value (.func f), args := av, argTypes := ts }) (h10 : av.map a.eval = args) : CaAt P md ops i n l l' a f fn args :=
 ⟨oi, av, ts, h1, h2, h3, h4, h5, h7, h8, h9, h10⟩
theorem lc (i n : Nat) {f : FuncId} {args : Array Value} {R : Ending → World → Prop} {fuel : Nat} {l l' : Array Bool} {a : Act} {fn : Func} (h6 : P.funcs[f]? = some fn) (hC : Calls P f args w R)
    (h : ∀ e w1, R e w1 → ∃ v, e = .returned v ∧ Kp L0 ks w1 ∧ ∃ a', a.put (some n) v = a' ∧ wpAnyLast P md ops Q (Kp L0 ks) [] fuel l' a' w1)
    (k : CaAt P md ops i n l l' a f fn args := by
      apply caAt
      case h1 => simp only [List.getElem?_toArray, List.getElem?_cons_zero, List.getElem?_cons_succ]; rfl
      case h2 => rfl
      case h3 => simp only [List.setIfInBounds_toArray, List.set_cons_zero, List.set_cons_succ]; rfl
      case h4 => kernel_rfl
      case h5 => rfl
      case h7 => kernel_rfl
      case h8 => kernel_rfl
      case h9 => rfl
      case h10 => simp only [List.map_toArray, List.map_cons, List.map_nil]; rfl) : wpAnyLast P md ops Q (Kp L0 ks) [] (fuel + 1) l a w := by
  obtain ⟨oi, av, ts, h1, h2, h3, h4, h5, h7, h8, h9, h10⟩ := k
  refine one_ l' h1 h2 h4 (by simp) (fun K hK => goes_ h6 h7 h8 args (want0 h5) h2 h9 h10 (hC.mono ?_))
  intro e w1 hR
  obtain ⟨v, he, hk, a', ha, hh⟩ := h e w1 hR
  subst ha
  exact ⟨v, he, hK.out _ _ hk (fun _ => hh)⟩
theorem Sep.kpq {ks : List Nat} (q : Nat) (S : Sep w0 w L') (h : ∀ k ∈ ks, L'[k + q]? = L[k]? := by repeat (first | exact List.forall_mem_nil _ | refine List.forall_mem_cons.2 ⟨rfl, ?_⟩)) : Kp L ks w := fun k hk g cs t e => S.blk (hasAt ((h k hk).trans e))
theorem lsd (i q : Nat) (S : Sep w0 w L) {L0 : List Asr} {l l' : Array Bool} {a : Act} {fuel : Nat} (h : ∀ w1, Sep w0 w1 L' → wpAnyLast P md ops Q (Kp L0 ks) [] fuel l' a w1)
    (k : LsAt P md ops L L' i l l' a := by
      apply lsAt
      case h1 => simp only [List.getElem?_toArray, List.getElem?_cons_zero, List.getElem?_cons_succ]; rfl
      case h2 => simp only [List.setIfInBounds_toArray, List.set_cons_zero, List.set_cons_succ]; rfl
      case h3 => kernel_rfl
      case h5 => rfl
      case h6 =>
        apply stAt
        case h1 => rfl
        case h2 => rfl
        case h3 => rfl
        case h4 => repeat (first | exact Upd.here | apply Upd.there)
        case h5 => go_simp; with_reducible rfl
        case h6 => first | exact (rfl : _ = [_]) | exact (rfl : _ = [_, _, _, _, _]) | exact (rfl : _ = [_, _, _]) | exact (rfl : _ = [_, _, _, _, _, _, _, _]) | exact (rfl : _ = [_, _, _, _, _, _, _, _, _, _])
        case h7 => kernel_rfl
        case h8 => rfl
        case h9 => rfl
        case h10 => simp only [putL, List.set_cons_zero, List.set_cons_succ]; rfl)
    (hk : ∀ k ∈ ks, L'[k + q]? = L0[k]? := by repeat (first | exact List.forall_mem_nil _ | refine List.forall_mem_cons.2 ⟨rfl, ?_⟩)) : wpAnyLast P md ops Q (Kp L0 ks) [] (fuel + 1) l a w := by
  obtain ⟨oi, h1, e2, h3, h5, t, p, x, g, i', ty, cs, cs', u, seg, e1, e2', e3, e4, e5, e6, e7, e8, e9, e10⟩ := k
  exact one_ l' h1 e2' h3 (by simp) (fun K hK => sp_store_step e1 e2' (want0 h5) S e3 e4 e5 e6 e7 e8 e9 e10 (fun w1 S1 => hK.out _ _ (S1.kpq q hk) (fun _ => h w1 S1)))
theorem R_C {α : Type} {d : Kd α} {e b c n : Nat} {F : Nat → Prop} {A : Option Addr} {xs : List α} (h : d.R e w b F (.slice A n c) xs) : d.C w A xs.length xs := by
 obtain ⟨A', c', e', _, hC⟩ := Kd.R_reads h
 injection e' with e1
 exact e1 ▸ hC
end
set_option linter.unusedVariables false
section
variable {P : Program} {md : Region.Mode} {ops : Array Oper} {Q : Exit → Act → World → Prop} {w0 W w : World} {L L' L0 : List Asr} {ks ds : List Nat}
theorem rsd (ks ds : List Nat) (S : Sep w0 W L) {id n : Nat} {l : Array Bool} {a : Act} (h : ∀ w1, Sep w0 w1 L → wpAnyLast P .any ops Q (Kp L ks) ds n l a w1)
  (h1 : P.follows .mixedOrders = true := by kernel_rfl) (h2 : ops.size = n := by simp only [List.size_toArray, List.length_cons, List.length_nil, Nat.reduceAdd]; rfl)
  (h3 : Array.replicate n false = l := by simp only [Array.replicate_succ, Array.replicate_zero, List.push_toArray, List.nil_append, List.cons_append]; rfl) : (Code.region id ops true).wp P Q a W :=
 start_ (S := Kp L ks) l h1 h2 h3 (S.drew.kp (fun _ _ => rfl)) (fun _ => h _ S.drew)
def LtD (P : Program) (md : Region.Mode) (ops : Array Oper) (Q : Exit → Act → World → Prop) (ds : List Nat) (L : List Asr) (ks : List Nat) (i : Nat) (l l' : Array Bool) (a a' : Act) : Prop :=
 ∃ oi v, ops[i]? = some oi ∧ l.setIfInBounds i true = l' ∧ takeB md ops ds l l' i = true ∧ oi.guard = none ∧ (∀ w, Kp L ks w → (execOp a.eval oi).run P w = .ok (.value v) w) ∧ a.put oi.dst v = a' ∧ (∀ c v a w, Q (.panic c) (a.put oi.dst v) w → Q (.panic c) a w)
theorem ltD1 {oi : Oper} {i : Nat} {l l' : Array Bool} {a a' : Act} {t : TypeId} {p : Operand} {g j ty k : Nat} {cs : Array Value} {v q : Value} (h1 : ops[i]? = some oi) (h2 : l.setIfInBounds i true = l') (h3 : takeB md ops ds l l' i = true) (hw : oi.guard = none) (h4 : oi.op = .load t p) (h5 : a.eval p = q) (hq : q = .pointer (some ⟨g, j, none⟩)) (h6 : At (.box g cs ty) L k) (h7 : k ∈ ks) (_h : Nat.beq t ty = false) (h8 : cs[j]? = some v) (h9 : scalB P t = true) (ha : a.put oi.dst v = a') (hp : ∀ c v a w, Q (.panic c) (a.put oi.dst v) w → Q (.panic c) a w) : LtD P md ops Q ds L ks i l l' a a' := ⟨oi, v, h1, h2, h3, hw, run_kp h4 (h5.trans hq) h6 h7 h8 h9, ha, hp⟩
theorem ltDN {oi : Oper} {i : Nat} {l l' : Array Bool} {a a' : Act} {t : TypeId} {p : Operand} {g k : Nat} {cs : Array Value} {q : Value} (h1 : ops[i]? = some oi) (h2 : l.setIfInBounds i true = l') (h3 : takeB md ops ds l l' i = true) (hw : oi.guard = none) (h4 : oi.op = .load t p) (h5 : a.eval p = q) (hq : q = .pointer (some ⟨g, 0, none⟩)) (h6 : At (.box g cs t) L k) (h7 : k ∈ ks) (h8 : aggB P t = true) (h9 : (P.info? t).map (·.size) = some cs.size) (ha : a.put oi.dst (.agg cs) = a') (hp : ∀ c v a w, Q (.panic c) (a.put oi.dst v) w → Q (.panic c) a w) : LtD P md ops Q ds L ks i l l' a a' := ⟨oi, _, h1, h2, h3, hw, run_kpA h4 (h5.trans hq) h6 h7 h8 h9, ha, hp⟩
theorem LtD.run {i : Nat} {l l' : Array Bool} {a a' : Act} {fuel : Nat} (k : LtD P md ops Q ds L ks i l l' a a') (S : Kp L ks w) (h : wpAnyLast P md ops Q (Kp L ks) ds fuel l' a' w) : wpAnyLast P md ops Q (Kp L ks) ds (fuel + 1) l a w := by
 obtain ⟨oi, v, h1, h2, h3, hw, hr, ha, h5⟩ := k
 exact take_ l' h1 rfl h3 (fun c a w => h5 c v a w) (.inl ⟨want0 hw, fun w' s => hr _ s⟩) S ha h
theorem ltd (i : Nat) (S : Sep w0 w L') {l l' : Array Bool} {a a' : Act} {fuel : Nat} (h : wpAnyLast P md ops Q (Kp L ks) ds fuel l' a' w)
    (hk : ∀ k ∈ ks, L'[k]? = L[k]? := by repeat (first | exact List.forall_mem_nil _ | refine List.forall_mem_cons.2 ⟨rfl, ?_⟩))
    (k : LtD P md ops Q ds L ks i l l' a a' := by
      first
        | (apply ltD1
           case h1 => simp only [List.getElem?_toArray, List.getElem?_cons_zero, List.getElem?_cons_succ]; rfl
           case h2 => simp only [List.setIfInBounds_toArray, List.set_cons_zero, List.set_cons_succ]; rfl
           case h3 => kernel_rfl
           case hw => rfl
           case h4 => with_reducible rfl
           case h5 => go_simp; with_reducible rfl
           case hq => with_reducible rfl
           case h6 => repeat (first | exact At.here | apply At.there)
           case h7 => decide
           case _h => rfl
           case h8 => rfl
           case h9 => kernel_rfl
           case ha => simp only [Act.put, List.setIfInBounds_toArray, List.set_cons_zero, List.set_cons_succ]; rfl
           case hp => exact fun _ _ _ _ h => h)
        | (apply ltDN
           case h1 => simp only [List.getElem?_toArray, List.getElem?_cons_zero, List.getElem?_cons_succ]; rfl
           case h2 => simp only [List.setIfInBounds_toArray, List.set_cons_zero, List.set_cons_succ]; rfl
           case h3 => kernel_rfl
           case hw => rfl
           case h4 => with_reducible rfl
           case h5 => go_simp; with_reducible rfl
           case hq => with_reducible rfl
           case h6 => repeat (first | exact At.here | apply At.there)
           case h7 => decide
           case h8 => kernel_rfl
           case h9 => kernel_rfl
           case ha => simp only [Act.put, List.setIfInBounds_toArray, List.set_cons_zero, List.set_cons_succ]; rfl
           case hp => exact fun _ _ _ _ h => h)) : wpAnyLast P md ops Q (Kp L ks) ds (fuel + 1) l a w := k.run (S.kp hk) h
theorem lcd (i n : Nat) {f : FuncId} {args : Array Value} {R : Ending → World → Prop} {fuel : Nat} {l l' : Array Bool} {a : Act} {fn : Func} (h6 : P.funcs[f]? = some fn) (hC : Calls P f args w R)
    (h : ∀ e w1, R e w1 → ∃ v, e = .returned v ∧ Kp L0 ks w1 ∧ ∃ a', a.put (some n) v = a' ∧ wpAnyLast P md ops Q (Kp L0 ks) ds fuel l' a' w1)
    (hd : i ∉ ds := by decide)
    (k : CaAt P md ops i n l l' a f fn args := by
      apply caAt
      case h1 => simp only [List.getElem?_toArray, List.getElem?_cons_zero, List.getElem?_cons_succ]; rfl
      case h2 => rfl
      case h3 => simp only [List.setIfInBounds_toArray, List.set_cons_zero, List.set_cons_succ]; rfl
      case h4 => kernel_rfl
      case h5 => rfl
      case h7 => kernel_rfl
      case h8 => kernel_rfl
      case h9 => rfl
      case h10 => simp only [List.map_toArray, List.map_cons, List.map_nil]; rfl) : wpAnyLast P md ops Q (Kp L0 ks) ds (fuel + 1) l a w := by
  obtain ⟨oi, av, ts, h1, h2, h3, h4, h5, h7, h8, h9, h10⟩ := k
  refine one_ l' h1 h2 h4 hd (fun K hK => goes_ h6 h7 h8 args (want0 h5) h2 h9 h10 (hC.mono ?_))
  intro e w1 hR
  obtain ⟨v, he, hk, a', ha, hh⟩ := h e w1 hR
  subst ha
  exact ⟨v, he, hK.out _ _ hk (fun _ => hh)⟩
theorem lse (i q : Nat) (S : Sep w0 w L) {L0 : List Asr} {l l' : Array Bool} {a : Act} {fuel : Nat} (h : ∀ w1, Sep w0 w1 L' → wpAnyLast P md ops Q (Kp L0 ks) ds fuel l' a w1)
    (k : LsAt P md ops L L' i l l' a := by
      apply lsAt
      case h1 => simp only [List.getElem?_toArray, List.getElem?_cons_zero, List.getElem?_cons_succ]; rfl
      case h2 => simp only [List.setIfInBounds_toArray, List.set_cons_zero, List.set_cons_succ]; rfl
      case h3 => kernel_rfl
      case h5 => rfl
      case h6 =>
        apply stAt
        case h1 => rfl
        case h2 => rfl
        case h3 => rfl
        case h4 => repeat (first | exact Upd.here | apply Upd.there)
        case h5 => go_simp; with_reducible rfl
        case h6 => first | exact (rfl : _ = [_]) | exact (rfl : _ = [_, _, _, _, _]) | exact (rfl : _ = [_, _, _]) | exact (rfl : _ = [_, _, _, _, _, _, _, _]) | exact (rfl : _ = [_, _, _, _, _, _, _, _, _, _])
        case h7 => kernel_rfl
        case h8 => rfl
        case h9 => rfl
        case h10 => simp only [putL, List.set_cons_zero, List.set_cons_succ]; rfl)
    (hd : i ∉ ds := by decide)
    (hk : ∀ k ∈ ks, L'[k + q]? = L0[k]? := by repeat (first | exact List.forall_mem_nil _ | refine List.forall_mem_cons.2 ⟨rfl, ?_⟩)) : wpAnyLast P md ops Q (Kp L0 ks) ds (fuel + 1) l a w := by
  obtain ⟨oi, h1, e2, h3, h5, t, p, x, g, i', ty, cs, cs', u, seg, e1, e2', e3, e4, e5, e6, e7, e8, e9, e10⟩ := k
  exact one_ l' h1 e2' h3 hd (fun K hK => sp_store_step e1 e2' (want0 h5) S e3 e4 e5 e6 e7 e8 e9 e10 (fun w1 S1 => hK.out _ _ (S1.kpq q hk) (fun _ => h w1 S1)))
theorem lsl (i : Nat) (S : Sep w0 w L) {L0 : List Asr} {l l' : Array Bool} {a : Act} {fuel : Nat} (h : ∀ w1, Sep w0 w1 L' → wpAnyLast P md ops Q (Kp L0 ks) ds fuel l' a w1)
    (k : LsAt P md ops L L' i l l' a := by
      apply lsAt
      case h1 => simp only [List.getElem?_toArray, List.getElem?_cons_zero, List.getElem?_cons_succ]; rfl
      case h2 => simp only [List.setIfInBounds_toArray, List.set_cons_zero, List.set_cons_succ]; rfl
      case h3 => kernel_rfl
      case h5 => rfl
      case h6 =>
        apply stAt
        case h1 => rfl
        case h2 => rfl
        case h3 => rfl
        case h4 => repeat (first | exact Upd.here | apply Upd.there)
        case h5 => go_simp; with_reducible rfl
        case h6 => first | exact (rfl : _ = [_]) | exact (rfl : _ = [_, _, _, _, _]) | exact (rfl : _ = [_, _, _]) | exact (rfl : _ = [_, _, _, _, _, _, _, _]) | exact (rfl : _ = [_, _, _, _, _, _, _, _, _, _])
        case h7 => kernel_rfl
        case h8 => rfl
        case h9 => rfl
        case h10 => simp only [putL, List.set_cons_zero, List.set_cons_succ]; rfl)
    (hd : i ∈ ds := by decide) : wpAnyLast P md ops Q (Kp L0 ks) ds (fuel + 1) l a w := by
  obtain ⟨oi, h1, e2, h3, h5, t, p, x, g, i', ty, cs, cs', u, seg, e1, e2', e3, e4, e5, e6, e7, e8, e9, e10⟩ := k
  exact last_ l' h1 e2' h3 hd (fun K hK => sp_store_step e1 e2' (want0 h5) S e3 e4 e5 e6 e7 e8 e9 e10 (fun w1 S1 => hK.out _ _ (h w1 S1)))
end
section
variable {P : Program} {ops : Array Oper} {rest : List Oper} {o : Oper} {a a' : Act} {Q : Exit → Act → World → Prop} {w0 W : World} {L : List Asr}
def XdAt (P : Program) (ops : Array Oper) (o : Oper) (a a' : Act) (ad : Addr) (v : Value) : Prop := Region.wanted o (yielded ops a.tmps) = true ∧ ∃ t p, o.op = .load t p ∧ a.eval p = .pointer (some ad) ∧ scalB P t = true ∧ a.put o.dst v = a'
theorem xdAt {ad : Addr} {v : Value} {t : TypeId} {p : Operand} (hw : Region.wanted o (yielded ops a.tmps) = true) (h1 : o.op = .load t p) (h2 : a.eval p = .pointer (some ad)) (h3 : scalB P t = true) (h4 : a.put o.dst v = a') : XdAt P ops o a a' ad v := ⟨hw, t, p, h1, h2, h3, h4⟩
theorem sx (S : Sep w0 W L) {ad : Addr} {v : Value} (hv : w0.cell? ad = some v) (h : wpList P ops Q rest a' W)
    (k : XdAt P ops o a a' ad v := by
      apply xdAt
      case h1 => with_reducible rfl
      case h2 => go_simp
      case hw => first | exact want0 rfl | rfl
      case h3 => kernel_rfl
      case h4 => simp only [Act.put, List.setIfInBounds_toArray, List.set_cons_zero, List.set_cons_succ]; rfl) : wpList P ops Q (o :: rest) a W := by
  obtain ⟨hw, t, p, h1, h2, h3, rfl⟩ := k
  refine wpList_step fun K hK => ?_
  rw [if_pos hw]
  unfold Oper.wp
  have hr := run_load_one (P := P) h3 (pw_cell_below S.below hv)
  have he : (execOp a.eval o).run P W = .ok (.value v) W := by
    unfold execOp
    simp only [h1, h2, Sem.run_bind, Sem.run_pure, Result.andThen_ok, hr]
  rw [he]
  exact hK _ _ h
end
section
variable {P : Program} {md : Region.Mode} {ops : Array Oper} {Q : Exit → Act → World → Prop} {w0 W w : World} {L L' L0 : List Asr} {ks ds : List Nat}
def Rdy (P : Program) (md : Region.Mode) (ops : Array Oper) (Q : Exit → Act → World → Prop) (S : World → Prop) (ds : List Nat) (fuel : Nat) (l : Array Bool) (a : Act) (w : World) (i : Nat) : Prop :=
 ∃ o, ops[i]? = some o ∧ i ∉ ds ∧ ∀ K : Act → World → Prop, Shut (∀ a' w', S w' → (S w' → wpAnyLast P md ops Q S ds fuel (l.setIfInBounds i true) a' w') → K a' w') → if Region.wanted o (yielded ops a.tmps) = true then Oper.wp P o a w K Q else K (a.put o.dst undef) w
theorem rdAll {S : World → Prop} {fuel : Nat} {l : Array Bool} {a : Act} {w : World} : ∀ {rs : List Nat}, (∀ i ∈ rs, Rdy P md ops Q S ds fuel l a w i) → AllReadyL P md ops Q S ds fuel l a w rs
 | [], _ => AllReadyL.nil
 | i :: rs, h => by
  obtain ⟨o, h1, h2, h3⟩ := h i List.mem_cons_self
  exact AllReadyL.cons h1 h2 (fun K hK => h3 K hK) (rdAll (fun j hj => h j (List.mem_cons_of_mem _ hj)))
theorem rdo {S : World → Prop} {fuel : Nat} {l : Array Bool} {a : Act} (rs : List Nat) (hne : rs ≠ []) (h : ∀ i ∈ rs, Rdy P md ops Q S ds fuel l a w i) (hr : (Region.ready md ops l == rs) = true := by kernel_rfl) : wpAnyLast P md ops Q S ds (fuel + 1) l a w :=
 wpAnyLast_ready (by simpa using hr) hne (rdAll h)
def RcAt (P : Program) (ops : Array Oper) (i n : Nat) (l l' : Array Bool) (a : Act) (f : FuncId) (fn : Func) (args : Array Value) : Prop :=
 ∃ (oi : Oper) (av : Array Operand) (ts : Array TypeId), ops[i]? = some oi ∧ oi.dst = some n ∧ l.setIfInBounds i true = l' ∧ oi.guard = none ∧ (fn.name == "runtime.NumGoroutine") = false ∧ fn.body.isSome = true ∧ oi.op = .call { callee := .value (.func f), args := av, argTypes := ts } ∧ av.map a.eval = args
theorem rcAt {i n : Nat} {l l' : Array Bool} {a : Act} {f : FuncId} {fn : Func} {args : Array Value} {oi : Oper} {av : Array Operand} {ts : Array TypeId} (h1 : ops[i]? = some oi) (h2 : oi.dst = some n) (h3 : l.setIfInBounds i true = l') (h5 : oi.guard = none) (h7 : (fn.name == "runtime.NumGoroutine") = false) (h8 : fn.body.isSome = true) (h9 : oi.op = .call { callee := .value (.func f), args := av, argTypes := ts }) (h10 : av.map a.eval = args) : RcAt P ops i n l l' a f fn args :=
 ⟨oi, av, ts, h1, h2, h3, h5, h7, h8, h9, h10⟩
theorem rc (n : Nat) {i : Nat} {f : FuncId} {args : Array Value} {R : Ending → World → Prop} {fuel : Nat} {l l' : Array Bool} {a : Act} {fn : Func} (h6 : P.funcs[f]? = some fn) (hC : Calls P f args w R)
    (h : ∀ e w1, R e w1 → ∃ v, e = .returned v ∧ Kp L0 ks w1 ∧ ∃ a', a.put (some n) v = a' ∧ wpAnyLast P md ops Q (Kp L0 ks) ds fuel l' a' w1)
    (hd : i ∉ ds := by decide)
    (k : RcAt P ops i n l l' a f fn args := by
      apply rcAt
      case h1 => simp only [List.getElem?_toArray, List.getElem?_cons_zero, List.getElem?_cons_succ]; rfl
      case h2 => rfl
      case h3 => simp only [List.setIfInBounds_toArray, List.set_cons_zero, List.set_cons_succ]; rfl
      case h5 => rfl
      case h7 => kernel_rfl
      case h8 => kernel_rfl
      case h9 => rfl
      case h10 => simp only [List.map_toArray, List.map_cons, List.map_nil]; rfl) : Rdy P md ops Q (Kp L0 ks) ds fuel l a w i := by
  obtain ⟨oi, av, ts, h1, h2, h3, h5, h7, h8, h9, h10⟩ := k
  refine ⟨oi, h1, hd, fun K hK => ?_⟩
  rw [h2]
  refine goes_ h6 h7 h8 args (want0 h5) h2 h9 h10 (hC.mono ?_)
  intro e w1 hR
  obtain ⟨v, he, hk, a', ha, hh⟩ := h e w1 hR
  subst ha h3
  exact ⟨v, he, hK.out _ _ hk (fun _ => hh)⟩
def RnAt (P : Program) (W : World) (ops : Array Oper) (i n : Nat) (l l' : Array Bool) (a : Act) (cs : Array Value) (t : TypeId) (f : Nat → Act) : Prop :=
 ∃ oi : Oper, ops[i]? = some oi ∧ oi.dst = some n ∧ l.setIfInBounds i true = l' ∧ oi.guard = none ∧ (execOp a.eval oi).run P W = .ok (.value (.pointer (some ⟨W.heap.size, 0, none⟩))) (W.alloc (.cells cs t (0, 0))) ∧ ∀ g, a.put (some n) (.pointer (some ⟨g, 0, none⟩)) = f g
theorem rnAt {W : World} {i n : Nat} {l l' : Array Bool} {a : Act} {cs : Array Value} {t : TypeId} {f : Nat → Act} {oi : Oper} (h1 : ops[i]? = some oi) (h2 : oi.dst = some n) (h3 : l.setIfInBounds i true = l') (h5 : oi.guard = none) (h6 : (execOp a.eval oi).run P W = .ok (.value (.pointer (some ⟨W.heap.size, 0, none⟩))) (W.alloc (.cells cs t (0, 0)))) (h7 : ∀ g, a.put (some n) (.pointer (some ⟨g, 0, none⟩)) = f g) : RnAt P W ops i n l l' a cs t f := ⟨oi, h1, h2, h3, h5, h6, h7⟩
theorem rn (n : Nat) {i : Nat} (S : Sep w0 W L) {fuel : Nat} {l l' : Array Bool} {a : Act} {cs : Array Value} {t : TypeId} {f : Nat → Act} (h : ∀ g w1, Sep w0 w1 (.box g cs t :: L) → Kp L0 ks w1 ∧ wpAnyLast P md ops Q (Kp L0 ks) ds fuel l' (f g) w1)
    (hd : i ∉ ds := by decide)
    (k : RnAt P W ops i n l l' a cs t f := by
      apply rnAt
      case h1 => simp only [List.getElem?_toArray, List.getElem?_cons_zero, List.getElem?_cons_succ]; rfl
      case h2 => rfl
      case h3 => simp only [List.setIfInBounds_toArray, List.set_cons_zero, List.set_cons_succ]; rfl
      case h5 => rfl
      case h6 => first | (go_simp; done) | (go_simp; rfl)
      case h7 => intro g; simp only [Act.put, List.setIfInBounds_toArray, List.set_cons_zero, List.set_cons_succ]; rfl) : Rdy P md ops Q (Kp L0 ks) ds fuel l a W i := by
  obtain ⟨oi, h1, h2, h3, h5, h6, h7⟩ := k
  refine ⟨oi, h1, hd, fun K hK => ?_⟩
  rw [h2]
  subst h3
  have hh := h _ _ (S.new cs t)
  refine value_ (want0 h5) h2 h6 ?_
  rw [h7]
  exact hK.out _ _ hh.1 (fun _ => hh.2)
end
end Go.Proofs.YtidglmocekghmaaDoor.Pr
end
section
namespace Go.Proofs.YtidglmocekghmaaDoor.Pr
open Go.RowKit Go.Proofs.YtidglmocekghmaaDoorW.PrintWords Go.Proofs.YtidglmocekghmaaDoorW.PrintLast Go.Proofs.YtidglmocekghmaaDoorW.PrintMore
set_option linter.unusedVariables false
set_option linter.unusedSimpArgs false
section
variable {P : Program} {ops : Array Oper} {rest : List Oper} {o : Oper} {a : Act} {Q : Exit → Act → World → Prop} {w0 W w1 : World} {L : List Asr} {α : Type} {d : Kd α} {e : Nat} {v v1 : Value} {xs ys : List α}
theorem R_litX (d : Kd α) (e : Nat) (W : World) {inner : List Value} (hr : Reps (d.M W W.heap.size (fun _ => False)) d.sz xs inner) (hm : xs.length ≤ 9223372036854775807) : d.R e (W.alloc (.cells inner.toArray e)) W.heap.size (fun _ => True) (.slice (some ⟨W.heap.size, 0, none⟩) xs.length xs.length) xs := by
 refine ⟨fun _ _ => trivial, inner, ?_, hr.imp_ (fun p c hp => d.M_mono (fun k hk => hk.1.elim) (Kd.M_below (d.M_bound hp) (below_alloc (Below.refl _ _) _)))⟩
 have h2 := World.ownsRow_lit (base := W.heap.size) (e := e) (size := d.sz) W inner.toArray xs.length (Nat.le_refl _) (by simpa [maxLen] using hm) (by simpa using hr.1)
 simpa using h2
theorem sp_lit (d : Kd α) (e : Nat) {N : Tmp} (hd : o.dst = some N) (hg : o.guard = none) (S : Sep w0 W L) (xs : List α) (inner : List Value)
  (hrun : (execOp a.eval o).run P W = .ok (.value (.slice (some ⟨W.heap.size, 0, none⟩) xs.length xs.length)) (W.alloc (.cells inner.toArray e)))
  (hr : Reps (d.M W W.heap.size (fun _ => False)) d.sz xs inner) (hm : xs.length ≤ 9223372036854775807)
  (h : ∀ g w1, Sep w0 w1 (.row d e (.slice (some ⟨g, 0, none⟩) xs.length xs.length) xs :: L) → wpList P ops Q rest (a.put (some N) (.slice (some ⟨g, 0, none⟩) xs.length xs.length)) w1) : wpList P ops Q (o :: rest) a W := by
 rw [← hd] at h
 exact Kd.event_run hg hrun (h _ _ (S.push (a := .row d e _ xs) (below_alloc (Below.refl _ _) _) (R_litX d e W hr hm)))
theorem Sep.grown {F : Nat → Prop} (hb : Below w0.heap.size w0 W) (hF : ∀ k, F k → k < W.heap.size) (hv : ∀ k, v.ownBlock = some k → F k)
  (hL : Sat W w0.heap.size L (fun k => k < W.heap.size ∧ ¬ F k)) (hR : d.R e w1 w0.heap.size (fun k => F k ∨ W.heap.size ≤ k) v1 ys) (hB : Below w0.heap.size w0 w1) (hg : W.grownBy w1 v.ownBlock) : Sep w0 w1 (.row d e v1 ys :: L) :=
 Sep.appended (ok := fun _ => True) (A := fun _ => True) (F := F) (G := fun _ => False) hb hF hv (fun _ h => h.elim) (hL.mono (fun k hk => ⟨hk, fun h => h⟩)) (Kd.R_mono hR (fun k hk => hk.elim .inl (fun h => .inr (.inr h)))) hB hg
theorem sp_rows (S : Sep w0 W (.row d e v xs :: L)) (hgd : o.guard = none) {s x : Operand} {t : TypeId} {z : Value} {bytes : Nat} {A : Option Addr} {m c : Nat}
  (ho : o.op = .call { callee := .builtin .append, args := #[s, x], argTypes := #[t, t] })
  (ht : P.underlying t = some (.slice e)) (hinfo : (P.info? e).map (fun i => (i.zero, i.size, i.bytes)) = some (some z, d.sz, bytes)) (hz : z.cells.size = d.sz) (hs0 : 0 < d.sz) (hb0 : 0 < bytes)
  (hs : a.eval s = v) (hx : a.eval x = .slice A m c) (hr : d.C W A m ys) (hKM : ∀ x cs, d.K W x cs → d.M W w0.heap.size (fun _ => False) x cs) (hl : (xs.length + m) * bytes ≤ 140737488355328)
  (h : ∀ v1 w1, Sep w0 w1 (.row d e v1 (xs ++ ys) :: L) → wpList P ops Q rest (a.put o.dst v1) w1) : wpList P ops Q (o :: rest) a W := by
 obtain ⟨B, F, h1, h2, h3⟩ := S
 refine Kd.R_append_rows d (w0 := w0) (Rr := d.K W) w0.heap.size hgd s x t e z bytes ho ht hinfo hz hs0 hb0 v xs ys A m c (fun k => F k ∨ W.heap.size ≤ k) (fun _ => False) hs hx (Kd.R_mono h2 (fun k hk => .inl hk)) hr hKM (fun k hk => hk.elim) (fun k hk => .inr hk) B B.size hl ?_
 intro v1 w1 hr hb hg _
 exact h v1 w1 (Sep.grown B h1 h2.1 h3 hr hb hg)
theorem Sep.putR {enc : α → Value} {h1 : ∀ x, (enc x).oneCell' = true} {g n c i : Nat} {y : α} (S : Sep w0 W (.row (Kd.scalar enc h1) e (.slice (some ⟨g, 0, none⟩) n c) xs :: L)) (hi : i < n) : Sep w0 (W.setCell ⟨g, i, none⟩ (enc y)) (.row (Kd.scalar enc h1) e (.slice (some ⟨g, 0, none⟩) n c) (xs.set i y) :: L) := by
 obtain ⟨B, F, k1, k2, k3⟩ := S
 have hn : xs.length = n := (Kd.R_reads' k2).1.symm
 subst hn
 obtain ⟨r1, r2⟩ := Kd.R_put k2 (i : Int) y
 rw [Int.toNat_natCast] at r1 r2
 have hob : (Value.slice (some ⟨g, 0, none⟩) xs.length c).ownBlock = some g := by simp [Value.ownBlock]
 have hge : w0.heap.size ≤ g := by
  obtain ⟨_, ho⟩ := k2.2
  exact own_base ho.1 g hob
 have hFg := k2.1 g hob
 have hsz : (W.setCell ⟨g, i, none⟩ (enc y)).heap.size = W.heap.size := by
  have := setCells_only g i [enc y] W
  exact this.size
 have hos := setCells_only g i [enc y] W
 refine ⟨⟨hos.os.trans B.os, hos.tape.trans B.tape, hos.output.trans B.output, by rw [hsz]; exact B.size, fun k hk => (hos.block k (by omega)).trans (B.block k hk)⟩, F, fun k hk => by rw [hsz]; exact k1 k hk, r1, ?_⟩
 rw [hsz]
 exact k3.step (fun k hk _ => hos.block k (fun e' => hk.2 (e' ▸ hFg)))
theorem sp_put {enc : α → Value} {h1 : ∀ x, (enc x).oneCell' = true} {g n c i : Nat} {y : α} {t : TypeId} {p x : Operand} (ho : o.op = .store t p x) (hN : o.dst = none) (hg : o.guard = none) (S : Sep w0 W (.row (Kd.scalar enc h1) e (.slice (some ⟨g, 0, none⟩) n c) xs :: L))
  (hp : a.eval p = .pointer (some ⟨g, i, none⟩)) (hx : a.eval x = enc y) (hi : i < n) (ht : (P.info? t).map (·.size) = some 1) (hu : (enc y).cells.toList = [enc y])
  (h : ∀ w1, Sep w0 w1 (.row (Kd.scalar enc h1) e (.slice (some ⟨g, 0, none⟩) n c) (xs.set i y) :: L) → wpList P ops Q rest a w1) : wpList P ops Q (o :: rest) a W := by
 have hn : xs.length = n := (Kd.R_reads' (S.outR .here)).1.symm
 obtain ⟨inner, hown⟩ := (S.outR .here).2
 have hob : (Value.slice (some ⟨g, 0, none⟩) n c).ownBlock = some g := by simp [Value.ownBlock]
 obtain ⟨cells, hc⟩ := own_typed hown.1 g hob
 have hfit : i + 1 ≤ cells.toList.length := by
  have h2 := (Kd.R_celln y (S.outR .here) (i : Int) (by omega) (by omega)).1
  rw [Int.toNat_natCast, blk_cell hc] at h2
  have := (Array.getElem?_eq_some_iff.1 h2).1
  simp; omega
 have hr := run_store_run (P := P) t (enc y) [enc y] (show W.heap[g]? = some (.cells cells.toList.toArray e (0, 0)) by simpa using hc) hu ht (by simpa using hfit) (fun q hq => by simp at hq; subst hq; exact h1 y)
 have he : (execOp a.eval o).run P W = .ok .skip (W.setCells g i [enc y]) := by
  unfold execOp
  simp only [ho, hp, hx, Sem.run_bind, Sem.run_pure, Result.andThen_ok, hr]
 refine wpList_plain hg fun K hK => ?_
 unfold Oper.wp
 rw [he]
 show K (a.put o.dst undef) _
 rw [hN]
 exact hK _ _ (h _ (S.putR hi))
end
section
variable {P : Program} {md : Region.Mode} {ops : Array Oper} {Q : Exit → Act → World → Prop} {w0 W w w1 : World} {L : List Asr}
def Bw (w1 : World) (w : World) : Prop := Below w1.heap.size w1 w
theorem bws (S : Sep w0 W L) {id n : Nat} {l : Array Bool} {a : Act} (h : Sep w0 W.drew L → wpAnyLast P .any ops Q (Bw W.drew) [] n l a W.drew)
  (h1 : P.follows .mixedOrders = true := by kernel_rfl) (h2 : ops.size = n := by simp only [List.size_toArray, List.length_cons, List.length_nil, Nat.reduceAdd]; rfl)
  (h3 : Array.replicate n false = l := by simp only [Array.replicate_succ, Array.replicate_zero, List.push_toArray, List.nil_append, List.cons_append]; rfl) : (Code.region id ops true).wp P Q a W :=
 start_ (S := Bw W.drew) l h1 h2 h3 (Below.refl _ _) (fun _ => h S.drew)
def BlAt (P : Program) (md : Region.Mode) (ops : Array Oper) (Q : Exit → Act → World → Prop) (i : Nat) (l l' : Array Bool) (a a' : Act) (ad : Addr) (v : Value) : Prop :=
 ∃ oi t p, ops[i]? = some oi ∧ l.setIfInBounds i true = l' ∧ takeB md ops [] l l' i = true ∧ oi.guard = none ∧ oi.op = .load t p ∧ a.eval p = .pointer (some ad) ∧ scalB P t = true ∧ a.put oi.dst v = a' ∧ (∀ c a w, Q (.panic c) (a.put oi.dst v) w → Q (.panic c) a w)
theorem blAt {i : Nat} {l l' : Array Bool} {a a' : Act} {ad : Addr} {v : Value} {oi : Oper} {t : TypeId} {p : Operand} (h1 : ops[i]? = some oi) (h2 : l.setIfInBounds i true = l') (h3 : takeB md ops [] l l' i = true) (h4 : oi.guard = none) (h5 : oi.op = .load t p) (h6 : a.eval p = .pointer (some ad)) (h7 : scalB P t = true) (h8 : a.put oi.dst v = a') (h9 : ∀ c a w, Q (.panic c) (a.put oi.dst v) w → Q (.panic c) a w) : BlAt P md ops Q i l l' a a' ad v := ⟨oi, t, p, h1, h2, h3, h4, h5, h6, h7, h8, h9⟩
theorem bwl (i : Nat) {ad : Addr} {v : Value} (hv : w1.cell? ad = some v) (hb : Bw w1 w) {l l' : Array Bool} {a a' : Act} {fuel : Nat} (h : wpAnyLast P md ops Q (Bw w1) [] fuel l' a' w)
    (k : BlAt P md ops Q i l l' a a' ad v := by
      apply blAt
      case h1 => simp only [List.getElem?_toArray, List.getElem?_cons_zero, List.getElem?_cons_succ]; rfl
      case h2 => simp only [List.setIfInBounds_toArray, List.set_cons_zero, List.set_cons_succ]; rfl
      case h3 => kernel_rfl
      case h4 => rfl
      case h5 => with_reducible rfl
      case h6 => first | (go_simp; done) | (go_simp; rfl)
      case h7 => kernel_rfl
      case h8 => simp only [Act.put, List.setIfInBounds_toArray, List.set_cons_zero, List.set_cons_succ]; rfl
      case h9 => exact fun _ _ _ h => h) : wpAnyLast P md ops Q (Bw w1) [] (fuel + 1) l a w := by
  obtain ⟨oi, t, p, h1, h2, h3, h4, h5, h6, h7, h8, h9⟩ := k
  refine take_ l' h1 rfl h3 (fun c a w => h9 c a w) (.inl ⟨want0 h4, fun w' s => ?_⟩) hb h8 h
  have hr := run_load_one (P := P) h7 (pw_cell_below s hv)
  unfold execOp
  simp only [h5, h6, Sem.run_bind, Sem.run_pure, Result.andThen_ok, hr]
theorem bwc (i n : Nat) {f : FuncId} {args : Array Value} {R : Ending → World → Prop} {fuel : Nat} {l l' : Array Bool} {a : Act} {fn : Func} (h6 : P.funcs[f]? = some fn) (hC : Calls P f args w R)
    (h : ∀ e w2, R e w2 → ∃ v, e = .returned v ∧ Bw w1 w2 ∧ ∃ a', a.put (some n) v = a' ∧ wpAnyLast P md ops Q (Bw w1) [] fuel l' a' w2)
    (k : CaAt P md ops i n l l' a f fn args := by
      apply caAt
      case h1 => simp only [List.getElem?_toArray, List.getElem?_cons_zero, List.getElem?_cons_succ]; rfl
      case h2 => rfl
      case h3 => simp only [List.setIfInBounds_toArray, List.set_cons_zero, List.set_cons_succ]; rfl
      case h4 => kernel_rfl
      case h5 => rfl
      case h7 => kernel_rfl
      case h8 => kernel_rfl
      case h9 => rfl
      case h10 => simp only [List.map_toArray, List.map_cons, List.map_nil]; rfl) : wpAnyLast P md ops Q (Bw w1) [] (fuel + 1) l a w := by
  obtain ⟨oi, av, ts, h1, h2, h3, h4, h5, h7, h8, h9, h10⟩ := k
  refine one_ l' h1 h2 h4 (by simp) (fun K hK => goes_ h6 h7 h8 args (want0 h5) h2 h9 h10 (hC.mono ?_))
  intro e w2 hR
  obtain ⟨v, he, hk, a', ha, hh⟩ := h e w2 hR
  subst ha
  exact ⟨v, he, hK.out _ _ hk (fun _ => hh)⟩
end
end Go.Proofs.YtidglmocekghmaaDoor.Pr
end
section
namespace Go.Proofs.YtidglmocekghmaaDoor.Pr
open Go.RowKit Go.Proofs.YtidglmocekghmaaDoorW.PrintWords Go.Proofs.YtidglmocekghmaaDoorW.PrintLast Go.Proofs.YtidglmocekghmaaDoorW.PrintMore
attribute [local go_sem] max2_int min2_int max_two min_two max_three min_three max_four min_four
set_option linter.unusedVariables false
set_option linter.unusedSimpArgs false
def capnpref11_Words.l0 : Nat → List Int → Int → Int → Option (Int)
 | 0, _, _, _ => none
 | k + 1, x0, x3, x4 => if x4 < (x0.length : Int) then (if 0 ≤ x4 then (if (rd x0 x4) = 0 then (capnpref11_Words.l0 k x0 x3 (wrap64 (x4 + 1))) else (capnpref11_Words.l0 k x0 (wrap64 ((wrap64 (Int.tdiv x4 8)) + 1)) (wrap64 (x4 + 1)))) else (none)) else (some x3)
def capnpref11_Words.f (k : Nat) (l0 : List Int) : Option (Int) := capnpref11_Words.l0 k l0 0 0
set_option maxHeartbeats 8000000 in
set_option maxRecDepth 100000 in
theorem capnpref11_Words.calls (k : Nat) (A0 : Option Addr) (c0 : Nat) (l0 : List Int) (r : Int) (w : World) (hr0 : Kd.C (Kd.int .u8) w A0 l0.length l0) (hc0 : l0.length ≤ c0) (h : capnpref11_Words.f k l0 = some r) :
    Calls Tryd.prog 46 #[.slice A0 l0.length c0] w fun e w' => e = .returned (.int .i64 r) ∧ Drawn0 w w' := by
  have HR0 := Aside0.mk hr0
  have HC0 := Aside0.mk hc0
  clear hr0 hc0
  have H : (capnpref11_Words.l0 k l0 0 0) = some r := h
  clear h
  have H' := Aside0.mk H
  clear H
  go_enter Tryd.func46, Tryd.ntmps46
  go_wp2
  go_loopg [3, 4] k (fun kq v3 v4 w' => ∃ (x3_1 : Int) (x4_1 : Int), v3 = .int .i64 x3_1 ∧ v4 = .int .i64 x4_1 ∧ Aside0 (capnpref11_Words.l0 kq l0 x3_1 x4_1 = some r) ∧ Aside0 (kq ≤ k) ∧ Drawn0 w w')
  case atStart => exact ⟨(0), (0), (by first | rfl | (simp; done) | (simp [*]; done)), (by first | rfl | (simp; done) | (simp [*]; done)), H', ⟨Nat.le_refl _⟩, by repeat (first | exact Drawn0.refl _ | apply Drawn0.step)⟩
  case round =>
    clear H'
    obtain ⟨x3_1, x4_1, rfl, rfl, HA, HK1, ⟨m1, rfl⟩⟩ := hrel
    cases gk with
    | zero => exact absurd HA.out (by simp [capnpref11_Words.l0])
    | succ k1 =>
      have H := HA.out
      clear HA
      simp only [capnpref11_Words.l0] at H
      by_cases c2 : x4_1 < (l0.length : Int)
      · rw [if_pos c2] at H
        have c2b0 : decide (x4_1 < (l0.length : Int)) = true := decide_eq_true c2
        clear c2
        by_cases c3 : 0 ≤ x4_1
        · rw [if_pos c3] at H
          have c3b0 : decide (0 ≤ x4_1) = true := decide_eq_true c3
          clear c3
          by_cases c4 : (rd l0 x4_1) = 0
          · rw [if_pos c4] at H
            have c4b0 : ((rd l0 x4_1) == 0) = true := beq_iff_eq.mpr c4
            have c4b1 : ((rd l0 x4_1) != 0) = false := bne_eq_false_iff_eq.mpr c4
            clear c4
            have H' := Aside0.mk H
            clear H
            have p231 : 0 ≤ (x4_1 : Int) := of_decide_eq_true (by first | (with_reducible assumption) | assumption)
            have q231 : x4_1 < (l0.length : Int) := of_decide_eq_true (by first | (with_reducible assumption) | assumption)
            obtain ⟨ad231, e231, hx231_0⟩ := Kd.at_int HR0.out x4_1 p231 q231
            cases e231
            replace p231 := eq_true p231
            replace q231 := eq_true q231
            go_wp2
            go_roundg k1
            case measure => have := HK1.out; omega
            case rel => exact ⟨(x3_1), (wrap64 (x4_1 + 1)), (by first | rfl | (simp; done) | (simp [*]; done)), (by first | rfl | (simp; done) | (simp [*]; done)), H', ⟨by have := HK1.out; omega⟩, by repeat (first | exact Drawn0.refl _ | apply Drawn0.step)⟩
          · rw [if_neg c4] at H
            have c4b0 : ((rd l0 x4_1) == 0) = false := beq_eq_false_iff_ne.mpr c4
            have c4b1 : ((rd l0 x4_1) != 0) = true := bne_iff_ne.mpr c4
            have H' := Aside0.mk H
            clear H
            have p231 : 0 ≤ (x4_1 : Int) := of_decide_eq_true (by first | (with_reducible assumption) | assumption)
            have q231 : x4_1 < (l0.length : Int) := of_decide_eq_true (by first | (with_reducible assumption) | assumption)
            obtain ⟨ad231, e231, hx231_0⟩ := Kd.at_int HR0.out x4_1 p231 q231
            cases e231
            replace p231 := eq_true p231
            replace q231 := eq_true q231
            go_wp2
            go_roundg k1
            case measure => have := HK1.out; omega
            case rel => exact ⟨(wrap64 ((wrap64 (Int.tdiv x4_1 8)) + 1)), (wrap64 (x4_1 + 1)), (by first | rfl | (simp; done) | (simp [*]; done)), (by first | rfl | (simp; done) | (simp [*]; done)), H', ⟨by have := HK1.out; omega⟩, by repeat (first | exact Drawn0.refl _ | apply Drawn0.step)⟩
        · rw [if_neg c3] at H
          exact absurd H (by simp)
      · rw [if_neg c2] at H
        have c2b0 : decide (x4_1 < (l0.length : Int)) = false := decide_eq_false c2
        clear c2
        obtain rfl := Option.some.inj H
        go_wp2
        go_ret
        exact ⟨by first | rfl | (simp; done) | (simp [*]; done), by repeat (first | exact Drawn0.refl _ | apply Drawn0.step)⟩
def capnpref11_Pointers.l0 : Nat → List (S37) → Int → Int → Option (Int)
 | 0, _, _, _ => none
 | k + 1, x0, x3, x4 => if x4 < (x0.length : Int) then (if 0 ≤ x4 then (if ((rd_T37 x0 x4).f0) = 0 then (capnpref11_Pointers.l0 k x0 x3 (wrap64 (x4 + 1))) else (capnpref11_Pointers.l0 k x0 (wrap64 (x4 + 1)) (wrap64 (x4 + 1)))) else (none)) else (some x3)
def capnpref11_Pointers.f (k : Nat) (l0 : List (S37)) : Option (Int) := capnpref11_Pointers.l0 k l0 0 0
set_option maxHeartbeats 8000000 in
set_option maxRecDepth 100000 in
theorem capnpref11_Pointers.calls (k : Nat) (A0 : Option Addr) (c0 : Nat) (l0 : List (S37)) (r : Int) (w : World) (hr0 : Kd.C k37 w A0 l0.length l0) (hc0 : l0.length ≤ c0) (h : capnpref11_Pointers.f k l0 = some r) :
    Calls Tryd.prog 47 #[.slice A0 l0.length c0] w fun e w' => e = .returned (.int .i64 r) ∧ Drawn0 w w' := by
  have HR0 := Aside0.mk hr0
  have HC0 := Aside0.mk hc0
  clear hr0 hc0
  have H : (capnpref11_Pointers.l0 k l0 0 0) = some r := h
  clear h
  have H' := Aside0.mk H
  clear H
  go_enter Tryd.func47, Tryd.ntmps47
  go_wp2
  go_loopg [3, 4] k (fun kq v3 v4 w' => ∃ (x3_1 : Int) (x4_1 : Int), v3 = .int .i64 x3_1 ∧ v4 = .int .i64 x4_1 ∧ Aside0 (capnpref11_Pointers.l0 kq l0 x3_1 x4_1 = some r) ∧ Aside0 (kq ≤ k) ∧ Drawn0 w w')
  case atStart => exact ⟨(0), (0), (by first | rfl | (simp; done) | (simp [*]; done)), (by first | rfl | (simp; done) | (simp [*]; done)), H', ⟨Nat.le_refl _⟩, by repeat (first | exact Drawn0.refl _ | apply Drawn0.step)⟩
  case round =>
    clear H'
    obtain ⟨x3_1, x4_1, rfl, rfl, HA, HK1, ⟨m1, rfl⟩⟩ := hrel
    cases gk with
    | zero => exact absurd HA.out (by simp [capnpref11_Pointers.l0])
    | succ k1 =>
      have H := HA.out
      clear HA
      simp only [capnpref11_Pointers.l0] at H
      by_cases c2 : x4_1 < (l0.length : Int)
      · rw [if_pos c2] at H
        have c2b0 : decide (x4_1 < (l0.length : Int)) = true := decide_eq_true c2
        clear c2
        by_cases c3 : 0 ≤ x4_1
        · rw [if_pos c3] at H
          have c3b0 : decide (0 ≤ x4_1) = true := decide_eq_true c3
          clear c3
          by_cases c4 : ((rd_T37 l0 x4_1).f0) = 0
          · rw [if_pos c4] at H
            have c4b0 : (((rd_T37 l0 x4_1).f0) == 0) = true := beq_iff_eq.mpr c4
            have c4b1 : (((rd_T37 l0 x4_1).f0) != 0) = false := bne_eq_false_iff_eq.mpr c4
            clear c4
            have H' := Aside0.mk H
            clear H
            have p232 : 0 ≤ (x4_1 : Int) := of_decide_eq_true (by first | (with_reducible assumption) | assumption)
            have q232 : x4_1 < (l0.length : Int) := of_decide_eq_true (by first | (with_reducible assumption) | assumption)
            obtain ⟨ad232, A232_3, c232_3, A232_4, c232_4, e232, hx232_0, hx232_1, hx232_2, hx232_3, hx232_4, hl232_3, hi232_3, hl232_4, hi232_4⟩ := at_T37 HR0.out x4_1 p232 q232
            cases e232
            have HR232_3 := Aside0.mk hi232_3
            have HC232_3 := Aside0.mk hl232_3
            clear hi232_3 hl232_3
            have HR232_4 := Aside0.mk hi232_4
            have HC232_4 := Aside0.mk hl232_4
            clear hi232_4 hl232_4
            replace p232 := eq_true p232
            replace q232 := eq_true q232
            go_wp2
            go_roundg k1
            case measure => have := HK1.out; omega
            case rel => exact ⟨(x3_1), (wrap64 (x4_1 + 1)), (by first | rfl | (simp; done) | (simp [*]; done)), (by first | rfl | (simp; done) | (simp [*]; done)), H', ⟨by have := HK1.out; omega⟩, by repeat (first | exact Drawn0.refl _ | apply Drawn0.step)⟩
          · rw [if_neg c4] at H
            have c4b0 : (((rd_T37 l0 x4_1).f0) == 0) = false := beq_eq_false_iff_ne.mpr c4
            have c4b1 : (((rd_T37 l0 x4_1).f0) != 0) = true := bne_iff_ne.mpr c4
            have H' := Aside0.mk H
            clear H
            have p232 : 0 ≤ (x4_1 : Int) := of_decide_eq_true (by first | (with_reducible assumption) | assumption)
            have q232 : x4_1 < (l0.length : Int) := of_decide_eq_true (by first | (with_reducible assumption) | assumption)
            obtain ⟨ad232, A232_3, c232_3, A232_4, c232_4, e232, hx232_0, hx232_1, hx232_2, hx232_3, hx232_4, hl232_3, hi232_3, hl232_4, hi232_4⟩ := at_T37 HR0.out x4_1 p232 q232
            cases e232
            have HR232_3 := Aside0.mk hi232_3
            have HC232_3 := Aside0.mk hl232_3
            clear hi232_3 hl232_3
            have HR232_4 := Aside0.mk hi232_4
            have HC232_4 := Aside0.mk hl232_4
            clear hi232_4 hl232_4
            replace p232 := eq_true p232
            replace q232 := eq_true q232
            go_wp2
            go_roundg k1
            case measure => have := HK1.out; omega
            case rel => exact ⟨(wrap64 (x4_1 + 1)), (wrap64 (x4_1 + 1)), (by first | rfl | (simp; done) | (simp [*]; done)), (by first | rfl | (simp; done) | (simp [*]; done)), H', ⟨by have := HK1.out; omega⟩, by repeat (first | exact Drawn0.refl _ | apply Drawn0.step)⟩
        · rw [if_neg c3] at H
          exact absurd H (by simp)
      · rw [if_neg c2] at H
        have c2b0 : decide (x4_1 < (l0.length : Int)) = false := decide_eq_false c2
        clear c2
        obtain rfl := Option.some.inj H
        go_wp2
        go_ret
        exact ⟨by first | rfl | (simp; done) | (simp [*]; done), by repeat (first | exact Drawn0.refl _ | apply Drawn0.step)⟩
mutual
def capnpref11_Trim.j0 : Nat → Int → Int → Int → Int → Int → List Int → List (S37) → Option (Int × Int × Int × List Int × (List (S37)))
 | 0, _, _, _, _, _, _, _ => none
 | k + 1, x3, x4, x234000, x234001, x234002, x234003, x234004 => capnpref11_Trim.l0 k x3 x4 0 x234000 x234001 x234002 x234003 x234004 x234000 x234001 x234002 ([] : List Int)
def capnpref11_Trim.l0 : Nat → Int → Int → Int → Int → Int → Int → List Int → List (S37) → Int → Int → Int → List Int → Option (Int × Int × Int × List Int × (List (S37)))
 | 0, _, _, _, _, _, _, _, _, _, _, _, _ => none
 | k + 1, x3, x4, x6, x234000, x234001, x234002, x234003, x234004, x238000, x238001, x238002, x238003 => if x6 < x3 then (if 0 ≤ x6 then (if x6 < (x234003.length : Int) then (if x238003.length < 140737488355328 then (capnpref11_Trim.l0 k x3 x4 (wrap64 (x6 + 1)) x234000 x234001 x234002 x234003 x234004 x238000 x238001 x238002 (x238003 ++ [rd x234003 x6])) else (none)) else (none)) else (none)) else (capnpref11_Trim.l1 k x4 0 x234000 x234001 x234002 x234003 x234004 x238000 x238001 x238002 x238003 ([] : List (S37)))
def capnpref11_Trim.l1 : Nat → Int → Int → Int → Int → Int → List Int → List (S37) → Int → Int → Int → List Int → List (S37) → Option (Int × Int × Int × List Int × (List (S37)))
 | 0, _, _, _, _, _, _, _, _, _, _, _, _ => none
 | k + 1, x4, x7, x234000, x234001, x234002, x234003, x234004, x238000, x238001, x238002, x238003, x238004 => if x7 < x4 then (if 0 ≤ x7 then (if x7 < (x234004.length : Int) then ((capnpref11_Trim.f k ((rd_T37 x234004 x7).f0) ((rd_T37 x234004 x7).f1) ((rd_T37 x234004 x7).f2) ((rd_T37 x234004 x7).f3) ((rd_T37 x234004 x7).f4)).bind fun bt243 => (if x238004.length < 1954687338268 then (capnpref11_Trim.l1 k x4 (wrap64 (x7 + 1)) x234000 x234001 x234002 x234003 x234004 x238000 x238001 x238002 x238003 (x238004 ++ [(⟨bt243.1, bt243.2.1, bt243.2.2.1, bt243.2.2.2.1, bt243.2.2.2.2⟩ : S37)])) else (none))) else (none)) else (none)) else (some (x238000, x238001, x238002, x238003, x238004))
def capnpref11_Trim.f : Nat → Int → Int → Int → List Int → List (S37) → Option (Int × Int × Int × List Int × (List (S37)))
 | 0, _, _, _, _, _ => none
 | k + 1, a0_0, a0_1, a0_2, l0_3, l0_4 => if a0_0 = 1 then ((capnpref11_Words.f k l0_3).bind fun t235 => ((capnpref11_Pointers.f k l0_4).bind fun t236 => (capnpref11_Trim.j0 k (wrap64 (8 * t235)) t236 a0_0 a0_1 a0_2 l0_3 l0_4))) else (capnpref11_Trim.j0 k (l0_3.length : Int) (l0_4.length : Int) a0_0 a0_1 a0_2 l0_3 l0_4)
end
def capnpref11_Trim.T13 : Bool × List (List Nat × List Nat) := (true, [([], []), ([0], [0]), ([], []), ([2], [2]), ([], []), ([3, 4], [3, 4]), ([5], [5]), ([6], [6]), ([1, 7], [1, 7]), ([0, 1, 2, 3, 4, 5, 6, 7, 8], []), ([9, 8, 8, 0, 1, 2, 3, 4, 5, 6, 7, 8], [8, 9])])
def capnpref11_Trim.B13 : List Nat := [0, 1, 0, 4, 0, 28, 60, 124, 255, 511, 1023]
theorem capnpref11_Trim.tab13 : rtab .any (opsOf Tryd.f29 13) = capnpref11_Trim.T13 := by kernel_rfl
theorem capnpref11_Trim.bits13 : waitsOk capnpref11_Trim.T13.2 capnpref11_Trim.B13 = true := by kernel_rfl
def capnpref11_Trim.T17 : Bool × List (List Nat × List Nat) := (true, [([], []), ([0], [0]), ([], []), ([2], [2]), ([], []), ([3, 4], [3, 4]), ([5], [5]), ([6], [6]), ([7], [7]), ([1, 8, 7], [1, 8]), ([0, 1, 2, 3, 4, 5, 6, 7, 8, 9], []), ([10, 9, 9, 0, 1, 2, 3, 4, 5, 6, 7, 8, 9], [9, 10])])
def capnpref11_Trim.B17 : List Nat := [0, 1, 0, 4, 0, 28, 60, 124, 252, 511, 1023, 2047]
theorem capnpref11_Trim.tab17 : rtab .any (opsOf Tryd.f29 17) = capnpref11_Trim.T17 := by kernel_rfl
theorem capnpref11_Trim.bits17 : waitsOk capnpref11_Trim.T17.2 capnpref11_Trim.B17 = true := by kernel_rfl
set_option maxHeartbeats 8000000 in
set_option maxRecDepth 100000 in
theorem capnpref11_Trim.calls (k : Nat) : ∀ (a0_0 : Int) (a0_1 : Int) (a0_2 : Int) (A0_3 : Option Addr) (c0_3 : Nat) (l0_3 : List Int) (A0_4 : Option Addr) (c0_4 : Nat) (l0_4 : List (S37)) (r1 : Int) (r2 : Int) (r3 : Int) (r4 : List Int) (r5 : List (S37)) (w : World) (hr0_3 : Kd.C (Kd.int .u8) w A0_3 l0_3.length l0_3) (hc0_3 : l0_3.length ≤ c0_3) (hr0_4 : Kd.C k37 w A0_4 l0_4.length l0_4) (hc0_4 : l0_4.length ≤ c0_4) (h : capnpref11_Trim.f k a0_0 a0_1 a0_2 l0_3 l0_4 = some (r1, r2, r3, r4, r5)),
    Calls Tryd.prog 29 #[.agg #[.int .i64 a0_0, .int .i64 a0_1, .int .i64 a0_2, .slice A0_3 l0_3.length c0_3, .slice A0_4 l0_4.length c0_4]] w fun e w' => ∃ v3_ v4_ : Value, e = .returned (.agg #[.int .i64 r1, .int .i64 r2, .int .i64 r3, v3_, v4_]) ∧ Kd.R (Kd.int .u8) 5 w' w.heap.size (fun _ => True) v3_ r4 ∧ Kd.R k37 37 w' w.heap.size (fun k_ => some k_ ≠ (v3_ : Value).ownBlock) v4_ r5 ∧ Below w.heap.size w w' := by
  induction k using Nat.strongRecOn with
  | _ k ih =>
  intro a0_0 a0_1 a0_2 A0_3 c0_3 l0_3 A0_4 c0_4 l0_4 r1 r2 r3 r4 r5 w hr0_3 hc0_3 hr0_4 hc0_4 h
  cases k with
  | zero => exact absurd h (by simp [capnpref11_Trim.f])
  | succ k =>
  simp only [capnpref11_Trim.f] at h
  have hu37 := Tryd.underlying37
  have HR0_3 := Aside0.mk hr0_3
  have HC0_3 := Aside0.mk hc0_3
  clear hr0_3 hc0_3
  have HR0_4 := Aside0.mk hr0_4
  have HC0_4 := Aside0.mk hc0_4
  clear hr0_4 hc0_4
  have HB := Aside0.mk (Below.refl w.heap.size w)
  have H : (if a0_0 = 1 then ((capnpref11_Words.f k l0_3).bind fun t235 => ((capnpref11_Pointers.f k l0_4).bind fun t236 => (capnpref11_Trim.j0 k (wrap64 (8 * t235)) t236 a0_0 a0_1 a0_2 l0_3 l0_4))) else (capnpref11_Trim.j0 k (l0_3.length : Int) (l0_4.length : Int) a0_0 a0_1 a0_2 l0_3 l0_4)) = some (r1, r2, r3, r4, r5) := h
  clear h
  have HC2 := Aside0.mk H
  clear H
  go_enter Tryd.func29, Tryd.ntmps29
  go_upto_if 16 with (first | ((with_reducible refine gate_dst (N := 1) rfl ?_); refine box_event ?hg (N := 1) ?hd (cs := #[.int .i64 a0_0, .int .i64 a0_1, .int .i64 a0_2, .slice A0_3 l0_3.length c0_3, .slice A0_4 l0_4.length c0_4]) (t := 37) ?hr ?_; (case hd => rfl); (case hg => rfl); (case hr => first | (go_simp; done) | (go_simp; rfl)); intro gb233 hg w3 hbox hb; have n0_ := Aside0.mk (below_step (by repeat (first | (with_reducible first | exact HB.out | apply below_alloc | apply pw_below_drewN | apply below_drew1) | exact HB.out)) hb); have n1_ := Aside0.mk (hbox); have n2_ := Aside0.mk ((by rw [hg]; exact (below_size (by repeat (first | (with_reducible first | exact HB.out | apply below_alloc | apply pw_below_drewN | apply below_drew1) | exact HB.out))) : w.heap.size ≤ gb233)); have n3_ := Aside0.mk ((by rw [hg]; exact (below_size (by repeat (first | (with_reducible first | exact HB.out | apply below_alloc | apply pw_below_drewN | apply below_drew1) | exact HB.out))) : w.heap.size ≤ gb233)); clear HB; have HB := n0_; have BK233 := n1_; have GW233 := n2_; have GE233 := n3_; clear n0_ n1_ n2_ n3_; clear hb hbox hg) | ((with_reducible refine gate_dst (N := 2) rfl ?_); refine box_event ?hg (N := 2) ?hd (cs := #[.int .i64 0, .int .i64 0, .int .i64 0, .slice none 0 0, .slice none 0 0]) (t := 37) ?hr ?_; (case hd => rfl); (case hg => rfl); (case hr => first | (go_simp; done) | (go_simp; rfl)); intro gb234 hg w4 hbox hb; have n0_ := Aside0.mk (blk_below (g := gb233) (o := .cells #[.int .i64 a0_0, .int .i64 a0_1, .int .i64 a0_2, .slice A0_3 l0_3.length c0_3, .slice A0_4 l0_4.length c0_4] 37 (0, 0)) (by (with_reducible repeat (first | refine blk_drewN ?_ _ | refine blk_drew ?_ | refine blk_alloc ?_ _)); exact BK233.out) hb); have n1_ := Aside0.mk (below_step (by repeat (first | (with_reducible first | exact HB.out | apply below_alloc | apply pw_below_drewN | apply below_drew1 | refine below_set ?_ GE233.out) | exact HB.out)) hb); have n2_ := Aside0.mk (hbox); have n3_ := Aside0.mk ((by rw [hg]; exact (below_size (by repeat (first | (with_reducible first | exact HB.out | apply below_alloc | apply pw_below_drewN | apply below_drew1 | refine below_set ?_ GE233.out) | exact HB.out))) : w.heap.size ≤ gb234)); have n4_ := Aside0.mk ((by rw [hg]; exact (below_size (by repeat (first | (with_reducible first | exact HB.out | apply below_alloc | apply pw_below_drewN | apply below_drew1 | refine below_set ?_ GE233.out) | exact HB.out))) : w.heap.size ≤ gb234)); have n5_ := Aside0.mk ((by rw [hg]; exact Nat.ne_of_lt (blk_lt (g := gb233) (o := .cells #[.int .i64 a0_0, .int .i64 a0_1, .int .i64 a0_2, .slice A0_3 l0_3.length c0_3, .slice A0_4 l0_4.length c0_4] 37 (0, 0)) (by (with_reducible repeat (first | refine blk_drewN ?_ _ | refine blk_drew ?_ | refine blk_alloc ?_ _)); exact BK233.out)) : gb233 ≠ gb234)); have n6_ := Aside0.mk ((by rw [hg]; exact Nat.ne_of_gt (blk_lt (g := gb233) (o := .cells #[.int .i64 a0_0, .int .i64 a0_1, .int .i64 a0_2, .slice A0_3 l0_3.length c0_3, .slice A0_4 l0_4.length c0_4] 37 (0, 0)) (by (with_reducible repeat (first | refine blk_drewN ?_ _ | refine blk_drew ?_ | refine blk_alloc ?_ _)); exact BK233.out)) : gb234 ≠ gb233)); clear BK233; clear HB; have BK233 := n0_; have HB := n1_; have BK234 := n2_; have GW234 := n3_; have GE234 := n4_; have NB233_234 := n5_; have NB234_233 := n6_; clear n0_ n1_ n2_ n3_ n4_ n5_ n6_; clear hb hbox hg; have hnb5 := NB233_234.out; have hnc5 := NB234_233.out; have hcz6_0 : w4.cell? ⟨gb233, 0, none⟩ = some (.int .i64 a0_0) := (blk_cell BK233.out 0).trans rfl; have hcz6_1 : w4.cell? ⟨gb233, 1, none⟩ = some (.int .i64 a0_1) := (blk_cell BK233.out 1).trans rfl; have hcz6_2 : w4.cell? ⟨gb233, 2, none⟩ = some (.int .i64 a0_2) := (blk_cell BK233.out 2).trans rfl; have hcz6_3 : w4.cell? ⟨gb233, 3, none⟩ = some (.slice A0_3 l0_3.length c0_3) := (blk_cell BK233.out 3).trans rfl; have hcz6_4 : w4.cell? ⟨gb233, 4, none⟩ = some (.slice A0_4 l0_4.length c0_4) := (blk_cell BK233.out 4).trans rfl; have hfz6_0 := blk_frozen BK233.out 0; have hfz6_1 := blk_frozen BK233.out 1; have hfz6_2 := blk_frozen BK233.out 2; have hfz6_3 := blk_frozen BK233.out 3; have hfz6_4 := blk_frozen BK233.out 4))
  (try simp only [Act.put, List.setIfInBounds_toArray, List.set_cons_zero, List.set_cons_succ])
  go_cut [3, 4] (fun v3 v4 wc => ∃ (kq : Nat) (x3_1 : Int) (x4_1 : Int), v3 = .int .i64 x3_1 ∧ v4 = .int .i64 x4_1 ∧ Aside0 (capnpref11_Trim.j0 kq x3_1 x4_1 a0_0 a0_1 a0_2 l0_3 l0_4 = some (r1, r2, r3, r4, r5)) ∧ Aside0 (kq ≤ k) ∧ Aside0 (wc.heap[gb233]? = some (.cells #[.int .i64 a0_0, .int .i64 a0_1, .int .i64 a0_2, (.slice A0_3 l0_3.length c0_3), (.slice A0_4 l0_4.length c0_4)] 37 (0, 0))) ∧ Aside0 (wc.heap[gb234]? = some (.cells #[.int .i64 0, .int .i64 0, .int .i64 0, (.slice none 0 0), (.slice none 0 0)] 37 (0, 0))) ∧ Aside0 (Below w.heap.size w wc))
  case first =>
    have H := HC2.out
    clear HC2
    by_cases c7 : a0_0 = 1
    · rw [if_pos c7] at H
      have c7b0 : (a0_0 == 1) = true := beq_iff_eq.mpr c7
      have c7b1 : (a0_0 != 1) = false := bne_eq_false_iff_eq.mpr c7
      clear c7
      (first | rw [c7b0] | (simp only [i64_w, i32_w]; rw [c7b0]) | skip)
      replace H := Option.bind_eq_some_iff.mp H
      obtain ⟨t235, A80, H⟩ := H
      replace H : ((capnpref11_Pointers.f k l0_4).bind fun t236 => (capnpref11_Trim.j0 k (wrap64 (8 * t235)) t236 a0_0 a0_1 a0_2 l0_3 l0_4)) = some (r1, r2, r3, r4, r5) := H
      have A8 := Aside0.mk A80
      clear A80
      replace H := Option.bind_eq_some_iff.mp H
      obtain ⟨t236, A90, H⟩ := H
      replace H : (capnpref11_Trim.j0 k (wrap64 (8 * t235)) t236 a0_0 a0_1 a0_2 l0_3 l0_4) = some (r1, r2, r3, r4, r5) := H
      have A9 := Aside0.mk A90
      clear A90
      have H' := Aside0.mk H
      clear H
      have hnb10 := NB233_234.out
      have hnc10 := NB234_233.out
      have hcz11_0 : w4.cell? ⟨gb233, 0, none⟩ = some (.int .i64 a0_0) := (blk_cell BK233.out 0).trans rfl
      have hcz11_1 : w4.cell? ⟨gb233, 1, none⟩ = some (.int .i64 a0_1) := (blk_cell BK233.out 1).trans rfl
      have hcz11_2 : w4.cell? ⟨gb233, 2, none⟩ = some (.int .i64 a0_2) := (blk_cell BK233.out 2).trans rfl
      have hcz11_3 : w4.cell? ⟨gb233, 3, none⟩ = some (.slice A0_3 l0_3.length c0_3) := (blk_cell BK233.out 3).trans rfl
      have hcz11_4 : w4.cell? ⟨gb233, 4, none⟩ = some (.slice A0_4 l0_4.length c0_4) := (blk_cell BK233.out 4).trans rfl
      have hfz11_0 := blk_frozen BK233.out 0
      have hfz11_1 := blk_frozen BK233.out 1
      have hfz11_2 := blk_frozen BK233.out 2
      have hfz11_3 := blk_frozen BK233.out 3
      have hfz11_4 := blk_frozen BK233.out 4
      go_wp2_with (first | ((with_reducible refine gate_callee (f := 46) rfl ?_); refine goesL_ (some 19) rfl rfl Tryd.func46 (by kernel_rfl) rfl #[.slice A0_3 l0_3.length c0_3] rfl (by (try simp only [List.map_toArray, List.map_cons, List.map_nil]); first | done | rfl | (simp only [List.length_drop, List.length_take]; rfl)) ?_; (with_reducible refine (capnpref11_Words.calls k _ _ l0_3 t235 _ ?side1 ?side2 A8.out).mono ?_); (case side1 => repeat (first | exact (Kd.C_below HR0_3.out HB.out) | (with_reducible refine Kd.C_alloc ?_ _) | (with_reducible refine Kd.C_drewN ?_ _) | (with_reducible refine Kd.C_drew ?_))); (case side2 => exact HC0_3.out); rintro e w' ⟨rfl, ⟨nd, rfl⟩⟩; refine ⟨_, rfl, ?_⟩) | ((with_reducible refine gate_callee (f := 47) rfl ?_); refine goesL_ (some 23) rfl rfl Tryd.func47 (by kernel_rfl) rfl #[.slice A0_4 l0_4.length c0_4] rfl (by (try simp only [List.map_toArray, List.map_cons, List.map_nil]); first | done | rfl | (simp only [List.length_drop, List.length_take]; rfl)) ?_; (with_reducible refine (capnpref11_Pointers.calls k _ _ l0_4 t236 _ ?side1 ?side2 A9.out).mono ?_); (case side1 => repeat (first | exact (Kd.C_below HR0_4.out (by repeat (first | (with_reducible first | exact HB.out | apply below_alloc | apply pw_below_drewN | apply below_drew1 | refine below_set ?_ GE233.out | refine below_set ?_ GE234.out) | exact HB.out))) | (with_reducible refine Kd.C_alloc ?_ _) | (with_reducible refine Kd.C_drewN ?_ _) | (with_reducible refine Kd.C_drew ?_))); (case side2 => exact HC0_4.out); rintro e w' ⟨rfl, ⟨nd, rfl⟩⟩; refine ⟨_, rfl, ?_⟩))
      go_meet
      case rel => exact ⟨_, (wrap64 (8 * t235)), (t236), (by first | rfl | (simp; done) | (simp [*]; done)), (by first | rfl | (simp; done) | (simp [*]; done)), H', ⟨by first | omega | exact Nat.le_refl _⟩, ⟨by (with_reducible repeat (first | refine blk_drewN ?_ _ | refine blk_drew ?_ | refine blk_alloc ?_ _)); exact BK233.out⟩, ⟨by (with_reducible repeat (first | refine blk_drewN ?_ _ | refine blk_drew ?_ | refine blk_alloc ?_ _)); exact BK234.out⟩, ⟨by repeat (first | (with_reducible first | exact HB.out | apply below_alloc | apply pw_below_drewN | apply below_drew1 | refine below_set ?_ GE233.out | refine below_set ?_ GE234.out) | exact HB.out)⟩⟩
    · rw [if_neg c7] at H
      have c7b0 : (a0_0 == 1) = false := beq_eq_false_iff_ne.mpr c7
      have c7b1 : (a0_0 != 1) = true := bne_iff_ne.mpr c7
      (first | rw [c7b0] | (simp only [i64_w, i32_w]; rw [c7b0]) | skip)
      have H' := Aside0.mk H
      clear H
      go_wp2
      go_meet
      case rel => exact ⟨_, ((l0_3.length : Int)), ((l0_4.length : Int)), (by first | rfl | (simp; done) | (simp [*]; done)), (by first | rfl | (simp; done) | (simp [*]; done)), H', ⟨by first | omega | exact Nat.le_refl _⟩, ⟨by (with_reducible repeat (first | refine blk_drewN ?_ _ | refine blk_drew ?_ | refine blk_alloc ?_ _)); exact BK233.out⟩, ⟨by (with_reducible repeat (first | refine blk_drewN ?_ _ | refine blk_drew ?_ | refine blk_alloc ?_ _)); exact BK234.out⟩, ⟨by repeat (first | (with_reducible first | exact HB.out | apply below_alloc | apply pw_below_drewN | apply below_drew1 | refine below_set ?_ GE233.out | refine below_set ?_ GE234.out) | exact HB.out)⟩⟩
  case rest =>
    clear HC2
    try clear c1
    try clear c2
    try clear p2
    try clear c4
    try clear c5
    try clear p6
    try clear c7
    try clear c7b0
    try clear c7b1
    try clear c10
    try clear hcz11_0
    try clear hcz11_1
    try clear hcz11_2
    try clear hcz11_3
    try clear hcz11_4
    try clear hcz6_0
    try clear hcz6_1
    try clear hcz6_2
    try clear hcz6_3
    try clear hcz6_4
    try clear hfz11_0
    try clear hfz11_1
    try clear hfz11_2
    try clear hfz11_3
    try clear hfz11_4
    try clear hfz6_0
    try clear hfz6_1
    try clear hfz6_2
    try clear hfz6_3
    try clear hfz6_4
    obtain ⟨kq, x3_1, x4_1, rfl, rfl, HA, HJ1, BK233, BK234, HB⟩ := hcut
    cases kq with
    | zero => exact absurd HA.out (by simp [capnpref11_Trim.j0])
    | succ kj1 =>
      have H := HA.out
      clear HA
      simp only [capnpref11_Trim.j0] at H
      have H' := Aside0.mk H
      clear H
      go_wp2_with (first | ((with_reducible refine gate_dst (N := 5) rfl ?_); refine box_event ?hg (N := 5) ?hd (cs := #[.int .i64 0, .int .i64 0, .int .i64 0, .slice none 0 0, .slice none 0 0]) (t := 37) ?hr ?_; (case hd => rfl); (case hg => rfl); (case hr => first | (go_simp; done) | (go_simp; rfl)); intro gb237 hg w12 hbox hb; have n0_ := Aside0.mk (blk_below (g := gb233) (o := .cells #[.int .i64 a0_0, .int .i64 a0_1, .int .i64 a0_2, .slice A0_3 l0_3.length c0_3, .slice A0_4 l0_4.length c0_4] 37 (0, 0)) (by (with_reducible repeat (first | refine blk_drewN ?_ _ | refine blk_drew ?_ | refine blk_alloc ?_ _)); exact BK233.out) hb); have n1_ := Aside0.mk (blk_below (g := gb234) (o := .cells #[.int .i64 0, .int .i64 0, .int .i64 0, .slice none 0 0, .slice none 0 0] 37 (0, 0)) (by (with_reducible repeat (first | refine blk_drewN ?_ _ | refine blk_drew ?_ | refine blk_alloc ?_ _)); exact BK234.out) hb); have n2_ := Aside0.mk (below_step (by repeat (first | (with_reducible first | exact HB.out | apply below_alloc | apply pw_below_drewN | apply below_drew1 | refine below_set ?_ GE233.out | refine below_set ?_ GE234.out) | exact HB.out)) hb); have n3_ := Aside0.mk (hbox); have n4_ := Aside0.mk ((by rw [hg]; exact (below_size (by repeat (first | (with_reducible first | exact HB.out | apply below_alloc | apply pw_below_drewN | apply below_drew1 | refine below_set ?_ GE233.out | refine below_set ?_ GE234.out) | exact HB.out))) : w.heap.size ≤ gb237)); have n5_ := Aside0.mk ((by rw [hg]; exact (below_size (by repeat (first | (with_reducible first | exact HB.out | apply below_alloc | apply pw_below_drewN | apply below_drew1 | refine below_set ?_ GE233.out | refine below_set ?_ GE234.out) | exact HB.out))) : w.heap.size ≤ gb237)); have n6_ := Aside0.mk ((by rw [hg]; exact Nat.ne_of_lt (blk_lt (g := gb233) (o := .cells #[.int .i64 a0_0, .int .i64 a0_1, .int .i64 a0_2, .slice A0_3 l0_3.length c0_3, .slice A0_4 l0_4.length c0_4] 37 (0, 0)) (by (with_reducible repeat (first | refine blk_drewN ?_ _ | refine blk_drew ?_ | refine blk_alloc ?_ _)); exact BK233.out)) : gb233 ≠ gb237)); have n7_ := Aside0.mk ((by rw [hg]; exact Nat.ne_of_gt (blk_lt (g := gb233) (o := .cells #[.int .i64 a0_0, .int .i64 a0_1, .int .i64 a0_2, .slice A0_3 l0_3.length c0_3, .slice A0_4 l0_4.length c0_4] 37 (0, 0)) (by (with_reducible repeat (first | refine blk_drewN ?_ _ | refine blk_drew ?_ | refine blk_alloc ?_ _)); exact BK233.out)) : gb237 ≠ gb233)); have n8_ := Aside0.mk ((by rw [hg]; exact Nat.ne_of_lt (blk_lt (g := gb234) (o := .cells #[.int .i64 0, .int .i64 0, .int .i64 0, .slice none 0 0, .slice none 0 0] 37 (0, 0)) (by (with_reducible repeat (first | refine blk_drewN ?_ _ | refine blk_drew ?_ | refine blk_alloc ?_ _)); exact BK234.out)) : gb234 ≠ gb237)); have n9_ := Aside0.mk ((by rw [hg]; exact Nat.ne_of_gt (blk_lt (g := gb234) (o := .cells #[.int .i64 0, .int .i64 0, .int .i64 0, .slice none 0 0, .slice none 0 0] 37 (0, 0)) (by (with_reducible repeat (first | refine blk_drewN ?_ _ | refine blk_drew ?_ | refine blk_alloc ?_ _)); exact BK234.out)) : gb237 ≠ gb234)); clear BK233; clear BK234; clear HB; have BK233 := n0_; have BK234 := n1_; have HB := n2_; have BK237 := n3_; have GW237 := n4_; have GE237 := n5_; have NB233_237 := n6_; have NB237_233 := n7_; have NB234_237 := n8_; have NB237_234 := n9_; clear n0_ n1_ n2_ n3_ n4_ n5_ n6_ n7_ n8_ n9_; clear hb hbox hg; have hnb13 := NB233_234.out; have hnc13 := NB234_233.out; have hnb14 := NB233_237.out; have hnc14 := NB237_233.out; have hcz15_0 : w12.cell? ⟨gb233, 0, none⟩ = some (.int .i64 a0_0) := (blk_cell BK233.out 0).trans rfl; have hcz15_1 : w12.cell? ⟨gb233, 1, none⟩ = some (.int .i64 a0_1) := (blk_cell BK233.out 1).trans rfl; have hcz15_2 : w12.cell? ⟨gb233, 2, none⟩ = some (.int .i64 a0_2) := (blk_cell BK233.out 2).trans rfl; have hcz15_3 : w12.cell? ⟨gb233, 3, none⟩ = some (.slice A0_3 l0_3.length c0_3) := (blk_cell BK233.out 3).trans rfl; have hcz15_4 : w12.cell? ⟨gb233, 4, none⟩ = some (.slice A0_4 l0_4.length c0_4) := (blk_cell BK233.out 4).trans rfl; have hfz15_0 := blk_frozen BK233.out 0; have hfz15_1 := blk_frozen BK233.out 1; have hfz15_2 := blk_frozen BK233.out 2; have hfz15_3 := blk_frozen BK233.out 3; have hfz15_4 := blk_frozen BK233.out 4; have hnb16 := NB237_234.out; have hnc16 := NB234_237.out; have hcz17_0 : w12.cell? ⟨gb237, 0, none⟩ = some (.int .i64 0) := (blk_cell BK237.out 0).trans rfl; have hcz17_1 : w12.cell? ⟨gb237, 1, none⟩ = some (.int .i64 0) := (blk_cell BK237.out 1).trans rfl; have hcz17_2 : w12.cell? ⟨gb237, 2, none⟩ = some (.int .i64 0) := (blk_cell BK237.out 2).trans rfl; have hcz17_3 : w12.cell? ⟨gb237, 3, none⟩ = some (.slice none 0 0) := (blk_cell BK237.out 3).trans rfl; have hcz17_4 : w12.cell? ⟨gb237, 4, none⟩ = some (.slice none 0 0) := (blk_cell BK237.out 4).trans rfl; have hfz17_0 := blk_frozen BK237.out 0; have hfz17_1 := blk_frozen BK237.out 1; have hfz17_2 := blk_frozen BK237.out 2; have hfz17_3 := blk_frozen BK237.out 3; have hfz17_4 := blk_frozen BK237.out 4))
      go_loopg [6] kj1 (fun kq v6 w' => ∃ (x6_2 : Int) (x238003_2 : List Int) (u238003 : Value), v6 = .int .i64 x6_2 ∧ Aside0 (capnpref11_Trim.l0 kq x3_1 x4_1 x6_2 a0_0 a0_1 a0_2 l0_3 l0_4 a0_0 a0_1 a0_2 x238003_2 = some (r1, r2, r3, r4, r5)) ∧ Aside0 (kq ≤ kj1) ∧ Aside0 (Kd.R (Kd.int .u8) 5 w' w.heap.size (fun _ => True) u238003 x238003_2) ∧ Aside0 (w'.heap[gb233]? = some (.cells #[.int .i64 a0_0, .int .i64 a0_1, .int .i64 a0_2, (.slice A0_3 l0_3.length c0_3), (.slice A0_4 l0_4.length c0_4)] 37 (0, 0))) ∧ Aside0 (w'.heap[gb234]? = some (.cells #[.int .i64 0, .int .i64 0, .int .i64 0, (.slice none 0 0), (.slice none 0 0)] 37 (0, 0))) ∧ Aside0 (w'.heap[gb237]? = some (.cells #[.int .i64 a0_0, .int .i64 a0_1, .int .i64 a0_2, u238003, (.slice none 0 0)] 37 (0, 0))) ∧ Aside0 (Below w.heap.size w w'))
      case atStart => exact ⟨(0), (([] : List Int)), (.slice none 0 0), (by first | rfl | (simp; done) | (simp [*]; done)), H', ⟨Nat.le_refl _⟩, ⟨by first | exact Kd.R_nil _ _ _ _ _ | exact Kd.N_nil _ _ _ _ _ | exact Kd.V_nil _ _ _ _ _ | exact Kd.Q_nil _ _ _ _ _ | exact Kd.S_nil _ _ _ _ _⟩, ⟨by (with_reducible repeat (first | refine blk_drewN ?_ _ | refine blk_drew ?_ | refine blk_alloc ?_ _)); refine blk_far ?_ NB233_237.out _; (with_reducible repeat (first | refine blk_drewN ?_ _ | refine blk_drew ?_ | refine blk_alloc ?_ _)); refine blk_far ?_ NB233_237.out _; (with_reducible repeat (first | refine blk_drewN ?_ _ | refine blk_drew ?_ | refine blk_alloc ?_ _)); refine blk_far ?_ NB233_237.out _; (with_reducible repeat (first | refine blk_drewN ?_ _ | refine blk_drew ?_ | refine blk_alloc ?_ _)); exact BK233.out⟩, ⟨by (with_reducible repeat (first | refine blk_drewN ?_ _ | refine blk_drew ?_ | refine blk_alloc ?_ _)); refine blk_far ?_ NB234_237.out _; (with_reducible repeat (first | refine blk_drewN ?_ _ | refine blk_drew ?_ | refine blk_alloc ?_ _)); refine blk_far ?_ NB234_237.out _; (with_reducible repeat (first | refine blk_drewN ?_ _ | refine blk_drew ?_ | refine blk_alloc ?_ _)); refine blk_far ?_ NB234_237.out _; (with_reducible repeat (first | refine blk_drewN ?_ _ | refine blk_drew ?_ | refine blk_alloc ?_ _)); exact BK234.out⟩, ⟨by (with_reducible repeat (first | refine blk_drewN ?_ _ | refine blk_drew ?_ | refine blk_alloc ?_ _)); refine blk_put (cs := #[.int .i64 a0_0, .int .i64 a0_1, .int .i64 0, .slice none 0 0, .slice none 0 0]) ?_ 2 _ rfl; (with_reducible repeat (first | refine blk_drewN ?_ _ | refine blk_drew ?_ | refine blk_alloc ?_ _)); refine blk_put (cs := #[.int .i64 a0_0, .int .i64 0, .int .i64 0, .slice none 0 0, .slice none 0 0]) ?_ 1 _ rfl; (with_reducible repeat (first | refine blk_drewN ?_ _ | refine blk_drew ?_ | refine blk_alloc ?_ _)); refine blk_put (cs := #[.int .i64 0, .int .i64 0, .int .i64 0, .slice none 0 0, .slice none 0 0]) ?_ 0 _ rfl; (with_reducible repeat (first | refine blk_drewN ?_ _ | refine blk_drew ?_ | refine blk_alloc ?_ _)); exact BK237.out⟩, ⟨by repeat (first | (with_reducible first | exact HB.out | apply below_alloc | apply pw_below_drewN | apply below_drew1 | refine below_set ?_ GE233.out | refine below_set ?_ GE234.out | refine below_set ?_ GE237.out) | exact HB.out)⟩⟩
      case round =>
        clear H'
        try clear c1
        try clear c2
        try clear p2
        try clear c4
        try clear c5
        try clear p6
        try clear c7
        try clear c7b0
        try clear c7b1
        try clear c10
        try clear c13
        try clear c14
        try clear c16
        try clear hcz11_0
        try clear hcz11_1
        try clear hcz11_2
        try clear hcz11_3
        try clear hcz11_4
        try clear hcz15_0
        try clear hcz15_1
        try clear hcz15_2
        try clear hcz15_3
        try clear hcz15_4
        try clear hcz17_0
        try clear hcz17_1
        try clear hcz17_2
        try clear hcz17_3
        try clear hcz17_4
        try clear hcz6_0
        try clear hcz6_1
        try clear hcz6_2
        try clear hcz6_3
        try clear hcz6_4
        try clear hfz11_0
        try clear hfz11_1
        try clear hfz11_2
        try clear hfz11_3
        try clear hfz11_4
        try clear hfz15_0
        try clear hfz15_1
        try clear hfz15_2
        try clear hfz15_3
        try clear hfz15_4
        try clear hfz17_0
        try clear hfz17_1
        try clear hfz17_2
        try clear hfz17_3
        try clear hfz17_4
        try clear hfz6_0
        try clear hfz6_1
        try clear hfz6_2
        try clear hfz6_3
        try clear hfz6_4
        try clear p2
        try clear p6
        try clear BK233
        try clear BK234
        try clear BK237
        obtain ⟨x6_2, x238003_2, u238003, rfl, HA, HK2, HO_238003, BK233, BK234, BK237, HB⟩ := hrel
        cases gk with
        | zero => exact absurd HA.out (by simp [capnpref11_Trim.l0])
        | succ k2 =>
          have H := HA.out
          clear HA
          simp only [capnpref11_Trim.l0] at H
          by_cases c18 : x6_2 < x3_1
          · rw [if_pos c18] at H
            have c18b0 : decide (x6_2 < x3_1) = true := decide_eq_true c18
            clear c18
            by_cases c19 : 0 ≤ x6_2
            · rw [if_pos c19] at H
              have c19b0 : decide (0 ≤ x6_2) = true := decide_eq_true c19
              clear c19
              by_cases c20 : x6_2 < (l0_3.length : Int)
              · rw [if_pos c20] at H
                have c20b0 : decide (x6_2 < (l0_3.length : Int)) = true := decide_eq_true c20
                clear c20
                by_cases c21 : x238003_2.length < 140737488355328
                · rw [if_pos c21] at H
                  have LMc21 := Aside0.mk c21
                  clear c21
                  obtain ⟨y239, hy239⟩ : ∃ y_ : List Int, y_ = (x238003_2 ++ [rd l0_3 x6_2]) := ⟨_, rfl⟩
                  replace H : (capnpref11_Trim.l0 k2 x3_1 x4_1 (wrap64 (x6_2 + 1)) a0_0 a0_1 a0_2 l0_3 l0_4 a0_0 a0_1 a0_2 y239) = some (r1, r2, r3, r4, r5) := by first | (rw [hy239]; with_reducible exact H) | (have H2_ := (Option.bind_some _ _).symm.trans H; rw [hy239]; with_reducible exact H2_) | (have H2_ := (Option.bind_some _ _).symm.trans H; with_reducible exact H2_) | with_reducible exact H | (rw [hy239]; exact H) | exact H
                  have Ny239 := Aside0.mk hy239
                  clear hy239
                  have H' := Aside0.mk H
                  clear H
                  try go_wp2
                  have n0_ := Aside0.mk (Kd.R_drew HO_238003.out)
                  have n1_ := Aside0.mk (blk_drew BK233.out)
                  have n2_ := Aside0.mk (blk_drew BK234.out)
                  have n3_ := Aside0.mk (blk_drew BK237.out)
                  have n4_ := Aside0.mk (below_drew1 HB.out)
                  clear HO_238003
                  clear BK233
                  clear BK234
                  clear BK237
                  clear HB
                  have HO_238003 := n0_
                  have BK233 := n1_
                  have BK234 := n2_
                  have BK237 := n3_
                  have HB := n4_
                  clear n0_ n1_ n2_ n3_ n4_
                  have p238 : 0 ≤ (x6_2 : Int) := of_decide_eq_true (by first | (with_reducible assumption) | assumption)
                  have q238 : x6_2 < (l0_3.length : Int) := of_decide_eq_true (by first | (with_reducible assumption) | assumption)
                  obtain ⟨ad238, e238, hx238_0⟩ := Kd.at_int HR0_3.out x6_2 p238 q238
                  have hw238_0 := hx238_0
                  cases e238
                  replace hx238_0 := (HB.out.cell (World.block_lt_of_cell? w _ hx238_0)).trans hx238_0
                  replace p238 := eq_true p238
                  replace q238 := eq_true q238
                  refine start_ (n := 11) (S := fun w' => w'.cell? ⟨gb237, 0, none⟩ = some (.int .i64 a0_0) ∧ w'.cell? ⟨gb237, 1, none⟩ = some (.int .i64 a0_1) ∧ w'.cell? ⟨gb237, 2, none⟩ = some (.int .i64 a0_2) ∧ w'.cell? ⟨gb237, 3, none⟩ = some (u238003) ∧ w'.cell? ⟨gb237, 4, none⟩ = some (.slice none 0 0) ∧ w'.cell? ⟨gb233, 0, none⟩ = some (.int .i64 a0_0) ∧ w'.cell? ⟨gb233, 1, none⟩ = some (.int .i64 a0_1) ∧ w'.cell? ⟨gb233, 2, none⟩ = some (.int .i64 a0_2) ∧ w'.cell? ⟨gb233, 3, none⟩ = some (.slice (some ad238) l0_3.length c0_3) ∧ w'.cell? ⟨gb233, 4, none⟩ = some (.slice A0_4 l0_4.length c0_4) ∧ w'.cell? (ad238.add (x6_2).toNat) = some (.int .u8 (rd l0_3 x6_2))) (ds := [10]) #[false, false, false, false, false, false, false, false, false, false, false] (by kernel_rfl) rfl rfl ⟨(blk_cell BK237.out 0).trans rfl, (blk_cell BK237.out 1).trans rfl, (blk_cell BK237.out 2).trans rfl, (blk_cell BK237.out 3).trans rfl, (blk_cell BK237.out 4).trans rfl, (blk_cell BK233.out 0).trans rfl, (blk_cell BK233.out 1).trans rfl, (blk_cell BK233.out 2).trans rfl, (blk_cell BK233.out 3).trans rfl, (blk_cell BK233.out 4).trans rfl, ((HB.out.cell (World.block_lt_of_cell? w _ hw238_0)).trans hw238_0)⟩ (fun hHeld => ?_); refine with_tabW capnpref11_Trim.tab13 capnpref11_Trim.bits13 (fun HT_ HW_ => ?_)
                  generalize wr.drew = w22 at HO_238003 BK233 BK234 BK237 HB hx238_0 hHeld ⊢
                  refine pure_ (i := 0) (N := some 38) (v := ?_) (a' := ?_) #[true, false, false, false, false, false, false, false, false, false, false] rfl rfl (any_of HT_.out (by kernel_rfl)) (fun _ _ _ h => h) (Or.inl ⟨by rfl, ?_⟩) ?_ ?_
                  rotate_left
                  · intro w'
                    go_simp
                    with_reducible rfl
                  rotate_left
                  · simp only [Act.put, List.setIfInBounds_toArray, List.set_cons_zero, List.set_cons_succ, i64_w, i32_w]
                    rfl
                  refine pure_ (i := 2) (N := some 40) (v := ?_) (a' := ?_) #[true, false, true, false, false, false, false, false, false, false, false] rfl rfl (any_of HT_.out (by kernel_rfl)) (fun _ _ _ h => h) (Or.inl ⟨by rfl, ?_⟩) ?_ ?_
                  rotate_left
                  · intro w'
                    go_simp
                    with_reducible rfl
                  rotate_left
                  · simp only [Act.put, List.setIfInBounds_toArray, List.set_cons_zero, List.set_cons_succ, i64_w, i32_w]
                    rfl
                  refine pure_ (i := 4) (N := some 42) (v := ?_) (a' := ?_) #[true, false, true, false, true, false, false, false, false, false, false] rfl rfl (any_of HT_.out (by kernel_rfl)) (fun _ _ _ h => h) (Or.inl ⟨by rfl, ?_⟩) ?_ ?_
                  rotate_left
                  · intro w'
                    go_simp
                    with_reducible rfl
                  rotate_left
                  · simp only [Act.put, List.setIfInBounds_toArray, List.set_cons_zero, List.set_cons_succ, i64_w, i32_w]
                    rfl
                  refine take_ (i := 1) (N := some 39) (v := ?_) (a' := ?_) #[true, true, true, false, true, false, false, false, false, false, false] rfl rfl (take_ofW HT_.out HW_.out (by kernel_rfl)) (fun _ _ _ h => h) (Or.inl ⟨by rfl, ?_⟩) hHeld ?_ ?_
                  rotate_left
                  · rintro w' ⟨s0, s1, s2, s3, s4, s5, s6, s7, s8, s9, s10⟩
                    go_simp
                    with_reducible rfl
                  rotate_left
                  · simp only [Act.put, List.setIfInBounds_toArray, List.set_cons_zero, List.set_cons_succ, i64_w, i32_w]
                    rfl
                  refine take_ (i := 3) (N := some 41) (v := ?_) (a' := ?_) #[true, true, true, true, true, false, false, false, false, false, false] rfl rfl (take_ofW HT_.out HW_.out (by kernel_rfl)) (fun _ _ _ h => h) (Or.inl ⟨by rfl, ?_⟩) hHeld ?_ ?_
                  rotate_left
                  · rintro w' ⟨s0, s1, s2, s3, s4, s5, s6, s7, s8, s9, s10⟩
                    go_simp
                    with_reducible rfl
                  rotate_left
                  · simp only [Act.put, List.setIfInBounds_toArray, List.set_cons_zero, List.set_cons_succ, i64_w, i32_w]
                    rfl
                  refine pure_ (i := 5) (N := some 43) (v := ?_) (a' := ?_) #[true, true, true, true, true, true, false, false, false, false, false] rfl rfl (any_of HT_.out (by kernel_rfl)) (fun _ _ _ h => h) (Or.inl ⟨by rfl, ?_⟩) ?_ ?_
                  rotate_left
                  · intro w'
                    go_simp
                    with_reducible rfl
                  rotate_left
                  · simp only [Act.put, List.setIfInBounds_toArray, List.set_cons_zero, List.set_cons_succ, i64_w, i32_w]
                    rfl
                  refine take_ (i := 6) (N := some 44) (v := ?_) (a' := ?_) #[true, true, true, true, true, true, true, false, false, false, false] rfl rfl (take_ofW HT_.out HW_.out (by kernel_rfl)) (fun _ _ _ h => h) (Or.inl ⟨by rfl, ?_⟩) hHeld ?_ ?_
                  rotate_left
                  · rintro w' ⟨s0, s1, s2, s3, s4, s5, s6, s7, s8, s9, s10⟩
                    go_simp
                    with_reducible rfl
                  rotate_left
                  · simp only [Act.put, List.setIfInBounds_toArray, List.set_cons_zero, List.set_cons_succ, i64_w, i32_w]
                    rfl
                  refine one_ (i := 7) (N := some 45) #[true, true, true, true, true, true, true, true, false, false, false] rfl rfl (one_of HT_.out (by kernel_rfl)) (by decide) (fun K hK => ?_)
                  refine value_ (w1 := ?_) (v := ?_) (by rfl) rfl ?_ ?_
                  rotate_left 2
                  · go_simp
                    constructor
                    · rfl
                    · rfl
                  refine hK.out _ _ ⟨(blk_cell (blk_alloc BK237.out _) 0).trans rfl, (blk_cell (blk_alloc BK237.out _) 1).trans rfl, (blk_cell (blk_alloc BK237.out _) 2).trans rfl, (blk_cell (blk_alloc BK237.out _) 3).trans rfl, (blk_cell (blk_alloc BK237.out _) 4).trans rfl, (blk_cell (blk_alloc BK233.out _) 0).trans rfl, (blk_cell (blk_alloc BK233.out _) 1).trans rfl, (blk_cell (blk_alloc BK233.out _) 2).trans rfl, (blk_cell (blk_alloc BK233.out _) 3).trans rfl, (blk_cell (blk_alloc BK233.out _) 4).trans rfl, (World.cell?_alloc_lt _ _ _ (World.block_lt_of_cell? _ _ (((HB.out.cell (World.block_lt_of_cell? w _ hw238_0)).trans hw238_0)))).trans (((HB.out.cell (World.block_lt_of_cell? w _ hw238_0)).trans hw238_0))⟩ (fun hHeld => ?_)
                  clear hK K
                  refine norm_ (a' := ?_) ?_ ?_
                  rotate_left
                  · show Act.put _ (some 45) _ = _
                    simp only [Act.put, List.setIfInBounds_toArray, List.set_cons_zero, List.set_cons_succ, i64_w, i32_w]
                    rfl
                  refine one_ (i := 8) (N := some 46) #[true, true, true, true, true, true, true, true, true, false, false] rfl rfl (one_of HT_.out (by kernel_rfl)) (by decide) (fun K hK => ?_)
                  refine Kd.R_append_step (Kd.int .u8) (w0 := w) w.heap.size (by rfl) (.tmp 39) (.tmp 45) 34 5 (.int .u8 0) 1 rfl Tryd.underlying34 info5 rfl (by decide) (by omega) u238003 x238003_2 (rd l0_3 x6_2) [.int .u8 (rd l0_3 x6_2)] (fun _ => True) (fun _ => False) rfl rfl ?aP (fun _ hk => hk.elim) ?aF ?aO ?aB ?aS ?aL ?_
                  (case aP => exact rfl)
                  (case aB => exact (by repeat (first | (with_reducible first | exact HB.out | apply below_alloc | apply pw_below_drewN | apply below_drew1 | refine below_set ?_ GE233.out | refine below_set ?_ GE234.out | refine below_set ?_ GE237.out) | exact HB.out)))
                  (case aF => exact (fun _ _ => trivial))
                  (case aO => exact (by (with_reducible repeat (first | apply Kd.R_alloc | apply Kd.R_drewN | apply Kd.R_drew)); exact HO_238003.out))
                  (case aS => exact (below_size (by repeat (first | (with_reducible first | exact HB.out | apply below_alloc | apply pw_below_drewN | apply below_drew1 | refine below_set ?_ GE233.out | refine below_set ?_ GE234.out | refine below_set ?_ GE237.out) | exact HB.out))))
                  (case aL => have := LMc21.out; omega)
                  intro v240 w23 ho hb hg hat
                  rw [← Ny239.out] at ho
                  have n0_ := Aside0.mk (blk_grown (g := gb233) (o := .cells #[.int .i64 a0_0, .int .i64 a0_1, .int .i64 a0_2, .slice (some ad238) l0_3.length c0_3, .slice A0_4 l0_4.length c0_4] 37 (0, 0)) (by (with_reducible repeat (first | refine blk_drewN ?_ _ | refine blk_drew ?_ | refine blk_alloc ?_ _)); exact BK233.out) hg (Kd.R_ne HO_238003.out BK233.out (by decide)))
                  have n1_ := Aside0.mk (blk_grown (g := gb234) (o := .cells #[.int .i64 0, .int .i64 0, .int .i64 0, .slice none 0 0, .slice none 0 0] 37 (0, 0)) (by (with_reducible repeat (first | refine blk_drewN ?_ _ | refine blk_drew ?_ | refine blk_alloc ?_ _)); exact BK234.out) hg (Kd.R_ne HO_238003.out BK234.out (by decide)))
                  have n2_ := Aside0.mk (blk_grown (g := gb237) (o := .cells #[.int .i64 a0_0, .int .i64 a0_1, .int .i64 a0_2, u238003, .slice none 0 0] 37 (0, 0)) (by (with_reducible repeat (first | refine blk_drewN ?_ _ | refine blk_drew ?_ | refine blk_alloc ?_ _)); exact BK237.out) hg (Kd.R_ne HO_238003.out BK237.out (by decide)))
                  have n3_ := Aside0.mk (hb)
                  have n4_ := Aside0.mk (ho)
                  clear BK233
                  clear BK234
                  clear BK237
                  clear HB
                  clear HO_238003
                  have BK233 := n0_
                  have BK234 := n1_
                  have BK237 := n2_
                  have HB := n3_
                  have HO241 := n4_
                  clear n0_ n1_ n2_ n3_ n4_
                  clear ho hb hg hat
                  obtain ⟨Ao24, co24, eo24⟩ := Kd.R_slice HO241.out
                  (first | subst eo24 | (injection eo24 with f1_ f2_ f3_; have f4_ := f1_.symm; have f5_ := f3_.symm; clear f1_ f2_ f3_; subst f4_; subst f5_))
                  refine hK.out _ _ ⟨(blk_cell BK237.out 0).trans rfl, (blk_cell BK237.out 1).trans rfl, (blk_cell BK237.out 2).trans rfl, (blk_cell BK237.out 3).trans rfl, (blk_cell BK237.out 4).trans rfl, (blk_cell BK233.out 0).trans rfl, (blk_cell BK233.out 1).trans rfl, (blk_cell BK233.out 2).trans rfl, (blk_cell BK233.out 3).trans rfl, (blk_cell BK233.out 4).trans rfl, ((HB.out.cell (World.block_lt_of_cell? w _ hw238_0)).trans hw238_0)⟩ (fun hHeld => ?_)
                  clear hK K
                  refine norm_ (a' := ?_) ?_ ?_
                  rotate_left
                  · show Act.put _ (some 46) _ = _
                    simp only [Act.put, List.setIfInBounds_toArray, List.set_cons_zero, List.set_cons_succ, i64_w, i32_w]
                    rfl
                  refine pure_ (i := 9) (N := some 47) (v := ?_) (a' := ?_) #[true, true, true, true, true, true, true, true, true, true, false] rfl rfl (any_of HT_.out (by kernel_rfl)) (fun _ _ _ h => h) (Or.inl ⟨by rfl, ?_⟩) ?_ ?_
                  rotate_left
                  · intro w'
                    go_simp
                    with_reducible rfl
                  rotate_left
                  · simp only [Act.put, List.setIfInBounds_toArray, List.set_cons_zero, List.set_cons_succ, i64_w, i32_w]
                    rfl
                  refine last_ (i := 10) (N := none) #[true, true, true, true, true, true, true, true, true, true, true] rfl rfl (one_of HT_.out (by kernel_rfl)) (by decide) (fun K hK => ?_)
                  have hs25 : w23.cell? ⟨gb237, 3, none⟩ = some (u238003) := (blk_cell BK237.out 3).trans rfl
                  have hfs25 := blk_frozen BK237.out 3
                  have hns25_0 := NB233_237.out
                  have hns25_1 := NB234_237.out
                  have hms25_0 := NB237_233.out
                  have hms25_1 := NB237_234.out
                  refine skip_ (w1 := ?_) (by rfl) rfl ?_ ?_
                  rotate_left
                  · go_simp
                    rfl
                  refine hK.out _ _ ?_
                  clear hK K
                  refine done_ (done_of HT_.out (by kernel_rfl)) ?_
                  try go_wp2
                  go_roundg k2
                  case measure => have := HJ1.out; have := HK2.out; omega
                  case rel => exact ⟨(wrap64 (x6_2 + 1)), (y239), (.slice Ao24 y239.length co24), (by first | rfl | (simp; done) | (simp [*]; done)), H', ⟨by have := HJ1.out; have := HK2.out; omega⟩, ⟨by (with_reducible repeat (first | apply Kd.R_alloc | apply Kd.R_drewN | apply Kd.R_drew)); exact Kd.R_mono (Kd.R_far (p := ⟨gb237, 3, none⟩) (Kd.R_types HO241.out BK237.out (by decide)) (fun _ hk => hk.2) (.slice Ao24 y239.length co24)) (fun _ hk => trivial)⟩, ⟨by (with_reducible repeat (first | refine blk_drewN ?_ _ | refine blk_drew ?_ | refine blk_alloc ?_ _)); refine blk_far ?_ NB233_237.out _; (with_reducible repeat (first | refine blk_drewN ?_ _ | refine blk_drew ?_ | refine blk_alloc ?_ _)); exact BK233.out⟩, ⟨by (with_reducible repeat (first | refine blk_drewN ?_ _ | refine blk_drew ?_ | refine blk_alloc ?_ _)); refine blk_far ?_ NB234_237.out _; (with_reducible repeat (first | refine blk_drewN ?_ _ | refine blk_drew ?_ | refine blk_alloc ?_ _)); exact BK234.out⟩, ⟨by (with_reducible repeat (first | refine blk_drewN ?_ _ | refine blk_drew ?_ | refine blk_alloc ?_ _)); refine blk_put (cs := #[.int .i64 a0_0, .int .i64 a0_1, .int .i64 a0_2, u238003, .slice none 0 0]) ?_ 3 _ rfl; (with_reducible repeat (first | refine blk_drewN ?_ _ | refine blk_drew ?_ | refine blk_alloc ?_ _)); exact BK237.out⟩, ⟨by repeat (first | (with_reducible first | exact HB.out | apply below_alloc | apply pw_below_drewN | apply below_drew1 | refine below_set ?_ GE233.out | refine below_set ?_ GE234.out | refine below_set ?_ GE237.out) | exact HB.out)⟩⟩
                · rw [if_neg c21] at H
                  exact absurd H (by simp)
              · rw [if_neg c20] at H
                exact absurd H (by simp)
            · rw [if_neg c19] at H
              exact absurd H (by simp)
          · rw [if_neg c18] at H
            have c18b0 : decide (x6_2 < x3_1) = false := decide_eq_false c18
            clear c18
            have H' := Aside0.mk H
            clear H
            go_wp2
            go_loopg [7] k2 (fun kq v7 w' => ∃ (x7_3 : Int) (x238004_3 : List (S37)) (u238004 : Value), v7 = .int .i64 x7_3 ∧ Aside0 (capnpref11_Trim.l1 kq x4_1 x7_3 a0_0 a0_1 a0_2 l0_3 l0_4 a0_0 a0_1 a0_2 x238003_2 x238004_3 = some (r1, r2, r3, r4, r5)) ∧ Aside0 (kq ≤ k2) ∧ Aside0 (Kd.R (Kd.int .u8) 5 w' w.heap.size (fun _ => True) u238003 x238003_2) ∧ Aside0 (Kd.R k37 37 w' w.heap.size (fun k_ => some k_ ≠ (u238003 : Value).ownBlock ∧ k_ ≠ gb233 ∧ k_ ≠ gb234 ∧ k_ ≠ gb237) u238004 x238004_3) ∧ Aside0 (w'.heap[gb233]? = some (.cells #[.int .i64 a0_0, .int .i64 a0_1, .int .i64 a0_2, (.slice A0_3 l0_3.length c0_3), (.slice A0_4 l0_4.length c0_4)] 37 (0, 0))) ∧ Aside0 (w'.heap[gb234]? = some (.cells #[.int .i64 0, .int .i64 0, .int .i64 0, (.slice none 0 0), (.slice none 0 0)] 37 (0, 0))) ∧ Aside0 (w'.heap[gb237]? = some (.cells #[.int .i64 a0_0, .int .i64 a0_1, .int .i64 a0_2, u238003, u238004] 37 (0, 0))) ∧ Aside0 (Below w.heap.size w w'))
            case atStart => exact ⟨(0), (([] : List (S37))), (.slice none 0 0), (by first | rfl | (simp; done) | (simp [*]; done)), H', ⟨Nat.le_refl _⟩, ⟨by (with_reducible repeat (first | apply Kd.R_alloc | apply Kd.R_drewN | apply Kd.R_drew)); exact HO_238003.out⟩, ⟨by first | exact Kd.R_nil _ _ _ _ _ | exact Kd.N_nil _ _ _ _ _ | exact Kd.V_nil _ _ _ _ _ | exact Kd.Q_nil _ _ _ _ _ | exact Kd.S_nil _ _ _ _ _⟩, ⟨by (with_reducible repeat (first | refine blk_drewN ?_ _ | refine blk_drew ?_ | refine blk_alloc ?_ _)); exact BK233.out⟩, ⟨by (with_reducible repeat (first | refine blk_drewN ?_ _ | refine blk_drew ?_ | refine blk_alloc ?_ _)); exact BK234.out⟩, ⟨by (with_reducible repeat (first | refine blk_drewN ?_ _ | refine blk_drew ?_ | refine blk_alloc ?_ _)); exact BK237.out⟩, ⟨by repeat (first | (with_reducible first | exact HB.out | apply below_alloc | apply pw_below_drewN | apply below_drew1 | refine below_set ?_ GE233.out | refine below_set ?_ GE234.out | refine below_set ?_ GE237.out) | exact HB.out)⟩⟩
            case round =>
              clear H'
              try clear c1
              try clear c2
              try clear p2
              try clear q2
              try clear hx2
              try clear c4
              try clear c5
              try clear p6
              try clear c7
              try clear c7b0
              try clear c7b1
              try clear c10
              try clear c13
              try clear c14
              try clear c16
              try clear c18
              try clear c18b0
              try clear c19
              try clear c19b0
              try clear c20
              try clear c20b0
              try clear c21
              try clear p23
              try clear q23
              try clear hx23
              try clear hcz11_0
              try clear hcz11_1
              try clear hcz11_2
              try clear hcz11_3
              try clear hcz11_4
              try clear hcz15_0
              try clear hcz15_1
              try clear hcz15_2
              try clear hcz15_3
              try clear hcz15_4
              try clear hcz17_0
              try clear hcz17_1
              try clear hcz17_2
              try clear hcz17_3
              try clear hcz17_4
              try clear hcz6_0
              try clear hcz6_1
              try clear hcz6_2
              try clear hcz6_3
              try clear hcz6_4
              try clear hfz11_0
              try clear hfz11_1
              try clear hfz11_2
              try clear hfz11_3
              try clear hfz11_4
              try clear hfz15_0
              try clear hfz15_1
              try clear hfz15_2
              try clear hfz15_3
              try clear hfz15_4
              try clear hfz17_0
              try clear hfz17_1
              try clear hfz17_2
              try clear hfz17_3
              try clear hfz17_4
              try clear hfz6_0
              try clear hfz6_1
              try clear hfz6_2
              try clear hfz6_3
              try clear hfz6_4
              try clear hx238_0
              try clear p2
              try clear p238
              try clear p6
              try clear q238
              try clear BK233
              try clear BK234
              try clear BK237
              obtain ⟨x7_3, x238004_3, u238004, rfl, HA, HK3, HO_238003, HO_238004, BK233, BK234, BK237, HB⟩ := hrel
              cases gk with
              | zero => exact absurd HA.out (by simp [capnpref11_Trim.l1])
              | succ k3 =>
                have H := HA.out
                clear HA
                simp only [capnpref11_Trim.l1] at H
                by_cases c26 : x7_3 < x4_1
                · rw [if_pos c26] at H
                  have c26b0 : decide (x7_3 < x4_1) = true := decide_eq_true c26
                  clear c26
                  by_cases c27 : 0 ≤ x7_3
                  · rw [if_pos c27] at H
                    have c27b0 : decide (0 ≤ x7_3) = true := decide_eq_true c27
                    clear c27
                    by_cases c28 : x7_3 < (l0_4.length : Int)
                    · rw [if_pos c28] at H
                      have c28b0 : decide (x7_3 < (l0_4.length : Int)) = true := decide_eq_true c28
                      clear c28
                      replace H := Option.bind_eq_some_iff.mp H
                      obtain ⟨⟨t243, t244, t245, t246, t249⟩, A290, H⟩ := H
                      replace H : (if x238004_3.length < 1954687338268 then (capnpref11_Trim.l1 k3 x4_1 (wrap64 (x7_3 + 1)) a0_0 a0_1 a0_2 l0_3 l0_4 a0_0 a0_1 a0_2 x238003_2 (x238004_3 ++ [(⟨t243, t244, t245, t246, t249⟩ : S37)])) else (none)) = some (r1, r2, r3, r4, r5) := H
                      have A29 := Aside0.mk A290
                      clear A290
                      by_cases c30 : x238004_3.length < 1954687338268
                      · rw [if_pos c30] at H
                        have LMc30 := Aside0.mk c30
                        clear c30
                        obtain ⟨y252, hy252⟩ : ∃ y_ : List (S37), y_ = (x238004_3 ++ [(⟨t243, t244, t245, t246, t249⟩ : S37)]) := ⟨_, rfl⟩
                        replace H : (capnpref11_Trim.l1 k3 x4_1 (wrap64 (x7_3 + 1)) a0_0 a0_1 a0_2 l0_3 l0_4 a0_0 a0_1 a0_2 x238003_2 y252) = some (r1, r2, r3, r4, r5) := by first | (rw [hy252]; with_reducible exact H) | (have H2_ := (Option.bind_some _ _).symm.trans H; rw [hy252]; with_reducible exact H2_) | (have H2_ := (Option.bind_some _ _).symm.trans H; with_reducible exact H2_) | with_reducible exact H | (rw [hy252]; exact H) | exact H
                        have Ny252 := Aside0.mk hy252
                        clear hy252
                        have H' := Aside0.mk H
                        clear H
                        try go_wp2
                        have n0_ := Aside0.mk (Kd.R_drew HO_238003.out)
                        have n1_ := Aside0.mk (Kd.R_drew HO_238004.out)
                        have n2_ := Aside0.mk (blk_drew BK233.out)
                        have n3_ := Aside0.mk (blk_drew BK234.out)
                        have n4_ := Aside0.mk (blk_drew BK237.out)
                        have n5_ := Aside0.mk (below_drew1 HB.out)
                        clear HO_238003
                        clear HO_238004
                        clear BK233
                        clear BK234
                        clear BK237
                        clear HB
                        have HO_238003 := n0_
                        have HO_238004 := n1_
                        have BK233 := n2_
                        have BK234 := n3_
                        have BK237 := n4_
                        have HB := n5_
                        clear n0_ n1_ n2_ n3_ n4_ n5_
                        have p242 : 0 ≤ (x7_3 : Int) := of_decide_eq_true (by first | (with_reducible assumption) | assumption)
                        have q242 : x7_3 < (l0_4.length : Int) := of_decide_eq_true (by first | (with_reducible assumption) | assumption)
                        obtain ⟨ad242, A242_3, c242_3, A242_4, c242_4, e242, hx242_0, hx242_1, hx242_2, hx242_3, hx242_4, hl242_3, hi242_3, hl242_4, hi242_4⟩ := at_T37 HR0_4.out x7_3 p242 q242
                        have hw242_4 := hx242_4
                        have hw242_3 := hx242_3
                        have hw242_2 := hx242_2
                        have hw242_1 := hx242_1
                        have hw242_0 := hx242_0
                        cases e242
                        replace hx242_0 := (HB.out.cell (World.block_lt_of_cell? w _ hx242_0)).trans hx242_0
                        replace hx242_1 := (HB.out.cell (World.block_lt_of_cell? w _ hx242_1)).trans hx242_1
                        replace hx242_2 := (HB.out.cell (World.block_lt_of_cell? w _ hx242_2)).trans hx242_2
                        replace hx242_3 := (HB.out.cell (World.block_lt_of_cell? w _ hx242_3)).trans hx242_3
                        replace hx242_4 := (HB.out.cell (World.block_lt_of_cell? w _ hx242_4)).trans hx242_4
                        have HR242_3 := Aside0.mk hi242_3
                        have HC242_3 := Aside0.mk hl242_3
                        clear hi242_3 hl242_3
                        have HR242_4 := Aside0.mk hi242_4
                        have HC242_4 := Aside0.mk hl242_4
                        clear hi242_4 hl242_4
                        replace p242 := eq_true p242
                        replace q242 := eq_true q242
                        refine start_ (n := 12) (S := fun w' => w'.cell? ⟨gb237, 0, none⟩ = some (.int .i64 a0_0) ∧ w'.cell? ⟨gb237, 1, none⟩ = some (.int .i64 a0_1) ∧ w'.cell? ⟨gb237, 2, none⟩ = some (.int .i64 a0_2) ∧ w'.cell? ⟨gb237, 3, none⟩ = some (u238003) ∧ w'.cell? ⟨gb237, 4, none⟩ = some (u238004) ∧ w'.cell? ⟨gb233, 0, none⟩ = some (.int .i64 a0_0) ∧ w'.cell? ⟨gb233, 1, none⟩ = some (.int .i64 a0_1) ∧ w'.cell? ⟨gb233, 2, none⟩ = some (.int .i64 a0_2) ∧ w'.cell? ⟨gb233, 3, none⟩ = some (.slice A0_3 l0_3.length c0_3) ∧ w'.cell? ⟨gb233, 4, none⟩ = some (.slice (some ad242) l0_4.length c0_4) ∧ w'.cell? (ad242.add ((x7_3).toNat * 5)) = some (.int .i64 ((rd_T37 l0_4 x7_3).f0)) ∧ w'.cell? ⟨(ad242.add ((x7_3).toNat * 5)).block, (ad242.add ((x7_3).toNat * 5)).off + 1, none⟩ = some (.int .i64 ((rd_T37 l0_4 x7_3).f1)) ∧ w'.cell? ⟨(ad242.add ((x7_3).toNat * 5)).block, (ad242.add ((x7_3).toNat * 5)).off + 2, none⟩ = some (.int .i64 ((rd_T37 l0_4 x7_3).f2)) ∧ w'.cell? ⟨(ad242.add ((x7_3).toNat * 5)).block, (ad242.add ((x7_3).toNat * 5)).off + 3, none⟩ = some (.slice A242_3 ((rd_T37 l0_4 x7_3).f3).length c242_3) ∧ w'.cell? ⟨(ad242.add ((x7_3).toNat * 5)).block, (ad242.add ((x7_3).toNat * 5)).off + 4, none⟩ = some (.slice A242_4 ((rd_T37 l0_4 x7_3).f4).length c242_4)) (ds := [11]) #[false, false, false, false, false, false, false, false, false, false, false, false] (by kernel_rfl) rfl rfl ⟨(blk_cell BK237.out 0).trans rfl, (blk_cell BK237.out 1).trans rfl, (blk_cell BK237.out 2).trans rfl, (blk_cell BK237.out 3).trans rfl, (blk_cell BK237.out 4).trans rfl, (blk_cell BK233.out 0).trans rfl, (blk_cell BK233.out 1).trans rfl, (blk_cell BK233.out 2).trans rfl, (blk_cell BK233.out 3).trans rfl, (blk_cell BK233.out 4).trans rfl, ((HB.out.cell (World.block_lt_of_cell? w _ hw242_0)).trans hw242_0), ((HB.out.cell (World.block_lt_of_cell? w _ hw242_1)).trans hw242_1), ((HB.out.cell (World.block_lt_of_cell? w _ hw242_2)).trans hw242_2), ((HB.out.cell (World.block_lt_of_cell? w _ hw242_3)).trans hw242_3), ((HB.out.cell (World.block_lt_of_cell? w _ hw242_4)).trans hw242_4)⟩ (fun hHeld => ?_); refine with_tabW capnpref11_Trim.tab17 capnpref11_Trim.bits17 (fun HT_ HW_ => ?_)
                        generalize wr.drew = w31 at HO_238003 HO_238004 BK233 BK234 BK237 HB HR242_3 HR242_4 hx242_0 hx242_1 hx242_2 hx242_3 hx242_4 hHeld ⊢
                        refine pure_ (i := 0) (N := some 53) (v := ?_) (a' := ?_) #[true, false, false, false, false, false, false, false, false, false, false, false] rfl rfl (any_of HT_.out (by kernel_rfl)) (fun _ _ _ h => h) (Or.inl ⟨by rfl, ?_⟩) ?_ ?_
                        rotate_left
                        · intro w'
                          go_simp
                          with_reducible rfl
                        rotate_left
                        · simp only [Act.put, List.setIfInBounds_toArray, List.set_cons_zero, List.set_cons_succ, i64_w, i32_w]
                          rfl
                        refine pure_ (i := 2) (N := some 55) (v := ?_) (a' := ?_) #[true, false, true, false, false, false, false, false, false, false, false, false] rfl rfl (any_of HT_.out (by kernel_rfl)) (fun _ _ _ h => h) (Or.inl ⟨by rfl, ?_⟩) ?_ ?_
                        rotate_left
                        · intro w'
                          go_simp
                          with_reducible rfl
                        rotate_left
                        · simp only [Act.put, List.setIfInBounds_toArray, List.set_cons_zero, List.set_cons_succ, i64_w, i32_w]
                          rfl
                        refine pure_ (i := 4) (N := some 57) (v := ?_) (a' := ?_) #[true, false, true, false, true, false, false, false, false, false, false, false] rfl rfl (any_of HT_.out (by kernel_rfl)) (fun _ _ _ h => h) (Or.inl ⟨by rfl, ?_⟩) ?_ ?_
                        rotate_left
                        · intro w'
                          go_simp
                          with_reducible rfl
                        rotate_left
                        · simp only [Act.put, List.setIfInBounds_toArray, List.set_cons_zero, List.set_cons_succ, i64_w, i32_w]
                          rfl
                        refine take_ (i := 1) (N := some 54) (v := ?_) (a' := ?_) #[true, true, true, false, true, false, false, false, false, false, false, false] rfl rfl (take_ofW HT_.out HW_.out (by kernel_rfl)) (fun _ _ _ h => h) (Or.inl ⟨by rfl, ?_⟩) hHeld ?_ ?_
                        rotate_left
                        · rintro w' ⟨s0, s1, s2, s3, s4, s5, s6, s7, s8, s9, s10, s11, s12, s13, s14⟩
                          go_simp
                          with_reducible rfl
                        rotate_left
                        · simp only [Act.put, List.setIfInBounds_toArray, List.set_cons_zero, List.set_cons_succ, i64_w, i32_w]
                          rfl
                        refine take_ (i := 3) (N := some 56) (v := ?_) (a' := ?_) #[true, true, true, true, true, false, false, false, false, false, false, false] rfl rfl (take_ofW HT_.out HW_.out (by kernel_rfl)) (fun _ _ _ h => h) (Or.inl ⟨by rfl, ?_⟩) hHeld ?_ ?_
                        rotate_left
                        · rintro w' ⟨s0, s1, s2, s3, s4, s5, s6, s7, s8, s9, s10, s11, s12, s13, s14⟩
                          go_simp
                          with_reducible rfl
                        rotate_left
                        · simp only [Act.put, List.setIfInBounds_toArray, List.set_cons_zero, List.set_cons_succ, i64_w, i32_w]
                          rfl
                        refine pure_ (i := 5) (N := some 58) (v := ?_) (a' := ?_) #[true, true, true, true, true, true, false, false, false, false, false, false] rfl rfl (any_of HT_.out (by kernel_rfl)) (fun _ _ _ h => h) (Or.inl ⟨by rfl, ?_⟩) ?_ ?_
                        rotate_left
                        · intro w'
                          go_simp
                          with_reducible rfl
                        rotate_left
                        · simp only [Act.put, List.setIfInBounds_toArray, List.set_cons_zero, List.set_cons_succ, i64_w, i32_w]
                          rfl
                        refine take_ (i := 6) (N := some 59) (v := ?_) (a' := ?_) #[true, true, true, true, true, true, true, false, false, false, false, false] rfl rfl (take_ofW HT_.out HW_.out (by kernel_rfl)) (fun _ _ _ h => h) (Or.inl ⟨by rfl, ?_⟩) hHeld ?_ ?_
                        rotate_left
                        · rintro w' ⟨s0, s1, s2, s3, s4, s5, s6, s7, s8, s9, s10, s11, s12, s13, s14⟩
                          go_simp
                          with_reducible rfl
                        rotate_left
                        · simp only [Act.put, List.setIfInBounds_toArray, List.set_cons_zero, List.set_cons_succ, i64_w, i32_w]
                          rfl
                        refine one_ (i := 7) (N := some 60) #[true, true, true, true, true, true, true, true, false, false, false, false] rfl rfl (one_of HT_.out (by kernel_rfl)) (by decide) (fun K hK => ?_)
                        refine goes_ Tryd.func29 (by kernel_rfl) rfl #[.agg #[.int .i64 ((rd_T37 l0_4 x7_3).f0), .int .i64 ((rd_T37 l0_4 x7_3).f1), .int .i64 ((rd_T37 l0_4 x7_3).f2), .slice A242_3 ((rd_T37 l0_4 x7_3).f3).length c242_3, .slice A242_4 ((rd_T37 l0_4 x7_3).f4).length c242_4]] (by rfl) rfl rfl (by (try simp only [List.map_toArray, List.map_cons, List.map_nil]); first | done | rfl | (simp only [List.length_drop, List.length_take]; rfl)) ?_
                        with_reducible refine (ih k3 (by have := HJ1.out; have := HK2.out; have := HK3.out; omega) ((rd_T37 l0_4 x7_3).f0) ((rd_T37 l0_4 x7_3).f1) ((rd_T37 l0_4 x7_3).f2) _ _ ((rd_T37 l0_4 x7_3).f3) _ _ ((rd_T37 l0_4 x7_3).f4) t243 t244 t245 t246 t249 _ ?side1 ?side2 ?side3 ?side4 A29.out).mono ?_
                        (case side1 => repeat (first | exact (Kd.C_below HR242_3.out HB.out) | (with_reducible refine Kd.C_alloc ?_ _) | (with_reducible refine Kd.C_drewN ?_ _) | (with_reducible refine Kd.C_drew ?_)))
                        (case side2 => exact HC242_3.out)
                        (case side3 => repeat (first | exact (Kd.C_below HR242_4.out HB.out) | (with_reducible refine Kd.C_alloc ?_ _) | (with_reducible refine Kd.C_drewN ?_ _) | (with_reducible refine Kd.C_drew ?_)))
                        (case side4 => exact HC242_4.out)
                        rintro e w32 ⟨v247, v250, rfl, ho0, ho1, hb⟩
                        refine ⟨_, rfl, ?_⟩
                        have n0_ := Aside0.mk (Kd.R_elder' (by (with_reducible repeat (first | apply Kd.R_alloc | apply Kd.R_drewN | apply Kd.R_drew)); exact HO_238003.out) (Kd.R_base ho0) hb)
                        have n1_ := Aside0.mk (Kd.R_mono (Kd.R_told (Kd.R_told (Kd.R_old (by (with_reducible repeat (first | apply Kd.R_alloc | apply Kd.R_drewN | apply Kd.R_drew)); exact HO_238004.out) hb) (Kd.R_base ho0)) (Kd.R_base ho1)) (fun _ h_ => h_.1))
                        have n2_ := Aside0.mk (Kd.R_lower (Kd.R_new' ho0 (Kd.R_lt (by (with_reducible repeat (first | apply Kd.R_alloc | apply Kd.R_drewN | apply Kd.R_drew)); exact HO_238003.out))) (below_size (by repeat (first | (with_reducible first | exact HB.out | apply below_alloc | apply pw_below_drewN | apply below_drew1 | refine below_set ?_ GE233.out | refine below_set ?_ GE234.out | refine below_set ?_ GE237.out) | exact HB.out))))
                        have n3_ := Aside0.mk (Kd.R_lower (Kd.R_newB (Kd.R_newB (Kd.R_newB (Kd.R_new' (Kd.R_new' ho1 (Kd.R_lt (by (with_reducible repeat (first | apply Kd.R_alloc | apply Kd.R_drewN | apply Kd.R_drew)); exact HO_238003.out))) (Kd.R_lt (by (with_reducible repeat (first | apply Kd.R_alloc | apply Kd.R_drewN | apply Kd.R_drew)); exact HO_238004.out))) (g := gb233) (o := .cells #[.int .i64 a0_0, .int .i64 a0_1, .int .i64 a0_2, .slice A0_3 l0_3.length c0_3, .slice (some ad242) l0_4.length c0_4] 37 (0, 0)) (by (with_reducible repeat (first | refine blk_drewN ?_ _ | refine blk_drew ?_ | refine blk_alloc ?_ _)); exact BK233.out)) (g := gb234) (o := .cells #[.int .i64 0, .int .i64 0, .int .i64 0, .slice none 0 0, .slice none 0 0] 37 (0, 0)) (by (with_reducible repeat (first | refine blk_drewN ?_ _ | refine blk_drew ?_ | refine blk_alloc ?_ _)); exact BK234.out)) (g := gb237) (o := .cells #[.int .i64 a0_0, .int .i64 a0_1, .int .i64 a0_2, u238003, u238004] 37 (0, 0)) (by (with_reducible repeat (first | refine blk_drewN ?_ _ | refine blk_drew ?_ | refine blk_alloc ?_ _)); exact BK237.out)) (below_size (by repeat (first | (with_reducible first | exact HB.out | apply below_alloc | apply pw_below_drewN | apply below_drew1 | refine below_set ?_ GE233.out | refine below_set ?_ GE234.out | refine below_set ?_ GE237.out) | exact HB.out))))
                        have n4_ := Aside0.mk (blk_below (g := gb233) (o := .cells #[.int .i64 a0_0, .int .i64 a0_1, .int .i64 a0_2, .slice A0_3 l0_3.length c0_3, .slice (some ad242) l0_4.length c0_4] 37 (0, 0)) (by (with_reducible repeat (first | refine blk_drewN ?_ _ | refine blk_drew ?_ | refine blk_alloc ?_ _)); exact BK233.out) hb)
                        have n5_ := Aside0.mk (blk_below (g := gb234) (o := .cells #[.int .i64 0, .int .i64 0, .int .i64 0, .slice none 0 0, .slice none 0 0] 37 (0, 0)) (by (with_reducible repeat (first | refine blk_drewN ?_ _ | refine blk_drew ?_ | refine blk_alloc ?_ _)); exact BK234.out) hb)
                        have n6_ := Aside0.mk (blk_below (g := gb237) (o := .cells #[.int .i64 a0_0, .int .i64 a0_1, .int .i64 a0_2, u238003, u238004] 37 (0, 0)) (by (with_reducible repeat (first | refine blk_drewN ?_ _ | refine blk_drew ?_ | refine blk_alloc ?_ _)); exact BK237.out) hb)
                        have n7_ := Aside0.mk (below_step (by repeat (first | (with_reducible first | exact HB.out | apply below_alloc | apply pw_below_drewN | apply below_drew1 | refine below_set ?_ GE233.out | refine below_set ?_ GE234.out | refine below_set ?_ GE237.out) | exact HB.out)) hb)
                        clear HO_238003
                        clear HO_238004
                        clear BK233
                        clear BK234
                        clear BK237
                        clear HB
                        have HO_238003 := n0_
                        have HO_238004 := n1_
                        have HO248 := n2_
                        have HO251 := n3_
                        have BK233 := n4_
                        have BK234 := n5_
                        have BK237 := n6_
                        have HB := n7_
                        clear n0_ n1_ n2_ n3_ n4_ n5_ n6_ n7_
                        (try clear hb)
                        (try clear hb2)
                        (try clear hk)
                        (try clear hi)
                        (try clear ho0)
                        (try clear ho1)
                        obtain ⟨Ao34, co34, eo34⟩ := Kd.R_slice HO248.out
                        (first | subst eo34 | (injection eo34 with f1_ f2_ f3_; have f4_ := f1_.symm; have f5_ := f3_.symm; clear f1_ f2_ f3_; subst f4_; subst f5_))
                        obtain ⟨Ao35, co35, eo35⟩ := Kd.R_slice HO251.out
                        (first | subst eo35 | (injection eo35 with f1_ f2_ f3_; have f4_ := f1_.symm; have f5_ := f3_.symm; clear f1_ f2_ f3_; subst f4_; subst f5_))
                        refine hK.out _ _ ⟨(blk_cell BK237.out 0).trans rfl, (blk_cell BK237.out 1).trans rfl, (blk_cell BK237.out 2).trans rfl, (blk_cell BK237.out 3).trans rfl, (blk_cell BK237.out 4).trans rfl, (blk_cell BK233.out 0).trans rfl, (blk_cell BK233.out 1).trans rfl, (blk_cell BK233.out 2).trans rfl, (blk_cell BK233.out 3).trans rfl, (blk_cell BK233.out 4).trans rfl, ((HB.out.cell (World.block_lt_of_cell? w _ hw242_0)).trans hw242_0), ((HB.out.cell (World.block_lt_of_cell? w _ hw242_1)).trans hw242_1), ((HB.out.cell (World.block_lt_of_cell? w _ hw242_2)).trans hw242_2), ((HB.out.cell (World.block_lt_of_cell? w _ hw242_3)).trans hw242_3), ((HB.out.cell (World.block_lt_of_cell? w _ hw242_4)).trans hw242_4)⟩ (fun hHeld => ?_)
                        clear hK K
                        refine norm_ (a' := ?_) ?_ ?_
                        rotate_left
                        · show Act.put _ (some 60) _ = _
                          simp only [Act.put, List.setIfInBounds_toArray, List.set_cons_zero, List.set_cons_succ, i64_w, i32_w]
                          rfl
                        refine one_ (i := 8) (N := some 61) #[true, true, true, true, true, true, true, true, true, false, false, false] rfl rfl (one_of HT_.out (by kernel_rfl)) (by decide) (fun K hK => ?_)
                        refine value_ (w1 := ?_) (v := ?_) (by rfl) rfl ?_ ?_
                        rotate_left 2
                        · go_simp
                          constructor
                          · rfl
                          · rfl
                        refine hK.out _ _ ⟨(blk_cell (blk_alloc BK237.out _) 0).trans rfl, (blk_cell (blk_alloc BK237.out _) 1).trans rfl, (blk_cell (blk_alloc BK237.out _) 2).trans rfl, (blk_cell (blk_alloc BK237.out _) 3).trans rfl, (blk_cell (blk_alloc BK237.out _) 4).trans rfl, (blk_cell (blk_alloc BK233.out _) 0).trans rfl, (blk_cell (blk_alloc BK233.out _) 1).trans rfl, (blk_cell (blk_alloc BK233.out _) 2).trans rfl, (blk_cell (blk_alloc BK233.out _) 3).trans rfl, (blk_cell (blk_alloc BK233.out _) 4).trans rfl, (World.cell?_alloc_lt _ _ _ (World.block_lt_of_cell? _ _ (((HB.out.cell (World.block_lt_of_cell? w _ hw242_0)).trans hw242_0)))).trans (((HB.out.cell (World.block_lt_of_cell? w _ hw242_0)).trans hw242_0)), (World.cell?_alloc_lt _ _ _ (World.block_lt_of_cell? _ _ (((HB.out.cell (World.block_lt_of_cell? w _ hw242_1)).trans hw242_1)))).trans (((HB.out.cell (World.block_lt_of_cell? w _ hw242_1)).trans hw242_1)), (World.cell?_alloc_lt _ _ _ (World.block_lt_of_cell? _ _ (((HB.out.cell (World.block_lt_of_cell? w _ hw242_2)).trans hw242_2)))).trans (((HB.out.cell (World.block_lt_of_cell? w _ hw242_2)).trans hw242_2)), (World.cell?_alloc_lt _ _ _ (World.block_lt_of_cell? _ _ (((HB.out.cell (World.block_lt_of_cell? w _ hw242_3)).trans hw242_3)))).trans (((HB.out.cell (World.block_lt_of_cell? w _ hw242_3)).trans hw242_3)), (World.cell?_alloc_lt _ _ _ (World.block_lt_of_cell? _ _ (((HB.out.cell (World.block_lt_of_cell? w _ hw242_4)).trans hw242_4)))).trans (((HB.out.cell (World.block_lt_of_cell? w _ hw242_4)).trans hw242_4))⟩ (fun hHeld => ?_)
                        clear hK K
                        refine norm_ (a' := ?_) ?_ ?_
                        rotate_left
                        · show Act.put _ (some 61) _ = _
                          simp only [Act.put, List.setIfInBounds_toArray, List.set_cons_zero, List.set_cons_succ, i64_w, i32_w]
                          rfl
                        refine one_ (i := 9) (N := some 62) #[true, true, true, true, true, true, true, true, true, true, false, false] rfl rfl (one_of HT_.out (by kernel_rfl)) (by decide) (fun K hK => ?_)
                        refine Kd.R_append_step k37 (w0 := w) w.heap.size (by rfl) (.tmp 54) (.tmp 61) 35 37 (.agg #[(.int .i64 0), (.int .i64 0), (.int .i64 0), (.slice none 0 0), (.slice none 0 0)]) 72 rfl Tryd.underlying35 info37 rfl (by decide) (by omega) u238004 x238004_3 (⟨t243, t244, t245, t246, t249⟩ : S37) [.int .i64 t243, .int .i64 t244, .int .i64 t245, .slice Ao34 t246.length co34, .slice Ao35 t249.length co35] (fun k_ => some k_ ≠ (u238003 : Value).ownBlock ∧ k_ ≠ gb233 ∧ k_ ≠ gb234 ∧ k_ ≠ gb237) (fun k_ => ((fun k_ => some k_ ≠ (u238003 : Value).ownBlock ∧ k_ ≠ gb233 ∧ k_ ≠ gb234 ∧ k_ ≠ gb237)) k_ ∧ some k_ ≠ (u238004 : Value).ownBlock) rfl rfl ?aP (fun _ hk => hk) ?aF ?aO ?aB ?aS ?aL ?_
                        (case aP => exact k37_mkM _ _ _ (⟨t243, t244, t245, t246, t249⟩ : S37) (Kd.R_mono (Kd.R_types (Kd.R_types (Kd.R_types (Kd.R_apart' (HO248.out) (Kd.R_typed HO_238004.out) (by decide)) BK233.out (by decide)) BK234.out (by decide)) BK237.out (by decide)) (fun k_ hk => ⟨⟨hk.1.1.1.1.2, ⟨hk.1.1.2, ⟨hk.1.2, hk.2⟩⟩⟩, hk.1.1.1.2⟩)) (Kd.R_mono (HO251.out) (fun k_ hk => ⟨⟨hk.1.1.1.1.2, ⟨hk.1.1.2, ⟨hk.1.2, hk.2⟩⟩⟩, hk.1.1.1.2⟩)))
                        (case aB => exact (by repeat (first | (with_reducible first | exact HB.out | apply below_alloc | apply pw_below_drewN | apply below_drew1 | refine below_set ?_ GE233.out | refine below_set ?_ GE234.out | refine below_set ?_ GE237.out) | exact HB.out)))
                        (case aF => exact (fun k_ hk => ⟨Kd.fresh' (Kd.R_lt (by (with_reducible repeat (first | apply Kd.R_alloc | apply Kd.R_drewN | apply Kd.R_drew)); exact HO_238003.out)) k_ hk, Kd.freshB (g := gb233) (o := .cells #[.int .i64 a0_0, .int .i64 a0_1, .int .i64 a0_2, .slice A0_3 l0_3.length c0_3, .slice (some ad242) l0_4.length c0_4] 37 (0, 0)) (by (with_reducible repeat (first | refine blk_drewN ?_ _ | refine blk_drew ?_ | refine blk_alloc ?_ _)); exact BK233.out) k_ hk, Kd.freshB (g := gb234) (o := .cells #[.int .i64 0, .int .i64 0, .int .i64 0, .slice none 0 0, .slice none 0 0] 37 (0, 0)) (by (with_reducible repeat (first | refine blk_drewN ?_ _ | refine blk_drew ?_ | refine blk_alloc ?_ _)); exact BK234.out) k_ hk, Kd.freshB (g := gb237) (o := .cells #[.int .i64 a0_0, .int .i64 a0_1, .int .i64 a0_2, u238003, u238004] 37 (0, 0)) (by (with_reducible repeat (first | refine blk_drewN ?_ _ | refine blk_drew ?_ | refine blk_alloc ?_ _)); exact BK237.out) k_ hk⟩))
                        (case aO => exact (by (with_reducible repeat (first | apply Kd.R_alloc | apply Kd.R_drewN | apply Kd.R_drew)); exact Kd.R_mono HO_238004.out (fun _ hk => ⟨hk.1.1.1, ⟨hk.1.1.2.1, ⟨hk.1.1.2.2.1, hk.1.1.2.2.2⟩⟩⟩)))
                        (case aS => exact (below_size (by repeat (first | (with_reducible first | exact HB.out | apply below_alloc | apply pw_below_drewN | apply below_drew1 | refine below_set ?_ GE233.out | refine below_set ?_ GE234.out | refine below_set ?_ GE237.out) | exact HB.out))))
                        (case aL => have := LMc30.out; omega)
                        intro v253 w33 ho hb hg hat
                        rw [← Ny252.out] at ho
                        have n0_ := Aside0.mk (Kd.R_over' (by (with_reducible repeat (first | apply Kd.R_alloc | apply Kd.R_drewN | apply Kd.R_drew)); exact HO_238003.out) (Kd.R_typed (by (with_reducible repeat (first | apply Kd.R_alloc | apply Kd.R_drewN | apply Kd.R_drew)); exact HO_238004.out)) (by decide) hg)
                        have n1_ := Aside0.mk (blk_grown (g := gb233) (o := .cells #[.int .i64 a0_0, .int .i64 a0_1, .int .i64 a0_2, .slice A0_3 l0_3.length c0_3, .slice (some ad242) l0_4.length c0_4] 37 (0, 0)) (by (with_reducible repeat (first | refine blk_drewN ?_ _ | refine blk_drew ?_ | refine blk_alloc ?_ _)); exact BK233.out) hg (Kd.R_away HO_238004.out (fun _ hk => hk.1.1.2.1)))
                        have n2_ := Aside0.mk (blk_grown (g := gb234) (o := .cells #[.int .i64 0, .int .i64 0, .int .i64 0, .slice none 0 0, .slice none 0 0] 37 (0, 0)) (by (with_reducible repeat (first | refine blk_drewN ?_ _ | refine blk_drew ?_ | refine blk_alloc ?_ _)); exact BK234.out) hg (Kd.R_away HO_238004.out (fun _ hk => hk.1.1.2.2.1)))
                        have n3_ := Aside0.mk (blk_grown (g := gb237) (o := .cells #[.int .i64 a0_0, .int .i64 a0_1, .int .i64 a0_2, u238003, u238004] 37 (0, 0)) (by (with_reducible repeat (first | refine blk_drewN ?_ _ | refine blk_drew ?_ | refine blk_alloc ?_ _)); exact BK237.out) hg (Kd.R_away HO_238004.out (fun _ hk => hk.1.1.2.2.2)))
                        have n4_ := Aside0.mk (hb)
                        have n5_ := Aside0.mk (ho)
                        clear HO_238003
                        clear BK233
                        clear BK234
                        clear BK237
                        clear HB
                        clear HO_238004
                        clear HO248
                        clear HO251
                        have HO_238003 := n0_
                        have BK233 := n1_
                        have BK234 := n2_
                        have BK237 := n3_
                        have HB := n4_
                        have HO254 := n5_
                        clear n0_ n1_ n2_ n3_ n4_ n5_
                        clear ho hb hg hat
                        obtain ⟨Ao36, co36, eo36⟩ := Kd.R_slice HO254.out
                        (first | subst eo36 | (injection eo36 with f1_ f2_ f3_; have f4_ := f1_.symm; have f5_ := f3_.symm; clear f1_ f2_ f3_; subst f4_; subst f5_))
                        refine hK.out _ _ ⟨(blk_cell BK237.out 0).trans rfl, (blk_cell BK237.out 1).trans rfl, (blk_cell BK237.out 2).trans rfl, (blk_cell BK237.out 3).trans rfl, (blk_cell BK237.out 4).trans rfl, (blk_cell BK233.out 0).trans rfl, (blk_cell BK233.out 1).trans rfl, (blk_cell BK233.out 2).trans rfl, (blk_cell BK233.out 3).trans rfl, (blk_cell BK233.out 4).trans rfl, ((HB.out.cell (World.block_lt_of_cell? w _ hw242_0)).trans hw242_0), ((HB.out.cell (World.block_lt_of_cell? w _ hw242_1)).trans hw242_1), ((HB.out.cell (World.block_lt_of_cell? w _ hw242_2)).trans hw242_2), ((HB.out.cell (World.block_lt_of_cell? w _ hw242_3)).trans hw242_3), ((HB.out.cell (World.block_lt_of_cell? w _ hw242_4)).trans hw242_4)⟩ (fun hHeld => ?_)
                        clear hK K
                        refine norm_ (a' := ?_) ?_ ?_
                        rotate_left
                        · show Act.put _ (some 62) _ = _
                          simp only [Act.put, List.setIfInBounds_toArray, List.set_cons_zero, List.set_cons_succ, i64_w, i32_w]
                          rfl
                        refine pure_ (i := 10) (N := some 63) (v := ?_) (a' := ?_) #[true, true, true, true, true, true, true, true, true, true, true, false] rfl rfl (any_of HT_.out (by kernel_rfl)) (fun _ _ _ h => h) (Or.inl ⟨by rfl, ?_⟩) ?_ ?_
                        rotate_left
                        · intro w'
                          go_simp
                          with_reducible rfl
                        rotate_left
                        · simp only [Act.put, List.setIfInBounds_toArray, List.set_cons_zero, List.set_cons_succ, i64_w, i32_w]
                          rfl
                        refine last_ (i := 11) (N := none) #[true, true, true, true, true, true, true, true, true, true, true, true] rfl rfl (one_of HT_.out (by kernel_rfl)) (by decide) (fun K hK => ?_)
                        have hs37 : w33.cell? ⟨gb237, 4, none⟩ = some (u238004) := (blk_cell BK237.out 4).trans rfl
                        have hfs37 := blk_frozen BK237.out 4
                        have hns37_0 := NB233_237.out
                        have hns37_1 := NB234_237.out
                        have hms37_0 := NB237_233.out
                        have hms37_1 := NB237_234.out
                        refine skip_ (w1 := ?_) (by rfl) rfl ?_ ?_
                        rotate_left
                        · go_simp
                          rfl
                        refine hK.out _ _ ?_
                        clear hK K
                        refine done_ (done_of HT_.out (by kernel_rfl)) ?_
                        try go_wp2
                        go_roundg k3
                        case measure => have := HJ1.out; have := HK2.out; have := HK3.out; omega
                        case rel => exact ⟨(wrap64 (x7_3 + 1)), (y252), (.slice Ao36 y252.length co36), (by first | rfl | (simp; done) | (simp [*]; done)), H', ⟨by have := HJ1.out; have := HK2.out; have := HK3.out; omega⟩, ⟨by (with_reducible repeat (first | apply Kd.R_alloc | apply Kd.R_drewN | apply Kd.R_drew)); exact Kd.R_mono (Kd.R_far (p := ⟨gb237, 4, none⟩) (Kd.R_types HO_238003.out BK237.out (by decide)) (fun _ hk => hk.2) (.slice Ao36 y252.length co36)) (fun _ hk => trivial)⟩, ⟨by (with_reducible repeat (first | apply Kd.R_alloc | apply Kd.R_drewN | apply Kd.R_drew)); exact Kd.R_mono (Kd.R_far (p := ⟨gb237, 4, none⟩) (Kd.R_mono HO254.out (fun k_ hk => (⟨hk, hk.2.2.2⟩ : _ ∧ k_ ≠ gb237))) (fun _ hk => hk.2) (.slice Ao36 y252.length co36)) (fun _ hk => ⟨hk.1.1, ⟨hk.1.2.1, ⟨hk.1.2.2.1, hk.1.2.2.2⟩⟩⟩)⟩, ⟨by (with_reducible repeat (first | refine blk_drewN ?_ _ | refine blk_drew ?_ | refine blk_alloc ?_ _)); refine blk_far ?_ NB233_237.out _; (with_reducible repeat (first | refine blk_drewN ?_ _ | refine blk_drew ?_ | refine blk_alloc ?_ _)); exact BK233.out⟩, ⟨by (with_reducible repeat (first | refine blk_drewN ?_ _ | refine blk_drew ?_ | refine blk_alloc ?_ _)); refine blk_far ?_ NB234_237.out _; (with_reducible repeat (first | refine blk_drewN ?_ _ | refine blk_drew ?_ | refine blk_alloc ?_ _)); exact BK234.out⟩, ⟨by (with_reducible repeat (first | refine blk_drewN ?_ _ | refine blk_drew ?_ | refine blk_alloc ?_ _)); refine blk_put (cs := #[.int .i64 a0_0, .int .i64 a0_1, .int .i64 a0_2, u238003, u238004]) ?_ 4 _ rfl; (with_reducible repeat (first | refine blk_drewN ?_ _ | refine blk_drew ?_ | refine blk_alloc ?_ _)); exact BK237.out⟩, ⟨by repeat (first | (with_reducible first | exact HB.out | apply below_alloc | apply pw_below_drewN | apply below_drew1 | refine below_set ?_ GE233.out | refine below_set ?_ GE234.out | refine below_set ?_ GE237.out) | exact HB.out)⟩⟩
                      · rw [if_neg c30] at H
                        exact absurd H (by simp)
                    · rw [if_neg c28] at H
                      exact absurd H (by simp)
                  · rw [if_neg c27] at H
                    exact absurd H (by simp)
                · rw [if_neg c26] at H
                  have c26b0 : decide (x7_3 < x4_1) = false := decide_eq_false c26
                  clear c26
                  simp only [Option.some.injEq, Prod.mk.injEq] at H
                  obtain ⟨rfl, rfl, rfl, rfl, rfl⟩ := H
                  have hnb38 := NB237_233.out
                  have hnc38 := NB233_237.out
                  have hnb39 := NB237_234.out
                  have hnc39 := NB234_237.out
                  have hcz40_0 : wr.cell? ⟨gb237, 0, none⟩ = some (.int .i64 a0_0) := (blk_cell BK237.out 0).trans rfl
                  have hcz40_1 : wr.cell? ⟨gb237, 1, none⟩ = some (.int .i64 a0_1) := (blk_cell BK237.out 1).trans rfl
                  have hcz40_2 : wr.cell? ⟨gb237, 2, none⟩ = some (.int .i64 a0_2) := (blk_cell BK237.out 2).trans rfl
                  have hcz40_3 : wr.cell? ⟨gb237, 3, none⟩ = some (u238003) := (blk_cell BK237.out 3).trans rfl
                  have hcz40_4 : wr.cell? ⟨gb237, 4, none⟩ = some (u238004) := (blk_cell BK237.out 4).trans rfl
                  have hfz40_0 := blk_frozen BK237.out 0
                  have hfz40_1 := blk_frozen BK237.out 1
                  have hfz40_2 := blk_frozen BK237.out 2
                  have hfz40_3 := blk_frozen BK237.out 3
                  have hfz40_4 := blk_frozen BK237.out 4
                  have hnb41 := NB234_233.out
                  have hnc41 := NB233_234.out
                  have hcz42_0 : wr.cell? ⟨gb234, 0, none⟩ = some (.int .i64 0) := (blk_cell BK234.out 0).trans rfl
                  have hcz42_1 : wr.cell? ⟨gb234, 1, none⟩ = some (.int .i64 0) := (blk_cell BK234.out 1).trans rfl
                  have hcz42_2 : wr.cell? ⟨gb234, 2, none⟩ = some (.int .i64 0) := (blk_cell BK234.out 2).trans rfl
                  have hcz42_3 : wr.cell? ⟨gb234, 3, none⟩ = some (.slice none 0 0) := (blk_cell BK234.out 3).trans rfl
                  have hcz42_4 : wr.cell? ⟨gb234, 4, none⟩ = some (.slice none 0 0) := (blk_cell BK234.out 4).trans rfl
                  have hfz42_0 := blk_frozen BK234.out 0
                  have hfz42_1 := blk_frozen BK234.out 1
                  have hfz42_2 := blk_frozen BK234.out 2
                  have hfz42_3 := blk_frozen BK234.out 3
                  have hfz42_4 := blk_frozen BK234.out 4
                  obtain ⟨Ao43, co43, eo43⟩ := Kd.R_slice HO_238003.out
                  subst eo43
                  obtain ⟨Ao44, co44, eo44⟩ := Kd.R_slice HO_238004.out
                  subst eo44
                  go_wp2
                  refine bodyPost_ret (results_cell_row rfl _ _ gb234 37 #[.int .i64 a0_0, .int .i64 a0_1, .int .i64 a0_2, .slice Ao43 x238003_2.length co43, .slice Ao44 x238004_3.length co44] (0, 0) _ rfl (by (with_reducible repeat (first | refine blk_drewN ?_ _ | refine blk_drew ?_ | refine blk_alloc ?_ _)); refine blk_put (cs := #[.int .i64 a0_0, .int .i64 a0_1, .int .i64 a0_2, .slice Ao43 x238003_2.length co43, .slice none 0 0]) ?_ 4 _ rfl; (with_reducible repeat (first | refine blk_drewN ?_ _ | refine blk_drew ?_ | refine blk_alloc ?_ _)); refine blk_put (cs := #[.int .i64 a0_0, .int .i64 a0_1, .int .i64 a0_2, .slice none 0 0, .slice none 0 0]) ?_ 3 _ rfl; (with_reducible repeat (first | refine blk_drewN ?_ _ | refine blk_drew ?_ | refine blk_alloc ?_ _)); refine blk_put (cs := #[.int .i64 a0_0, .int .i64 a0_1, .int .i64 0, .slice none 0 0, .slice none 0 0]) ?_ 2 _ rfl; (with_reducible repeat (first | refine blk_drewN ?_ _ | refine blk_drew ?_ | refine blk_alloc ?_ _)); refine blk_put (cs := #[.int .i64 a0_0, .int .i64 0, .int .i64 0, .slice none 0 0, .slice none 0 0]) ?_ 1 _ rfl; (with_reducible repeat (first | refine blk_drewN ?_ _ | refine blk_drew ?_ | refine blk_alloc ?_ _)); refine blk_put (cs := #[.int .i64 0, .int .i64 0, .int .i64 0, .slice none 0 0, .slice none 0 0]) ?_ 0 _ rfl; (with_reducible repeat (first | refine blk_drewN ?_ _ | refine blk_drew ?_ | refine blk_alloc ?_ _)); exact BK234.out) Tryd.underlying37 rfl (by kernel_rfl)) rfl ?_
                  exact ⟨_, _, by first | rfl | (simp [errW_none, errW_some] <;> rfl) | (simp [*, errW_none, errW_some] <;> rfl), by (with_reducible repeat (first | apply Kd.R_alloc | apply Kd.R_drewN | apply Kd.R_drew)); exact Kd.R_mono (Kd.R_far (p := ⟨gb234, 4, none⟩) (Kd.R_far (p := ⟨gb234, 3, none⟩) (Kd.R_far (p := ⟨gb234, 2, none⟩) (Kd.R_far (p := ⟨gb234, 1, none⟩) (Kd.R_far (p := ⟨gb234, 0, none⟩) (Kd.R_types HO_238003.out BK234.out (by decide)) (fun _ hk => hk.2) (.int .i64 a0_0)) (fun _ hk => hk.2) (.int .i64 a0_1)) (fun _ hk => hk.2) (.int .i64 a0_2)) (fun _ hk => hk.2) (.slice Ao43 x238003_2.length co43)) (fun _ hk => hk.2) (.slice Ao44 x238004_3.length co44)) (fun _ hk => trivial), by (with_reducible repeat (first | apply Kd.R_alloc | apply Kd.R_drewN | apply Kd.R_drew)); exact Kd.R_mono (Kd.R_far (p := ⟨gb234, 4, none⟩) (Kd.R_far (p := ⟨gb234, 3, none⟩) (Kd.R_far (p := ⟨gb234, 2, none⟩) (Kd.R_far (p := ⟨gb234, 1, none⟩) (Kd.R_far (p := ⟨gb234, 0, none⟩) (Kd.R_mono HO_238004.out (fun k_ hk => (⟨hk, hk.2.2.1⟩ : _ ∧ k_ ≠ gb234))) (fun _ hk => hk.2) (.int .i64 a0_0)) (fun _ hk => hk.2) (.int .i64 a0_1)) (fun _ hk => hk.2) (.int .i64 a0_2)) (fun _ hk => hk.2) (.slice Ao43 x238003_2.length co43)) (fun _ hk => hk.2) (.slice Ao44 x238004_3.length co44)) (fun _ hk => hk.1.1), by repeat (first | (with_reducible first | exact HB.out | apply below_alloc | apply pw_below_drewN | apply below_drew1 | refine below_set ?_ GE233.out | refine below_set ?_ GE234.out | refine below_set ?_ GE237.out) | exact HB.out)⟩
end Go.Proofs.YtidglmocekghmaaDoor.Pr
end
section
namespace Go.Proofs.YtidglmocekghmaaDoor.Pr
open Go.RowKit Go.Proofs.YtidglmocekghmaaDoorW.PrintWords Go.Proofs.YtidglmocekghmaaDoorW.PrintLast Go.Proofs.YtidglmocekghmaaDoorW.PrintMore
set_option linter.unusedVariables false
set_option linter.unusedSimpArgs false
def keptN {α : Type} (p : α → Bool) (l : List α) : Nat := (l.reverse.dropWhile p).length
theorem keptN_snoc {α : Type} (p : α → Bool) (l : List α) (x : α) : keptN p (l ++ [x]) = if p x then keptN p l else l.length + 1 := by
 unfold keptN
 rw [List.reverse_append]
 simp only [List.reverse_cons, List.reverse_nil, List.nil_append, List.singleton_append, List.dropWhile_cons]
 split <;> simp
theorem keptN_le {α : Type} (p : α → Bool) (l : List α) : keptN p l ≤ l.length := by
 unfold keptN
 have := (List.dropWhile_suffix (p := p) (l := l.reverse)).length_le
 simpa using this
def zeroB (x : Int) : Bool := x == 0
def nullN (x : S37) : Bool := x.f0 == 0
theorem w64 {x : Int} (h0 : -9223372036854775808 ≤ x) (h1 : x ≤ 9223372036854775807) : wrap64 x = x := IntWalk.wrap64_in _ ⟨h0, h1⟩
theorem rd_at (l : List Int) (j : Nat) (h : j < l.length) : rd l (j : Int) = l[j] := by
 unfold rd; simp [List.getD_eq_getElem?_getD, List.getElem?_eq_getElem h]
theorem rdT_at (l : List S37) (j : Nat) (h : j < l.length) : rd_T37 l (j : Int) = l[j] := by
 unfold rd_T37; simp [List.getD_eq_getElem?_getD, List.getElem?_eq_getElem h]
theorem S37.ind {P : S37 → Prop} (h : ∀ a : S37, (∀ x ∈ a.f4, P x) → P a) (a : S37) : P a :=
  S37.rec (motive_1 := P) (motive_2 := fun l => ∀ x ∈ l, P x) (fun k e n d l ih => h ⟨k, e, n, d, l⟩ ih) (fun _ hx => by cases hx) (fun y l hy hl x hx => by
    rcases List.mem_cons.1 hx with rfl | hx
    · exact hy
    · exact hl x hx) a
theorem take_one {α : Type} (l : List α) (j : Nat) (h : j < l.length) : l.take (j + 1) = l.take j ++ [l[j]] := List.take_succ_eq_append_getElem h
inductive AllT (p : S37 → Prop) : S37 → Prop
 | mk {a : S37} (h : p a) (hk : ∀ x ∈ a.f4, AllT p x) : AllT p a
theorem AllT.here {p : S37 → Prop} {a : S37} (h : AllT p a) : p a := by cases h; assumption
theorem AllT.kids {p : S37 → Prop} {a : S37} (h : AllT p a) : ∀ x ∈ a.f4, AllT p x := by cases h; assumption
def okT : S37 → Prop := AllT fun a => ∀ x ∈ a.f3, 0 ≤ x ∧ x ≤ 255
mutual
def tsize : S37 → Nat
 | ⟨_, _, _, d, l⟩ => 1 + d.length + tsizes l
def tsizes : List S37 → Nat
 | [] => 0
 | k :: l => tsize k + tsizes l
end
theorem tsize_eq (a : S37) : tsize a = 1 + a.f3.length + tsizes a.f4 := by cases a; rfl
theorem tsizes_append : ∀ (l m : List S37), tsizes (l ++ m) = tsizes l + tsizes m
 | [], m => by simp [tsizes]
 | k :: l, m => by simp [tsizes, tsizes_append l m]; omega
theorem tsizes_take (l : List S37) (j : Nat) (h : j < l.length) : tsizes (l.take (j + 1)) = tsizes (l.take j) + tsize l[j] := by
 rw [take_one l j h, tsizes_append]; simp [tsizes]
theorem length_tsizes : ∀ l : List S37, l.length ≤ tsizes l
 | [] => by simp
 | k :: l => by
  have := length_tsizes l
  have := tsize_eq k
  simp [tsizes]; omega
theorem tsize_mem {l : List S37} {x : S37} (h : x ∈ l) : tsize x ≤ tsizes l := by
 induction l with
 | nil => cases h
 | cons k l ih =>
  simp only [tsizes]
  rcases List.mem_cons.1 h with rfl | h
  ·omega
  ·have := ih h; omega
theorem tsize_kid {a x : S37} (h : x ∈ a.f4) : tsize x < tsize a := by
 have := tsize_mem h
 have := tsize_eq a
 omega
theorem keptN_parts {α : Type} (p : α → Bool) (l : List α) : ∃ m, l = l.take (keptN p l) ++ m ∧ (∀ x ∈ m, p x = true) ∧ (l.take (keptN p l)).length = keptN p l := by
 have h := List.takeWhile_append_dropWhile (p := p) (l := l.reverse)
 have h2 : l = (l.reverse.dropWhile p).reverse ++ (l.reverse.takeWhile p).reverse := by
  rw [← List.reverse_append, h, List.reverse_reverse]
 have hl : (l.reverse.dropWhile p).reverse.length = keptN p l := by rw [List.length_reverse]; rfl
 have ht : l.take (keptN p l) = (l.reverse.dropWhile p).reverse := by
  have key : ∀ A B : List α, (A ++ B).take A.length = A := fun A B => by simp
  rw [← hl]
  exact (congrArg (List.take (l.reverse.dropWhile p).reverse.length) h2).trans (key _ _)
 refine ⟨(l.reverse.takeWhile p).reverse, by rw [ht]; exact h2, fun x hx => ?_, by rw [ht, hl]⟩
 have := List.mem_reverse.1 hx
 exact List.all_eq_true.1 List.all_takeWhile x this
theorem keptN_all {α : Type} (p : α → Bool) (l m : List α) (h : ∀ x ∈ m, p x = true) : keptN p (l ++ m) = keptN p l := by
 unfold keptN
 rw [List.reverse_append, List.dropWhile_append_of_pos (fun x hx => h x (List.mem_reverse.1 hx))]
theorem keptN_map {α β : Type} (p : β → Bool) (q : α → Bool) (f : α → β) (l : List α) (h : ∀ x ∈ l, p (f x) = q x) : keptN p (l.map f) = keptN q l := by
 obtain ⟨n, hn⟩ : ∃ n, l.length = n := ⟨_, rfl⟩
 induction n generalizing l with
 | zero => obtain rfl := List.eq_nil_of_length_eq_zero hn; rfl
 | succ n ih =>
  have hl : l = l.take n ++ [l[n]'(by omega)] := by rw [← take_one l n (by omega), List.take_of_length_le (by omega)]
  rw [hl, List.map_append]
  simp only [List.map_cons, List.map_nil]
  rw [keptN_snoc, keptN_snoc, h _ (List.getElem_mem (by omega)), ih (l.take n) (fun x hx => h x (List.mem_of_mem_take hx)) (by simp; omega)]
  simp
theorem keptN_last {α : Type} (p : α → Bool) (l : List α) (x : α) (h : p x = false) : keptN p (l ++ [x]) = l.length + 1 := by rw [keptN_snoc, if_neg (by simp [h])]
def twords (d : List Int) : Nat := (keptN zeroB d + 7) / 8
def cutD (a : S37) : List Int := if a.f0 = 1 then a.f3.take (8 * twords a.f3) else a.f3
def cutK (a : S37) : List S37 := if a.f0 = 1 then a.f4.take (keptN nullN a.f4) else a.f4
mutual
def ttrim : S37 → S37
 | ⟨k, e, n, d, l⟩ => ⟨k, e, n, if k = 1 then d.take (8 * twords d) else d, if k = 1 then (ttrims l).take (keptN nullN l) else ttrims l⟩
def ttrims : List S37 → List S37
 | [] => []
 | x :: l => ttrim x :: ttrims l
end
theorem ttrims_eq : ∀ l : List S37, ttrims l = l.map ttrim
 | [] => rfl
 | x :: l => by simp [ttrims, ttrims_eq l]
theorem ttrim_eq (a : S37) : ttrim a = ⟨a.f0, a.f1, a.f2, cutD a, (cutK a).map ttrim⟩ := by
 cases a with
 | mk k e n d l =>
  simp only [ttrim, cutD, cutK, ttrims_eq]
  split <;> simp [List.map_take]
theorem ttrim_f0 (a : S37) : (ttrim a).f0 = a.f0 := by rw [ttrim_eq]
def wordsT : S37 → Prop := AllT fun a => a.f0 = 1 → a.f3.length % 8 = 0
theorem twords_le (d : List Int) (h : d.length % 8 = 0) : 8 * twords d ≤ d.length := by
 have := keptN_le zeroB d
 unfold twords; omega
theorem twords_ge (d : List Int) : keptN zeroB d ≤ 8 * twords d := by unfold twords; omega
theorem rwords_ev (d : List Int) (h : d.length ≤ 1000000000000) : Ev (fun k => capnpref11_Words.f k d) (twords d : Int) := by
 unfold capnpref11_Words.f
 have loop : ∀ n j : Nat, d.length - j = n → j ≤ d.length → Ev (fun k => capnpref11_Words.l0 k d (twords (d.take j) : Int) (j : Int)) (twords d : Int) := by
  intro n
  induction n with
  | zero =>
   intro j hd hj
   refine Ev.step (f := fun _ => some (twords d : Int)) (fun k => ?_) (Ev.now _)
   simp only [capnpref11_Words.l0]
   rw [if_neg (by omega), List.take_of_length_le (by omega)]
  | succ n ih =>
   intro j hd hj
   have hlt : j < d.length := by omega
   have hn := ih (j + 1) (by omega) (by omega)
   have e2 : ((j + 1 : Nat) : Int) = (j : Int) + 1 := by omega
   rw [e2] at hn
   have hk := keptN_snoc zeroB (d.take j) d[j]
   rw [← take_one d j hlt] at hk
   have hjl : (d.take j).length = j := by simp; omega
   by_cases h0 : d[j] = 0
   ·rw [if_pos (by simp [zeroB, h0])] at hk
    have : twords (d.take (j + 1)) = twords (d.take j) := by unfold twords; rw [hk]
    rw [this] at hn
    refine Ev.step (f := fun k => capnpref11_Words.l0 k d (twords (d.take j) : Int) (wrap64 ((j : Int) + 1))) (fun k => ?_) (by rw [w64 (by omega) (by omega)]; exact hn)
    simp only [capnpref11_Words.l0]
    rw [if_pos (by omega), if_pos (by omega), rd_at _ _ hlt, if_pos h0]
   ·rw [if_neg (by simp [zeroB, h0]), hjl] at hk
    have : (twords (d.take (j + 1)) : Int) = (j : Int) / 8 + 1 := by unfold twords; rw [hk]; omega
    rw [this] at hn
    refine Ev.step (f := fun k => capnpref11_Words.l0 k d (wrap64 (wrap64 (Int.tdiv (j : Int) 8) + 1)) (wrap64 ((j : Int) + 1))) (fun k => ?_) ?_
    ·simp only [capnpref11_Words.l0]
     rw [if_pos (by omega), if_pos (by omega), rd_at _ _ hlt, if_neg h0]
    ·rw [Int.tdiv_eq_ediv_of_nonneg (by omega), w64 (x := (j : Int) / 8) (by omega) (by omega), w64 (x := (j : Int) / 8 + 1) (by omega) (by omega), w64 (x := (j : Int) + 1) (by omega) (by omega)]
     exact hn
 have h0 := loop d.length 0 (by omega) (by omega)
 rw [show (twords (d.take 0) : Int) = 0 by rw [List.take_zero]; rfl] at h0
 exact h0
theorem rptrs_ev (l : List S37) (h : l.length ≤ 1000000000000) : Ev (fun k => capnpref11_Pointers.f k l) (keptN nullN l : Int) := by
 unfold capnpref11_Pointers.f
 have loop : ∀ n j : Nat, l.length - j = n → j ≤ l.length → Ev (fun k => capnpref11_Pointers.l0 k l (keptN nullN (l.take j) : Int) (j : Int)) (keptN nullN l : Int) := by
  intro n
  induction n with
  | zero =>
   intro j hd hj
   refine Ev.step (f := fun _ => some (keptN nullN l : Int)) (fun k => ?_) (Ev.now _)
   simp only [capnpref11_Pointers.l0]
   rw [if_neg (by omega), List.take_of_length_le (by omega)]
  | succ n ih =>
   intro j hd hj
   have hlt : j < l.length := by omega
   have hn := ih (j + 1) (by omega) (by omega)
   have e2 : ((j + 1 : Nat) : Int) = (j : Int) + 1 := by omega
   have hk := keptN_snoc nullN (l.take j) l[j]
   rw [← take_one l j hlt] at hk
   have hjl : (l.take j).length = j := by simp; omega
   by_cases h0 : l[j].f0 = 0
   ·rw [if_pos (by simp [nullN, h0])] at hk
    rw [hk, e2] at hn
    refine Ev.step (f := fun k => capnpref11_Pointers.l0 k l (keptN nullN (l.take j) : Int) (wrap64 ((j : Int) + 1))) (fun k => ?_) (by rw [w64 (by omega) (by omega)]; exact hn)
    simp only [capnpref11_Pointers.l0]
    rw [if_pos (by omega), if_pos (by omega), rdT_at _ _ hlt, if_pos h0]
   ·rw [if_neg (by simp [nullN, h0]), hjl] at hk
    rw [hk, e2] at hn
    refine Ev.step (f := fun k => capnpref11_Pointers.l0 k l (wrap64 ((j : Int) + 1)) (wrap64 ((j : Int) + 1))) (fun k => ?_) (by rw [w64 (by omega) (by omega)]; exact hn)
    simp only [capnpref11_Pointers.l0]
    rw [if_pos (by omega), if_pos (by omega), rdT_at _ _ hlt, if_neg h0]
 have h0 := loop l.length 0 (by omega) (by omega)
 rw [show (keptN nullN (l.take 0) : Int) = 0 by rw [List.take_zero]; rfl] at h0
 exact h0
def cellsT (a : S37) : Int × Int × Int × List Int × (List S37) := (a.f0, a.f1, a.f2, a.f3, a.f4)
theorem mkT (a : S37) : (⟨(cellsT a).1, (cellsT a).2.1, (cellsT a).2.2.1, (cellsT a).2.2.2.1, (cellsT a).2.2.2.2⟩ : S37) = a := by cases a; rfl
theorem take_map {α β : Type} (f : α → β) (l : List α) (j : Nat) (h : j < l.length) : (l.take j).map f ++ [f l[j]] = (l.take (j + 1)).map f := by
 rw [take_one l j h, List.map_append]; rfl
theorem rtrim_ev (a : S37) : wordsT a → tsize a ≤ 1000000000000 → Ev (fun k => capnpref11_Trim.f k a.f0 a.f1 a.f2 a.f3 a.f4) (cellsT (ttrim a)) := by
 refine S37.ind (P := fun a => wordsT a → tsize a ≤ 1000000000000 → Ev (fun k => capnpref11_Trim.f k a.f0 a.f1 a.f2 a.f3 a.f4) (cellsT (ttrim a))) (fun a ih hw hs => ?_) a
 have he := tsize_eq a
 have hl := length_tsizes a.f4
 have hm : ∀ x ∈ a.f4, Ev (fun k => capnpref11_Trim.f k x.f0 x.f1 x.f2 x.f3 x.f4) (cellsT (ttrim x)) := fun x hx => ih x hx (AllT.kids hw x hx) (by have := tsize_kid hx; omega)
 have hc : cellsT (ttrim a) = (a.f0, a.f1, a.f2, cutD a, (cutK a).map ttrim) := by unfold cellsT; rw [ttrim_eq]
 have body : ∀ D K : Nat, D ≤ a.f3.length → K ≤ a.f4.length → Ev (fun k => capnpref11_Trim.j0 k (D : Int) (K : Int) a.f0 a.f1 a.f2 a.f3 a.f4) (a.f0, a.f1, a.f2, a.f3.take D, (a.f4.take K).map ttrim) := by
  intro D K hD hK
  have kids : ∀ d j : Nat, K - j = d → j ≤ K → Ev (fun k => capnpref11_Trim.l1 k (K : Int) (j : Int) a.f0 a.f1 a.f2 a.f3 a.f4 a.f0 a.f1 a.f2 (a.f3.take D) ((a.f4.take j).map ttrim)) (a.f0, a.f1, a.f2, a.f3.take D, (a.f4.take K).map ttrim) := by
   intro d
   induction d with
   | zero =>
    intro j hd hj
    obtain rfl : j = K := by omega
    refine Ev.step (f := fun _ => some (a.f0, a.f1, a.f2, a.f3.take D, (a.f4.take j).map ttrim)) (fun k => ?_) (Ev.now _)
    simp only [capnpref11_Trim.l1]
    rw [if_neg (by omega)]
   | succ d ihd =>
    intro j hd hj
    have hlt : j < a.f4.length := by omega
    have hn := ihd (j + 1) (by omega) (by omega)
    rw [← take_map _ _ _ hlt, show ((j + 1 : Nat) : Int) = (j : Int) + 1 by omega] at hn
    refine Ev.step (f := fun k => (capnpref11_Trim.f k a.f4[j].f0 a.f4[j].f1 a.f4[j].f2 a.f4[j].f3 a.f4[j].f4).bind fun bt => if ((a.f4.take j).map ttrim).length < 1954687338268 then capnpref11_Trim.l1 k (K : Int) (wrap64 ((j : Int) + 1)) a.f0 a.f1 a.f2 a.f3 a.f4 a.f0 a.f1 a.f2 (a.f3.take D) ((a.f4.take j).map ttrim ++ [(⟨bt.1, bt.2.1, bt.2.2.1, bt.2.2.2.1, bt.2.2.2.2⟩ : S37)]) else none) (fun k => ?_) ?_
    ·simp only [capnpref11_Trim.l1]
     rw [if_pos (by omega), if_pos (by omega), if_pos (by omega), rdT_at _ _ hlt]
    ·refine Ev.bind (hm _ (List.getElem_mem hlt)) ?_
     rw [w64 (by omega) (by omega)]
     exact Ev.congr (fun k => by rw [if_pos (by simp; omega), mkT]) hn
  have data : ∀ d j : Nat, D - j = d → j ≤ D → Ev (fun k => capnpref11_Trim.l0 k (D : Int) (K : Int) (j : Int) a.f0 a.f1 a.f2 a.f3 a.f4 a.f0 a.f1 a.f2 (a.f3.take j)) (a.f0, a.f1, a.f2, a.f3.take D, (a.f4.take K).map ttrim) := by
   intro d
   induction d with
   | zero =>
    intro j hd hj
    obtain rfl : j = D := by omega
    refine Ev.step (f := fun k => capnpref11_Trim.l1 k (K : Int) 0 a.f0 a.f1 a.f2 a.f3 a.f4 a.f0 a.f1 a.f2 (a.f3.take j) []) (fun k => ?_) (kids K 0 (by omega) (by omega))
    simp only [capnpref11_Trim.l0]
    rw [if_neg (by omega)]
   | succ d ihd =>
    intro j hd hj
    have hlt : j < a.f3.length := by omega
    have hn := ihd (j + 1) (by omega) (by omega)
    rw [take_one _ _ hlt] at hn
    refine Ev.step (f := fun k => capnpref11_Trim.l0 k (D : Int) (K : Int) (wrap64 ((j : Int) + 1)) a.f0 a.f1 a.f2 a.f3 a.f4 a.f0 a.f1 a.f2 (a.f3.take j ++ [a.f3[j]])) (fun k => ?_) (by rw [w64 (by omega) (by omega)]; exact hn)
    simp only [capnpref11_Trim.l0]
    rw [if_pos (by omega), if_pos (by omega), if_pos (by omega), if_pos (by simp; omega), rd_at _ _ hlt]
  refine Ev.step (f := fun k => capnpref11_Trim.l0 k (D : Int) (K : Int) 0 a.f0 a.f1 a.f2 a.f3 a.f4 a.f0 a.f1 a.f2 []) (fun k => by simp only [capnpref11_Trim.j0]) (data D 0 (by omega) (by omega))
 rw [hc]
 by_cases h0 : a.f0 = 1
 ·have hlen := AllT.here hw h0
  have hwl := twords_le a.f3 hlen
  have hkl := keptN_le nullN a.f4
  refine Ev.step (f := fun k => (capnpref11_Words.f k a.f3).bind fun t => (capnpref11_Pointers.f k a.f4).bind fun u => capnpref11_Trim.j0 k (wrap64 (8 * t)) u a.f0 a.f1 a.f2 a.f3 a.f4) (fun k => by simp only [capnpref11_Trim.f]; rw [if_pos h0]) ?_
  refine Ev.bind (rwords_ev _ (by omega)) (Ev.bind (rptrs_ev _ (by omega)) ?_)
  rw [w64 (by omega) (by omega)]
  have := body (8 * twords a.f3) (keptN nullN a.f4) hwl hkl
  have e1 : ((8 * twords a.f3 : Nat) : Int) = 8 * (twords a.f3 : Int) := by omega
  rw [e1] at this
  unfold cutD cutK
  rw [if_pos h0, if_pos h0]
  exact this
 ·refine Ev.step (f := fun k => capnpref11_Trim.j0 k (a.f3.length : Int) (a.f4.length : Int) a.f0 a.f1 a.f2 a.f3 a.f4) (fun k => by simp only [capnpref11_Trim.f]; rw [if_neg h0]) ?_
  have := body a.f3.length a.f4.length (Nat.le_refl _) (Nat.le_refl _)
  unfold cutD cutK
  rw [if_neg h0, if_neg h0]
  rwa [List.take_length, List.take_length] at this
theorem trim_any (a : S37) (hw : wordsT a) (hs : tsize a ≤ 1000000000000) (w : World) {A3 A4 : Option Addr} {c3 c4 : Nat} (h : k37.K w a [.int .i64 a.f0, .int .i64 a.f1, .int .i64 a.f2, .slice A3 a.f3.length c3, .slice A4 a.f4.length c4]) :
  Calls Tryd.prog 29 #[.agg #[.int .i64 a.f0, .int .i64 a.f1, .int .i64 a.f2, .slice A3 a.f3.length c3, .slice A4 a.f4.length c4]] w fun r w' => ∃ v3 v4, r = .returned (.agg #[.int .i64 (ttrim a).f0, .int .i64 (ttrim a).f1, .int .i64 (ttrim a).f2, v3, v4]) ∧ k37.M w' w.heap.size (fun _ => True) (ttrim a) [.int .i64 (ttrim a).f0, .int .i64 (ttrim a).f1, .int .i64 (ttrim a).f2, v3, v4] ∧ Below w.heap.size w w' := by
 obtain ⟨k, hk⟩ := (rtrim_ev a hw hs).rounds
 obtain ⟨B3, d3, B4, d4, e, l3, g3, l4, g4⟩ := k37_open h
 simp only [List.cons.injEq, Value.slice.injEq, true_and, and_true] at e
 obtain ⟨⟨rfl, rfl⟩, rfl, rfl⟩ := e
 refine (capnpref11_Trim.calls k a.f0 a.f1 a.f2 A3 c3 a.f3 A4 c4 a.f4 _ _ _ _ _ w g3 l3 g4 l4 hk).mono ?_
 rintro r w' ⟨v3, v4, rfl, h3, h4, hb⟩
 exact ⟨v3, v4, rfl, k37_mkM w' _ _ (ttrim a) h3 (Kd.R_mono h4 (fun _ _ => trivial)), hb⟩
end Go.Proofs.YtidglmocekghmaaDoor.Pr
end
section
namespace Go.Proofs.YtidglmocekghmaaDoor.Pr
def wordB (b : List Int) : Int := b.getD 0 0 + 256 * b.getD 1 0 + 65536 * b.getD 2 0 + 16777216 * b.getD 3 0 + 4294967296 * b.getD 4 0 + 1099511627776 * b.getD 5 0 + 281474976710656 * b.getD 6 0 + 72057594037927936 * b.getD 7 0
def wordsB : Nat → List Int → List Int
 | 0, _ => []
 | n + 1, b => wordB (b.take 8) :: wordsB n (b.drop 8)
def encS (off d p : Int) : Int := off % 1073741824 * 4 + d * 4294967296 + p * 281474976710656
def encL (off e c : Int) : Int := 1 + off % 1073741824 * 4 + e * 4294967296 + c * 34359738368
def maxD : List S37 → Nat
 | [] => 0
 | x :: l => max (x.f3.length / 8) (maxD l)
def maxP : List S37 → Nat
 | [] => 0
 | x :: l => max x.f4.length (maxP l)
def seg (s : List Int) (i n : Nat) : List Int := (s.drop i).take n
mutual
def lay (s : List Int) : S37 → Nat → Nat → Nat → Prop
 | ⟨k, e, n, b, l⟩, a, nx, r =>
  if k = 0 then wd s a = 0 ∧ r = nx
  else if k = 1 then
   if b.length / 8 + l.length = 0 then wd s a = encS (-1) 0 0 ∧ r = nx
   else wd s a = encS ((nx : Int) - a - 1) (b.length / 8 : Nat) l.length ∧ nx + (b.length / 8 + l.length) ≤ s.length ∧ seg s nx (b.length / 8) = wordsB (b.length / 8) b ∧ lays s l (nx + b.length / 8) (nx + (b.length / 8 + l.length)) r
  else if e = 7 then wd s a = encL ((nx : Int) - a - 1) 7 (l.length * (maxD l + maxP l) : Nat) ∧ nx + 1 + l.length * (maxD l + maxP l) ≤ s.length ∧ wd s nx = encS l.length (maxD l) (maxP l) ∧ layE s (maxD l) (maxP l) l (nx + 1) (nx + 1 + l.length * (maxD l + maxP l)) r
  else if e = 6 then wd s a = encL ((nx : Int) - a - 1) 6 l.length ∧ nx + l.length ≤ s.length ∧ lays s l nx (nx + l.length) r
  else wd s a = encL ((nx : Int) - a - 1) e n ∧ nx + (wordsE e n).toNat ≤ s.length ∧ seg s nx (wordsE e n).toNat = wordsB (wordsE e n).toNat b ∧ r = nx + (wordsE e n).toNat
def lays (s : List Int) : List S37 → Nat → Nat → Nat → Prop
 | [], _, nx, r => r = nx
 | x :: l, a, nx, r => ∃ q, lay s x a nx q ∧ lays s l (a + 1) q r
def layE (s : List Int) (A B : Nat) : List S37 → Nat → Nat → Nat → Prop
 | [], _, nx, r => r = nx
 | ⟨_, _, _, b, l⟩ :: m, at_, nx, r => seg s at_ A = wordsB A b ∧ (∀ j, l.length ≤ j → j < B → wd s (at_ + A + j) = 0) ∧ ∃ q, lays s l (at_ + A) nx q ∧ layE s A B m (at_ + (A + B)) q r
end
theorem seg_wd {s s' : List Int} {i n : Nat} (h : seg s i n = seg s' i n) (j : Nat) (hj : j < n) : wd s (i + j) = wd s' (i + j) := by
 unfold seg at h
 unfold wd
 have h1 := congrArg (fun l : List Int => l[j]?) h
 simp only [List.getElem?_take_of_lt hj, List.getElem?_drop] at h1
 rw [List.getD_eq_getElem?_getD, List.getD_eq_getElem?_getD, h1]
def Eqw (s s' : List Int) (i j : Nat) : Prop := ∀ q, i ≤ q → q < j → wd s q = wd s' q
theorem Eqw.seg {s s' : List Int} {i n : Nat} {l : List Int} (h : Pr.seg s i n = l) (h' : Pr.seg s' i n = l) : Eqw s s' i (i + n) := fun q h1 h2 => by
 have := seg_wd (h.trans h'.symm) (q - i) (by omega)
 rwa [show i + (q - i) = q by omega] at this
theorem maxP_le {l : List S37} {x : S37} (hx : x ∈ l) : x.f4.length ≤ maxP l := by
 induction l with
 | nil => cases hx
 | cons y l ih =>
  unfold maxP
  rcases List.mem_cons.1 hx with rfl | hx
  ·omega
  ·have := ih hx; omega
end Go.Proofs.YtidglmocekghmaaDoor.Pr
end
section
namespace Go.Proofs.YtidglmocekghmaaDoor.Pr
theorem encS_of {w : Int} (h0 : 0 ≤ w) (h1 : w < 18446744073709551616) (hk : kindW w = 0) : w = encS (offW w) (dataW w) (ptrsW w) := by
 unfold encS offW dataW ptrsW
 unfold kindW at hk
 split <;> omega
theorem encL_of {w : Int} (h0 : 0 ≤ w) (h1 : w < 18446744073709551616) (hk : kindW w = 1) : w = encL (offW w) (elemW w) (cntW w) := by
 unfold encL offW elemW cntW
 unfold kindW at hk
 split <;> omega
theorem encS_dec {off d p : Int} (o0 : -536870912 ≤ off) (o1 : off ≤ 536870911) (d0 : 0 ≤ d) (d1 : d ≤ 65535) (p0 : 0 ≤ p) (p1 : p ≤ 65535) : kindW (encS off d p) = 0 ∧ offW (encS off d p) = off ∧ dataW (encS off d p) = d ∧ ptrsW (encS off d p) = p := by
 unfold encS kindW offW dataW ptrsW
 refine ⟨by omega, ?_, by omega, by omega⟩
 split <;> omega
theorem encL_dec {off e c : Int} (o0 : -536870912 ≤ off) (o1 : off ≤ 536870911) (e0 : 0 ≤ e) (e1 : e ≤ 7) (c0 : 0 ≤ c) (c1 : c ≤ 536870911) : kindW (encL off e c) = 1 ∧ offW (encL off e c) = off ∧ elemW (encL off e c) = e ∧ cntW (encL off e c) = c := by
 unfold encL kindW offW elemW cntW
 refine ⟨by omega, ?_, by omega, by omega⟩
 split <;> omega
theorem wordB_bytesW {w : Int} (h0 : 0 ≤ w) (h1 : w < 18446744073709551616) : wordB (bytesW w) = w := by
 unfold wordB bytesW
 simp only [List.getD_cons_zero, List.getD_cons_succ]
 omega
theorem bytesW_len (w : Int) : (bytesW w).length = 8 := rfl
theorem wordsB_bytesL : ∀ (ws : List Int), (∀ x ∈ ws, 0 ≤ x ∧ x < 18446744073709551616) → wordsB ws.length (bytesL ws) = ws
 | [], _ => rfl
 | w :: ws, h => by
  have hw := h w List.mem_cons_self
  rw [List.length_cons, wordsB, bytesL, List.take_left' (bytesW_len w), List.drop_left' (bytesW_len w), wordB_bytesW hw.1 hw.2, wordsB_bytesL ws (fun x hx => h x (List.mem_cons_of_mem _ hx))]
theorem getD_zeros (b : List Int) (k i : Nat) : (b ++ List.replicate k 0).getD i 0 = b.getD i 0 := by
 rw [List.getD_eq_getElem?_getD, List.getD_eq_getElem?_getD]
 by_cases h : i < b.length
 ·rw [List.getElem?_append_left h]
 ·rw [List.getElem?_append_right (by omega), List.getElem?_eq_none (l := b) (by omega), List.getElem?_replicate]
  split <;> rfl
theorem wordB_eq {b c : List Int} (h : ∀ i, b.getD i 0 = c.getD i 0) : wordB b = wordB c := by
 unfold wordB
 rw [h, h, h, h, h, h, h, h]
theorem getD_take8 (b : List Int) (i : Nat) : (b.take 8).getD i 0 = if i < 8 then b.getD i 0 else 0 := by
 rw [List.getD_eq_getElem?_getD, List.getD_eq_getElem?_getD, List.getElem?_take]
 split <;> rfl
theorem getD_drop8 (b : List Int) (i : Nat) : (b.drop 8).getD i 0 = b.getD (8 + i) 0 := by
 rw [List.getD_eq_getElem?_getD, List.getD_eq_getElem?_getD, List.getElem?_drop]
theorem wordsB_eq : ∀ (n : Nat) {b c : List Int}, (∀ i, i < 8 * n → b.getD i 0 = c.getD i 0) → wordsB n b = wordsB n c
  | 0, _, _, _ => rfl
  | n + 1, b, c, h => by
    rw [wordsB, wordsB]
    congr 1
    · exact wordB_eq (fun i => by
        rw [getD_take8, getD_take8]
        split
        · exact h i (by omega)
        · rfl)
    · exact wordsB_eq n (fun i hi => by rw [getD_drop8, getD_drop8]; exact h (8 + i) (by omega))
theorem wordsB_len : ∀ (n : Nat) (b : List Int), (wordsB n b).length = n
 | 0, _ => rfl
 | n + 1, b => by rw [wordsB, List.length_cons, wordsB_len n]
theorem restM_words {s : List Int} {e c : Int} {nx n : Nat} (hok : ∀ x ∈ s, 0 ≤ x ∧ x < 18446744073709551616) (hn : nx + n ≤ s.length) (h : restM s e c nx n = true) : seg s nx n = wordsB n (trimE e c (bytesL (seg s nx n))) := by
 have hl : (seg s nx n).length = n := by unfold seg; rw [List.length_take, List.length_drop]; omega
 have hw := wordsB_bytesL (seg s nx n) (fun x hx => hok x (List.mem_of_mem_drop (List.mem_of_mem_take hx)))
 rw [hl] at hw
 unfold restM at h
 dsimp only at h
 rw [decide_eq_true_eq] at h
 change (trimE e c (bytesL (seg s nx n)) ++ List.replicate (bytesL (seg s nx n)).length 0).take (bytesL (seg s nx n)).length = bytesL (seg s nx n) at h
 generalize trimE e c (bytesL (seg s nx n)) = T at *
 conv => lhs; rw [← hw]
 have hbl : (bytesL (seg s nx n)).length = 8 * n := by rw [bytesL_length, hl]
 refine wordsB_eq n (fun i hi => ?_)
 rw [← getD_zeros T (bytesL (seg s nx n)).length i, ← h]
 rw [List.getD_eq_getElem?_getD, List.getD_eq_getElem?_getD, List.getElem?_take_of_lt (by omega)]
 rw [h]
end Go.Proofs.YtidglmocekghmaaDoor.Pr
end
section
namespace Go.Proofs.YtidglmocekghmaaDoor.Pr
open Go.RowKit Go.Proofs.YtidglmocekghmaaDoorW.PrintWords Go.Proofs.YtidglmocekghmaaDoorW.PrintLast Go.Proofs.YtidglmocekghmaaDoorW.PrintMore
set_option linter.unusedVariables false
set_option linter.unusedSimpArgs false
theorem ret_k {k : IntKind} {a b : Int} (h : a = b) : Ending.returned (.int k a) = .returned (.int k b) := by rw [h]
def p2 (k : Nat) : Int := ((2 ^ k : Nat) : Int)
theorem p2_succ (k : Nat) : p2 (k + 1) = p2 k * 2 := by unfold p2; rw [Nat.pow_succ]; omega
theorem p2_add (a k : Nat) : p2 (a + k) = p2 a * p2 k := by unfold p2; rw [Nat.pow_add]; exact Int.natCast_mul ..
theorem p2_pos (k : Nat) : 0 < p2 k := by unfold p2; have := Nat.two_pow_pos k; omega
theorem p2_le {k m : Nat} (h : k ≤ m) : p2 k ≤ p2 m := by unfold p2; have := Nat.pow_le_pow_right (n := 2) (by omega) h; omega
theorem p2_63 : p2 63 = 9223372036854775808 := rfl
theorem emod_mul2 (x m : Int) (h : 0 < m) : x % (m * 2) = x % m + x / m % 2 * m := by
 have h1 := Int.mul_ediv_add_emod x m
 have h2 := Int.mul_ediv_add_emod (x / m) 2
 have h3 := Int.emod_nonneg x (Int.ne_of_gt h)
 have h4 := Int.emod_lt_of_pos x h
 have h5 := Int.emod_two_eq (x / m)
 have e : x = (x % m + x / m % 2 * m) + (m * 2) * (x / m / 2) := by
  have : m * (x / m) = m * (2 * (x / m / 2) + x / m % 2) := by rw [h2]
  rw [Int.mul_add] at this
  have e2 : m * (2 * (x / m / 2)) = m * 2 * (x / m / 2) := by rw [Int.mul_assoc]
  have e3 : m * (x / m % 2) = x / m % 2 * m := Int.mul_comm _ _
  omega
 conv => lhs; rw [e]
 rw [Int.add_mul_emod_self_left]
 apply Int.emod_eq_of_lt
 ·rcases h5 with h5 | h5 <;> rw [h5] <;> omega
 ·rcases h5 with h5 | h5 <;> rw [h5] <;> omega
def fld (w : Int) (a n : Nat) : Int := w / p2 a % p2 n
theorem fld_succ (w : Int) (a k : Nat) : fld w a (k + 1) = fld w a k + w / p2 (a + k) % 2 * p2 k := by
 unfold fld
 rw [p2_succ, p2_add, ← Int.ediv_ediv_of_nonneg (Int.le_of_lt (p2_pos a))]
 exact emod_mul2 _ _ (p2_pos k)
theorem fld_bd (w : Int) (a n : Nat) : 0 ≤ fld w a n ∧ fld w a n < p2 n := ⟨Int.emod_nonneg _ (Int.ne_of_gt (p2_pos n)), Int.emod_lt_of_pos _ (p2_pos n)⟩
theorem pow_at (n : Nat) (w : World) (hn : n ≤ 63) : Calls Tryd.prog 80 #[.int .i64 n] w fun e w' => e = .returned (.int .u64 (p2 n)) ∧ w' = w := by
 go_enter Tryd.func80, Tryd.ntmps80
 go_wp2
 go_loop [3, 4] (fun v i => ∃ k : Nat, k ≤ n ∧ i = .int .i64 k ∧ v = .int .u64 (p2 k)) (fun _ i => n - (intOf i).toNat)
 case atStart => exact ⟨0, Nat.zero_le _, rfl, rfl⟩
 case round =>
  obtain ⟨k, hk, rfl, rfl⟩ := hrel
  by_cases hlt : k < n
  ·have h1 := p2_pos k
   have h2 := p2_le (k := k + 1) (m := 63) (by omega)
   have h3 := Lib.hid (p2_succ k)
   rw [p2_succ, p2_63] at h2
   go_wp2
   go_round
   case rel => exact ⟨k + 1, by omega, by go_num, by rw [h3.out]⟩
   case measure => simp [intOf]; omega
  ·obtain rfl : k = n := by omega
   go_wp2
   go_ret
   exact ⟨rfl, rfl⟩
theorem pow_i (i : Int) (n : Nat) (w : World) (h : i = n) (hn : n ≤ 63) : Calls Tryd.prog 80 #[.int .i64 i] w fun e w' => e = .returned (.int .u64 (p2 n)) ∧ w' = w := h ▸ pow_at n w hn
set_option maxRecDepth 100000 in
theorem field_at (x : Int) (a n : Nat) (w : World) (h0 : 0 ≤ x) (h1 : x < 18446744073709551616) (hn : a + n ≤ 64) : Calls Tryd.prog 64 #[.int .u64 x, .int .i64 a, .int .i64 n] w fun e w' => e = .returned (.int .u64 (fld x a n)) ∧ w' = w := by
  go_enter Tryd.func64, Tryd.ntmps64
  go_wp2
  go_loop [7, 8] (fun v i => ∃ k : Nat, k ≤ n ∧ i = .int .i64 k ∧ v = .int .u64 (fld x a k)) (fun _ i => n - (intOf i).toNat)
  case atStart => exact ⟨0, Nat.zero_le _, rfl, by simp [fld, p2, Int.emod_one]⟩
  case round =>
    obtain ⟨k, hk, rfl, rfl⟩ := hrel
    by_cases hlt : k < n
    · have hp := p2_pos (a + k)
      have hq := p2_pos k
      have hf := fld_bd x a k
      have hl := p2_le (k := k) (m := 63) (by omega)
      rw [p2_63] at hl
      obtain ⟨hf0, hf1⟩ := hf
      have h3 := Lib.hid (fld_succ x a k)
      have c1 : p2 (a + k) ≠ 0 := Int.ne_of_gt hp
      have d0 : 0 ≤ x / p2 (a + k) := Int.ediv_nonneg h0 (Int.le_of_lt hp)
      by_cases hb : x / p2 (a + k) % 2 = 1
      · have hb1 : (x / p2 (a + k) % 2 == 1) = true := beq_iff_eq.2 hb
        have HB := Lib.hid hb
        clear hb
        go_wp2_with (first | ((with_reducible refine (pow_i _ (a + k) _ (by omega) (by omega)).mono ?_); rintro e w' ⟨rfl, rfl⟩) | ((with_reducible refine (pow_i _ k _ (by omega) (by omega)).mono ?_); rintro e w' ⟨rfl, rfl⟩))
        go_round
        case rel => exact ⟨k + 1, by omega, by go_num, by rw [h3.out, HB.out, Int.one_mul]⟩
        case measure => simp [intOf]; omega
      · have hb1 : (x / p2 (a + k) % 2 == 1) = false := beq_eq_false_iff_ne.2 hb
        have HB : Hid (x / p2 (a + k) % 2 = 0) := Lib.hid (by omega)
        clear hb
        go_wp2_with ((with_reducible refine (pow_i _ (a + k) _ (by omega) (by omega)).mono ?_); rintro e w' ⟨rfl, rfl⟩)
        go_round
        case rel => exact ⟨k + 1, by omega, by go_num, by rw [h3.out, HB.out, Int.zero_mul, Int.add_zero]⟩
        case measure => simp [intOf]; omega
    · obtain rfl : k = n := by omega
      go_wp2
      go_ret
      exact ⟨rfl, rfl⟩
theorem field_i (x i j : Int) (a n : Nat) (w : World) (h0 : 0 ≤ x) (h1 : x < 18446744073709551616) (hi : i = a) (hj : j = n) (hn : a + n ≤ 64) : Calls Tryd.prog 64 #[.int .u64 x, .int .i64 i, .int .i64 j] w fun e w' => e = .returned (.int .u64 (fld x a n)) ∧ w' = w := hi ▸ hj ▸ field_at x a n w h0 h1 hn
theorem signed_at (x : Int) (w : World) (h0 : 0 ≤ x) (h1 : x < 18446744073709551616) : Calls Tryd.prog 63 #[.int .u64 x, .int .i64 2, .int .i64 30] w fun e w' => e = .returned (.int .i64 (offW x)) ∧ w' = w := by
  have e1 : fld x 2 30 = x / 4 % 1073741824 := rfl
  have hb := fld_bd x 2 30
  have H : Hid (offW x = if fld x 2 30 < 536870912 then fld x 2 30 else fld x 2 30 - 1073741824) := Lib.hid (by unfold offW; rw [e1])
  have hp : p2 29 = 536870912 := rfl
  have hq : p2 30 = 1073741824 := rfl
  rw [hq] at hb
  obtain ⟨b0, b1⟩ := hb
  rw [H.out]
  clear hq e1
  have HF := Lib.hid (field_i x 2 30 2 30 w h0 h1 rfl rfl (by omega))
  have HP := Lib.hid hp
  clear hp h0 h1
  generalize fld x 2 30 = f at *
  by_cases hf : f < 536870912
  · rw [if_pos hf]
    go_enter Tryd.func63, Tryd.ntmps63
    go_wp2_with (first | ((with_reducible refine HF.out.mono ?_); rintro e w' ⟨rfl, rfl⟩) | ((with_reducible refine (pow_i _ 29 _ (by omega) (by omega)).mono ?_); rw [HP.out]; rintro e w' ⟨rfl, rfl⟩))
    go_ret
    exact ⟨rfl, rfl⟩
  · rw [if_neg hf]
    go_enter Tryd.func63, Tryd.ntmps63
    go_wp2_with (first | ((with_reducible refine HF.out.mono ?_); rintro e w' ⟨rfl, rfl⟩) | ((with_reducible refine (pow_i _ 29 _ (by omega) (by omega)).mono ?_); rw [HP.out]; rintro e w' ⟨rfl, rfl⟩))
    go_ret
    exact ⟨ret_k (by omega), rfl⟩
end Go.Proofs.YtidglmocekghmaaDoor.Pr
end
section
namespace Go.Proofs.YtidglmocekghmaaDoor.Pr
open Go.RowKit Go.Proofs.YtidglmocekghmaaDoorW.PrintWords Go.Proofs.YtidglmocekghmaaDoorW.PrintLast Go.Proofs.YtidglmocekghmaaDoorW.PrintMore
set_option linter.unusedVariables false
set_option linter.unusedSimpArgs false
abbrev FldIs (w : Int) (i n : Int) (r : Int) : Prop := ∀ W, Calls Tryd.prog 64 #[.int .u64 w, .int .i64 i, .int .i64 n] W fun e w' => e = .returned (.int .u64 r) ∧ w' = W
theorem fldIs {w : Int} (h0 : 0 ≤ w) (h1 : w < 18446744073709551616) (a n : Nat) {r : Int} (hn : a + n ≤ 64) (hr : fld w a n = r) : FldIs w a n r := fun W => hr ▸ field_at w a n W h0 h1 hn
set_option maxRecDepth 100000 in
set_option maxHeartbeats 1000000 in
theorem rdecode_any (w : Int) (W : World) (h0 : 0 ≤ w) (h1 : w < 18446744073709551616) :
    Calls Tryd.prog 35 #[.int .u64 w] W fun e W' => e = .returned (decV w) ∧ Below W.heap.size W W' := by
  have HS := fun W => Lib.hid (signed_at w W h0 h1)
  have S := Sep.start W
  have hb := kindW_bd w
  have hk : w % 4 = kindW w := rfl
  by_cases k0 : kindW w = 0
  · have HR : Hid (aggP 0 (offW w) (dataW w) (ptrsW w) 0 0 false 0 0 0 = decV w) := Lib.hid (by unfold decV; rw [if_pos k0])
    rw [k0] at hk
    have F0 : Hid (FldIs w 32 16 (dataW w)) := Lib.hid (fldIs h0 h1 32 16 (by omega) rfl)
    obtain ⟨b0, c0⟩ := dataW_bd w
    have F1 : Hid (FldIs w 48 16 (ptrsW w)) := Lib.hid (fldIs h0 h1 48 16 (by omega) rfl)
    obtain ⟨b1, c1⟩ := ptrsW_bd w
    clear hb
    go_enter Tryd.func35, Tryd.ntmps35
    go_wp2_with (first | ((with_reducible refine wl ?_); first | refine sn S (fun g w1 S => ?_) | refine ss S (fun w1 S => ?_) | refine sl S ?_ | refine sa S ?_) | ((with_reducible refine (HS _).out.mono ?_); rintro e w' ⟨rfl, rfl⟩) | ((with_reducible refine (F0.out _).mono ?_); rintro e w' ⟨rfl, rfl⟩) | ((with_reducible refine (F1.out _).mono ?_); rintro e w' ⟨rfl, rfl⟩))
    exact rt S ⟨by rw [← HR.out], S.below⟩
  by_cases k1 : kindW w = 1
  · have HR : Hid (aggP 1 (offW w) 0 0 (elemW w) (cntW w) false 0 0 0 = decV w) := Lib.hid (by unfold decV; rw [if_neg k0, if_pos k1])
    rw [k1] at hk
    clear k0
    have F0 : Hid (FldIs w 32 3 (elemW w)) := Lib.hid (fldIs h0 h1 32 3 (by omega) rfl)
    obtain ⟨b0, c0⟩ := elemW_bd w
    have F1 : Hid (FldIs w 35 29 (cntW w)) := Lib.hid (fldIs h0 h1 35 29 (by omega) rfl)
    obtain ⟨b1, c1⟩ := cntW_bd w
    clear hb
    go_enter Tryd.func35, Tryd.ntmps35
    go_wp2_with (first | ((with_reducible refine wl ?_); first | refine sn S (fun g w1 S => ?_) | refine ss S (fun w1 S => ?_) | refine sl S ?_ | refine sa S ?_) | ((with_reducible refine (HS _).out.mono ?_); rintro e w' ⟨rfl, rfl⟩) | ((with_reducible refine (F0.out _).mono ?_); rintro e w' ⟨rfl, rfl⟩) | ((with_reducible refine (F1.out _).mono ?_); rintro e w' ⟨rfl, rfl⟩))
    exact rt S ⟨by rw [← HR.out], S.below⟩
  by_cases k2 : kindW w = 2
  · have HR : Hid (aggP 2 0 0 0 0 0 (w / 4 % 2 == 1) (padW w) (w / 4294967296) 0 = decV w) := Lib.hid (by unfold decV; rw [if_neg k0, if_neg k1, if_pos k2, show segW w = w / 4294967296 by unfold segW; omega]; rfl)
    rw [k2] at hk
    clear k0 k1
    have F0 : Hid (FldIs w 2 1 (w / 4 % 2)) := Lib.hid (fldIs h0 h1 2 1 (by omega) rfl)
    have F1 : Hid (FldIs w 3 29 (padW w)) := Lib.hid (fldIs h0 h1 3 29 (by omega) rfl)
    obtain ⟨b1, c1⟩ := padW_bd w
    clear hb
    go_enter Tryd.func35, Tryd.ntmps35
    go_wp2_with (first | ((with_reducible refine wl ?_); first | refine sn S (fun g w1 S => ?_) | refine ss S (fun w1 S => ?_) | refine sl S ?_ | refine sa S ?_) | ((with_reducible refine (HS _).out.mono ?_); rintro e w' ⟨rfl, rfl⟩) | ((with_reducible refine (F0.out _).mono ?_); rintro e w' ⟨rfl, rfl⟩) | ((with_reducible refine (F1.out _).mono ?_); rintro e w' ⟨rfl, rfl⟩))
    exact rt S ⟨by rw [← HR.out], S.below⟩
  · obtain k3 : kindW w = 3 := by omega
    have HR : Hid (aggP 3 0 0 0 0 0 false 0 (w / 4294967296) (lowW w) = decV w) := Lib.hid (by unfold decV; rw [if_neg k0, if_neg k1, if_neg k2, show segW w = w / 4294967296 by unfold segW; omega])
    rw [k3] at hk
    clear k0 k1 k2
    have F0 : Hid (FldIs w 2 30 (lowW w)) := Lib.hid (fldIs h0 h1 2 30 (by omega) rfl)
    obtain ⟨b0, c0⟩ := lowW_bd w
    clear hb
    go_enter Tryd.func35, Tryd.ntmps35
    go_wp2_with (first | ((with_reducible refine wl ?_); first | refine sn S (fun g w1 S => ?_) | refine ss S (fun w1 S => ?_) | refine sl S ?_ | refine sa S ?_) | ((with_reducible refine (HS _).out.mono ?_); rintro e w' ⟨rfl, rfl⟩) | ((with_reducible refine (F0.out _).mono ?_); rintro e w' ⟨rfl, rfl⟩))
    exact rt S ⟨by rw [← HR.out], S.below⟩
end Go.Proofs.YtidglmocekghmaaDoor.Pr
end
section
namespace Go.Proofs.YtidglmocekghmaaDoor.Pr
open Go.RowKit Go.Proofs.YtidglmocekghmaaDoorW.PrintWords Go.Proofs.YtidglmocekghmaaDoorW.PrintLast Go.Proofs.YtidglmocekghmaaDoorW.PrintMore
set_option linter.unusedVariables false
set_option linter.unusedSimpArgs false
def sgG (G : List (List Int)) (s : Int) : List Int := G.getD s.toNat []
def inG (G : List (List Int)) (s a n : Int) : Bool := decide (0 ≤ s ∧ s < G.length ∧ 0 ≤ a ∧ 0 ≤ n ∧ a + n ≤ (sgG G s).length)
abbrev RdG (w : World) (A : Option Addr) (G : List (List Int)) : Prop := Kd.C (Kd.slice 32 (Kd.int .u64)) w A G.length G
theorem ret_b {a b : Bool} (h : a = b) : Ending.returned (.bool a) = .returned (.bool b) := by rw [h]
theorem inb_any (A : Option Addr) (c : Nat) (G : List (List Int)) (s a n : Int) (w : World) (hr : RdG w A G) (hs : s ≤ 4611686018427387904) (ha : a ≤ 4611686018427387904) (hn : n ≤ 4611686018427387904) (hl : ∀ x ∈ G, x.length ≤ 4611686018427387904) :
  Calls Tryd.prog 66 #[.slice A G.length c, .int .i64 s, .int .i64 a, .int .i64 n] w fun e w' => e = .returned (.bool (inG G s a n)) ∧ w' = w := by
 by_cases hb : 0 ≤ s ∧ s < G.length
 ·obtain ⟨b0, b1⟩ := hb
  obtain ⟨ad, A0, c0, rfl, hc, _, _⟩ := at_L1 hr s b0 b1
  have hlen : (rd_L1 G s).length ≤ 4611686018427387904 := hl _ (by
   unfold rd_L1
   have : s.toNat < G.length := by omega
   rw [List.getD_eq_getElem?_getD, List.getElem?_eq_getElem this]
   exact List.getElem_mem this)
  have HR : Hid (inG G s a n = (decide (0 ≤ a ∧ 0 ≤ n ∧ a + n ≤ (rd_L1 G s).length))) := Lib.hid (by unfold inG sgG rd_L1; simp [b0, b1])
  rw [HR.out]
  generalize (rd_L1 G s).length = m at *
  clear hr hl
  go_enter Tryd.func66, Tryd.ntmps66
  go_wp2
  all_goals (go_ret; exact ⟨ret_b (Bool.eq_iff_iff.2 (by simp; omega)), rfl⟩)
 ·have HR : Hid (inG G s a n = false) := Lib.hid (by unfold inG; simp; omega)
  rw [HR.out]
  go_enter Tryd.func66, Tryd.ntmps66
  go_wp2
  all_goals (go_ret; exact ⟨rfl, rfl⟩)
theorem at_G {A : Option Addr} {G : List (List Int)} {w : World} (hr : RdG w A G) (i : Nat) (h : i < G.length) : ∃ ad A0 c0, A = some ad ∧ w.cell? (ad.add i) = some (.slice A0 (sgG G i).length c0) ∧ (∀ k : Nat, k < (sgG G i).length → ∃ a0, A0 = some a0 ∧ w.cell? (a0.add k) = some (.int .u64 (wd (sgG G i) k))) := by
 obtain ⟨ad, A0, c0, e, hc, _, hC⟩ := at_L1 hr i (by omega) (by omega)
 refine ⟨ad, A0, c0, e, hc, fun k hk => ?_⟩
 obtain ⟨a0, c, e0, _, hK, hcc⟩ := Kd.C_get hC (0 : Int) k (by omega) (Int.ofNat_lt.2 hk)
 obtain rfl : c = [.int .u64 (wd (sgG G i) k)] := hK
 refine ⟨a0, e0, ?_⟩
 have := hcc 0 _ rfl
 simpa [Kd.int, Kd.scalar] using this
def wdG (G : List (List Int)) (s a : Int) : Int := if inG G s a 1 = true then wd (sgG G s) a.toNat else 0
theorem inG_1 {G : List (List Int)} {s a : Int} (h : inG G s a 1 = true) : 0 ≤ s ∧ s < G.length ∧ 0 ≤ a ∧ a < (sgG G s).length := by
 unfold inG at h
 rw [decide_eq_true_eq] at h
 omega
theorem word_any (A : Option Addr) (c : Nat) (G : List (List Int)) (s a : Int) (w : World) (hr : RdG w A G) (hg : G.length ≤ 4611686018427387904) (hl : ∀ x ∈ G, x.length ≤ 4611686018427387904) :
  Calls Tryd.prog 67 #[.slice A G.length c, .int .i64 s, .int .i64 a] w fun e w' => e = .returned (.tuple #[.int .u64 (wdG G s a), .bool (inG G s a 1)]) ∧ w' = w := by
 have HR := Lib.hid hr
 have HL : ∀ i : Nat, i < G.length → (sgG G i).length ≤ 4611686018427387904 := fun i hi => hl _ (by
  unfold sgG
  rw [Int.toNat_natCast, List.getD_eq_getElem?_getD, List.getElem?_eq_getElem hi]
  exact List.getElem_mem hi)
 have HL := Lib.hid HL
 clear hr hl
 go_enter Tryd.func67, Tryd.ntmps67
 go_wp2
 go_loop [8] (fun v => ∃ i : Nat, i ≤ G.length ∧ v = .int .i64 i ∧ Hid (inG G s a 1 = true → (i : Int) ≤ s)) (fun v => G.length - (intOf v).toNat)
 case atStart => exact ⟨0, Nat.zero_le _, rfl, fun h => (inG_1 h).1⟩
 case round =>
  obtain ⟨i, hi, rfl, HI⟩ := hrel
  by_cases hlt : i < G.length
  ·obtain ⟨ad, A0, c0, rfl, hc, hk⟩ := at_G HR.out i hlt
   have HK := Lib.hid hk
   have hln := HL.out i hlt
   obtain ⟨n, hn⟩ : ∃ n, (sgG G i).length = n := ⟨_, rfl⟩
   rw [hn] at hc hln
   have HN := Lib.hid hn
   clear hk hn
   go_wp2
   go_loop [9] (fun v => ∃ k : Nat, k ≤ n ∧ v = .int .i64 k ∧ Hid (inG G s a 1 = true → s = i → (k : Int) ≤ a)) (fun v => n - (intOf v).toNat)
   case atStart => exact ⟨0, Nat.zero_le _, rfl, fun h _ => (inG_1 h).2.2.1⟩
   case round =>
    obtain ⟨k, hk, rfl, HJ⟩ := hrel
    by_cases hkl : k < n
    ·obtain ⟨a0, rfl, hv⟩ := HK.out k (by rw [HN.out]; exact hkl)
     by_cases hs : (i : Int) = s
     ·by_cases ha : (k : Int) = a
      ·subst hs ha
       have hin : inG G i k 1 = true := by
        unfold inG
        rw [decide_eq_true_eq, HN.out]
        omega
       have HV : Hid (wdG G i k = wd (sgG G i) k) := Lib.hid (by unfold wdG; rw [if_pos hin]; rfl)
       have HIN := Lib.hid hin
       clear hin
       go_wp2
       go_ret2
       exact ⟨by rw [HV.out, HIN.out]; rfl, rfl⟩
      ·have ha1 : ((k : Int) == a) = false := beq_eq_false_iff_ne.2 ha
       have hs1 : ((i : Int) == s) = true := beq_iff_eq.2 hs
       have HA := Lib.hid ha
       have HS := Lib.hid hs
       clear ha hs
       go_wp2
       go_round
       case rel => exact ⟨k + 1, by omega, by go_num, fun h e => by have := HJ.out h e; have := HA.out; omega⟩
       case measure => simp [intOf]; omega
     ·have hs1 : ((i : Int) == s) = false := beq_eq_false_iff_ne.2 hs
      have HS := Lib.hid hs
      clear hs
      go_wp2
      go_round
      case rel => exact ⟨k + 1, by omega, by go_num, fun h e => absurd e.symm HS.out⟩
      case measure => simp [intOf]; omega
    ·obtain rfl : k = n := by omega
     go_wp2
     go_round
     case rel => exact ⟨i + 1, by omega, by go_num, fun h => by
      have h1 := HI.out h
      have h2 := HJ.out h
      have h3 := inG_1 h
      by_cases e : s = i
      ·have := h2 e
       rw [e] at h3
       rw [HN.out] at h3
       omega
      ·omega⟩
     case measure => simp [intOf]; omega
  ·obtain rfl : i = G.length := by omega
   have hin : inG G s a 1 = false := by
    cases h : inG G s a 1 with
    | false => rfl
    | true =>
     have h1 := HI.out h
     have h2 := inG_1 h
     omega
   have HV : Hid (wdG G s a = 0) := Lib.hid (by unfold wdG; rw [hin]; rfl)
   have HIN := Lib.hid hin
   clear hin
   go_wp2
   go_ret2
   exact ⟨by rw [HV.out, HIN.out]; rfl, rfl⟩
end Go.Proofs.YtidglmocekghmaaDoor.Pr
end
section
namespace Go.Proofs.YtidglmocekghmaaDoor.Pr
open Go.RowKit Go.Proofs.YtidglmocekghmaaDoorW.PrintWords Go.Proofs.YtidglmocekghmaaDoorW.PrintLast Go.Proofs.YtidglmocekghmaaDoorW.PrintMore
set_option linter.unusedVariables false
set_option linter.unusedSimpArgs false
def cutG (G : List (List Int)) (s a n : Int) : List Int := ((sgG G s).drop a.toNat).take n.toNat
theorem take_next (xs : List Int) (a k : Nat) (h : a + k < xs.length) : (xs.drop a).take (k + 1) = (xs.drop a).take k ++ [wd xs (a + k)] := by
 rw [List.take_succ_eq_append_getElem (by rw [List.length_drop]; omega)]
 simp [wd, List.getD_eq_getElem?_getD, List.getElem?_eq_getElem h]
theorem sg_len {G : List (List Int)} (hl : ∀ x ∈ G, x.length ≤ 17592186040320) (i : Nat) (hi : i < G.length) : (sgG G i).length ≤ 17592186040320 := hl _ (by
  unfold sgG
  rw [Int.toNat_natCast, List.getD_eq_getElem?_getD, List.getElem?_eq_getElem hi]
  exact List.getElem_mem hi)
theorem slice_at (A : Option Addr) (c : Nat) (G : List (List Int)) (s a n : Int) (w : World) (hr : RdG w A G) (hi : inG G s a n = true) (hg : G.length ≤ 4611686018427387904) (hl : ∀ x ∈ G, x.length ≤ 17592186040320) :
  Calls Tryd.prog 54 #[.slice A G.length c, .int .i64 s, .int .i64 a, .int .i64 n] w fun e w' => ∃ v, e = .returned (.tuple #[v, .bool true]) ∧ Kd.R (Kd.int .u64) 32 w' w.heap.size (fun _ => True) v (cutG G s a n) ∧ Below w.heap.size w w' := by
 have hb : 0 ≤ s ∧ s < G.length ∧ 0 ≤ a ∧ 0 ≤ n ∧ a + n ≤ (sgG G s).length := by unfold inG at hi; rw [decide_eq_true_eq] at hi; exact hi
 obtain ⟨s0, s1, a0, n0, hn⟩ := hb
 obtain ⟨i, rfl⟩ := Int.eq_ofNat_of_zero_le s0
 obtain ⟨a, rfl⟩ := Int.eq_ofNat_of_zero_le a0
 obtain ⟨n, rfl⟩ := Int.eq_ofNat_of_zero_le n0
 have hlt : i < G.length := by omega
 have hln := sg_len hl i hlt
 have HIB := Lib.hid (inb_any A c G i a n w hr (by omega) (by omega) (by omega) (fun x hx => Nat.le_trans (hl x hx) (by omega)))
 have HIN := Lib.hid hi
 obtain ⟨ad, A0, c0, rfl, hc, hk⟩ := at_G hr i hlt
 have HC := Lib.hid hc
 have HK := Lib.hid hk
 have HN := Lib.hid hn
 obtain ⟨m, hm⟩ : ∃ m, (sgG G i).length = m := ⟨_, rfl⟩
 rw [hm] at HC hln hn
 have HM := Lib.hid hm
 have S := Lib.hid ((Sep.start w).nil (Kd.int .u64) 32)
 clear hc hk hm hr hi hl
 go_enter Tryd.func54, Tryd.ntmps54
 go_wp2_with ((with_reducible refine HIB.out.mono ?_); rw [HIN.out]; rintro e w' ⟨rfl, rfl⟩)
 go_loopw [10, 11] (fun v k wr => ∃ j : Nat, j ≤ n ∧ k = .int .i64 j ∧ Hid (Sep w' wr [.row (Kd.int .u64) 32 v (((sgG G i).drop a).take j)])) (fun _ k _ => n - (intOf k).toNat)
 case atStart => exact ⟨0, Nat.zero_le _, rfl, S⟩
 case round =>
  clear S
  obtain ⟨j, hj, rfl, S⟩ := hrel
  by_cases hjl : j < n
  ·obtain ⟨a0, rfl, hv⟩ := HK.out (a + j) (by rw [HM.out]; omega)
   have hv := pw_cell_below S.out.below hv
   have hc := pw_cell_below S.out.below HC.out
   have e1 : a + j < m := by omega
   have HT := Lib.hid (take_next (sgG G i) a j (by rw [HM.out]; omega))
   have HL : Hid ((((sgG G i).drop a).take j).length = j) := Lib.hid (by rw [List.length_take, List.length_drop, HM.out]; omega)
   generalize wd (sgG G i) (a + j) = x at *
   have S1 : Sep w' wr [.row (Kd.int .u64) 32 u10 (((sgG G i).drop a).take j), .made (Kd.int .u64) x [.int .u64 x]] := (S.out.one (Value.int .u64) (fun _ => rfl) x).swap
   have S := Lib.hid S1
   clear S1
   go_wp2_with (at_builtin; refine sp_append S.out rfl rfl Tryd.underlying22 info32 rfl (by decide) (by omega) rfl rfl (by rw [HL.out]; omega) (fun v1 w1 S => ?_))
   go_roundw
   case rel => exact ⟨j + 1, by omega, by go_num, Lib.hid (by rw [HT.out]; exact S)⟩
   case measure => simp [intOf]; omega
  ·obtain rfl : j = n := by omega
   go_wp2
   go_ret2
   exact ⟨_, rfl, S.out.outR .here, S.out.below⟩
theorem bytesW_next (x : Int) (q : Nat) (h : q < 8) : (bytesW x).take (q + 1) = (bytesW x).take q ++ [x / p2 (8 * q) % 256] := by
 rcases (by omega : q = 0 ∨ q = 1 ∨ q = 2 ∨ q = 3 ∨ q = 4 ∨ q = 5 ∨ q = 6 ∨ q = 7) with rfl | rfl | rfl | rfl | rfl | rfl | rfl | rfl <;> simp [bytesW, p2]
set_option maxRecDepth 100000 in
theorem rbytes_any (A : Option Addr) (c : Nat) (ws : List Int) (w : World) (hr : Kd.C (Kd.int .u64) w A ws.length ws) (hl : ws.length ≤ 17592186040320) (h0 : ∀ x ∈ ws, 0 ≤ x ∧ x < 18446744073709551616) :
    Calls Tryd.prog 38 #[.slice A ws.length c] w fun e w' => ∃ v, e = .returned v ∧ Kd.R (Kd.int .u8) 5 w' w.heap.size (fun _ => True) v (bytesL ws) ∧ Below w.heap.size w w' := by
  have HK : Hid (∀ k : Nat, k < ws.length → ∃ a0, A = some a0 ∧ w.cell? (a0.add k) = some (.int .u64 (wd ws k))) := Lib.hid (fun k hk => by
    obtain ⟨a0, c, e0, _, hK, hcc⟩ := Kd.C_get hr (0 : Int) k (by omega) (Int.ofNat_lt.2 hk)
    obtain rfl : c = [.int .u64 (wd ws k)] := hK
    refine ⟨a0, e0, ?_⟩
    have := hcc 0 _ rfl
    simpa [Kd.int, Kd.scalar] using this)
  have HB : Hid (∀ k : Nat, k < ws.length → 0 ≤ wd ws k ∧ wd ws k < 18446744073709551616) := Lib.hid (fun k hk => h0 _ (by
    unfold wd
    rw [List.getD_eq_getElem?_getD, List.getElem?_eq_getElem hk]
    exact List.getElem_mem hk))
  have S := Lib.hid ((Sep.start w).nil (Kd.int .u8) 5)
  obtain ⟨n, hn⟩ : ∃ n, ws.length = n := ⟨_, rfl⟩
  have HN := Lib.hid hn
  rw [hn] at hl
  rw [HN.out]
  clear hr h0 hn
  go_enter Tryd.func38, Tryd.ntmps38
  go_wp2
  go_loopw [3, 4] (fun v k wr => ∃ j : Nat, j ≤ n ∧ k = .int .i64 j ∧ Hid (Sep w wr [.row (Kd.int .u8) 5 v (bytesL (ws.take j))])) (fun _ k _ => n - (intOf k).toNat)
  case atStart => exact ⟨0, Nat.zero_le _, rfl, S⟩
  case round =>
    clear S
    obtain ⟨j, hj, rfl, S⟩ := hrel
    by_cases hjl : j < n
    · obtain ⟨a0, rfl, hv⟩ := HK.out j (by rw [HN.out]; exact hjl)
      have hv := pw_cell_below S.out.below hv
      obtain ⟨b0, b1⟩ := HB.out j (by rw [HN.out]; exact hjl)
      have HT : Hid (bytesL (ws.take (j + 1)) = bytesL (ws.take j) ++ bytesW (wd ws j)) := Lib.hid (by
        have hkl : j < ws.length := by rw [HN.out]; exact hjl
        rw [bytesL_take ws j hkl]
        simp [wd, List.getD_eq_getElem?_getD, List.getElem?_eq_getElem hkl])
      have HL : Hid ((bytesL (ws.take j)).length = 8 * j) := Lib.hid (by rw [bytesL_length, List.length_take, HN.out]; omega)
      generalize wd ws j = x at *
      go_wp2
      go_loopw [3, 5, 6] (fun v y k wr => ∃ q : Nat, q ≤ 8 ∧ k = .int .i64 q ∧ y = .int .u64 (x / p2 (8 * q)) ∧ Hid (Sep w wr [.row (Kd.int .u8) 5 v (bytesL (ws.take j) ++ (bytesW x).take q)])) (fun _ _ k _ => 8 - (intOf k).toNat)
      case atStart => exact ⟨0, by omega, rfl, by simp [p2], Lib.hid (by simpa using S.out)⟩
      case round =>
        clear S hv
        obtain ⟨q, hq, rfl, rfl, S⟩ := hrel
        by_cases hql : q < 8
        · have HY := Lib.hid (bytesW_next x q hql)
          have HZ : Hid (x / p2 (8 * (q + 1)) = x / p2 (8 * q) / 256) := Lib.hid (by
            rw [show 8 * (q + 1) = 8 * q + 8 by omega, p2_add, ← Int.ediv_ediv_of_nonneg (Int.le_of_lt (p2_pos _))]; rfl)
          have z0 : 0 ≤ x / p2 (8 * q) := Int.ediv_nonneg b0 (Int.le_of_lt (p2_pos _))
          have z1 : x / p2 (8 * q) < 18446744073709551616 := Int.lt_of_le_of_lt (Int.ediv_le_self _ b0) b1
          have HLL : Hid ((bytesL (ws.take j) ++ (bytesW x).take q).length ≤ 140737488322568) := Lib.hid (by
            rw [List.length_append, HL.out, List.length_take]; simp [bytesW]; omega)
          generalize x / p2 (8 * q) = z at *
          have S1 : Sep w wr [.row (Kd.int .u8) 5 u3 (bytesL (ws.take j) ++ (bytesW x).take q), .made (Kd.int .u8) (z % 256) [.int .u8 (z % 256)]] := (S.out.one (Value.int .u8) (fun _ => rfl) (z % 256)).swap
          have S := Lib.hid S1
          clear S1
          go_wp2_with (at_builtin; refine sp_append S.out rfl rfl Tryd.underlying34 info5 rfl (by decide) (by omega) rfl rfl (by have := HLL.out; omega) (fun v1 w1 S => ?_))
          go_roundw
          case rel => exact ⟨q + 1, by omega, by go_num, by rw [HZ.out], Lib.hid (by rw [HY.out, ← List.append_assoc]; exact S)⟩
          case measure => simp [intOf]; omega
        · obtain rfl : q = 8 := by omega
          go_wp2
          go_roundw
          case rel => exact ⟨j + 1, by omega, by go_num, Lib.hid (by rw [HT.out]; exact S.out)⟩
          case measure => simp [intOf]; omega
    · obtain rfl : j = n := by omega
      go_wp2
      go_ret
      exact ⟨_, rfl, by have := S.out.outR .here; rwa [← HN.out, List.take_length] at this, S.out.below⟩
end Go.Proofs.YtidglmocekghmaaDoor.Pr
end
section
namespace Go.Proofs.YtidglmocekghmaaDoor.Pr
open Go.RowKit Go.Proofs.YtidglmocekghmaaDoorW.PrintWords Go.Proofs.YtidglmocekghmaaDoorW.PrintLast Go.Proofs.YtidglmocekghmaaDoorW.PrintMore
set_option linter.unusedVariables false
set_option linter.unusedSimpArgs false
theorem bits_any (e : Int) (w : World) : Calls Tryd.prog 65 #[.int .i64 e] w fun r w' => r = .returned (.int .i64 (bitsE e)) ∧ w' = w := by
 by_cases h : 1 ≤ e ∧ e ≤ 6
 ·rcases (by omega : e = 1 ∨ e = 2 ∨ e = 3 ∨ e = 4 ∨ e = 5 ∨ e = 6) with rfl | rfl | rfl | rfl | rfl | rfl
  all_goals
   go_enter Tryd.func65, Tryd.ntmps65
   go_wp2
   go_ret
   exact ⟨rfl, rfl⟩
 ·have HR : Hid (bitsE e = 0) := Lib.hid (by unfold bitsE; repeat rw [if_neg (by omega)])
  have h1 : (e == 1) = false := beq_eq_false_iff_ne.2 (by omega)
  have h2 : (e == 2) = false := beq_eq_false_iff_ne.2 (by omega)
  have h3 : (e == 3) = false := beq_eq_false_iff_ne.2 (by omega)
  have h4 : (e == 4) = false := beq_eq_false_iff_ne.2 (by omega)
  have h5 : (e == 5) = false := beq_eq_false_iff_ne.2 (by omega)
  have h6 : (e == 6) = false := beq_eq_false_iff_ne.2 (by omega)
  clear h
  go_enter Tryd.func65, Tryd.ntmps65
  go_wp2
  go_ret
  exact ⟨by rw [HR.out]; rfl, rfl⟩
theorem bitsE_bd (e : Int) : 0 ≤ bitsE e ∧ bitsE e ≤ 64 := by unfold bitsE; repeat' split <;> omega
theorem bitsE_mul (e c : Int) (c0 : 0 ≤ c) (c1 : c ≤ 536870911) : 0 ≤ bitsE e * c ∧ bitsE e * c ≤ 34359738304 := by
 obtain ⟨h0, h1⟩ := bitsE_bd e
 exact ⟨Int.mul_nonneg h0 c0, Int.le_trans (Int.mul_le_mul_of_nonneg_right h1 c0) (by omega)⟩
end Go.Proofs.YtidglmocekghmaaDoor.Pr
end

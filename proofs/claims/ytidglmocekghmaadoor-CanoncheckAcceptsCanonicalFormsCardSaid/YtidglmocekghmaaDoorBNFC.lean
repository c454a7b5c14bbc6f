/- A part of the proof of YtidglmocekghmaaDoorFormsCard (the texts that it stands on, gathered; declarations that nothing uses are left out). -/
import Derived.Test.YtidglmocekghmaaDoorBNFB
import Derived.Below
import Derived.Deep.Draws
import Derived.Deep.AppendLies
import Derived.Maps.AppendAt
import Derived.OwnWalk
import Derived.Laws.BytesArg
import Derived.Laws.MakeOwn
import Derived.Laws.OwnMore
import Derived.Deep.OwnRows
import Derived.Tactics
import Derived.Lib.ConvBytes
import Derived.Laws.Slices
import Derived.WalkKit
import Derived.KernelRfl
import Derived.RowKit3
import Derived.Deep.LoopGhost
import Derived.Deep.QuietTactic
import Derived.BigQuiet
import Derived.WideLaws
import Derived.Deep.DeepCutAuto
import Derived.Deep.CutBlock
import Derived.Deep.RegionHeld3
import Derived.Laws.Rows
import Derived.Lib.AppendStr
import Derived.ArgAppend
import Derived.Laws.IdiomCopy
import Derived.RowKit
import Derived.OrdersHeld
import Derived.Laws.BitsLemmas
import Derived.Laws.StructEq
import Derived.SizedLaws
import Derived.ChangeSlices
import Derived.Test.YtidglmocekghmaaDoorProg
import Derived.Lib.Hide
import Derived.WalkLawsBesides
import Derived.WalkSpells
import Derived.Outline
import Derived.IntWalk
import Derived.Laws.AppendOwn
import Derived.RangeFuncBox
import Derived.Lib.JoinLaws
import Derived.Defers
import Derived.Recover
import Derived.Laws.Pointers
import Derived.Test.YtidglmocekghmaaDoorCards
import Derived.ProofKit
import Derived.LaidMore
import Derived.LaidHandle
import Derived.Maps.Keyed
import Derived.WideKeyElems2
import Derived.Lib.LaidTab
import Derived.OpenShut
import Derived.Lib.SmallJoins
import Derived.Deep.Matrix
set_option linter.unusedVariables false
set_option linter.unusedSimpArgs false
section
namespace Go.Proofs.YtidglmocekghmaaDoor.Pr
open Go.RowKit Go.Proofs.YtidglmocekghmaaDoorW.PrintWords Go.Proofs.YtidglmocekghmaaDoorW.PrintLast Go.Proofs.YtidglmocekghmaaDoorW.PrintMore
set_option linter.unusedVariables false
set_option linter.unusedSimpArgs false
set_option maxHeartbeats 4000000 in
theorem list_z1 {W0 w : World} {s : List Int} {cp g nx m : Nat} {D Wd O : Int} {sb so at_ c n : Nat} {off depth ee : Int} (hE : Env W0 s (some ⟨sb, so, none⟩)) (hK : Ck W0 s (some ⟨sb, so, none⟩) cp D Wd O g nx m w) (ha : at_ ≤ 17592186040320) (ho0 : -536870912 ≤ off) (ho1 : off ≤ 536870911) (hc0 : c ≤ 536870911) (hx : nx ≤ s.length) (hm : m ≤ 4611686018427387904) (hcp : s.length ≤ cp) (he0 : 0 ≤ ee) (he7 : ee ≤ 7) (hn7 : ¬ ee = 7) (hn : wordsE ee c = (n : Int)) (hnb : n ≤ 536870912) (h6 : ¬ ee = 6) (hob : objM s at_ off n nx = true) (hch : n ≤ m) (hn0 : n = 0) (hcz : cp = nx) (hr : restM s ee c nx n = true) :
  Calls Tryd.prog 34 #[.pointer (some ⟨g, 0, none⟩), .int .i64 at_, .int .i64 depth, .agg #[.int .i64 1, .int .i64 off, .int .i64 0, .int .i64 0, .int .i64 ee, .int .i64 c, .bool false, .int .i64 0, .int .u32 0, .int .u32 0]] w fun e w' => (e = .returned (.tuple #[]) ∧ Gr g w w' ∧ Ck W0 s (some ⟨sb, so, none⟩) cp D Wd O g (nx + n) (m - n) w') := by
 have HLEN := Lib.hid hE.len
 have hlen := hE.len
 have hcz2 := hcz.symm
 clear hcz
 subst hcz2
 have t7 : (ee == 7) = false := beq_eq_false_iff_ne.2 hn7
 have HN := Lib.hid hn
 have hTab := hE.tab.below hK.below
 clear hn
 have t6 : (ee == 6) = false := beq_eq_false_iff_ne.2 h6
 have HR := Lib.hid hr
 have HN0 := Lib.hid hn0
 clear hr hn0
 have GK := Lib.hid (Gr.refl g w)
 have CK := Lib.hid hK
 have HE := Lib.hid hE
 clear hE hK
 go_enter Tryd.func34, Tryd.ntmps34
 go_wp2_with fail
 have HTB := Lib.hid hTab
 clear hTab
 have lg : g < w.heap.size := blk_lt CK.out.blk
 refine calls_at (fun wa hW => ?_)
 have hb : Below w.heap.size w wa := by rw [hW]; exact (Below.refl _ _).alloc (Nat.le_refl _) _
 have nB : wa.heap[w.heap.size]? = some (.cells #[.int .i64 1, .int .i64 off, .int .i64 0, .int .i64 0, .int .i64 ee, .int .i64 c, .bool false, .int .i64 0, .int .u32 0, .int .u32 0] 67 (0, 0)) := by rw [hW]; exact heap_alloc_new _ _
 have neB : w.heap.size ≠ g := by omega
 clear hW lg
 replace GK := Lib.hid (GK.out.then hb)
 replace CK := Lib.hid (CK.out.then hb)
 replace HTB := Lib.hid (HTB.out.below hb)
 clear hb
 have B := Lib.hid nB
 clear nB
 refine (Ls.words_any ee c he0 he7 (by omega) (by omega) wa HTB.out).mono ?_
 rintro e wy ⟨rfl, rfl⟩
 rw [show Ls.wordsOf ee (c : Int) = (n : Int) from HN.out]
 have l_B : w.heap.size < wa.heap.size := blk_lt B.out
 have q_B_0 := cq0 ⟨B.out⟩
 have q_B_1 := cq1 ⟨B.out⟩
 have q_B_2 := cq2 ⟨B.out⟩
 have q_B_3 := cq3 ⟨B.out⟩
 have q_B_4 := cq4 ⟨B.out⟩
 have q_B_5 := cq5 ⟨B.out⟩
 have q_B_6 := cq6 ⟨B.out⟩
 have q_B_7 := cq7 ⟨B.out⟩
 have q_B_8 := cq8 ⟨B.out⟩
 have q_B_9 := cq9 ⟨B.out⟩
 go_wp2_with fail
 clear l_B q_B_0 q_B_1 q_B_2 q_B_3 q_B_4 q_B_5 q_B_6 q_B_7 q_B_8 q_B_9
 clear HTB
 refine (object_yes HE.out CK.out ha ⟨ho0, ho1⟩ (by omega) hx hcp hob).mono ?_
 rintro e w1 ⟨rfl, hg, hc⟩
 have gB : Hid (Gr g wa w1) := Lib.hid hg
 replace B := Lib.hid (gB.out.blk B.out neB)
 replace GK := Lib.hid (GK.out.trans gB.out)
 clear gB
 clear CK
 have CK := Lib.hid hc
 clear hg hc
 go_wp2_with fail
 refine (charge_ok HE.out CK.out hch (by omega) (by omega)).mono ?_
 rintro e w2 (⟨q, hq, rfl, hg, hc⟩ | ⟨hq, _⟩)
 rotate_left
 ·cases hq
 cases hq
 have gB : Hid (Gr g w1 w2) := Lib.hid hg
 replace B := Lib.hid (gB.out.blk B.out neB)
 replace GK := Lib.hid (GK.out.trans gB.out)
 clear gB
 clear CK
 have CK := Lib.hid hc
 clear hg hc
 have l_B : w.heap.size < w2.heap.size := blk_lt B.out
 have q_B_0 := cq0 ⟨B.out⟩
 have q_B_1 := cq1 ⟨B.out⟩
 have q_B_2 := cq2 ⟨B.out⟩
 have q_B_3 := cq3 ⟨B.out⟩
 have q_B_4 := cq4 ⟨B.out⟩
 have q_B_5 := cq5 ⟨B.out⟩
 have q_B_6 := cq6 ⟨B.out⟩
 have q_B_7 := cq7 ⟨B.out⟩
 have q_B_8 := cq8 ⟨B.out⟩
 have q_B_9 := cq9 ⟨B.out⟩
 have l_K : g < w2.heap.size := blk_lt CK.out.blk
 have q_K_0 := cq0 ⟨CK.out.blk⟩
 have s0_ : (0 : Int) ≤ (nx : Int) := Int.natCast_nonneg _
 have s1_ : (nx : Int) + (n : Int) ≤ (nx : Int) := by have := (objM_in hob).2; omega
 have s2_ : (0 : Int) ≤ (n : Int) := Int.natCast_nonneg _
 go_wp2_with fail
 clear l_B q_B_0 q_B_1 q_B_2 q_B_3 q_B_4 q_B_5 q_B_6 q_B_7 q_B_8 q_B_9 l_K q_K_0 s0_ s1_ s2_
 obtain ⟨X, hX⟩ : ∃ X, (s.drop nx).take n = X := ⟨_, rfl⟩
 have HX := Lib.hid hX
 obtain ⟨N8, h8⟩ : ∃ N, 8 * 0 = N := ⟨_, rfl⟩
 have H80 := Lib.hid h8
 have H8 : Hid (8 * n = N8) := Lib.hid (by have := HN0.out; omega)
 have hXl : X.length = n := by rw [← hX]; have := (objM_in hob).2; simp; omega
 have HXL := Lib.hid hXl
 have h8b : N8 ≤ 4294967296 := by omega
 have hcw : ∀ j, j < n → w2.cell? ⟨sb, so + j, none⟩ = some (.int .u64 (wd X j)) := fun j hj => by have := HN0.out; omega
 have hbr := bytesL_range X
 refine (wbytes_at sb so 0 _ X w2 (by rw [hXl]; exact HN0.out) (by omega) (fun j => by rw [← hX]; by_cases hj : j < n; rw [wd_take hj]; exact HE.out.word _; rw [show wd ((s.drop nx).take n) j = 0 by unfold wd; rw [List.getD_eq_getElem?_getD, List.getElem?_eq_none (by simp; omega)]; rfl]; omega) (fun j hj => by omega) (fun h0 => by omega)).mono ?_
 rintro e w3 ⟨⟨vb, rfl, hown⟩, hb⟩
 replace GK := Lib.hid (GK.out.then hb)
 replace CK := Lib.hid (CK.out.then hb)
 replace B := Lib.hid (blk_below B.out hb)
 clear hb hcw hXl hX
 rw [H80.out] at hown
 clear h8
 obtain ⟨Ab, cb, rfl, hcb, hAb, hRb, hCb⟩ := own_shape hown hbr
 have HTB := Lib.hid (HE.out.tab.below CK.out.below)
 obtain ⟨k, hk⟩ : ∃ k : Nat, (k : Int) = bytesE ee c := ⟨(bytesE ee c).toNat, by have := (bytesE_bdC he0 (by omega : ee ≤ 5) (by omega : (0 : Int) ≤ (c : Int))).1; omega⟩
 have hk8 : k ≤ N8 := by have h1 := (bytesE_bdC he0 (by omega : ee ≤ 5) (by omega : (0 : Int) ≤ (c : Int))).2; have h2 := HN.out; have h3 := H8.out; omega
 have HKE := Lib.hid hk
 have HRB := Lib.hid hRb
 have HCB := Lib.hid hCb
 have HAB := Lib.hid hAb
 have hcb' : (N8 : Int) ≤ (cb : Int) := by omega
 clear hown hk hRb hCb hAb hcb
 have l_B : w.heap.size < w3.heap.size := blk_lt B.out
 have q_B_0 := cq0 ⟨B.out⟩
 have q_B_1 := cq1 ⟨B.out⟩
 have q_B_2 := cq2 ⟨B.out⟩
 have q_B_3 := cq3 ⟨B.out⟩
 have q_B_4 := cq4 ⟨B.out⟩
 have q_B_5 := cq5 ⟨B.out⟩
 have q_B_6 := cq6 ⟨B.out⟩
 have q_B_7 := cq7 ⟨B.out⟩
 have q_B_8 := cq8 ⟨B.out⟩
 have q_B_9 := cq9 ⟨B.out⟩
 go_wp2_with fail
 clear l_B q_B_0 q_B_1 q_B_2 q_B_3 q_B_4 q_B_5 q_B_6 q_B_7 q_B_8 q_B_9
 refine (Ls.trim_any ee c he0 (by omega) (by omega) (by omega) Ab N8 cb (bytesL X) w3 HTB.out (by omega) HAB.out (by omega) HRB.out k HKE.out hk8).mono ?_
 rintro e w4 ⟨⟨vt, rfl, hown⟩, hb4⟩
 have hRt := R_of_nums hown
 rw [trimE_eq] at hRt
 have HRT := Lib.hid hRt
 have hlt : (trimE ee c (bytesL X)).length = k := by have := hown.1; rw [trimE_eq] at this; simpa [Ls.nums] using this
 have HLT := Lib.hid hlt
 have HB4 := Lib.hid hb4
 clear hown hRt hlt hb4
 go_wp2_with ((with_reducible refine gate_builtin (b := .append) (xs := #[.tmp 56, .tmp 58]) rfl ?_); at_builtin; refine Kd.R_append_zeros (Kd.int .u8) (w0 := w3) w3.heap.size rfl (.tmp 56) (.tmp 58) 34 3 5 (.int .u8 0) 1 rfl Tryd.underlying34 Tryd.underlying3 Ls.Tryd.info5 rfl (by decide) (by omega) vt (trimE ee c (bytesL X)) (0 : Int) (N8 : Int) (fun _ => True) rfl rfl ?aZ (fun _ _ => trivial) ?aO (by omega) ?aB ?aS ?aL ?_; (case aZ => exact rfl); (case aO => exact HRT.out); (case aB => exact HB4.out); (case aS => exact HB4.out.size); (case aL => have := HLT.out; omega); intro v5 w5 ho hb hg hat; have HO5 := Lib.hid ho; have HB5 := Lib.hid hb; clear ho hb hg hat)
 replace GK := Lib.hid (GK.out.then HB5.out)
 replace CK := Lib.hid (CK.out.then HB5.out)
 replace B := Lib.hid (blk_below B.out HB5.out)
 replace HCB := Lib.hid (Kd.C_below HCB.out HB5.out)
 clear HTB HRB HB4 HRT
 obtain ⟨Y, hY⟩ : ∃ Y, (trimE ee c (bytesL X) ++ List.replicate ((N8 : Int)).toNat 0).take N8 = Y := ⟨_, rfl⟩
 have HY := Lib.hid hY
 have hll : (trimE ee c (bytesL X) ++ List.replicate ((N8 : Int)).toNat 0).length = k + N8 := by simp [HLT.out]
 have hYl : Y.length = N8 := by rw [← hY, List.length_take, hll]; omega
 have hYr : ∀ y ∈ Y, 0 ≤ y ∧ y ≤ 255 := by intro y hy; rw [← hY] at hy; have := List.mem_of_mem_take hy; rw [List.mem_append] at this; rcases this with h | h; exact trimE_range hbr y h; rw [List.eq_of_mem_replicate h]; omega
 have hbl : (bytesL X).length = N8 := by rw [bytesL_length, HXL.out]; exact H8.out
 have tE : ((strOfNums Y).toList == (strOfNums (bytesL X)).toList) = true := by rw [str_eq hYr hbr]; have h1 := HR.out; unfold restM at h1; dsimp only at h1; rw [HX.out, hbl] at h1; rw [Int.toNat_natCast] at hY; rw [hY] at h1; simpa using h1
 obtain rfl : N8 = 0 := by have := HN0.out; have := H8.out; omega
 have hYn : Y = [] := by rw [← hY]; rfl
 subst hYn
 clear HAB hY HY
 have HLL := Lib.hid hll
 have HTE := Lib.hid tE
 have HYR := Lib.hid hYr
 have HBB := Lib.hid hbr
 have HBL0 := Lib.hid hbl
 clear hll tE hYr hbr hYl hbl
 rcases R_shape HO5.out with ⟨rfl, h0⟩ | ⟨a5, c5, rfl, h51, h52, hC5⟩ <;> cases Ab
 ·have hCY : (Kd.int .u8).C w5 none 0 [] := Kd.C_nil _ _
  clear h0
  have hd0 := Kd.C_string (P := Tryd.prog) (src := 34) (dst := 9) (e := 5) (c := 0) Tryd.underlying34 Tryd.underlying5 Tryd.underlying9 (Kd.C_below hCY ((Below.refl _ _).drew))
  have hd1 := Kd.C_string (P := Tryd.prog) (src := 34) (dst := 9) (e := 5) (c := cb) Tryd.underlying34 Tryd.underlying5 Tryd.underlying9 (Kd.C_below HCB.out ((Below.refl _ _).drew))
  have tE := HTE.out
  clear hCY HO5
  generalize strOfNums [] = sy at tE hd0
  generalize strOfNums (bytesL X) = sx at tE hd1
  refine start_ (n := 9) (S := fun w' => (convert 34 9 (.slice (none) 0 0)).run Tryd.prog w' = .ok (.string sy) w' ∧ (convert 34 9 (.slice (none) 0 cb)).run Tryd.prog w' = .ok (.string sx) w') (ds := []) #[false, false, false, false, false, false, false, false, false] (by kernel_rfl) rfl rfl ⟨hd0, hd1⟩ (fun hHeld => ?_)
  obtain ⟨w3, hwd⟩ : ∃ W, W = w5.drew := ⟨_, rfl⟩
  rw [← hwd] at hHeld ⊢
  have hb : Below w5.heap.size w5 w3 := by rw [hwd]; exact (Below.refl _ _).drew
  clear hwd
  replace GK := Lib.hid (GK.out.then hb)
  replace CK := Lib.hid (CK.out.then hb)
  replace B := Lib.hid (blk_below B.out hb)
  clear hb
  refine pu 0 60 ?_
  refine pu 1 61 ?_
  refine pu 2 62 ?_
  refine pu 3 63 ?_
  refine pu 5 65 ?_
  refine tk2 4 64 hHeld ?_
  refine tk2 6 66 hHeld ?_
  refine pu 7 67 ?_
  refine one_ (i := 8) (N := some 68) #[true, true, true, true, true, true, true, true, true] rfl rfl (by kernel_rfl) (by decide) (fun K hK => ?_)
  refine goes_ Tryd.func19 (by kernel_rfl) rfl #[.bool true] (by rfl) rfl rfl (by simp only [List.map_toArray, List.map_cons, List.map_nil]; rfl) ?_
  with_reducible refine (must_yes _).mono ?_
  rintro e w3 ⟨rfl, rfl⟩
  refine ⟨_, rfl, ?_⟩
  refine hK.out _ _ ⟨hHeld.1, hHeld.2⟩ (fun hHeld => ?_)
  clear hK K
  refine norm_ (a' := ?_) ?_ ?_
  rotate_left
  ·show Act.put _ (some 68) _ = _
   simp only [Act.put, List.setIfInBounds_toArray, List.set_cons_zero, List.set_cons_succ, i64_w, i32_w]
   rfl
  refine done_ (by kernel_rfl) ?_
  clear hHeld
  first | go_end0 | (go_wp2; go_end0)
  exact ⟨rfl, GK.out, CK.out⟩
 ·rename_i ab
  have hCY : (Kd.int .u8).C w5 none 0 [] := Kd.C_nil _ _
  clear h0
  have hd0 := Kd.C_string (P := Tryd.prog) (src := 34) (dst := 9) (e := 5) (c := 0) Tryd.underlying34 Tryd.underlying5 Tryd.underlying9 (Kd.C_below hCY ((Below.refl _ _).drew))
  have hd1 := Kd.C_string (P := Tryd.prog) (src := 34) (dst := 9) (e := 5) (c := cb) Tryd.underlying34 Tryd.underlying5 Tryd.underlying9 (Kd.C_below HCB.out ((Below.refl _ _).drew))
  have tE := HTE.out
  clear hCY HO5
  generalize strOfNums [] = sy at tE hd0
  generalize strOfNums (bytesL X) = sx at tE hd1
  refine start_ (n := 9) (S := fun w' => (convert 34 9 (.slice (none) 0 0)).run Tryd.prog w' = .ok (.string sy) w' ∧ (convert 34 9 (.slice (some ab) 0 cb)).run Tryd.prog w' = .ok (.string sx) w') (ds := []) #[false, false, false, false, false, false, false, false, false] (by kernel_rfl) rfl rfl ⟨hd0, hd1⟩ (fun hHeld => ?_)
  obtain ⟨w3, hwd⟩ : ∃ W, W = w5.drew := ⟨_, rfl⟩
  rw [← hwd] at hHeld ⊢
  have hb : Below w5.heap.size w5 w3 := by rw [hwd]; exact (Below.refl _ _).drew
  clear hwd
  replace GK := Lib.hid (GK.out.then hb)
  replace CK := Lib.hid (CK.out.then hb)
  replace B := Lib.hid (blk_below B.out hb)
  clear hb
  refine pu 0 60 ?_
  refine pu 1 61 ?_
  refine pu 2 62 ?_
  refine pu 3 63 ?_
  refine pu 5 65 ?_
  refine tk2 4 64 hHeld ?_
  refine tk2 6 66 hHeld ?_
  refine pu 7 67 ?_
  refine one_ (i := 8) (N := some 68) #[true, true, true, true, true, true, true, true, true] rfl rfl (by kernel_rfl) (by decide) (fun K hK => ?_)
  refine goes_ Tryd.func19 (by kernel_rfl) rfl #[.bool true] (by rfl) rfl rfl (by simp only [List.map_toArray, List.map_cons, List.map_nil]; rfl) ?_
  with_reducible refine (must_yes _).mono ?_
  rintro e w3 ⟨rfl, rfl⟩
  refine ⟨_, rfl, ?_⟩
  refine hK.out _ _ ⟨hHeld.1, hHeld.2⟩ (fun hHeld => ?_)
  clear hK K
  refine norm_ (a' := ?_) ?_ ?_
  rotate_left
  ·show Act.put _ (some 68) _ = _
   simp only [Act.put, List.setIfInBounds_toArray, List.set_cons_zero, List.set_cons_succ, i64_w, i32_w]
   rfl
  refine done_ (by kernel_rfl) ?_
  clear hHeld
  first | go_end0 | (go_wp2; go_end0)
  exact ⟨rfl, GK.out, CK.out⟩
 ·have hCY : (Kd.int .u8).C w5 (some a5) 0 [] := by have := Kd.C_take hC5 (Nat.zero_le _); simpa using this
  rw [HLL.out] at h51 ⊢
  clear h52 hC5
  have hd0 := Kd.C_string (P := Tryd.prog) (src := 34) (dst := 9) (e := 5) (c := c5) Tryd.underlying34 Tryd.underlying5 Tryd.underlying9 (Kd.C_below hCY ((Below.refl _ _).drew))
  have hd1 := Kd.C_string (P := Tryd.prog) (src := 34) (dst := 9) (e := 5) (c := cb) Tryd.underlying34 Tryd.underlying5 Tryd.underlying9 (Kd.C_below HCB.out ((Below.refl _ _).drew))
  have tE := HTE.out
  clear hCY HO5
  have n3_ : (0 : Int) ≤ (c5 : Int) := Int.natCast_nonneg _
  clear h51
  generalize strOfNums [] = sy at tE hd0
  generalize strOfNums (bytesL X) = sx at tE hd1
  refine start_ (n := 9) (S := fun w' => (convert 34 9 (.slice (some a5) 0 c5)).run Tryd.prog w' = .ok (.string sy) w' ∧ (convert 34 9 (.slice (none) 0 cb)).run Tryd.prog w' = .ok (.string sx) w') (ds := []) #[false, false, false, false, false, false, false, false, false] (by kernel_rfl) rfl rfl ⟨hd0, hd1⟩ (fun hHeld => ?_)
  obtain ⟨w3, hwd⟩ : ∃ W, W = w5.drew := ⟨_, rfl⟩
  rw [← hwd] at hHeld ⊢
  have hb : Below w5.heap.size w5 w3 := by rw [hwd]; exact (Below.refl _ _).drew
  clear hwd
  replace GK := Lib.hid (GK.out.then hb)
  replace CK := Lib.hid (CK.out.then hb)
  replace B := Lib.hid (blk_below B.out hb)
  clear hb
  refine pu 0 60 ?_
  refine pu 1 61 ?_
  refine pu 2 62 ?_
  refine pu 3 63 ?_
  refine pu 5 65 ?_
  refine tk2 4 64 hHeld ?_
  refine tk2 6 66 hHeld ?_
  refine pu 7 67 ?_
  refine one_ (i := 8) (N := some 68) #[true, true, true, true, true, true, true, true, true] rfl rfl (by kernel_rfl) (by decide) (fun K hK => ?_)
  refine goes_ Tryd.func19 (by kernel_rfl) rfl #[.bool true] (by rfl) rfl rfl (by simp only [List.map_toArray, List.map_cons, List.map_nil]; rfl) ?_
  with_reducible refine (must_yes _).mono ?_
  rintro e w3 ⟨rfl, rfl⟩
  refine ⟨_, rfl, ?_⟩
  refine hK.out _ _ ⟨hHeld.1, hHeld.2⟩ (fun hHeld => ?_)
  clear hK K
  refine norm_ (a' := ?_) ?_ ?_
  rotate_left
  ·show Act.put _ (some 68) _ = _
   simp only [Act.put, List.setIfInBounds_toArray, List.set_cons_zero, List.set_cons_succ, i64_w, i32_w]
   rfl
  refine done_ (by kernel_rfl) ?_
  clear hHeld
  first | go_end0 | (go_wp2; go_end0)
  exact ⟨rfl, GK.out, CK.out⟩
 ·rename_i ab
  have hCY : (Kd.int .u8).C w5 (some a5) 0 [] := by have := Kd.C_take hC5 (Nat.zero_le _); simpa using this
  rw [HLL.out] at h51 ⊢
  clear h52 hC5
  have hd0 := Kd.C_string (P := Tryd.prog) (src := 34) (dst := 9) (e := 5) (c := c5) Tryd.underlying34 Tryd.underlying5 Tryd.underlying9 (Kd.C_below hCY ((Below.refl _ _).drew))
  have hd1 := Kd.C_string (P := Tryd.prog) (src := 34) (dst := 9) (e := 5) (c := cb) Tryd.underlying34 Tryd.underlying5 Tryd.underlying9 (Kd.C_below HCB.out ((Below.refl _ _).drew))
  have tE := HTE.out
  clear hCY HO5
  have n3_ : (0 : Int) ≤ (c5 : Int) := Int.natCast_nonneg _
  clear h51
  generalize strOfNums [] = sy at tE hd0
  generalize strOfNums (bytesL X) = sx at tE hd1
  refine start_ (n := 9) (S := fun w' => (convert 34 9 (.slice (some a5) 0 c5)).run Tryd.prog w' = .ok (.string sy) w' ∧ (convert 34 9 (.slice (some ab) 0 cb)).run Tryd.prog w' = .ok (.string sx) w') (ds := []) #[false, false, false, false, false, false, false, false, false] (by kernel_rfl) rfl rfl ⟨hd0, hd1⟩ (fun hHeld => ?_)
  obtain ⟨w3, hwd⟩ : ∃ W, W = w5.drew := ⟨_, rfl⟩
  rw [← hwd] at hHeld ⊢
  have hb : Below w5.heap.size w5 w3 := by rw [hwd]; exact (Below.refl _ _).drew
  clear hwd
  replace GK := Lib.hid (GK.out.then hb)
  replace CK := Lib.hid (CK.out.then hb)
  replace B := Lib.hid (blk_below B.out hb)
  clear hb
  refine pu 0 60 ?_
  refine pu 1 61 ?_
  refine pu 2 62 ?_
  refine pu 3 63 ?_
  refine pu 5 65 ?_
  refine tk2 4 64 hHeld ?_
  refine tk2 6 66 hHeld ?_
  refine pu 7 67 ?_
  refine one_ (i := 8) (N := some 68) #[true, true, true, true, true, true, true, true, true] rfl rfl (by kernel_rfl) (by decide) (fun K hK => ?_)
  refine goes_ Tryd.func19 (by kernel_rfl) rfl #[.bool true] (by rfl) rfl rfl (by simp only [List.map_toArray, List.map_cons, List.map_nil]; rfl) ?_
  with_reducible refine (must_yes _).mono ?_
  rintro e w3 ⟨rfl, rfl⟩
  refine ⟨_, rfl, ?_⟩
  refine hK.out _ _ ⟨hHeld.1, hHeld.2⟩ (fun hHeld => ?_)
  clear hK K
  refine norm_ (a' := ?_) ?_ ?_
  rotate_left
  ·show Act.put _ (some 68) _ = _
   simp only [Act.put, List.setIfInBounds_toArray, List.set_cons_zero, List.set_cons_succ, i64_w, i32_w]
   rfl
  refine done_ (by kernel_rfl) ?_
  clear hHeld
  first | go_end0 | (go_wp2; go_end0)
  exact ⟨rfl, GK.out, CK.out⟩
set_option maxHeartbeats 4000000 in
theorem list_z2 {W0 w : World} {s : List Int} {cp g nx m : Nat} {D Wd O : Int} {sb so at_ c n : Nat} {off depth ee : Int} (hE : Env W0 s (some ⟨sb, so, none⟩)) (hK : Ck W0 s (some ⟨sb, so, none⟩) cp D Wd O g nx m w) (ha : at_ ≤ 17592186040320) (ho0 : -536870912 ≤ off) (ho1 : off ≤ 536870911) (hc0 : c ≤ 536870911) (hx : nx ≤ s.length) (hm : m ≤ 4611686018427387904) (hcp : s.length ≤ cp) (he0 : 0 ≤ ee) (he7 : ee ≤ 7) (hn7 : ¬ ee = 7) (hn : wordsE ee c = (n : Int)) (hnb : n ≤ 536870912) (h6 : ¬ ee = 6) (hob : objM s at_ off n nx = true) (hch : n ≤ m) (hn0 : n = 0) (hcz : ¬ cp = nx) (hr : restM s ee c nx n = true) :
  Calls Tryd.prog 34 #[.pointer (some ⟨g, 0, none⟩), .int .i64 at_, .int .i64 depth, .agg #[.int .i64 1, .int .i64 off, .int .i64 0, .int .i64 0, .int .i64 ee, .int .i64 c, .bool false, .int .i64 0, .int .u32 0, .int .u32 0]] w fun e w' => (e = .returned (.tuple #[]) ∧ Gr g w w' ∧ Ck W0 s (some ⟨sb, so, none⟩) cp D Wd O g (nx + n) (m - n) w') := by
 have HLEN := Lib.hid hE.len
 have hlen := hE.len
 have t7 : (ee == 7) = false := beq_eq_false_iff_ne.2 hn7
 have HN := Lib.hid hn
 have hTab := hE.tab.below hK.below
 clear hn
 have t6 : (ee == 6) = false := beq_eq_false_iff_ne.2 h6
 have HR := Lib.hid hr
 have HN0 := Lib.hid hn0
 clear hr hn0
 have GK := Lib.hid (Gr.refl g w)
 have CK := Lib.hid hK
 have HE := Lib.hid hE
 clear hE hK
 go_enter Tryd.func34, Tryd.ntmps34
 go_wp2_with fail
 have HTB := Lib.hid hTab
 clear hTab
 have lg : g < w.heap.size := blk_lt CK.out.blk
 refine calls_at (fun wa hW => ?_)
 have hb : Below w.heap.size w wa := by rw [hW]; exact (Below.refl _ _).alloc (Nat.le_refl _) _
 have nB : wa.heap[w.heap.size]? = some (.cells #[.int .i64 1, .int .i64 off, .int .i64 0, .int .i64 0, .int .i64 ee, .int .i64 c, .bool false, .int .i64 0, .int .u32 0, .int .u32 0] 67 (0, 0)) := by rw [hW]; exact heap_alloc_new _ _
 have neB : w.heap.size ≠ g := by omega
 clear hW lg
 replace GK := Lib.hid (GK.out.then hb)
 replace CK := Lib.hid (CK.out.then hb)
 replace HTB := Lib.hid (HTB.out.below hb)
 clear hb
 have B := Lib.hid nB
 clear nB
 refine (Ls.words_any ee c he0 he7 (by omega) (by omega) wa HTB.out).mono ?_
 rintro e wy ⟨rfl, rfl⟩
 rw [show Ls.wordsOf ee (c : Int) = (n : Int) from HN.out]
 have l_B : w.heap.size < wa.heap.size := blk_lt B.out
 have q_B_0 := cq0 ⟨B.out⟩
 have q_B_1 := cq1 ⟨B.out⟩
 have q_B_2 := cq2 ⟨B.out⟩
 have q_B_3 := cq3 ⟨B.out⟩
 have q_B_4 := cq4 ⟨B.out⟩
 have q_B_5 := cq5 ⟨B.out⟩
 have q_B_6 := cq6 ⟨B.out⟩
 have q_B_7 := cq7 ⟨B.out⟩
 have q_B_8 := cq8 ⟨B.out⟩
 have q_B_9 := cq9 ⟨B.out⟩
 go_wp2_with fail
 clear l_B q_B_0 q_B_1 q_B_2 q_B_3 q_B_4 q_B_5 q_B_6 q_B_7 q_B_8 q_B_9
 clear HTB
 refine (object_yes HE.out CK.out ha ⟨ho0, ho1⟩ (by omega) hx hcp hob).mono ?_
 rintro e w1 ⟨rfl, hg, hc⟩
 have gB : Hid (Gr g wa w1) := Lib.hid hg
 replace B := Lib.hid (gB.out.blk B.out neB)
 replace GK := Lib.hid (GK.out.trans gB.out)
 clear gB
 clear CK
 have CK := Lib.hid hc
 clear hg hc
 go_wp2_with fail
 refine (charge_ok HE.out CK.out hch (by omega) (by omega)).mono ?_
 rintro e w2 (⟨q, hq, rfl, hg, hc⟩ | ⟨hq, _⟩)
 rotate_left
 ·cases hq
 cases hq
 have gB : Hid (Gr g w1 w2) := Lib.hid hg
 replace B := Lib.hid (gB.out.blk B.out neB)
 replace GK := Lib.hid (GK.out.trans gB.out)
 clear gB
 clear CK
 have CK := Lib.hid hc
 clear hg hc
 have l_B : w.heap.size < w2.heap.size := blk_lt B.out
 have q_B_0 := cq0 ⟨B.out⟩
 have q_B_1 := cq1 ⟨B.out⟩
 have q_B_2 := cq2 ⟨B.out⟩
 have q_B_3 := cq3 ⟨B.out⟩
 have q_B_4 := cq4 ⟨B.out⟩
 have q_B_5 := cq5 ⟨B.out⟩
 have q_B_6 := cq6 ⟨B.out⟩
 have q_B_7 := cq7 ⟨B.out⟩
 have q_B_8 := cq8 ⟨B.out⟩
 have q_B_9 := cq9 ⟨B.out⟩
 have l_K : g < w2.heap.size := blk_lt CK.out.blk
 have q_K_0 := cq0 ⟨CK.out.blk⟩
 have s0_ : (0 : Int) ≤ (nx : Int) := Int.natCast_nonneg _
 have s1_ : (nx : Int) + (n : Int) ≤ (cp : Int) := by have := (objM_in hob).2; omega
 have s2_ : (0 : Int) ≤ (n : Int) := Int.natCast_nonneg _
 go_wp2_with fail
 clear l_B q_B_0 q_B_1 q_B_2 q_B_3 q_B_4 q_B_5 q_B_6 q_B_7 q_B_8 q_B_9 l_K q_K_0 s0_ s1_ s2_
 obtain ⟨X, hX⟩ : ∃ X, (s.drop nx).take n = X := ⟨_, rfl⟩
 have HX := Lib.hid hX
 obtain ⟨N8, h8⟩ : ∃ N, 8 * n = N := ⟨_, rfl⟩
 have H8 := Lib.hid h8
 have hXl : X.length = n := by rw [← hX]; have := (objM_in hob).2; simp; omega
 have HXL := Lib.hid hXl
 have h8b : N8 ≤ 4294967296 := by omega
 have hcw : ∀ j, j < n → w2.cell? ⟨sb, so + nx + j, none⟩ = some (.int .u64 (wd X j)) := fun j hj => by rw [← hX, wd_take hj, Nat.add_assoc]; exact wd_cell HE.out CK.out.below (by have := (objM_in hob).2; omega)
 have hbr := bytesL_range X
 refine (wbytes_at sb (so + nx) n _ X w2 hXl (by omega) (fun j => by rw [← hX]; by_cases hj : j < n; rw [wd_take hj]; exact HE.out.word _; rw [show wd ((s.drop nx).take n) j = 0 by unfold wd; rw [List.getD_eq_getElem?_getD, List.getElem?_eq_none (by simp; omega)]; rfl]; omega) hcw (fun h0 => World.block_lt_of_cell? _ _ (hcw 0 h0))).mono ?_
 rintro e w3 ⟨⟨vb, rfl, hown⟩, hb⟩
 replace GK := Lib.hid (GK.out.then hb)
 replace CK := Lib.hid (CK.out.then hb)
 replace B := Lib.hid (blk_below B.out hb)
 clear hb hcw hXl hX
 rw [H8.out] at hown
 clear h8
 obtain ⟨Ab, cb, rfl, hcb, hAb, hRb, hCb⟩ := own_shape hown hbr
 have HTB := Lib.hid (HE.out.tab.below CK.out.below)
 obtain ⟨k, hk⟩ : ∃ k : Nat, (k : Int) = bytesE ee c := ⟨(bytesE ee c).toNat, by have := (bytesE_bdC he0 (by omega : ee ≤ 5) (by omega : (0 : Int) ≤ (c : Int))).1; omega⟩
 have hk8 : k ≤ N8 := by have h1 := (bytesE_bdC he0 (by omega : ee ≤ 5) (by omega : (0 : Int) ≤ (c : Int))).2; have h2 := HN.out; have h3 := H8.out; omega
 have HKE := Lib.hid hk
 have HRB := Lib.hid hRb
 have HCB := Lib.hid hCb
 have HAB := Lib.hid hAb
 have hcb' : (N8 : Int) ≤ (cb : Int) := by omega
 clear hown hk hRb hCb hAb hcb
 have l_B : w.heap.size < w3.heap.size := blk_lt B.out
 have q_B_0 := cq0 ⟨B.out⟩
 have q_B_1 := cq1 ⟨B.out⟩
 have q_B_2 := cq2 ⟨B.out⟩
 have q_B_3 := cq3 ⟨B.out⟩
 have q_B_4 := cq4 ⟨B.out⟩
 have q_B_5 := cq5 ⟨B.out⟩
 have q_B_6 := cq6 ⟨B.out⟩
 have q_B_7 := cq7 ⟨B.out⟩
 have q_B_8 := cq8 ⟨B.out⟩
 have q_B_9 := cq9 ⟨B.out⟩
 go_wp2_with fail
 clear l_B q_B_0 q_B_1 q_B_2 q_B_3 q_B_4 q_B_5 q_B_6 q_B_7 q_B_8 q_B_9
 refine (Ls.trim_any ee c he0 (by omega) (by omega) (by omega) Ab N8 cb (bytesL X) w3 HTB.out (by omega) HAB.out (by omega) HRB.out k HKE.out hk8).mono ?_
 rintro e w4 ⟨⟨vt, rfl, hown⟩, hb4⟩
 have hRt := R_of_nums hown
 rw [trimE_eq] at hRt
 have HRT := Lib.hid hRt
 have hlt : (trimE ee c (bytesL X)).length = k := by have := hown.1; rw [trimE_eq] at this; simpa [Ls.nums] using this
 have HLT := Lib.hid hlt
 have HB4 := Lib.hid hb4
 clear hown hRt hlt hb4
 go_wp2_with ((with_reducible refine gate_builtin (b := .append) (xs := #[.tmp 56, .tmp 58]) rfl ?_); at_builtin; refine Kd.R_append_zeros (Kd.int .u8) (w0 := w3) w3.heap.size rfl (.tmp 56) (.tmp 58) 34 3 5 (.int .u8 0) 1 rfl Tryd.underlying34 Tryd.underlying3 Ls.Tryd.info5 rfl (by decide) (by omega) vt (trimE ee c (bytesL X)) (0 : Int) (N8 : Int) (fun _ => True) rfl rfl ?aZ (fun _ _ => trivial) ?aO (by omega) ?aB ?aS ?aL ?_; (case aZ => exact rfl); (case aO => exact HRT.out); (case aB => exact HB4.out); (case aS => exact HB4.out.size); (case aL => have := HLT.out; omega); intro v5 w5 ho hb hg hat; have HO5 := Lib.hid ho; have HB5 := Lib.hid hb; clear ho hb hg hat)
 replace GK := Lib.hid (GK.out.then HB5.out)
 replace CK := Lib.hid (CK.out.then HB5.out)
 replace B := Lib.hid (blk_below B.out HB5.out)
 replace HCB := Lib.hid (Kd.C_below HCB.out HB5.out)
 clear HTB HRB HB4 HRT
 obtain ⟨Y, hY⟩ : ∃ Y, (trimE ee c (bytesL X) ++ List.replicate ((N8 : Int)).toNat 0).take N8 = Y := ⟨_, rfl⟩
 have HY := Lib.hid hY
 have hll : (trimE ee c (bytesL X) ++ List.replicate ((N8 : Int)).toNat 0).length = k + N8 := by simp [HLT.out]
 have hYl : Y.length = N8 := by rw [← hY, List.length_take, hll]; omega
 have hYr : ∀ y ∈ Y, 0 ≤ y ∧ y ≤ 255 := by intro y hy; rw [← hY] at hy; have := List.mem_of_mem_take hy; rw [List.mem_append] at this; rcases this with h | h; exact trimE_range hbr y h; rw [List.eq_of_mem_replicate h]; omega
 have hbl : (bytesL X).length = N8 := by rw [bytesL_length, HXL.out]; exact H8.out
 have tE : ((strOfNums Y).toList == (strOfNums (bytesL X)).toList) = true := by rw [str_eq hYr hbr]; have h1 := HR.out; unfold restM at h1; dsimp only at h1; rw [HX.out, hbl] at h1; rw [Int.toNat_natCast] at hY; rw [hY] at h1; simpa using h1
 obtain rfl : N8 = 0 := by have := HN0.out; have := H8.out; omega
 have hYn : Y = [] := by rw [← hY]; rfl
 subst hYn
 clear HAB hY HY
 have HLL := Lib.hid hll
 have HTE := Lib.hid tE
 have HYR := Lib.hid hYr
 have HBB := Lib.hid hbr
 have HBL0 := Lib.hid hbl
 clear hll tE hYr hbr hYl hbl
 rcases R_shape HO5.out with ⟨rfl, h0⟩ | ⟨a5, c5, rfl, h51, h52, hC5⟩ <;> cases Ab
 ·have hCY : (Kd.int .u8).C w5 none 0 [] := Kd.C_nil _ _
  clear h0
  have hd0 := Kd.C_string (P := Tryd.prog) (src := 34) (dst := 9) (e := 5) (c := 0) Tryd.underlying34 Tryd.underlying5 Tryd.underlying9 (Kd.C_below hCY ((Below.refl _ _).drew))
  have hd1 := Kd.C_string (P := Tryd.prog) (src := 34) (dst := 9) (e := 5) (c := cb) Tryd.underlying34 Tryd.underlying5 Tryd.underlying9 (Kd.C_below HCB.out ((Below.refl _ _).drew))
  have tE := HTE.out
  clear hCY HO5
  generalize strOfNums [] = sy at tE hd0
  generalize strOfNums (bytesL X) = sx at tE hd1
  refine start_ (n := 9) (S := fun w' => (convert 34 9 (.slice (none) 0 0)).run Tryd.prog w' = .ok (.string sy) w' ∧ (convert 34 9 (.slice (none) 0 cb)).run Tryd.prog w' = .ok (.string sx) w') (ds := []) #[false, false, false, false, false, false, false, false, false] (by kernel_rfl) rfl rfl ⟨hd0, hd1⟩ (fun hHeld => ?_)
  obtain ⟨w3, hwd⟩ : ∃ W, W = w5.drew := ⟨_, rfl⟩
  rw [← hwd] at hHeld ⊢
  have hb : Below w5.heap.size w5 w3 := by rw [hwd]; exact (Below.refl _ _).drew
  clear hwd
  replace GK := Lib.hid (GK.out.then hb)
  replace CK := Lib.hid (CK.out.then hb)
  replace B := Lib.hid (blk_below B.out hb)
  clear hb
  refine pu 0 60 ?_
  refine pu 1 61 ?_
  refine pu 2 62 ?_
  refine pu 3 63 ?_
  refine pu 5 65 ?_
  refine tk2 4 64 hHeld ?_
  refine tk2 6 66 hHeld ?_
  refine pu 7 67 ?_
  refine one_ (i := 8) (N := some 68) #[true, true, true, true, true, true, true, true, true] rfl rfl (by kernel_rfl) (by decide) (fun K hK => ?_)
  refine goes_ Tryd.func19 (by kernel_rfl) rfl #[.bool true] (by rfl) rfl rfl (by simp only [List.map_toArray, List.map_cons, List.map_nil]; rfl) ?_
  with_reducible refine (must_yes _).mono ?_
  rintro e w3 ⟨rfl, rfl⟩
  refine ⟨_, rfl, ?_⟩
  refine hK.out _ _ ⟨hHeld.1, hHeld.2⟩ (fun hHeld => ?_)
  clear hK K
  refine norm_ (a' := ?_) ?_ ?_
  rotate_left
  ·show Act.put _ (some 68) _ = _
   simp only [Act.put, List.setIfInBounds_toArray, List.set_cons_zero, List.set_cons_succ, i64_w, i32_w]
   rfl
  refine done_ (by kernel_rfl) ?_
  clear hHeld
  first | go_end0 | (go_wp2; go_end0)
  exact ⟨rfl, GK.out, CK.out⟩
 ·rename_i ab
  have hCY : (Kd.int .u8).C w5 none 0 [] := Kd.C_nil _ _
  clear h0
  have hd0 := Kd.C_string (P := Tryd.prog) (src := 34) (dst := 9) (e := 5) (c := 0) Tryd.underlying34 Tryd.underlying5 Tryd.underlying9 (Kd.C_below hCY ((Below.refl _ _).drew))
  have hd1 := Kd.C_string (P := Tryd.prog) (src := 34) (dst := 9) (e := 5) (c := cb) Tryd.underlying34 Tryd.underlying5 Tryd.underlying9 (Kd.C_below HCB.out ((Below.refl _ _).drew))
  have tE := HTE.out
  clear hCY HO5
  generalize strOfNums [] = sy at tE hd0
  generalize strOfNums (bytesL X) = sx at tE hd1
  refine start_ (n := 9) (S := fun w' => (convert 34 9 (.slice (none) 0 0)).run Tryd.prog w' = .ok (.string sy) w' ∧ (convert 34 9 (.slice (some ab) 0 cb)).run Tryd.prog w' = .ok (.string sx) w') (ds := []) #[false, false, false, false, false, false, false, false, false] (by kernel_rfl) rfl rfl ⟨hd0, hd1⟩ (fun hHeld => ?_)
  obtain ⟨w3, hwd⟩ : ∃ W, W = w5.drew := ⟨_, rfl⟩
  rw [← hwd] at hHeld ⊢
  have hb : Below w5.heap.size w5 w3 := by rw [hwd]; exact (Below.refl _ _).drew
  clear hwd
  replace GK := Lib.hid (GK.out.then hb)
  replace CK := Lib.hid (CK.out.then hb)
  replace B := Lib.hid (blk_below B.out hb)
  clear hb
  refine pu 0 60 ?_
  refine pu 1 61 ?_
  refine pu 2 62 ?_
  refine pu 3 63 ?_
  refine pu 5 65 ?_
  refine tk2 4 64 hHeld ?_
  refine tk2 6 66 hHeld ?_
  refine pu 7 67 ?_
  refine one_ (i := 8) (N := some 68) #[true, true, true, true, true, true, true, true, true] rfl rfl (by kernel_rfl) (by decide) (fun K hK => ?_)
  refine goes_ Tryd.func19 (by kernel_rfl) rfl #[.bool true] (by rfl) rfl rfl (by simp only [List.map_toArray, List.map_cons, List.map_nil]; rfl) ?_
  with_reducible refine (must_yes _).mono ?_
  rintro e w3 ⟨rfl, rfl⟩
  refine ⟨_, rfl, ?_⟩
  refine hK.out _ _ ⟨hHeld.1, hHeld.2⟩ (fun hHeld => ?_)
  clear hK K
  refine norm_ (a' := ?_) ?_ ?_
  rotate_left
  ·show Act.put _ (some 68) _ = _
   simp only [Act.put, List.setIfInBounds_toArray, List.set_cons_zero, List.set_cons_succ, i64_w, i32_w]
   rfl
  refine done_ (by kernel_rfl) ?_
  clear hHeld
  first | go_end0 | (go_wp2; go_end0)
  exact ⟨rfl, GK.out, CK.out⟩
 ·have hCY : (Kd.int .u8).C w5 (some a5) 0 [] := by have := Kd.C_take hC5 (Nat.zero_le _); simpa using this
  rw [HLL.out] at h51 ⊢
  clear h52 hC5
  have hd0 := Kd.C_string (P := Tryd.prog) (src := 34) (dst := 9) (e := 5) (c := c5) Tryd.underlying34 Tryd.underlying5 Tryd.underlying9 (Kd.C_below hCY ((Below.refl _ _).drew))
  have hd1 := Kd.C_string (P := Tryd.prog) (src := 34) (dst := 9) (e := 5) (c := cb) Tryd.underlying34 Tryd.underlying5 Tryd.underlying9 (Kd.C_below HCB.out ((Below.refl _ _).drew))
  have tE := HTE.out
  clear hCY HO5
  have n3_ : (0 : Int) ≤ (c5 : Int) := Int.natCast_nonneg _
  clear h51
  generalize strOfNums [] = sy at tE hd0
  generalize strOfNums (bytesL X) = sx at tE hd1
  refine start_ (n := 9) (S := fun w' => (convert 34 9 (.slice (some a5) 0 c5)).run Tryd.prog w' = .ok (.string sy) w' ∧ (convert 34 9 (.slice (none) 0 cb)).run Tryd.prog w' = .ok (.string sx) w') (ds := []) #[false, false, false, false, false, false, false, false, false] (by kernel_rfl) rfl rfl ⟨hd0, hd1⟩ (fun hHeld => ?_)
  obtain ⟨w3, hwd⟩ : ∃ W, W = w5.drew := ⟨_, rfl⟩
  rw [← hwd] at hHeld ⊢
  have hb : Below w5.heap.size w5 w3 := by rw [hwd]; exact (Below.refl _ _).drew
  clear hwd
  replace GK := Lib.hid (GK.out.then hb)
  replace CK := Lib.hid (CK.out.then hb)
  replace B := Lib.hid (blk_below B.out hb)
  clear hb
  refine pu 0 60 ?_
  refine pu 1 61 ?_
  refine pu 2 62 ?_
  refine pu 3 63 ?_
  refine pu 5 65 ?_
  refine tk2 4 64 hHeld ?_
  refine tk2 6 66 hHeld ?_
  refine pu 7 67 ?_
  refine one_ (i := 8) (N := some 68) #[true, true, true, true, true, true, true, true, true] rfl rfl (by kernel_rfl) (by decide) (fun K hK => ?_)
  refine goes_ Tryd.func19 (by kernel_rfl) rfl #[.bool true] (by rfl) rfl rfl (by simp only [List.map_toArray, List.map_cons, List.map_nil]; rfl) ?_
  with_reducible refine (must_yes _).mono ?_
  rintro e w3 ⟨rfl, rfl⟩
  refine ⟨_, rfl, ?_⟩
  refine hK.out _ _ ⟨hHeld.1, hHeld.2⟩ (fun hHeld => ?_)
  clear hK K
  refine norm_ (a' := ?_) ?_ ?_
  rotate_left
  ·show Act.put _ (some 68) _ = _
   simp only [Act.put, List.setIfInBounds_toArray, List.set_cons_zero, List.set_cons_succ, i64_w, i32_w]
   rfl
  refine done_ (by kernel_rfl) ?_
  clear hHeld
  first | go_end0 | (go_wp2; go_end0)
  exact ⟨rfl, GK.out, CK.out⟩
 ·rename_i ab
  have hCY : (Kd.int .u8).C w5 (some a5) 0 [] := by have := Kd.C_take hC5 (Nat.zero_le _); simpa using this
  rw [HLL.out] at h51 ⊢
  clear h52 hC5
  have hd0 := Kd.C_string (P := Tryd.prog) (src := 34) (dst := 9) (e := 5) (c := c5) Tryd.underlying34 Tryd.underlying5 Tryd.underlying9 (Kd.C_below hCY ((Below.refl _ _).drew))
  have hd1 := Kd.C_string (P := Tryd.prog) (src := 34) (dst := 9) (e := 5) (c := cb) Tryd.underlying34 Tryd.underlying5 Tryd.underlying9 (Kd.C_below HCB.out ((Below.refl _ _).drew))
  have tE := HTE.out
  clear hCY HO5
  have n3_ : (0 : Int) ≤ (c5 : Int) := Int.natCast_nonneg _
  clear h51
  generalize strOfNums [] = sy at tE hd0
  generalize strOfNums (bytesL X) = sx at tE hd1
  refine start_ (n := 9) (S := fun w' => (convert 34 9 (.slice (some a5) 0 c5)).run Tryd.prog w' = .ok (.string sy) w' ∧ (convert 34 9 (.slice (some ab) 0 cb)).run Tryd.prog w' = .ok (.string sx) w') (ds := []) #[false, false, false, false, false, false, false, false, false] (by kernel_rfl) rfl rfl ⟨hd0, hd1⟩ (fun hHeld => ?_)
  obtain ⟨w3, hwd⟩ : ∃ W, W = w5.drew := ⟨_, rfl⟩
  rw [← hwd] at hHeld ⊢
  have hb : Below w5.heap.size w5 w3 := by rw [hwd]; exact (Below.refl _ _).drew
  clear hwd
  replace GK := Lib.hid (GK.out.then hb)
  replace CK := Lib.hid (CK.out.then hb)
  replace B := Lib.hid (blk_below B.out hb)
  clear hb
  refine pu 0 60 ?_
  refine pu 1 61 ?_
  refine pu 2 62 ?_
  refine pu 3 63 ?_
  refine pu 5 65 ?_
  refine tk2 4 64 hHeld ?_
  refine tk2 6 66 hHeld ?_
  refine pu 7 67 ?_
  refine one_ (i := 8) (N := some 68) #[true, true, true, true, true, true, true, true, true] rfl rfl (by kernel_rfl) (by decide) (fun K hK => ?_)
  refine goes_ Tryd.func19 (by kernel_rfl) rfl #[.bool true] (by rfl) rfl rfl (by simp only [List.map_toArray, List.map_cons, List.map_nil]; rfl) ?_
  with_reducible refine (must_yes _).mono ?_
  rintro e w3 ⟨rfl, rfl⟩
  refine ⟨_, rfl, ?_⟩
  refine hK.out _ _ ⟨hHeld.1, hHeld.2⟩ (fun hHeld => ?_)
  clear hK K
  refine norm_ (a' := ?_) ?_ ?_
  rotate_left
  ·show Act.put _ (some 68) _ = _
   simp only [Act.put, List.setIfInBounds_toArray, List.set_cons_zero, List.set_cons_succ, i64_w, i32_w]
   rfl
  refine done_ (by kernel_rfl) ?_
  clear hHeld
  first | go_end0 | (go_wp2; go_end0)
  exact ⟨rfl, GK.out, CK.out⟩
end Go.Proofs.YtidglmocekghmaaDoor.Pr
end
section
namespace Go.Proofs.YtidglmocekghmaaDoor.Pr
open Go.RowKit Go.Proofs.YtidglmocekghmaaDoorW.PrintWords Go.Proofs.YtidglmocekghmaaDoorW.PrintLast Go.Proofs.YtidglmocekghmaaDoorW.PrintMore
set_option linter.unusedVariables false
set_option linter.unusedSimpArgs false
set_option maxHeartbeats 4000000 in
theorem list_7 {W0 w : World} {s : List Int} {cp g nx m : Nat} {D Wd O : Int} {sb so at_ : Nat} {depth : Int} {w0 : Int} (hE : Env W0 s (some ⟨sb, so, none⟩)) (hK : Ck W0 s (some ⟨sb, so, none⟩) cp D Wd O g nx m w) (ha : at_ ≤ 17592186040320) (hx : nx ≤ s.length) (hm : m ≤ 4611686018427387904) (hcp : s.length ≤ cp) {v : Nat → Nat → Nat → Option (Nat × Nat)} (hv : InM s v) (hd0_ : 0 ≤ depth) (hd1_ : depth ≤ 1000000) (hV : VisC W0 s (some ⟨sb, so, none⟩) cp D Wd O g v (depth + 1))  :
  Calls Tryd.prog 34 #[.pointer (some ⟨g, 0, none⟩), .int .i64 at_, .int .i64 depth, .agg #[.int .i64 1, .int .i64 (offW w0), .int .i64 0, .int .i64 0, .int .i64 7, .int .i64 (cntW w0), .bool false, .int .i64 0, .int .u32 0, .int .u32 0]] w fun e w' => EndM W0 s (some ⟨sb, so, none⟩) cp D Wd O g w (compM s v at_ w0 nx m) e w' := by
 have HLEN := Lib.hid hE.len
 have hlen := hE.len
 have HI := Lib.hid hv
 have HV := Lib.hid hV
 clear hv hV
 have GK := Lib.hid (Gr.refl g w)
 have CK := Lib.hid hK
 have HE := Lib.hid hE
 clear hE hK
 go_enter Tryd.func34, Tryd.ntmps34
 go_wp2_with fail
 have lg : g < w.heap.size := blk_lt CK.out.blk
 refine calls_at (fun wa hW => ?_)
 have hb : Below w.heap.size w wa := by rw [hW]; exact (Below.refl _ _).alloc (Nat.le_refl _) _
 have nB : wa.heap[w.heap.size]? = some (.cells #[.int .i64 1, .int .i64 (offW w0), .int .i64 0, .int .i64 0, .int .i64 7, .int .i64 (cntW w0), .bool false, .int .i64 0, .int .u32 0, .int .u32 0] 67 (0, 0)) := by rw [hW]; exact heap_alloc_new _ _
 have neB : w.heap.size ≠ g := by omega
 clear hW lg
 replace GK := Lib.hid (GK.out.then hb)
 replace CK := Lib.hid (CK.out.then hb)
 clear hb
 have B := Lib.hid nB
 clear nB
 have hC := composite_any HE.out CK.out w0 ha hx hm hcp HI.out hd0_ hd1_ HV.out
 unfold aggP at hC
 refine hC.mono ?_
 clear hC
 rintro e w9 (⟨q, hq, rfl, hg, hc⟩ | ⟨hq, rfl, hg⟩)
 ·have hg' := GK.out.trans hg
  have HQ := Lib.hid hq
  clear hq hg
  go_wp2
  refine bodyPost_ret (results_none rfl _ _ _) rfl ?_
  exact .inl ⟨q, HQ.out, rfl, hg', hc⟩
 ·have hg' := GK.out.trans hg
  have HQ := Lib.hid hq
  clear hq hg
  go_wp2
  exact ⟨rfl, .inr ⟨HQ.out, rfl, hg'⟩⟩
theorem list_any {W0 w : World} {s : List Int} {cp g nx m : Nat} {D Wd O : Int} {sb so at_ : Nat} {depth : Int} (hE : Env W0 s (some ⟨sb, so, none⟩)) (hK : Ck W0 s (some ⟨sb, so, none⟩) cp D Wd O g nx m w) (w0 : Int)
  (ha : at_ ≤ 17592186040320) (hx : nx ≤ s.length) (hm : m ≤ 4611686018427387904) (hcp : s.length ≤ cp) {v : Nat → Nat → Nat → Option (Nat × Nat)} (hv : InM s v) (hd0_ : 0 ≤ depth) (hd1_ : depth ≤ 1000000) (hV : VisC W0 s (some ⟨sb, so, none⟩) cp D Wd O g v (depth + 1)) :
  Calls Tryd.prog 34 #[.pointer (some ⟨g, 0, none⟩), .int .i64 at_, .int .i64 depth, aggP 1 (offW w0) 0 0 (elemW w0) (cntW w0) false 0 0 0] w fun e w' => EndM W0 s (some ⟨sb, so, none⟩) cp D Wd O g w (listM s v at_ w0 nx m) e w' := by
 have ho := offW_bd w0
 have hcb := cntW_bd w0
 have heb := elemW_bd w0
 unfold listM aggP
 by_cases h7 : elemW w0 = 7
 ·rw [if_pos h7, h7]
  exact list_7 hE hK ha hx hm hcp hv hd0_ hd1_ hV
 ·rw [if_neg h7]
  obtain ⟨c, hc'⟩ : ∃ c : Nat, cntW w0 = (c : Int) := ⟨(cntW w0).toNat, by omega⟩
  rw [hc'] at hcb ⊢
  generalize offW w0 = off at ho ⊢
  generalize elemW w0 = ee at h7 heb ⊢
  have hwb := wordsE_bdC (c := (c : Int)) heb.1 heb.2 (by omega)
  obtain ⟨n, hn⟩ : ∃ n : Nat, wordsE ee (c : Int) = (n : Int) := ⟨(wordsE ee c).toNat, by omega⟩
  dsimp only
  rw [hn, Int.toNat_natCast]
  have hc0 : c ≤ 536870911 := by omega
  have hnb : n ≤ 536870912 := by omega
  have bad : ∀ {r : Option (Nat × Nat)}, r = none → (Calls Tryd.prog 34 #[.pointer (some ⟨g, 0, none⟩), .int .i64 at_, .int .i64 depth, .agg #[.int .i64 1, .int .i64 off, .int .i64 0, .int .i64 0, .int .i64 ee, .int .i64 c, .bool false, .int .i64 0, .int .u32 0, .int .u32 0]] w fun e w' => e = .panicked [{ v := .iface 47 (.agg #[]), recovered := false }] ∧ Gr g w w') →
    Calls Tryd.prog 34 #[.pointer (some ⟨g, 0, none⟩), .int .i64 at_, .int .i64 depth, .agg #[.int .i64 1, .int .i64 off, .int .i64 0, .int .i64 0, .int .i64 ee, .int .i64 c, .bool false, .int .i64 0, .int .u32 0, .int .u32 0]] w fun e w' => EndM W0 s (some ⟨sb, so, none⟩) cp D Wd O g w r e w' :=
   fun hr h => h.mono fun e w' ⟨a, b⟩ => .inr ⟨hr, a, b⟩
  by_cases hob : objM s at_ off n nx = true
  ·rw [if_pos hob]
   by_cases hch : n ≤ m
   ·rw [if_pos hch]
    by_cases h6 : ee = 6
    ·rw [if_pos h6]
     exact list_3 hE hK ha ho.1 ho.2 hc0 hx hm hcp heb.1 heb.2 h7 hn hnb hv hd0_ hd1_ hV h6 hob hch
    ·rw [if_neg h6]
     by_cases hn0 : n = 0
     ·have hr : restM s ee c nx n = true := by unfold restM; rw [hn0]; simp [bytesL]
      rw [if_pos hr]
      by_cases hcz : cp = nx
      ·exact (list_z1 hE hK ha ho.1 ho.2 hc0 hx hm hcp heb.1 heb.2 h7 hn hnb h6 hob hch hn0 hcz hr).mono fun e w' ⟨a, b, c⟩ => .inl ⟨_, rfl, a, b, c⟩
      ·exact (list_z2 hE hK ha ho.1 ho.2 hc0 hx hm hcp heb.1 heb.2 h7 hn hnb h6 hob hch hn0 hcz hr).mono fun e w' ⟨a, b, c⟩ => .inl ⟨_, rfl, a, b, c⟩
     ·by_cases hr : restM s ee c nx n = true
      ·rw [if_pos hr]
       exact (list_t hE hK ha ho.1 ho.2 hc0 hx hm hcp heb.1 heb.2 h7 hn hnb h6 hob hch (by omega) hr).mono fun e w' ⟨a, b, c⟩ => .inl ⟨_, rfl, a, b, c⟩
      ·rw [if_neg hr]
       exact bad rfl (list_b hE hK ha ho.1 ho.2 hc0 hx hm hcp heb.1 heb.2 h7 hn hnb h6 hob hch (by omega) hr)
   ·rw [if_neg hch]
    exact bad rfl (list_2 hE hK ha ho.1 ho.2 hc0 hx hm hcp heb.1 heb.2 h7 hn hnb hob hch)
  ·rw [if_neg hob]
   exact bad rfl (list_1 hE hK ha ho.1 ho.2 hc0 hx hm hcp heb.1 heb.2 h7 hn hnb hob)
end Go.Proofs.YtidglmocekghmaaDoor.Pr
end
section
namespace Go.Proofs.YtidglmocekghmaaDoor.Pr
open Go.RowKit Go.Proofs.YtidglmocekghmaaDoorW.PrintWords Go.Proofs.YtidglmocekghmaaDoorW.PrintLast Go.Proofs.YtidglmocekghmaaDoorW.PrintMore
set_option linter.unusedVariables false
set_option linter.unusedSimpArgs false
theorem isnull_any (x : Int) (b : Bool) (w : World) (h : (x == 0) = b) : Calls Tryd.prog 30 #[.int .u64 x] w fun e w' => e = .returned (.bool b) ∧ w = w' := by
 go_enter Tryd.func30, Tryd.ntmps30
 go_wp2
 go_ret
 exact ⟨rfl, rfl⟩
theorem enter_any (D Wd O depth r : Int) (w : World) (h : (if D < depth then (7 : Int) else 0) = r) : Calls Tryd.prog 31 #[.agg #[.int .i64 D, .int .i64 Wd, .int .i64 O], .int .i64 depth] w fun e w' => e = .returned (.int .i64 r) ∧ Below w.heap.size w w' := by
 refine budget_Enter.calls D Wd O depth r w ?_
 unfold budget_Enter.f
 rw [← h]
 by_cases h : D < depth
 ·rw [if_pos h, if_pos h]
 ·rw [if_neg h, if_neg h]
set_option maxHeartbeats 4000000 in
theorem visit_0 {W0 w : World} {s : List Int} {cp g nx m : Nat} {D Wd O : Int} {sb so a : Nat} {depth x : Int} (hE : Env W0 s (some ⟨sb, so, none⟩)) (hK : Ck W0 s (some ⟨sb, so, none⟩) cp D Wd O g nx m w) (ha : a < s.length) (hx : nx ≤ s.length) (hm : m ≤ 4611686018427387904) (hcp : s.length ≤ cp) (hwx : wd s a = x) (hz : x = 0) :
  Calls Tryd.prog 21 #[.pointer (some ⟨g, 0, none⟩), .int .i64 a, .int .i64 depth] w fun e w' => (e = .returned (.tuple #[]) ∧ Gr g w w' ∧ Ck W0 s (some ⟨sb, so, none⟩) cp D Wd O g nx m w') := by
 have HLEN := Lib.hid hE.len
 have hlen := hE.len
 have HWX := Lib.hid hwx
 clear hwx
 have HZ := Lib.hid hz
 clear hz
 have GK := Lib.hid (Gr.refl g w)
 have CK := Lib.hid hK
 have HE := Lib.hid hE
 clear hE hK
 go_enter Tryd.func21, Tryd.ntmps21
 have hwc := wd_cell HE.out CK.out.below ha
 rw [HWX.out] at hwc
 have hxr := HE.out.word a
 rw [HWX.out] at hxr
 obtain ⟨hx0, hx1⟩ := hxr
 have a0_ : (0 : Int) ≤ (a : Int) := Int.natCast_nonneg _
 have a1_ : (a : Int) < (s.length : Int) := by omega
 have l_K : g < w.heap.size := blk_lt CK.out.blk
 have q_K_0 : w.cell? ⟨g, 0, none⟩ = some (.slice (some ⟨sb, so, none⟩) s.length cp) := (blk_cell CK.out.blk 0).trans rfl
 go_wp2_with fail
 clear hwc a0_ a1_ l_K q_K_0
 refine (isnull_any x true w (beq_iff_eq.2 HZ.out)).mono ?_
 rintro e wy ⟨rfl, rfl⟩
 go_wp2
 refine bodyPost_ret (results_none rfl _ _ _) rfl ?_
 exact ⟨rfl, GK.out, CK.out⟩
set_option maxHeartbeats 4000000 in
theorem visit_1 {W0 w : World} {s : List Int} {cp g nx m : Nat} {D Wd O : Int} {sb so a : Nat} {depth x : Int} (hE : Env W0 s (some ⟨sb, so, none⟩)) (hK : Ck W0 s (some ⟨sb, so, none⟩) cp D Wd O g nx m w) (ha : a < s.length) (hx : nx ≤ s.length) (hm : m ≤ 4611686018427387904) (hcp : s.length ≤ cp) (hwx : wd s a = x) (hz : ¬ x = 0) (hd : D < depth) :
  Calls Tryd.prog 21 #[.pointer (some ⟨g, 0, none⟩), .int .i64 a, .int .i64 depth] w fun e w' => e = .panicked [{ v := .iface 47 (.agg #[]), recovered := false }] ∧ Gr g w w' := by
 have HLEN := Lib.hid hE.len
 have hlen := hE.len
 have HWX := Lib.hid hwx
 clear hwx
 have HZ := Lib.hid hz
 have HD := Lib.hid hd
 clear hz hd
 have GK := Lib.hid (Gr.refl g w)
 have CK := Lib.hid hK
 have HE := Lib.hid hE
 clear hE hK
 go_enter Tryd.func21, Tryd.ntmps21
 have hwc := wd_cell HE.out CK.out.below ha
 rw [HWX.out] at hwc
 have hxr := HE.out.word a
 rw [HWX.out] at hxr
 obtain ⟨hx0, hx1⟩ := hxr
 have a0_ : (0 : Int) ≤ (a : Int) := Int.natCast_nonneg _
 have a1_ : (a : Int) < (s.length : Int) := by omega
 have l_K : g < w.heap.size := blk_lt CK.out.blk
 have q_K_0 : w.cell? ⟨g, 0, none⟩ = some (.slice (some ⟨sb, so, none⟩) s.length cp) := (blk_cell CK.out.blk 0).trans rfl
 go_wp2_with fail
 clear hwc a0_ a1_ l_K q_K_0
 refine (isnull_any x false w (beq_eq_false_iff_ne.2 HZ.out)).mono ?_
 rintro e wy ⟨rfl, rfl⟩
 have l_K : g < w.heap.size := blk_lt CK.out.blk
 have q_K_2 : w.cell? ⟨g, 2, none⟩ = some (.int .i64 D) := (blk_cell CK.out.blk 2).trans rfl
 have q_K_3 : w.cell? ⟨g, 3, none⟩ = some (.int .i64 Wd) := (blk_cell CK.out.blk 3).trans rfl
 have q_K_4 : w.cell? ⟨g, 4, none⟩ = some (.int .i64 O) := (blk_cell CK.out.blk 4).trans rfl
 go_wp2_with fail
 clear l_K q_K_2 q_K_3 q_K_4
 refine (enter_any D Wd O depth 7 _ (if_pos HD.out)).mono ?_
 rintro e w1 ⟨rfl, hb⟩
 replace GK := Lib.hid (GK.out.then hb)
 replace CK := Lib.hid (CK.out.then hb)
 clear hb
 have t1_ : True := trivial
 go_wp2_with fail
 refine (must_no _).mono ?_
 rintro e wy ⟨rfl, rfl⟩
 go_wp2
 exact ⟨rfl, rfl, GK.out⟩
set_option maxHeartbeats 4000000 in
theorem visit_2 {W0 w : World} {s : List Int} {cp g nx m : Nat} {D Wd O : Int} {sb so a : Nat} {depth x : Int} (hE : Env W0 s (some ⟨sb, so, none⟩)) (hK : Ck W0 s (some ⟨sb, so, none⟩) cp D Wd O g nx m w) (ha : a < s.length) (hx : nx ≤ s.length) (hm : m ≤ 4611686018427387904) (hcp : s.length ≤ cp) (hwx : wd s a = x) {v : Nat → Nat → Nat → Option (Nat × Nat)} (hv : InM s v) (hd0_ : 0 ≤ depth) (hd1_ : depth ≤ 1000000) (hV : VisC W0 s (some ⟨sb, so, none⟩) cp D Wd O g v (depth + 1)) (hz : ¬ x = 0) (hd : ¬ D < depth) (hkd : kindW x = 0) :
  Calls Tryd.prog 21 #[.pointer (some ⟨g, 0, none⟩), .int .i64 a, .int .i64 depth] w fun e w' => EndM W0 s (some ⟨sb, so, none⟩) cp D Wd O g w (structM s v a x nx m) e w' := by
 have HLEN := Lib.hid hE.len
 have hlen := hE.len
 have HWX := Lib.hid hwx
 clear hwx
 have HZ := Lib.hid hz
 have HD := Lib.hid hd
 clear hz hd
 have HI := Lib.hid hv
 have HV := Lib.hid hV
 clear hv hV
 have HKD := Lib.hid hkd
 clear hkd
 have GK := Lib.hid (Gr.refl g w)
 have CK := Lib.hid hK
 have HE := Lib.hid hE
 clear hE hK
 go_enter Tryd.func21, Tryd.ntmps21
 have hwc := wd_cell HE.out CK.out.below ha
 rw [HWX.out] at hwc
 have hxr := HE.out.word a
 rw [HWX.out] at hxr
 obtain ⟨hx0, hx1⟩ := hxr
 have a0_ : (0 : Int) ≤ (a : Int) := Int.natCast_nonneg _
 have a1_ : (a : Int) < (s.length : Int) := by omega
 have l_K : g < w.heap.size := blk_lt CK.out.blk
 have q_K_0 : w.cell? ⟨g, 0, none⟩ = some (.slice (some ⟨sb, so, none⟩) s.length cp) := (blk_cell CK.out.blk 0).trans rfl
 go_wp2_with fail
 clear hwc a0_ a1_ l_K q_K_0
 refine (isnull_any x false w (beq_eq_false_iff_ne.2 HZ.out)).mono ?_
 rintro e wy ⟨rfl, rfl⟩
 have l_K : g < w.heap.size := blk_lt CK.out.blk
 have q_K_2 : w.cell? ⟨g, 2, none⟩ = some (.int .i64 D) := (blk_cell CK.out.blk 2).trans rfl
 have q_K_3 : w.cell? ⟨g, 3, none⟩ = some (.int .i64 Wd) := (blk_cell CK.out.blk 3).trans rfl
 have q_K_4 : w.cell? ⟨g, 4, none⟩ = some (.int .i64 O) := (blk_cell CK.out.blk 4).trans rfl
 go_wp2_with fail
 clear l_K q_K_2 q_K_3 q_K_4
 refine (enter_any D Wd O depth 0 _ (if_neg (by have := HD.out; omega))).mono ?_
 rintro e w1 ⟨rfl, hb⟩
 replace GK := Lib.hid (GK.out.then hb)
 replace CK := Lib.hid (CK.out.then hb)
 clear hb
 have t1_ : True := trivial
 go_wp2_with fail
 refine (must_yes _).mono ?_
 rintro e wy ⟨rfl, rfl⟩
 go_wp2_with fail
 refine (decode_any x w1 hx0 hx1 (HE.out.dec.below CK.out.below)).mono ?_
 rw [show decV x = .agg #[.int .i64 0, .int .i64 (offW x), .int .i64 (dataW x), .int .i64 (ptrsW x), .int .i64 0, .int .i64 0, .bool false, .int .i64 0, .int .u32 0, .int .u32 0] by unfold decV aggP; rw [if_pos HKD.out]]
 rintro e w2 ⟨rfl, hb⟩
 replace GK := Lib.hid (GK.out.then hb)
 replace CK := Lib.hid (CK.out.then hb)
 clear hb
 go_wp2_with fail
 refine calls_at (fun wz hW => ?_)
 have hb : Below w2.heap.size w2 wz := by rw [hW]; exact (Below.refl _ _).alloc (Nat.le_refl _) _
 clear hW
 replace GK := Lib.hid (GK.out.then hb)
 replace CK := Lib.hid (CK.out.then hb)
 clear hb
 have hC := structure_any (at_ := a) HE.out CK.out x (by have := HLEN.out; omega) hx hm hcp HI.out hd0_ hd1_ HV.out
 unfold aggP at hC
 refine hC.mono ?_
 clear hC
 rintro e w9 (⟨q, hq, rfl, hg, hc⟩ | ⟨hq, rfl, hg⟩)
 ·have hg' := GK.out.trans hg
  have HQ := Lib.hid hq
  clear hq hg
  go_wp2
  first | go_end0 | refine bodyPost_ret (results_none rfl _ _ _) rfl ?_
  exact .inl ⟨q, HQ.out, rfl, hg', hc⟩
 ·have hg' := GK.out.trans hg
  have HQ := Lib.hid hq
  clear hq hg
  go_wp2
  exact ⟨rfl, .inr ⟨HQ.out, rfl, hg'⟩⟩
set_option maxHeartbeats 4000000 in
theorem visit_3 {W0 w : World} {s : List Int} {cp g nx m : Nat} {D Wd O : Int} {sb so a : Nat} {depth x : Int} (hE : Env W0 s (some ⟨sb, so, none⟩)) (hK : Ck W0 s (some ⟨sb, so, none⟩) cp D Wd O g nx m w) (ha : a < s.length) (hx : nx ≤ s.length) (hm : m ≤ 4611686018427387904) (hcp : s.length ≤ cp) (hwx : wd s a = x) {v : Nat → Nat → Nat → Option (Nat × Nat)} (hv : InM s v) (hd0_ : 0 ≤ depth) (hd1_ : depth ≤ 1000000) (hV : VisC W0 s (some ⟨sb, so, none⟩) cp D Wd O g v (depth + 1)) (hz : ¬ x = 0) (hd : ¬ D < depth) (hkd : kindW x = 1) :
  Calls Tryd.prog 21 #[.pointer (some ⟨g, 0, none⟩), .int .i64 a, .int .i64 depth] w fun e w' => EndM W0 s (some ⟨sb, so, none⟩) cp D Wd O g w (listM s v a x nx m) e w' := by
 have HLEN := Lib.hid hE.len
 have hlen := hE.len
 have HWX := Lib.hid hwx
 clear hwx
 have HZ := Lib.hid hz
 have HD := Lib.hid hd
 clear hz hd
 have HI := Lib.hid hv
 have HV := Lib.hid hV
 clear hv hV
 have HKD := Lib.hid hkd
 clear hkd
 have GK := Lib.hid (Gr.refl g w)
 have CK := Lib.hid hK
 have HE := Lib.hid hE
 clear hE hK
 go_enter Tryd.func21, Tryd.ntmps21
 have hwc := wd_cell HE.out CK.out.below ha
 rw [HWX.out] at hwc
 have hxr := HE.out.word a
 rw [HWX.out] at hxr
 obtain ⟨hx0, hx1⟩ := hxr
 have a0_ : (0 : Int) ≤ (a : Int) := Int.natCast_nonneg _
 have a1_ : (a : Int) < (s.length : Int) := by omega
 have l_K : g < w.heap.size := blk_lt CK.out.blk
 have q_K_0 : w.cell? ⟨g, 0, none⟩ = some (.slice (some ⟨sb, so, none⟩) s.length cp) := (blk_cell CK.out.blk 0).trans rfl
 go_wp2_with fail
 clear hwc a0_ a1_ l_K q_K_0
 refine (isnull_any x false w (beq_eq_false_iff_ne.2 HZ.out)).mono ?_
 rintro e wy ⟨rfl, rfl⟩
 have l_K : g < w.heap.size := blk_lt CK.out.blk
 have q_K_2 : w.cell? ⟨g, 2, none⟩ = some (.int .i64 D) := (blk_cell CK.out.blk 2).trans rfl
 have q_K_3 : w.cell? ⟨g, 3, none⟩ = some (.int .i64 Wd) := (blk_cell CK.out.blk 3).trans rfl
 have q_K_4 : w.cell? ⟨g, 4, none⟩ = some (.int .i64 O) := (blk_cell CK.out.blk 4).trans rfl
 go_wp2_with fail
 clear l_K q_K_2 q_K_3 q_K_4
 refine (enter_any D Wd O depth 0 _ (if_neg (by have := HD.out; omega))).mono ?_
 rintro e w1 ⟨rfl, hb⟩
 replace GK := Lib.hid (GK.out.then hb)
 replace CK := Lib.hid (CK.out.then hb)
 clear hb
 have t1_ : True := trivial
 go_wp2_with fail
 refine (must_yes _).mono ?_
 rintro e wy ⟨rfl, rfl⟩
 go_wp2_with fail
 refine (decode_any x w1 hx0 hx1 (HE.out.dec.below CK.out.below)).mono ?_
 rw [show decV x = .agg #[.int .i64 1, .int .i64 (offW x), .int .i64 0, .int .i64 0, .int .i64 (elemW x), .int .i64 (cntW x), .bool false, .int .i64 0, .int .u32 0, .int .u32 0] by unfold decV aggP; rw [if_neg (by rw [HKD.out]; decide), if_pos HKD.out]]
 rintro e w2 ⟨rfl, hb⟩
 replace GK := Lib.hid (GK.out.then hb)
 replace CK := Lib.hid (CK.out.then hb)
 clear hb
 go_wp2_with fail
 refine calls_at (fun wz hW => ?_)
 have hb : Below w2.heap.size w2 wz := by rw [hW]; exact (Below.refl _ _).alloc (Nat.le_refl _) _
 clear hW
 replace GK := Lib.hid (GK.out.then hb)
 replace CK := Lib.hid (CK.out.then hb)
 clear hb
 have hC := list_any (at_ := a) HE.out CK.out x (by have := HLEN.out; omega) hx hm hcp HI.out hd0_ hd1_ HV.out
 unfold aggP at hC
 refine hC.mono ?_
 clear hC
 rintro e w9 (⟨q, hq, rfl, hg, hc⟩ | ⟨hq, rfl, hg⟩)
 ·have hg' := GK.out.trans hg
  have HQ := Lib.hid hq
  clear hq hg
  go_wp2
  first | go_end0 | refine bodyPost_ret (results_none rfl _ _ _) rfl ?_
  exact .inl ⟨q, HQ.out, rfl, hg', hc⟩
 ·have hg' := GK.out.trans hg
  have HQ := Lib.hid hq
  clear hq hg
  go_wp2
  exact ⟨rfl, .inr ⟨HQ.out, rfl, hg'⟩⟩
set_option maxHeartbeats 4000000 in
theorem visit_4 {W0 w : World} {s : List Int} {cp g nx m : Nat} {D Wd O : Int} {sb so a : Nat} {depth x : Int} (hE : Env W0 s (some ⟨sb, so, none⟩)) (hK : Ck W0 s (some ⟨sb, so, none⟩) cp D Wd O g nx m w) (ha : a < s.length) (hx : nx ≤ s.length) (hm : m ≤ 4611686018427387904) (hcp : s.length ≤ cp) (hwx : wd s a = x) (hz : ¬ x = 0) (hd : ¬ D < depth) (hk0 : ¬ kindW x = 0) (hk1 : ¬ kindW x = 1) :
  Calls Tryd.prog 21 #[.pointer (some ⟨g, 0, none⟩), .int .i64 a, .int .i64 depth] w fun e w' => e = .panicked [{ v := .iface 47 (.agg #[]), recovered := false }] ∧ Gr g w w' := by
 have HLEN := Lib.hid hE.len
 have hlen := hE.len
 have HWX := Lib.hid hwx
 clear hwx
 have HZ := Lib.hid hz
 have HD := Lib.hid hd
 clear hz hd
 have t0_ : (kindW x == 0) = false := beq_eq_false_iff_ne.2 hk0
 have t9_ : (kindW x == 1) = false := beq_eq_false_iff_ne.2 hk1
 clear hk0 hk1
 have GK := Lib.hid (Gr.refl g w)
 have CK := Lib.hid hK
 have HE := Lib.hid hE
 clear hE hK
 go_enter Tryd.func21, Tryd.ntmps21
 have hwc := wd_cell HE.out CK.out.below ha
 rw [HWX.out] at hwc
 have hxr := HE.out.word a
 rw [HWX.out] at hxr
 obtain ⟨hx0, hx1⟩ := hxr
 have a0_ : (0 : Int) ≤ (a : Int) := Int.natCast_nonneg _
 have a1_ : (a : Int) < (s.length : Int) := by omega
 have l_K : g < w.heap.size := blk_lt CK.out.blk
 have q_K_0 : w.cell? ⟨g, 0, none⟩ = some (.slice (some ⟨sb, so, none⟩) s.length cp) := (blk_cell CK.out.blk 0).trans rfl
 go_wp2_with fail
 clear hwc a0_ a1_ l_K q_K_0
 refine (isnull_any x false w (beq_eq_false_iff_ne.2 HZ.out)).mono ?_
 rintro e wy ⟨rfl, rfl⟩
 have l_K : g < w.heap.size := blk_lt CK.out.blk
 have q_K_2 : w.cell? ⟨g, 2, none⟩ = some (.int .i64 D) := (blk_cell CK.out.blk 2).trans rfl
 have q_K_3 : w.cell? ⟨g, 3, none⟩ = some (.int .i64 Wd) := (blk_cell CK.out.blk 3).trans rfl
 have q_K_4 : w.cell? ⟨g, 4, none⟩ = some (.int .i64 O) := (blk_cell CK.out.blk 4).trans rfl
 go_wp2_with fail
 clear l_K q_K_2 q_K_3 q_K_4
 refine (enter_any D Wd O depth 0 _ (if_neg (by have := HD.out; omega))).mono ?_
 rintro e w1 ⟨rfl, hb⟩
 replace GK := Lib.hid (GK.out.then hb)
 replace CK := Lib.hid (CK.out.then hb)
 clear hb
 have t1_ : True := trivial
 go_wp2_with fail
 refine (must_yes _).mono ?_
 rintro e wy ⟨rfl, rfl⟩
 go_wp2_with fail
 refine (decode_any x w1 hx0 hx1 (HE.out.dec.below CK.out.below)).mono ?_
 obtain ⟨fo, fd, fp, fe, fc, fb, fpa, fs, fl, hDec, _⟩ := decV_agg x
 rw [hDec]
 clear hDec
 rintro e w2 ⟨rfl, hb⟩
 replace GK := Lib.hid (GK.out.then hb)
 replace CK := Lib.hid (CK.out.then hb)
 clear hb
 go_wp2_with fail
 refine calls_at (fun wz hW => ?_)
 have hb : Below w2.heap.size w2 wz := by rw [hW]; exact (Below.refl _ _).alloc (Nat.le_refl _) _
 clear hW
 replace GK := Lib.hid (GK.out.then hb)
 replace CK := Lib.hid (CK.out.then hb)
 clear hb
 refine (must_no _).mono ?_
 rintro e wy ⟨rfl, rfl⟩
 go_wp2
 exact ⟨rfl, rfl, GK.out⟩
theorem visit_any {W0 : World} {s : List Int} {cp g : Nat} {D Wd O : Int} {sb so : Nat} (hE : Env W0 s (some ⟨sb, so, none⟩)) (hcp : s.length ≤ cp) (hD : D ≤ 900000) : ∀ (f : Nat) (depth : Int), 0 ≤ depth → f = (D + 1 - depth).toNat → VisC W0 s (some ⟨sb, so, none⟩) cp D Wd O g (visM s f) depth
 | 0, depth, hd0, hf => fun a nx m w ha hx hm hK => by
  unfold visM
  by_cases hz : wd s a = 0
  ·rw [if_pos hz]
   exact (visit_0 hE hK ha hx hm hcp rfl hz).mono fun e w' ⟨a, b, c⟩ => .inl ⟨_, rfl, a, b, c⟩
  ·rw [if_neg hz]
   exact (visit_1 hE hK ha hx hm hcp rfl hz (by omega)).mono fun e w' ⟨a, b⟩ => .inr ⟨rfl, a, b⟩
 | f + 1, depth, hd0, hf => fun a nx m w ha hx hm hK => by
  have hV := visit_any hE hcp hD (Wd := Wd) (O := O) (g := g) f (depth + 1) (by omega) (by omega)
  unfold visM
  by_cases hz : wd s a = 0
  ·rw [if_pos hz]
   exact (visit_0 hE hK ha hx hm hcp rfl hz).mono fun e w' ⟨a, b, c⟩ => .inl ⟨_, rfl, a, b, c⟩
  ·rw [if_neg hz]
   by_cases hk0 : kindW (wd s a) = 0
   ·rw [if_pos hk0]
    exact visit_2 hE hK ha hx hm hcp rfl (visM_in s f) hd0 (by omega) hV hz (by omega) hk0
   ·rw [if_neg hk0]
    by_cases hk1 : kindW (wd s a) = 1
    ·rw [if_pos hk1]
     exact visit_3 hE hK ha hx hm hcp rfl (visM_in s f) hd0 (by omega) hV hz (by omega) hk1
    ·rw [if_neg hk1]
     exact (visit_4 hE hK ha hx hm hcp rfl hz (by omega) hk0 hk1).mono fun e w' ⟨a, b⟩ => .inr ⟨rfl, a, b⟩
end Go.Proofs.YtidglmocekghmaaDoor.Pr
end
section
namespace Go.Proofs.YtidglmocekghmaaDoor.Pr
open Go.RowKit Go.Proofs.YtidglmocekghmaaDoorW.PrintWords Go.Proofs.YtidglmocekghmaaDoorW.PrintLast Go.Proofs.YtidglmocekghmaaDoorW.PrintMore
set_option linter.unusedVariables false
set_option linter.unusedSimpArgs false
def onlyN (Q : Exit → Act → World → Prop) : Exit → Act → World → Prop
 | .normal, a, w => Q .normal a w
 | _, _, _ => False
theorem onlyN_normal {Q : Exit → Act → World → Prop} {a : Act} {w : World} (h : Q .normal a w) : onlyN Q .normal a w := h
theorem wp_onlyN {P : Program} {c : Code} {Q : Exit → Act → World → Prop} {a : Act} {w : World} (h : c.wp P (onlyN Q) a w) : c.wp P Q a w := fun b k cs => by
 obtain ⟨e, a', w', q, r⟩ := h b k cs
 refine ⟨e, a', w', ?_, r⟩
 cases e <;> first | exact q | exact q.elim
set_option maxRecDepth 100000 in
theorem catch_viol (gr : Nat) (x : Bool) (w : World) (hc : w.cell? ⟨gr, 0, none⟩ = some (.bool x)) (hz : w.frozen? ⟨gr, 0, none⟩ = false) :
  CallsD Tryd.prog 18 #[.pointer (some ⟨gr, 0, none⟩)] (.panicking [{ v := .iface 47 (.agg #[]), recovered := false }]) w fun e u' w' =>
   e = .returned (.tuple #[]) ∧ u' = .panicking [{ v := .iface 47 (.agg #[]), recovered := true }] ∧ w' = (w.setCell ⟨gr, 0, none⟩ (.bool false)).alloc (.cells #[] 47) := by
 have hlt : gr < w.heap.size := World.block_lt_of_cell? w _ hc
 have hb : Below w.heap.size w (w.alloc (.cells #[] 47)) := (Below.refl _ _).alloc (Nat.le_refl _) _
 have hc2 := (hb.cell (p := ⟨gr, 0, none⟩) hlt).trans hc
 have hz2 := (hb.frozen (p := ⟨gr, 0, none⟩) hlt).trans hz
 clear hb
 have hta : ∀ w : World, (Instr.typeAssert (.iface 47 (.agg #[])) 20 47 true).run Tryd.prog w = .ok (.tuple #[.agg #[], .bool true]) w := fun w => by kernel_rfl
 refine callsD_of_wpS Tryd.func18 rfl fun c₀ cs hu => ?_
 apply wpS_seq
 apply wpS_region
 simp [wpOpsS, go_sem, recoverD, hu, Tryd.ntmps18, Exit.thenS]
 refine wpS_of_wp ?_
 change Code.wp Tryd.prog _ _ { tmps := #[.pointer (some ⟨gr, 0, none⟩), (Value.iface 47 (Value.agg #[])), undef, undef, (Value.iface 47 (Value.agg #[])), undef, undef, undef, undef, undef, undef, undef, undef, undef, undef], defers := [] } w
 go_wp2
 cases c₀
 simp_all [bodyPostS, results, Tryd.results18]
theorem catch_idle (p : Addr) (w : World) :
  CallsD Tryd.prog 18 #[.pointer (some p)] .returning w fun e u' w' => e = .returned (.tuple #[]) ∧ u' = .returning ∧ w' = w := by
 refine callsD_of_wpS Tryd.func18 rfl fun c₀ cs hu => ?_
 apply wpS_seq
 apply wpS_region
 simp [wpOpsS, go_sem, recoverD, hu, Tryd.ntmps18, Exit.thenS]
 refine wpS_of_wp ?_
 change Code.wp Tryd.prog _ _ { tmps := #[.pointer (some p), .nilIface, undef, undef, .nilIface, undef, undef, undef, undef, undef, undef, undef, undef, undef, undef], defers := [] } w
 go_wp2
 cases c₀
 simp_all [bodyPostS, results, Tryd.results18]
set_option maxHeartbeats 4000000 in
theorem words_none (A : Option Addr) (cp : Nat) (D Wd O : Int) (w : World) :
    Calls Tryd.prog 10 #[.slice A 0 cp, .agg #[.int .i64 D, .int .i64 Wd, .int .i64 O]] w fun e w' => e = .returned (.bool false) ∧ Below w.heap.size w w' := by
  have hmf : ∀ (fn : Fn) (first cap : Array Value) (w : World), (Instr.makeFunc fn first cap).run Tryd.prog w = .ok (.func fn first cap) w := fun _ _ _ _ => rfl
  go_enter_defers Tryd.func10, Tryd.ntmps10
  go_wp2_with fail
  refine calls_at (fun wa hW => ?_)
  have hBa : Below w.heap.size w wa := by rw [hW]; exact ((Below.refl _ _).alloc (Nat.le_refl _) _).alloc (by simp) _
  have hR : wa.heap[w.heap.size + 1]? = some (.cells #[.bool false] 4 (0, 0)) := by rw [hW]; exact blk_new _ _ _ (by simp)
  clear hW
  refine (must_no wa).mono ?_
  rintro e wy ⟨rfl, rfl⟩
  go_wp2
  refine leaves_cons (f := 18) (args := #[.pointer (some ⟨w.heap.size + 1, 0, none⟩)]) (by simp) (by simp [go_sem]) ?_
  refine (catch_viol (w.heap.size + 1) false _ ((blk_cell hR 0).trans rfl) (blk_frozen hR 0)).mono ?_
  rintro e u' w'' ⟨rfl, rfl, rfl⟩
  have hlR : w.heap.size + 1 < wa.heap.size := blk_lt hR
  have hRz : ((wa.setCell ⟨w.heap.size + 1, 0, none⟩ (.bool false)).alloc (.cells #[] 47)).cell? ⟨w.heap.size + 1, 0, none⟩ = some (.bool false) := (blk_cell (blk_alloc (blk_put hR 0 (.bool false) rfl) _) 0).trans rfl
  have hBz : Below w.heap.size w ((wa.setCell ⟨w.heap.size + 1, 0, none⟩ (.bool false)).alloc (.cells #[] 47)) := (hBa.setCell (p := ⟨w.heap.size + 1, 0, none⟩) (Nat.le_succ _) _).alloc (by have := hBa.size; simpa [World.setCell] using this) _
  simp [Leaves, settle, results, Tryd.results10, go_sem, hRz]
  exact hBz
set_option maxHeartbeats 8000000 in
theorem words_some (sb so cp : Nat) (s : List Int) (D Wd O : Int) (w : World) (hE : Env w s (some ⟨sb, so, none⟩)) (h0 : 0 < s.length) (hcp : s.length ≤ cp) (hD : D ≤ 900000) (hWd : Wd ≤ 4611686018427387904) (r : Bool) (hr : wordsM s D Wd = r) :
    Calls Tryd.prog 10 #[.slice (some ⟨sb, so, none⟩) s.length cp, .agg #[.int .i64 D, .int .i64 Wd, .int .i64 O]] w fun e w' => e = .returned (.bool r) ∧ Below w.heap.size w w' := by
  have hmf : ∀ (fn : Fn) (first cap : Array Value) (w : World), (Instr.makeFunc fn first cap).run Tryd.prog w = .ok (.func fn first cap) w := fun _ _ _ _ => rfl
  have HE := Lib.hid hE
  have HR := Lib.hid hr
  have hln := hE.len
  have t0_ : decide ((0 : Int) < (s.length : Int)) = true := decide_eq_true (by omega)
  have t1_ : decide (0 < s.length) = true := decide_eq_true h0
  clear hE hr
  go_enter_defers Tryd.func10, Tryd.ntmps10
  have HB := Lib.hid (Below.refl w.heap.size w)
  go_wp2_with fail
  refine calls_at (fun wa hW => ?_)
  have hb : Below w.heap.size w wa := by rw [hW]; exact ((Below.refl _ _).alloc (Nat.le_refl _) _).alloc (by simp) _
  have nL : wa.heap[w.heap.size]? = some (.cells #[.int .i64 D, .int .i64 Wd, .int .i64 O] 24 (0, 0)) := by rw [hW]; exact blk_alloc (heap_alloc_new _ _) _
  have nR : wa.heap[w.heap.size + 1]? = some (.cells #[.bool false] 4 (0, 0)) := by rw [hW]; exact blk_new _ _ _ (by simp)
  clear hW
  replace HB := Lib.hid (below_step HB.out hb)
  clear hb
  have L := Lib.hid nL
  have R := Lib.hid nR
  clear nL nR
  refine (must_yes wa).mono ?_
  rintro e wy ⟨rfl, rfl⟩
  go_wp2_with fail
  obtain ⟨mt, hmt⟩ : ∃ m, Wd.toNat = m := ⟨_, rfl⟩
  have HMT := Lib.hid hmt
  have hst : budget_Start.f D Wd O = some (mt : Int) := by unfold budget_Start.f mx; congr 1; omega
  clear hmt
  have l_L : w.heap.size < wa.heap.size := blk_lt L.out
  have q_L_0 : wa.cell? ⟨w.heap.size, 0, none⟩ = some (.int .i64 D) := (blk_cell L.out 0).trans rfl
  have q_L_1 : wa.cell? ⟨w.heap.size, 1, none⟩ = some (.int .i64 Wd) := (blk_cell L.out 1).trans rfl
  have q_L_2 : wa.cell? ⟨w.heap.size, 2, none⟩ = some (.int .i64 O) := (blk_cell L.out 2).trans rfl
  refine wp_onlyN ?_
  refine start_ (n := 7) (S := fun w' => w'.cell? ⟨w.heap.size, 0, none⟩ = some (.int .i64 D) ∧ w'.cell? ⟨w.heap.size, 1, none⟩ = some (.int .i64 Wd) ∧ w'.cell? ⟨w.heap.size, 2, none⟩ = some (.int .i64 O)) (ds := []) #[false, false, false, false, false, false, false] (by kernel_rfl) rfl rfl ⟨q_L_0, q_L_1, q_L_2⟩ (fun hHeld => ?_)
  obtain ⟨w1, hwd⟩ : ∃ W, W = wa.drew := ⟨_, rfl⟩
  rw [← hwd] at hHeld ⊢
  have hb : Below wa.heap.size wa w1 := by rw [hwd]; exact (Below.refl _ _).drew
  clear hwd
  replace HB := Lib.hid (below_step HB.out hb)
  replace L := Lib.hid (blk_below L.out hb)
  replace R := Lib.hid (blk_below R.out hb)
  clear hb
  refine pure_ (i := 0) (N := some 11) (v := ?_) (a' := ?_) #[true, false, false, false, false, false, false] rfl rfl (by kernel_rfl) (fun _ _ _ h => h) (Or.inl ⟨by rfl, ?_⟩) ?_ ?_
  rotate_left
  · intro w'
    go_simp
    with_reducible rfl
  rotate_left
  · simp only [Act.put, List.setIfInBounds_toArray, List.set_cons_zero, List.set_cons_succ, i64_w, i32_w]
    rfl
  refine take_ (i := 1) (N := some 12) (v := ?_) (a' := ?_) #[true, true, false, false, false, false, false] rfl rfl (by kernel_rfl) (fun _ _ _ h => h) (Or.inl ⟨by rfl, ?_⟩) hHeld ?_ ?_
  rotate_left
  · rintro w' ⟨s0, s1, s2⟩
    go_simp
    with_reducible rfl
  rotate_left
  · simp only [Act.put, List.setIfInBounds_toArray, List.set_cons_zero, List.set_cons_succ, i64_w, i32_w]
    rfl
  refine take_ (i := 2) (N := some 13) (v := ?_) (a' := ?_) #[true, true, true, false, false, false, false] rfl rfl (by kernel_rfl) (fun _ _ _ h => h) (Or.inl ⟨by rfl, ?_⟩) hHeld ?_ ?_
  rotate_left
  · rintro w' ⟨s0, s1, s2⟩
    go_simp
    with_reducible rfl
  rotate_left
  · simp only [Act.put, List.setIfInBounds_toArray, List.set_cons_zero, List.set_cons_succ, i64_w, i32_w]
    rfl
  refine one_ (i := 3) (N := some 14) #[true, true, true, true, false, false, false] rfl rfl (by kernel_rfl) (by decide) (fun K hK => ?_)
  refine goes_ Tryd.func20 (by kernel_rfl) rfl #[.agg #[.int .i64 D, .int .i64 Wd, .int .i64 O]] (by rfl) rfl rfl (by simp only [List.map_toArray, List.map_cons, List.map_nil]; rfl) ?_
  with_reducible refine (budget_Start.calls D Wd O mt _ hst).mono ?_
  rintro e w3 ⟨rfl, hb⟩
  refine ⟨_, rfl, ?_⟩
  have hll := blk_lt L.out
  have hll3 := Nat.lt_of_lt_of_le hll hb.size
  refine hK.out _ _ ⟨(hb.cell (p := ⟨w.heap.size, 0, none⟩) hll).trans hHeld.1, (hb.cell (p := ⟨w.heap.size, 1, none⟩) hll).trans hHeld.2.1, (hb.cell (p := ⟨w.heap.size, 2, none⟩) hll).trans hHeld.2.2⟩ (fun hHeld => ?_)
  clear hK K
  refine norm_ (a' := ?_) ?_ ?_
  rotate_left
  · show Act.put _ (some 14) _ = _
    simp only [Act.put, List.setIfInBounds_toArray, List.set_cons_zero, List.set_cons_succ, i64_w, i32_w]
    rfl
  refine pure_ (i := 4) (N := some 15) (v := ?_) (a' := ?_) #[true, true, true, true, true, false, false] rfl rfl (by kernel_rfl) (fun _ _ _ h => h) (Or.inl ⟨by rfl, ?_⟩) ?_ ?_
  rotate_left
  · intro w'
    go_simp
    with_reducible rfl
  rotate_left
  · simp only [Act.put, List.setIfInBounds_toArray, List.set_cons_zero, List.set_cons_succ, i64_w, i32_w]
    rfl
  refine one_ (i := 5) (N := some 16) #[true, true, true, true, true, true, false] rfl rfl (by kernel_rfl) (by decide) (fun K hK => ?_)
  refine value_ (w1 := ?_) (v := ?_) (by rfl) rfl ?_ ?_
  rotate_left 2
  · go_simp
    constructor
    · rfl
    · rfl
  refine hK.out _ _ ⟨(((Below.refl _ _).alloc (Nat.le_refl _) _).cell (p := ⟨w.heap.size, 0, none⟩) hll3).trans hHeld.1, (((Below.refl _ _).alloc (Nat.le_refl _) _).cell (p := ⟨w.heap.size, 1, none⟩) hll3).trans hHeld.2.1, (((Below.refl _ _).alloc (Nat.le_refl _) _).cell (p := ⟨w.heap.size, 2, none⟩) hll3).trans hHeld.2.2⟩ (fun hHeld => ?_)
  clear hK K
  refine norm_ (a' := ?_) ?_ ?_
  rotate_left
  · show Act.put _ (some 16) _ = _
    simp only [Act.put, List.setIfInBounds_toArray, List.set_cons_zero, List.set_cons_succ, i64_w, i32_w]
    rfl
  refine pure_ (i := 6) (N := some 5) (v := ?_) (a' := ?_) #[true, true, true, true, true, true, true] rfl rfl (by kernel_rfl) (fun _ _ _ h => h) (Or.inl ⟨by rfl, ?_⟩) ?_ ?_
  rotate_left
  · intro w'
    go_simp
    with_reducible rfl
  rotate_left
  · simp only [Act.put, List.setIfInBounds_toArray, List.set_cons_zero, List.set_cons_succ, i64_w, i32_w]
    rfl
  refine done_ (by kernel_rfl) ?_
  refine onlyN_normal ?_
  clear l_L q_L_0 q_L_1 q_L_2
  clear hHeld hll hll3
  replace HB := Lib.hid (below_step HB.out hb)
  replace L := Lib.hid (blk_below L.out hb)
  replace R := Lib.hid (blk_below R.out hb)
  clear hb hst
  clear L
  go_wp2_with fail
  refine calls_at (fun wc hW => ?_)
  have hb : Below w3.heap.size w3 wc := by rw [hW]; exact (Below.refl _ _).alloc (Nat.le_refl _) _
  obtain ⟨g, hg⟩ : ∃ g, w3.heap.size = g := ⟨_, rfl⟩
  have nK : wc.heap[g]? = some (.cells #[.slice (some ⟨sb, so, none⟩) s.length cp, .int .i64 ((1 : Nat) : Int), .int .i64 D, .int .i64 Wd, .int .i64 O, .int .i64 mt] 55 (0, 0)) := by rw [hW, ← hg]; exact heap_alloc_new _ _
  have hge : w.heap.size ≤ g := by rw [← hg]; exact HB.out.size
  have hRg : w.heap.size + 1 < g := by rw [← hg]; exact blk_lt R.out
  rw [hg]
  clear hW hg
  replace HB := Lib.hid (below_step HB.out hb)
  replace R := Lib.hid (blk_below R.out hb)
  clear hb
  have CK : Hid (Ck w s (some ⟨sb, so, none⟩) cp D Wd O g 1 mt wc) := Lib.hid ⟨HB.out, hge, nK⟩
  clear nK
  have hm : mt ≤ 4611686018427387904 := by have := HMT.out; omega
  have hV := visit_any HE.out hcp hD (Wd := Wd) (O := O) (g := g) D.toNat 1 (by omega) (by omega) 0 1 mt wc h0 (by omega) hm CK.out
  have HV := Lib.hid hV
  clear hV
  have HM : Hid (r = match visM s D.toNat 0 1 mt with | none => false | some q => decide (q.1 = s.length)) := Lib.hid (by rw [← HR.out, ← HMT.out]; unfold wordsM; rw [decide_eq_true h0]; rfl)
  clear HR
  generalize visM s D.toNat 0 1 mt = vr at HV HM
  refine HV.out.mono ?_
  clear HV
  rintro e w9 (⟨q, rfl, rfl, hg, hc⟩ | ⟨rfl, rfl, hg⟩)
  · have R9 := hg.blk R.out (by omega)
    have hcb := hc.below
    have hl9 : g < w9.heap.size := blk_lt hc.blk
    have q9 : w9.cell? ⟨g, 1, none⟩ = some (.int .i64 (q.1 : Int)) := (blk_cell hc.blk 1).trans rfl
    have hr9 : w9.cell? ⟨w.heap.size + 1, 0, none⟩ = some (.bool false) := (blk_cell R9 0).trans rfl
    have hf9 : w9.frozen? ⟨w.heap.size + 1, 0, none⟩ = false := blk_frozen R9 0
    have hrl : w.heap.size + 1 < w9.heap.size := blk_lt R9
    obtain ⟨b9, hb9⟩ : ∃ b, ((q.1 : Int) == (s.length : Int)) = b := ⟨_, rfl⟩
    have HB9 := Lib.hid hb9
    have H9 := Lib.hid R9
    have HCB := Lib.hid hcb
    clear hg hc R9 hcb
    go_wp2
    clear q9 hr9 hf9 hl9
    refine leaves_cons (f := 18) (args := #[.pointer (some ⟨w.heap.size + 1, 0, none⟩)]) (by simp) (by simp [go_sem]) ?_
    refine (catch_idle ⟨w.heap.size + 1, 0, none⟩ _).mono ?_
    rintro e u' w'' ⟨rfl, rfl, rfl⟩
    clear hb9
    have hRz : (w9.setCell ⟨w.heap.size + 1, 0, none⟩ (.bool b9)).cell? ⟨w.heap.size + 1, 0, none⟩ = some (.bool b9) := (blk_cell (blk_put H9.out 0 (.bool b9) rfl) 0).trans rfl
    have hBz : Below w.heap.size w (w9.setCell ⟨w.heap.size + 1, 0, none⟩ (.bool b9)) := HCB.out.setCell (p := ⟨w.heap.size + 1, 0, none⟩) (Nat.le_succ _) _
    simp [Leaves, settle, results, Tryd.results10, go_sem, hRz]
    refine ⟨?_, hBz⟩
    rw [HM.out, ← HB9.out]
    by_cases hq : q.1 = s.length
    · simp [hq]
    · simp [hq]; omega
  · have R9 := hg.blk R.out (by omega)
    have hcb : Below w.heap.size w w9 := HB.out.grown hg HB.out.size (fun k hk => by cases hk; exact hge)
    obtain rfl : r = false := HM.out
    clear HM hg
    go_wp2
    refine leaves_cons (f := 18) (args := #[.pointer (some ⟨w.heap.size + 1, 0, none⟩)]) (by simp) (by simp [go_sem]) ?_
    refine (catch_viol (w.heap.size + 1) false _ ((blk_cell R9 0).trans rfl) (blk_frozen R9 0)).mono ?_
    rintro e u' w'' ⟨rfl, rfl, rfl⟩
    have hlR : w.heap.size + 1 < w9.heap.size := blk_lt R9
    have hRz : ((w9.setCell ⟨w.heap.size + 1, 0, none⟩ (.bool false)).alloc (.cells #[] 47)).cell? ⟨w.heap.size + 1, 0, none⟩ = some (.bool false) := (blk_cell (blk_alloc (blk_put R9 0 (.bool false) rfl) _) 0).trans rfl
    have hBz : Below w.heap.size w ((w9.setCell ⟨w.heap.size + 1, 0, none⟩ (.bool false)).alloc (.cells #[] 47)) := (hcb.setCell (p := ⟨w.heap.size + 1, 0, none⟩) (Nat.le_succ _) _).alloc (by have := hcb.size; simpa [World.setCell] using this) _
    simp [Leaves, settle, results, Tryd.results10, go_sem, hRz]
    exact hBz
theorem words_any (A : Option Addr) (cp : Nat) (s : List Int) (D Wd O : Int) (w : World) (hE : Env w s A) (hcp : s.length ≤ cp) (hD : D ≤ 900000) (hWd : Wd ≤ 4611686018427387904) :
  Calls Tryd.prog 10 #[.slice A s.length cp, .agg #[.int .i64 D, .int .i64 Wd, .int .i64 O]] w fun e w' => e = .returned (.bool (wordsM s D Wd)) ∧ Below w.heap.size w w' := by
 by_cases h0 : 0 < s.length
 ·obtain ⟨sb, so, rfl⟩ := hE.addr h0
  exact words_some sb so cp s D Wd O w hE h0 hcp hD hWd _ rfl
 ·have hs : s = [] := List.eq_nil_of_length_eq_zero (by omega)
  subst hs
  have e : wordsM [] D Wd = false := by unfold wordsM; simp
  rw [e]
  exact words_none A cp D Wd O w
#print axioms words_any
end Go.Proofs.YtidglmocekghmaaDoor.Pr
end
section
namespace Go.Proofs.YtidglmocekghmaaDoor.Pr
open Go.RowKit Go.Proofs.YtidglmocekghmaaDoorW.PrintWords Go.Proofs.YtidglmocekghmaaDoorW.PrintLast Go.Proofs.YtidglmocekghmaaDoorW.PrintMore
set_option linter.unusedVariables false
set_option linter.unusedSimpArgs false
structure Tabs (w : World) : Prop where
 tab : Ls.Tab w
 dec : Dec w
theorem Tabs.below {w w1 : World} (h : Tabs w) (hb : Below w.heap.size w w1) : Tabs w1 := ⟨h.tab.below hb, h.dec.below hb⟩
def okW (l : List Int) : Bool := (l.all fun x => decide (0 ≤ x) && decide (x < 18446744073709551616)) && Nat.ble l.length 17592186040320
theorem okW_all {l : List Int} (h : okW l = true) : ∀ x ∈ l, 0 ≤ x ∧ x < 18446744073709551616 := fun x hx => by
 unfold okW at h
 rw [Bool.and_eq_true] at h
 have := List.all_eq_true.1 h.1 x hx
 simpa using this
theorem okW_len {l : List Int} (h : okW l = true) : l.length ≤ 17592186040320 := by
 unfold okW at h
 rw [Bool.and_eq_true] at h
 exact Nat.le_of_ble_eq_true h.2
def canoncheck_Words.f (_ : Nat) (l0 : List Int) (a0 a1 a2 : Int) : Option Bool := if okW l0 = true then (if a0 ≤ 900000 then (if a1 ≤ 4611686018427387904 then some (wordsM l0 a0 a1) else none) else none) else none
theorem canoncheck_Words.calls (k : Nat) (A0 : Option Addr) (c0 : Nat) (l0 : List Int) (a0 a1 a2 : Int) (r : Bool) (w : World) (hr0 : Kd.C (Kd.int .u64) w A0 l0.length l0) (hc0 : l0.length ≤ c0) (h : canoncheck_Words.f k l0 a0 a1 a2 = some r) (ht : Tabs w) :
  Calls Tryd.prog 10 #[.slice A0 l0.length c0, .agg #[.int .i64 a0, .int .i64 a1, .int .i64 a2]] w fun e w' => e = .returned (.bool r) ∧ Below w.heap.size w w' := by
 unfold canoncheck_Words.f at h
 split at h
 ·rename_i hok
  split at h
  ·split at h
   ·obtain rfl := Option.some.inj h
    exact words_any A0 c0 l0 a0 a1 a2 w ⟨hr0, ht.tab, ht.dec, okW_all hok, okW_len hok⟩ hc0 (by assumption) (by assumption)
   ·cases h
  ·cases h
 ·cases h
end Go.Proofs.YtidglmocekghmaaDoor.Pr
end
section
namespace Go.Proofs.YtidglmocekghmaaDoor.TabD
open Go.Proofs.YtidglmocekghmaaDoorW.PrintWords Go.Proofs.YtidglmocekghmaaDoorW.PrintLast Go.Proofs.YtidglmocekghmaaDoorW.PrintMore Go.Proofs.YtidglmocekghmaaDoor.Pr Go.WideElems Go.ChangeShapes Go.WideShapes Go.ChangeAt Go.RowKit Go.Maps
set_option linter.unusedVariables false
set_option linter.unusedSimpArgs false
theorem gTab : Tryd.prog.globalNamed "capnp/listsize.bits" = some 1 := by kernel_rfl
theorem gTabType : (Tryd.prog.globals[1]?).map (·.type) = some 114 := by kernel_rfl
theorem cellsT : Tryd.prog.cellsOf 114 = 8 := by kernel_rfl
theorem cellsE : Tryd.prog.cellsOf 3 = 1 := by kernel_rfl
theorem gDec : Tryd.prog.globalNamed "capnp/pointer.decoders" = some 0 := by kernel_rfl
theorem gDecType : (Tryd.prog.globals[0]?).map (·.type) = some 97 := by kernel_rfl
def laidL : List (String × DataW Unit) := [("capnp/pointer.decoders", Rows.laid_capnp_pointer_decoders), ("capnp/listsize.bits", Rows.laid_capnp_listsize_bits)]
theorem ofData {W : World} (h : laidMetH Tryd.prog laidL W) : laidMet Tryd.prog [("capnp/listsize.bits", Rows.laid_capnp_listsize_bits)] W := h.1
theorem table {W : World} (h : laidMetH Tryd.prog laidL W) : Lib.TabIs Tryd.prog W "capnp/listsize.bits" .i64 [0, 1, 8, 16, 32, 64, 64, 0] :=
 Lib.tabIs_of_head (rest := []) gTab gTabType Tryd.underlying114 Tryd.underlying3 cellsE cellsT (ofData h)
theorem tab {W : World} (h : laidMetH Tryd.prog laidL W) : Ls.Tab W :=
 ⟨(table h).cell gTab 0 (by decide), (table h).cell gTab 1 (by decide), (table h).cell gTab 2 (by decide), (table h).cell gTab 3 (by decide), (table h).cell gTab 4 (by decide), (table h).cell gTab 5 (by decide), (table h).cell gTab 6 (by decide), (table h).cell gTab 7 (by decide)⟩
theorem law3 : Keyed Tryd.prog 3 := int_keyed Tryd.underlying3
theorem zero68 (w : World) : (zeroValue 68).run Tryd.prog w = .ok .nilFunc w := by kernel_rfl
theorem one_cell {P : Program} {W : World} {n : Nat} {t : TypeId} {ps rs : Array TypeId} {va : Bool} {v : Value} {y : DataW (List UInt8) × List MemPlace} (ht : P.underlying t = some (.func ps rs va)) (h : elemAt (funcToken P) P W 0 (fun _ => true) true n t v = some y) : DataW.trod (funcToken P) P W 0 (fun _ => true) true n t [v] = some y := by
 unfold elemAt at h
 split at h
 ·rename_i hf
  have hc : v.cells = #[v] := by
   cases v with
   | agg cs => simp [Value.formed, ht] at hf
   | _ => rfl
  rw [hc] at h
  exact h
 ·cases h
theorem dec {W : World} (h : laidMetH Tryd.prog laidL W) : Dec W := by
 obtain ⟨g, t, cs, fuel, p, hg, ht, hv, hd⟩ := h.funcs (n := "capnp/pointer.decoders") (List.mem_cons_self ..)
 obtain rfl := Option.some.inj (gDec.symm.trans hg)
 obtain rfl := Option.some.inj (gDecType.symm.trans ht)
 have hd' : DataW.trod (funcToken Tryd.prog) Tryd.prog W 0 (fun _ => true) true fuel 97 cs.toList = some (.map [(Lit.int .i64 0, DataW.held [99, 97, 112, 110, 112, 47, 112, 111, 105, 110, 116, 101, 114, 46, 100, 101, 99, 111, 100, 101, 114, 115, 36, 49]), (Lit.int .i64 1, DataW.held [99, 97, 112, 110, 112, 47, 112, 111, 105, 110, 116, 101, 114, 46, 100, 101, 99, 111, 100, 101, 114, 115, 36, 50]), (Lit.int .i64 2, DataW.held [99, 97, 112, 110, 112, 47, 112, 111, 105, 110, 116, 101, 114, 46, 100, 101, 99, 111, 100, 101, 114, 115, 36, 51]), (Lit.int .i64 3, DataW.held [99, 97, 112, 110, 112, 47, 112, 111, 105, 110, 116, 101, 114, 46, 100, 101, 99, 111, 100, 101, 114, 115, 36, 52])], p) := hd
 rcases open_map Tryd.underlying97 hd' with ⟨_, hx⟩ | ⟨b, es, clock, n, rfl, hcs, hb, _, F, hx⟩
 ·simp at hx
 ·simp only [Prod.mk.injEq] at hx
  obtain ⟨hm, _⟩ := hx
  have hblt : b < W.heap.size := by
   rcases Nat.lt_or_ge b W.heap.size with hl | hl
   ·exact hl
   ·rw [Array.getElem?_eq_none hl] at hb; cases hb
  have hE : W.cell? ⟨0, 0, none⟩ = some (.map (some b)) := by
   have e : cs = #[.map (some b)] := by cases cs; simp_all
   subst e
   simpa using World.var?_cell hg hv 0
  refine ⟨b, hE, hblt, fun W' hW' => ?_⟩
  have hb' : W'.heap[b]? = some (.map es clock) := hW'.trans hb
  have key : ∀ (i : Int) (c : UInt8) (r : List UInt8) (f0 : FuncId), (Lit.int .i64 i).wf = true → (∀ zd, (DataW.map [(Lit.int .i64 0, DataW.held [99, 97, 112, 110, 112, 47, 112, 111, 105, 110, 116, 101, 114, 46, 100, 101, 99, 111, 100, 101, 114, 115, 36, 49]), (Lit.int .i64 1, DataW.held [99, 97, 112, 110, 112, 47, 112, 111, 105, 110, 116, 101, 114, 46, 100, 101, 99, 111, 100, 101, 114, 115, 36, 50]), (Lit.int .i64 2, DataW.held [99, 97, 112, 110, 112, 47, 112, 111, 105, 110, 116, 101, 114, 46, 100, 101, 99, 111, 100, 101, 114, 115, 36, 51]), (Lit.int .i64 3, DataW.held [99, 97, 112, 110, 112, 47, 112, 111, 105, 110, 116, 101, 114, 46, 100, 101, 99, 111, 100, 101, 114, 115, 36, 52])]).atKey (Lit.int .i64 i) zd = .held (c :: r)) → ((List.range Tryd.prog.funcs.size).filter fun f => (Tryd.prog.funcs[f]?).any (·.name.toUTF8.data.toList == c :: r)) = [f0] →
    (Instr.lookup 97 (.map (some b)) (.int .i64 i) false).run Tryd.prog W' = .ok (.func (.func f0) #[] #[]) W' := by
   intro i c r f0 hwf hat hone
   rcases fit_look false law3 Tryd.underlying97 (zero68 W') hb' F (keyOf_int_mk Tryd.underlying3 hwf) with ⟨_, _, h3⟩ | ⟨e0, y, _, _, hrun, hR, h3, _⟩
   ·have := h3 (.nil)
    rw [← hm, hat] at this
    cases this
   ·have e1 := h3 (.nil)
    rw [← hm, hat] at e1
    obtain ⟨y1, y2⟩ := y
    simp only at e1
    subst e1
    have e2 := func_of_trod (f0 := f0) Tryd.underlying68 hone (one_cell Tryd.underlying68 hR)
    rw [e2] at hrun
    simpa using hrun
  exact ⟨key 0 _ _ 101 (by decide) (fun zd => rfl) (by kernel_rfl), key 1 _ _ 103 (by decide) (fun zd => rfl) (by kernel_rfl), key 2 _ _ 104 (by decide) (fun zd => rfl) (by kernel_rfl), key 3 _ _ 105 (by decide) (fun zd => rfl) (by kernel_rfl)⟩
theorem tabs {W : World} (h : laidMetH Tryd.prog laidL W) : Pr.Tabs W := ⟨tab h, dec h⟩
theorem word_range {n : Int} (h : (Lit.int .u64 n).wf = true) : 0 ≤ n ∧ n < 18446744073709551616 := by
 simp [Lit.wf, IntKind.min, IntKind.max, IntKind.signed, IntKind.bits] at h
 omega
theorem u8_range {n : Int} (h : (Lit.int .u8 n).wf = true) : 0 ≤ n ∧ n ≤ 255 := by
 simpa [Lit.wf, IntKind.min, IntKind.max, IntKind.signed, IntKind.bits] using h
end Go.Proofs.YtidglmocekghmaaDoor.TabD
end
section
namespace Go.Proofs.YtidglmocekghmaaDoor.Pr
open Go.RowKit Go.Proofs.YtidglmocekghmaaDoorW.PrintWords Go.Proofs.YtidglmocekghmaaDoorW.PrintLast Go.Proofs.YtidglmocekghmaaDoorW.PrintMore
set_option linter.unusedVariables false
set_option linter.unusedSimpArgs false
inductive Asr : Type 1
 | box (g : Nat) (cs : Array Value) (t : Nat)
 | row {α : Type} (d : Kd α) (e : Nat) (v : Value) (xs : List α)
 | made {α : Type} (d : Kd α) (x : α) (cs : List Value)
def Asr.holds (w : World) (b : Nat) (F : Nat → Prop) : Asr → Prop
 | .box g cs t => F g ∧ b ≤ g ∧ w.heap[g]? = some (.cells cs t (0, 0))
 | .row d e v xs => d.R e w b F v xs
 | .made d x cs => d.M w b F x cs
section
variable {w w1 w0 : World} {b b' : Nat} {F F' F2 A A' : Nat → Prop} {a a2 : Asr} {L L' : List Asr}
theorem Asr.holds.mono (h : a.holds w b F) (hF : ∀ k, F k → F' k) : a.holds w b F' := by
 cases a with
 | box g cs t => exact ⟨hF _ h.1, h.2⟩
 | row d e v xs => exact Kd.R_mono h hF
 | made d x cs => exact d.M_mono hF h
theorem Asr.holds.step (h : a.holds w b F) (hm : ∀ k, F k → k < w.heap.size → w1.heap[k]? = w.heap[k]?) : a.holds w1 b F := by
 cases a with
 | box g cs t => exact ⟨h.1, h.2.1, (hm g h.1 (blk_lt h.2.2)).trans h.2.2⟩
 | row d e v xs => exact Kd.R_step h hm
 | made d x cs => exact Kd.M_step h hm
theorem Asr.holds.bound (h : a.holds w b F) : a.holds w b (fun k => F k ∧ b ≤ k ∧ k < w.heap.size) := by
 cases a with
 | box g cs t => exact ⟨⟨h.1, h.2.1, blk_lt h.2.2⟩, h.2⟩
 | row d e v xs => exact Kd.R_mono (Kd.R_bound h) (fun k hk => ⟨hk.1, hk.2.1, hk.2.2.1⟩)
 | made d x cs => exact d.M_mono (fun k hk => ⟨hk.1, hk.2.1, hk.2.2.1⟩) (d.M_bound h)
theorem Asr.holds.lower (h : a.holds w b F) (hb : b' ≤ b) : a.holds w b' F := by
 cases a with
 | box g cs t => exact ⟨h.1, Nat.le_trans hb h.2.1, h.2.2⟩
 | row d e v xs => exact Kd.R_lower h hb
 | made d x cs => exact d.M_lower hb h
def Sat (w : World) (b : Nat) : List Asr → (Nat → Prop) → Prop
 | [], _ => True
 | a :: r, A => ∃ F, (∀ k, F k → A k) ∧ a.holds w b F ∧ Sat w b r (fun k => A k ∧ ¬ F k)
theorem Sat.mono : ∀ {L : List Asr} {A A' : Nat → Prop}, Sat w b L A → (∀ k, A k → A' k) → Sat w b L A'
 | [], _, _, _, _ => trivial
 | _ :: _, _, _, ⟨F, h1, h2, h3⟩, hA => ⟨F, fun k hk => hA k (h1 k hk), h2, Sat.mono h3 (fun k hk => ⟨hA k hk.1, hk.2⟩)⟩
theorem Sat.step : ∀ {L : List Asr} {A : Nat → Prop}, Sat w b L A → (∀ k, A k → k < w.heap.size → w1.heap[k]? = w.heap[k]?) → Sat w1 b L A
 | [], _, _, _ => trivial
 | _ :: _, _, ⟨F, h1, h2, h3⟩, hm => ⟨F, h1, h2.step (fun k hk => hm k (h1 k hk)), Sat.step h3 (fun k hk => hm k hk.1)⟩
theorem Sat.swap (h : Sat w b (a :: a2 :: L) A) : Sat w b (a2 :: a :: L) A := by
 obtain ⟨F, h1, h2, G, h3, h4, h5⟩ := h
 exact ⟨G, fun k hk => (h3 k hk).1, h4, F, fun k hk => ⟨h1 k hk, fun hg => (h3 k hg).2 hk⟩, h2, h5.mono (fun k hk => ⟨⟨hk.1.1, hk.2⟩, hk.1.2⟩)⟩
theorem Sat.cons (h : Sat w b L A) (ha : a.holds w b F) (hF : ∀ k, F k → A' k) (hA : ∀ k, A k → A' k ∧ ¬ F k) : Sat w b (a :: L) A' := ⟨F, hF, ha, h.mono hA⟩
theorem Sat.tail (h : Sat w b (a :: L) A) : Sat w b L A := by
 obtain ⟨F, _, _, h3⟩ := h
 exact h3.mono (fun k hk => hk.1)
theorem Sat.pick : ∀ {n : Nat} {L : List Asr} {A : Nat → Prop}, Sat w b L A → L[n]? = some a → Sat w b (a :: L.eraseIdx n) A
 | 0, x :: r, _, h, e => by
  obtain rfl : x = a := by simpa using e
  exact h
 | n + 1, x :: r, A, ⟨F, h1, h2, h3⟩, e => by
  have h4 : Sat w b (x :: a :: r.eraseIdx n) A := ⟨F, h1, h2, Sat.pick h3 (by simpa using e)⟩
  exact h4.swap
 | _, [], _, _, e => by simp at e
inductive Has (a : Asr) : List Asr → Prop
 | here {r : List Asr} : Has a (a :: r)
 | there {x : Asr} {r : List Asr} (h : Has a r) : Has a (x :: r)
theorem Sat.has : ∀ {L : List Asr} {A : Nat → Prop}, Has a L → Sat w b L A → a.holds w b A
 | _, _, .here, ⟨_, h1, h2, _⟩ => h2.mono h1
 | _, _, .there h, hs => Sat.has h hs.tail
inductive Upd (g t : Nat) (cs cs' : Array Value) : List Asr → List Asr → Prop
 | here {r : List Asr} : Upd g t cs cs' (.box g cs t :: r) (.box g cs' t :: r)
 | there {x : Asr} {r r' : List Asr} (h : Upd g t cs cs' r r') : Upd g t cs cs' (x :: r) (x :: r')
theorem Upd.has {g t : Nat} {cs cs' : Array Value} {L L' : List Asr} (h : Upd g t cs cs' L L') : Has (.box g cs t) L := by
 induction h with
 | here => exact .here
 | there _ ih => exact .there ih
theorem Sat.upd {g t : Nat} {cs cs' : Array Value} (hc : w1.heap[g]? = some (.cells cs' t (0, 0))) (hk : ∀ k, k ≠ g → w1.heap[k]? = w.heap[k]?) :
  ∀ {L L' : List Asr} {A : Nat → Prop}, Upd g t cs cs' L L' → Sat w b L A → Sat w1 b L' A
 | _, _, _, .here, ⟨F, h1, h2, h3⟩ => ⟨F, h1, ⟨h2.1, h2.2.1, hc⟩, h3.step (fun k h _ => hk k (fun e => h.2 (e ▸ h2.1)))⟩
 | _, _, _, .there h, ⟨F, h1, h2, h3⟩ => ⟨F, h1, h2.step (fun k hF _ => hk k (fun e => (Sat.has h.has h3).1.2 (e ▸ hF))), Sat.upd hc hk h h3⟩
structure Sep (w0 w : World) (L : List Asr) : Prop where
 below : Below w0.heap.size w0 w
 sat : Sat w w0.heap.size L (fun k => k < w.heap.size)
theorem Sep.start (w : World) : Sep w w [] := ⟨Below.refl _ _, trivial⟩
theorem Sep.at_ (h : Sep w0 w L) (e : w1 = w) : Sep w0 w1 L := e ▸ h
theorem Sep.call (S : Sep w0 w L) (hb : Below w.heap.size w w1) : Sep w0 w1 L := ⟨below_step S.below hb, (S.sat.step (fun k hk _ => hb.block k hk)).mono (fun k hk => Nat.lt_of_lt_of_le hk hb.size)⟩
theorem Sep.drew (S : Sep w0 w L) : Sep w0 w.drew L := S.call (below_drew1 (Below.refl _ _))
theorem Sep.drewN (S : Sep w0 w L) (n : Nat) : Sep w0 (w.drewN n) L := S.call (pw_below_drewN (Below.refl _ _) n)
theorem Sep.push (S : Sep w0 w L) (hb : Below w.heap.size w w1) (h : a.holds w1 w.heap.size F) : Sep w0 w1 (a :: L) := by
 have T := S.call hb
 refine ⟨T.below, Sat.cons (S.sat.step (fun k hk _ => hb.block k hk)) (h.bound.lower S.below.size) (fun k hk => hk.2.2) (fun k hk => ⟨Nat.lt_of_lt_of_le hk hb.size, fun e => ?_⟩)⟩
 have := e.2.1
 omega
theorem Sep.new (S : Sep w0 w L) (cs : Array Value) (t : Nat) : Sep w0 (w.alloc (.cells cs t (0, 0))) (.box w.heap.size cs t :: L) :=
 S.push (F := fun _ => True) ((Below.refl _ _).alloc (Nat.le_refl _) _) ⟨trivial, Nat.le_refl _, heap_alloc_new _ _⟩
theorem Sep.tail (S : Sep w0 w (a :: L)) : Sep w0 w L := ⟨S.below, S.sat.tail⟩
theorem Sep.swap (S : Sep w0 w (a :: a2 :: L)) : Sep w0 w (a2 :: a :: L) := ⟨S.below, S.sat.swap⟩
theorem Sep.pick (S : Sep w0 w L) (n : Nat) (h : L[n]? = some a) (e : L.eraseIdx n = L') : Sep w0 w (a :: L') := e ▸ ⟨S.below, S.sat.pick h⟩
theorem Sep.nil (S : Sep w0 w L) {α : Type} (d : Kd α) (e : Nat) : Sep w0 w (.row d e (.slice none 0 0) [] :: L) :=
 ⟨S.below, Sat.cons (F := fun _ => False) S.sat (Kd.R_nil d e w _ _) (fun k h => h.elim) (fun k hk => ⟨hk, fun h => h⟩)⟩
theorem Sep.get (S : Sep w0 w L) (h : Has a L) : a.holds w w0.heap.size (fun k => k < w.heap.size) := Sat.has h S.sat
theorem Sep.blk {g t : Nat} {cs : Array Value} (S : Sep w0 w L) (h : Has (.box g cs t) L) : w.heap[g]? = some (.cells cs t (0, 0)) := (S.get h).2.2
structure Only (g : Nat) (w w1 : World) : Prop where
 os : w1.os = w.os
 tape : w1.tape = w.tape
 output : w1.output = w.output
 size : w1.heap.size = w.heap.size
 block : ∀ k, k ≠ g → w1.heap[k]? = w.heap[k]?
theorem Sep.upd {g t : Nat} {cs cs' : Array Value} (S : Sep w0 w L) (hU : Upd g t cs cs' L L') (ho : Only g w w1) (hc : w1.heap[g]? = some (.cells cs' t (0, 0))) : Sep w0 w1 L' := by
 have hge := (S.get hU.has).2.1
 refine ⟨⟨ho.os.trans S.below.os, ho.tape.trans S.below.tape, ho.output.trans S.below.output, by rw [ho.size]; exact S.below.size, fun k hk => (ho.block k (by omega)).trans (S.below.block k hk)⟩, ?_⟩
 rw [ho.size]
 exact Sat.upd hc ho.block hU S.sat
def cellsOf (w : World) : List Asr → Prop
 | [] => True
 | .box g cs _ :: r => (∀ i, w.cell? ⟨g, i, none⟩ = cs[i]?) ∧ (∀ i, w.frozen? ⟨g, i, none⟩ = false) ∧ cellsOf w r
 | .row _ _ _ _ :: r => cellsOf w r
 | .made _ _ _ :: r => cellsOf w r
theorem Sat.cells : ∀ {L : List Asr} {A : Nat → Prop}, Sat w b L A → cellsOf w L
 | [], _, _ => trivial
 | .box _ _ _ :: _, _, ⟨_, _, h2, h3⟩ => ⟨fun i => blk_cell h2.2.2 i, fun i => blk_frozen h2.2.2 i, Sat.cells h3⟩
 | .row _ _ _ _ :: r, _, ⟨_, _, _, h3⟩ => Sat.cells (L := r) h3
 | .made _ _ _ :: r, _, ⟨_, _, _, h3⟩ => Sat.cells (L := r) h3
theorem Sep.cells (S : Sep w0 w L) : cellsOf w L := S.sat.cells
def putL : List Value → Nat → List Value → List Value
 | cs, _, [] => cs
 | cs, i, v :: r => putL (cs.set i v) (i + 1) r
theorem setCells_putL (g t : Nat) : ∀ (seg : List Value) (o : Nat) (w : World) (cs : List Value), w.heap[g]? = some (.cells cs.toArray t (0, 0)) → (w.setCells g o seg).heap[g]? = some (.cells (putL cs o seg).toArray t (0, 0))
 | [], _, w, cs, h => h
 | v :: r, o, w, cs, h => by
  have h1 := setCells_putL g t r (o + 1) (w.setCell ⟨g, o, none⟩ v) (cs.set o v) (by simpa using blk_set h o v)
  exact h1
theorem setCells_only (g o : Nat) (seg : List Value) (w : World) : Only g w (w.setCells g o seg) := by
 obtain ⟨s1, s2, s3, s4⟩ := setCells_same g seg o w
 exact ⟨s1, s2, s3, s4, fun k hk => setCells_far _ _ k hk⟩
theorem Sep.out {α : Type} {d : Kd α} {x : α} {cs : List Value} (S : Sep w0 w L) (h : Has (.made d x cs) L) : d.M w w0.heap.size (fun _ => True) x cs := d.M_mono (fun _ _ => trivial) (S.get h)
theorem Sep.outR {α : Type} {d : Kd α} {e : Nat} {v : Value} {xs : List α} (S : Sep w0 w L) (h : Has (.row d e v xs) L) : d.R e w w0.heap.size (fun _ => True) v xs := Kd.R_mono (S.get h) (fun _ _ => trivial)
theorem Sep.node {v3 v4 : Value} {f0 f1 f2 : Int} {f3 : List Int} {f4 : List S37} (S : Sep w0 w (.row (Kd.int .u8) 5 v3 f3 :: .row k37 37 v4 f4 :: L)) : Sep w0 w (.made k37 ⟨f0, f1, f2, f3, f4⟩ [.int .i64 f0, .int .i64 f1, .int .i64 f2, v3, v4] :: L) := by
 obtain ⟨B, F, h1, h2, G, h3, h4, h5⟩ := S
 exact ⟨B, fun k => F k ∨ G k, fun k hk => hk.elim (h1 k) (fun h => (h3 k h).1), k37_mkM w _ _ ⟨f0, f1, f2, f3, f4⟩ (Kd.R_mono h2 (fun _ h => .inl h)) (Kd.R_mono h4 (fun _ h => .inr h)), h5.mono (fun k hk => ⟨hk.1.1, fun h => h.elim hk.1.2 hk.2⟩)⟩
end
section
variable {P : Program} {ops : Array Oper} {rest : List Oper} {o : Oper} {a : Act} {Q : Exit → Act → World → Prop} {w0 W : World} {L L' : List Asr} {Kc : Act → World → Prop}
theorem run_store_box (S : Sep w0 W L) {t : TypeId} {p x : Operand} (ho : o.op = .store t p x) {g i ty : Nat} {cs cs' : List Value} {u : Value} {seg : List Value}
  (hp : a.eval p = .pointer (some ⟨g, i, none⟩)) (hx : a.eval x = u) (hu : u.cells.toList = seg) (ht : (P.info? t).map (·.size) = some seg.length) (h1 : (seg.all (·.oneCell')) = true)
  (hU : Upd g ty cs.toArray cs'.toArray L L') (hfit : Nat.ble (i + seg.length) cs.length = true) (hc : putL cs i seg = cs') :
  ∃ w1, (execOp a.eval o).run P W = .ok .skip w1 ∧ Sep w0 w1 L' := by
 have hb := S.blk hU.has
 have hr := run_store_run (P := P) t u seg hb hu ht (by simpa using Nat.le_of_ble_eq_true hfit) (fun q hq => List.all_eq_true.1 h1 q hq)
 refine ⟨_, ?_, S.upd hU (setCells_only g i seg W) (hc ▸ setCells_putL g ty seg i W cs hb)⟩
 unfold execOp
 simp only [ho, hp, hx, Sem.run_bind, Sem.run_pure, Result.andThen_ok, hr]
theorem sp_store {t : TypeId} {p x : Operand} (ho : o.op = .store t p x) (hN : o.dst = none) (hg : o.guard = none) (S : Sep w0 W L) {g i ty : Nat} {cs cs' : List Value} {u : Value} {seg : List Value}
  (hp : a.eval p = .pointer (some ⟨g, i, none⟩)) (hU : Upd g ty cs.toArray cs'.toArray L L') (hx : a.eval x = u) (hu : u.cells.toList = seg) (ht : (P.info? t).map (·.size) = some seg.length) (h1 : (seg.all (·.oneCell')) = true)
  (hfit : Nat.ble (i + seg.length) cs.length = true) (hc : putL cs i seg = cs') (h : ∀ w1, Sep w0 w1 L' → wpList P ops Q rest a w1) : wpList P ops Q (o :: rest) a W := by
 obtain ⟨w1, hr, S1⟩ := run_store_box (a := a) (P := P) S ho hp hx hu ht h1 hU hfit hc
 refine wpList_plain hg fun K hK => ?_
 unfold Oper.wp
 rw [hr]
 show K (a.put o.dst undef) w1
 rw [hN]
 exact hK _ _ (h _ S1)
theorem sp_store_step {t : TypeId} {p x : Operand} (ho : o.op = .store t p x) (hN : o.dst = none) (hw : Region.wanted o (yielded ops a.tmps) = true) (S : Sep w0 W L) {g i ty : Nat} {cs cs' : List Value} {u : Value} {seg : List Value}
  (hp : a.eval p = .pointer (some ⟨g, i, none⟩)) (hU : Upd g ty cs.toArray cs'.toArray L L') (hx : a.eval x = u) (hu : u.cells.toList = seg) (ht : (P.info? t).map (·.size) = some seg.length) (h1 : (seg.all (·.oneCell')) = true)
  (hfit : Nat.ble (i + seg.length) cs.length = true) (hc : putL cs i seg = cs') (h : ∀ w1, Sep w0 w1 L' → Kc a w1) : if Region.wanted o (yielded ops a.tmps) = true then Oper.wp P o a W Kc Q else Kc (a.put none undef) W := by
 obtain ⟨w1, hr, S1⟩ := run_store_box (a := a) (P := P) S ho hp hx hu ht h1 hU hfit hc
 exact skip_ hw hN hr (h _ S1)
end
def aggB (P : Program) (t : TypeId) : Bool := match P.underlying t with
 | some (.struct _) | some (.array _ _) => true
 | _ => false
def scalB (P : Program) (t : TypeId) : Bool := match P.underlying t with
 | some (.struct _) | some (.array _ _) | none => false
 | some _ => true
theorem run_load_one {P : Program} {w : World} {t : TypeId} {ad : Addr} {v : Value} (hs : scalB P t = true) (hc : w.cell? ad = some v) : (Instr.loadAt t (.pointer (some ad))).run P w = .ok v w := by
 unfold scalB at hs
 cases hu : P.underlying t with
 | none => rw [hu] at hs; cases hs
 | some d =>
  rw [hu] at hs
  have hagg : (isAgg t).run P w = .ok false w := by
   unfold isAgg
   rw [Sem.run_bind, run_underlying hu w]
   cases d <;> simp_all
  simp [Instr.loadAt, Instr.sureAddr, loadVar, Sem.run_bind, hagg, hc]
def LoadIs (P : Program) (L : List Asr) (o : Oper) (a : Act) (v : Value) : Prop := ∀ w0 w, Sep w0 w L → (execOp a.eval o).run P w = .ok (.value v) w
section
variable {P : Program} {ops : Array Oper} {rest : List Oper} {o : Oper} {a a' : Act} {Q : Exit → Act → World → Prop} {w0 W : World} {L L' : List Asr} {Kc : Act → World → Prop}
theorem ldA {t : TypeId} {p : Operand} {g : Nat} {cs : Array Value} (ho : o.op = .load t p) (hp : a.eval p = .pointer (some ⟨g, 0, none⟩)) (hm : Has (.box g cs t) L) (ha : aggB P t = true) (hs : (P.info? t).map (·.size) = some cs.size) : LoadIs P L o a (.agg cs) := by
 intro w0 w S
 unfold aggB at ha
 cases hu : P.underlying t with
 | none => rw [hu] at ha; cases ha
 | some d =>
  have hr := run_loadVar_row w g t t cs (0, 0) d (S.blk hm) hu (by rw [hu] at ha; cases d <;> simp_all) hs
  unfold execOp
  simp only [ho, hp, Instr.loadAt, Instr.sureAddr, Sem.run_bind, Sem.run_pure, Result.andThen_ok, hr]
theorem ldS {t : TypeId} {p : Operand} {g i ty : Nat} {cs : Array Value} {v : Value} (ho : o.op = .load t p) (hp : a.eval p = .pointer (some ⟨g, i, none⟩)) (hm : Has (.box g cs ty) L) (hv : cs[i]? = some v) (hs : scalB P t = true) : LoadIs P L o a v := by
 intro w0 w S
 have hr := run_load_one (P := P) hs ((blk_cell (S.blk hm) i).trans hv)
 unfold execOp
 simp only [ho, hp, Sem.run_bind, Sem.run_pure, Result.andThen_ok, hr]
def LdAt (P : Program) (ops : Array Oper) (L : List Asr) (o : Oper) (a a' : Act) : Prop := Region.wanted o (yielded ops a.tmps) = true ∧ ∃ v, LoadIs P L o a v ∧ a.put o.dst v = a'
def isNew (o : Oper) : Bool := match o.op with
 | .alloc _ | .box _ _ => true
 | _ => false
def isStore (o : Oper) : Bool := match o.op with
 | .store _ _ _ => true
 | _ => false
theorem ldAt1 {t : TypeId} {p : Operand} {g i ty : Nat} {cs : Array Value} {v : Value} (h1 : o.op = .load t p) {q : Value} (h2 : a.eval p = q) (hq : q = .pointer (some ⟨g, i, none⟩)) (hw : Region.wanted o (yielded ops a.tmps) = true) (h3 : Has (.box g cs ty) L) (_h : Nat.beq t ty = false) (h4 : cs[i]? = some v) (h5 : scalB P t = true) (h6 : a.put o.dst v = a') : LdAt P ops L o a a' := ⟨hw, v, ldS h1 (h2.trans hq) h3 h4 h5, h6⟩
theorem ldAtN {t : TypeId} {p : Operand} {g : Nat} {cs : Array Value} (h1 : o.op = .load t p) {q : Value} (h2 : a.eval p = q) (hq : q = .pointer (some ⟨g, 0, none⟩)) (hw : Region.wanted o (yielded ops a.tmps) = true) (h3 : Has (.box g cs t) L) (h4 : aggB P t = true) (h5 : (P.info? t).map (·.size) = some cs.size) (h6 : a.put o.dst (.agg cs) = a') : LdAt P ops L o a a' := ⟨hw, _, ldA h1 (h2.trans hq) h3 h4 h5, h6⟩
theorem wl (h : wpList P ops Q (o :: rest) a W) : wpList P ops Q (o :: rest) a W := h
theorem want0 {o : Oper} {y : Nat → Option Bool} (h : o.guard = none) : Region.wanted o y = true := by unfold Region.wanted; rw [h]
theorem LdAt.run (k : LdAt P ops L o a a') (S : Sep w0 W L) (h : wpList P ops Q rest a' W) : wpList P ops Q (o :: rest) a W := by
 obtain ⟨hw, v, hr, rfl⟩ := k
 refine wpList_step fun K hK => ?_
 rw [if_pos hw]
 unfold Oper.wp
 rw [hr _ _ S]
 exact hK _ _ h
theorem sl (S : Sep w0 W L) (h : wpList P ops Q rest a' W)
    (k : LdAt P ops L o a a' := by
      apply ldAt1
      case h1 => with_reducible rfl
      case h2 => go_simp; with_reducible rfl
      case hq => with_reducible rfl
      case hw => first | exact want0 rfl | rfl
      case h3 => repeat (first | exact Has.here | apply Has.there)
      case _h => rfl
      case h4 => rfl
      case h5 => kernel_rfl
      case h6 => simp only [Act.put, List.setIfInBounds_toArray, List.set_cons_zero, List.set_cons_succ]; rfl) : wpList P ops Q (o :: rest) a W := k.run S h
theorem sa (S : Sep w0 W L) (h : wpList P ops Q rest a' W)
    (k : LdAt P ops L o a a' := by
      apply ldAtN
      case h1 => with_reducible rfl
      case h2 => go_simp; with_reducible rfl
      case hq => with_reducible rfl
      case hw => first | exact want0 rfl | rfl
      case h3 => repeat (first | exact Has.here | apply Has.there)
      case h4 => kernel_rfl
      case h5 => kernel_rfl
      case h6 => simp only [Act.put, List.setIfInBounds_toArray, List.set_cons_zero, List.set_cons_succ]; rfl) : wpList P ops Q (o :: rest) a W := k.run S h
def NwAt (P : Program) (W : World) (o : Oper) (a : Act) (cs : Array Value) (t : TypeId) (f : Nat → Act) : Prop :=
 (execOp a.eval o).run P W = .ok (.value (.pointer (some ⟨W.heap.size, 0, none⟩))) (W.alloc (.cells cs t (0, 0))) ∧ ∀ g, a.put o.dst (.pointer (some ⟨g, 0, none⟩)) = f g
theorem sn (S : Sep w0 W L) {cs : Array Value} {t : TypeId} {f : Nat → Act} (h : ∀ g w1, Sep w0 w1 (.box g cs t :: L) → wpList P ops Q rest (f g) w1) (_ : isNew o = true := by rfl) (hg : o.guard = none := by rfl)
    (k : NwAt P W o a cs t f := by
      refine ⟨?_, fun g => ?_⟩
      · first | (go_simp; done) | (go_simp; rfl)
      · simp only [Act.put, List.setIfInBounds_toArray, List.set_cons_zero, List.set_cons_succ]; rfl) : wpList P ops Q (o :: rest) a W := by
  obtain ⟨hr, hf⟩ := k
  refine Kd.event_run hg hr ?_
  rw [hf]
  exact h _ _ (S.new cs t)
def StAt (P : Program) (o : Oper) (a : Act) (L L' : List Asr) : Prop := ∃ (t : TypeId) (p x : Operand) (g i ty : Nat) (cs cs' : List Value) (u : Value) (seg : List Value),
 o.op = .store t p x ∧ o.dst = none ∧ a.eval p = .pointer (some ⟨g, i, none⟩) ∧ Upd g ty cs.toArray cs'.toArray L L' ∧ a.eval x = u ∧ u.cells.toList = seg ∧ (P.info? t).map (·.size) = some seg.length ∧ (seg.all (·.oneCell')) = true ∧ Nat.ble (i + seg.length) cs.length = true ∧ putL cs i seg = cs'
theorem stAt {t : TypeId} {p x : Operand} {g i ty : Nat} {cs cs' : List Value} {seg : List Value} (h1 : o.op = .store t p x) (h2 : o.dst = none) (h3 : a.eval p = .pointer (some ⟨g, i, none⟩)) (h4 : Upd g ty cs.toArray cs'.toArray L L') {u : Value} (h5 : a.eval x = u) (h6 : u.cells.toList = seg)
  (h7 : (P.info? t).map (·.size) = some seg.length) (h8 : (seg.all (·.oneCell')) = true) (h9 : Nat.ble (i + seg.length) cs.length = true) (h10 : putL cs i seg = cs') : StAt P o a L L' := ⟨t, p, x, g, i, ty, cs, cs', u, seg, h1, h2, h3, h4, h5, h6, h7, h8, h9, h10⟩
theorem ss (S : Sep w0 W L) (h : ∀ w1, Sep w0 w1 L' → wpList P ops Q rest a w1) (_ : isStore o = true := by rfl) (hg : o.guard = none := by rfl)
    (k : StAt P o a L L' := by
      apply stAt
      case h1 => rfl
      case h2 => rfl
      case h3 => rfl
      case h4 => repeat (first | exact Upd.here | apply Upd.there)
      case h5 => go_simp; with_reducible rfl
      case h6 => first | exact (rfl : _ = [_]) | exact (rfl : _ = [_, _, _, _, _]) | exact (rfl : _ = [_, _, _]) | exact (rfl : _ = [_, _, _, _, _, _, _, _]) | exact (rfl : _ = [_, _, _, _, _, _, _, _, _, _])
      case h7 => kernel_rfl
      case h8 => rfl
      case h9 => rfl
      case h10 => simp only [putL, List.set_cons_zero, List.set_cons_succ]; rfl) : wpList P ops Q (o :: rest) a W := by
  obtain ⟨t, p, x, g, i, ty, cs, cs', u, seg, h1, h2, h3, h4, h5, h6, h7, h8, h9, h10⟩ := k
  exact sp_store h1 h2 hg S h3 h4 h5 h6 h7 h8 h9 h10 h
end
inductive RVs (P : Program) (L : List Asr) (tmps : Array Value) : List ResultVar → List Value → Prop
 | nil : RVs P L tmps [] []
 | tmp {u : Tmp} {v : Value} {rs : List ResultVar} {vs : List Value} (h1 : tmps.getD u undef = v) (h : RVs P L tmps rs vs) : RVs P L tmps (.tmp u :: rs) (v :: vs)
 | cell {p : Tmp} {ty g : Nat} {cs : Array Value} {rs : List ResultVar} {vs : List Value} (h1 : tmps.getD p undef = .pointer (some ⟨g, 0, none⟩)) (h2 : Has (.box g cs ty) L) (h3 : aggB P ty = true) (h4 : (P.info? ty).map (·.size) = some cs.size) (h : RVs P L tmps rs vs) : RVs P L tmps (.cell p ty :: rs) (.agg cs :: vs)
theorem RVs.vals {P : Program} {L : List Asr} {tmps : Array Value} {w0 w : World} (S : Sep w0 w L) {rs : List ResultVar} {vs : List Value} (h : RVs P L tmps rs vs) : Vals P tmps w rs vs := by
 induction h with
 | nil => exact .nil
 | tmp h1 _ ih => subst h1; exact .tmp ih
 | @cell p ty g cs rs vs h1 h2 h3 h4 _ ih =>
  unfold aggB at h3
  cases hu : P.underlying ty with
  | none => rw [hu] at h3; cases h3
  | some d => exact .cell g ty cs (0, 0) d h1 (S.blk h2) hu (by rw [hu] at h3; cases d <;> simp_all) h4 ih
def RetAt (P : Program) (L : List Asr) (fn : Func) (a : Act) (v : Value) : Prop := a.defers = [] ∧ ∃ rs vs, fn.results = List.toArray rs ∧ RVs P L a.tmps rs vs ∧ v = (if vs.length = 1 then vs.getD 0 undef else .tuple vs.toArray)
theorem retAt1 {P : Program} {L : List Asr} {fn : Func} {a : Act} {v : Value} {r : ResultVar} (h1 : a.defers = []) (h2 : fn.results = #[r]) (h3 : RVs P L a.tmps [r] [v]) : RetAt P L fn a v := ⟨h1, _, _, h2, h3, rfl⟩
theorem retAtN {P : Program} {L : List Asr} {fn : Func} {a : Act} {rs : List ResultVar} {vs : List Value} (h1 : a.defers = []) (h2 : fn.results = rs.toArray) (h3 : RVs P L a.tmps rs vs) (h4 : vs.length ≠ 1) : RetAt P L fn a (.tuple vs.toArray) := ⟨h1, _, _, h2, h3, by rw [if_neg h4]⟩
theorem RetAt.run {P : Program} {L : List Asr} {fn : Func} {a : Act} {v : Value} {w0 w : World} (h : RetAt P L fn a v) (S : Sep w0 w L) : (results fn a.tmps).run P w = .ok v w := by
 obtain ⟨_, rs, vs, h2, h3, rfl⟩ := h
 by_cases hl : vs.length = 1
 ·rw [if_pos hl]
  match vs, hl with
  | [v], _ =>
   cases h3 with
   | tmp h1 h => cases h; exact results_single (r := .tmp _) h2 (RVs.vals S (.tmp h1 .nil))
   | cell h1 h4 h5 h6 h => cases h; exact results_single (r := .cell _ _) h2 (RVs.vals S (.cell h1 h4 h5 h6 .nil))
 ·rw [if_neg hl]
  exact results_list h2 hl (h3.vals S)
theorem rt {P : Program} {fn : Func} {R : Ending → World → Prop} {a : Act} {w0 w : World} {L : List Asr} {v : Value} (S : Sep w0 w L) (h : R (.returned v) w)
    (k : RetAt P L fn a v := by
      first
        | (apply retAt1
           case h1 => rfl
           case h2 => rfl
           case h3 =>
            first
              | (apply RVs.cell
                 case h1 => rfl
                 case h2 => repeat (first | exact Has.here | apply Has.there)
                 case h3 => kernel_rfl
                 case h4 => kernel_rfl
                 case h => exact RVs.nil)
              | (apply RVs.tmp
                 case h1 => rfl
                 case h => exact RVs.nil))
        | (apply retAtN
           case h1 => rfl
           case h2 => rfl
           case h3 =>
            repeat' (first
              | exact RVs.nil
              | (apply RVs.cell
                 case h1 => rfl
                 case h2 => repeat (first | exact Has.here | apply Has.there)
                 case h3 => kernel_rfl
                 case h4 => kernel_rfl)
              | (apply RVs.tmp
                 case h1 => rfl))
           case h4 => simp)) : bodyPost P fn R .ret a w := ⟨k.1, v, k.run S, h⟩
section
variable {P : Program} {ops : Array Oper} {rest : List Oper} {o : Oper} {a : Act} {Q : Exit → Act → World → Prop} {w0 W w1 : World} {L : List Asr} {Kc : Act → World → Prop} {α : Type} {d : Kd α} {e : Nat} {v v1 : Value} {xs ys : List α} {p : α} {cs : List Value}
theorem Sep.one (S : Sep w0 W L) (enc : α → Value) (h1 : ∀ x, (enc x).oneCell' = true) (x : α) : Sep w0 W (.made (Kd.scalar enc h1) x [enc x] :: L) :=
 ⟨S.below, Sat.cons (F := fun _ => False) S.sat (show [enc x] = [enc x] from rfl) (fun _ h => h.elim) (fun k hk => ⟨hk, fun h => h⟩)⟩
theorem Sep.appended {ok F G : Nat → Prop} {A : Nat → Prop} (hb : Below w0.heap.size w0 W) (hF : ∀ k, F k → k < W.heap.size) (hv : ∀ k, v.ownBlock = some k → F k) (hG : ∀ k, G k → k < W.heap.size ∧ ¬ F k)
  (hL : Sat W w0.heap.size L (fun k => (k < W.heap.size ∧ ¬ F k) ∧ ¬ G k)) (hR : d.R e w1 w0.heap.size (fun k => F k ∨ G k ∨ W.heap.size ≤ k) v1 ys) (hB : Below w0.heap.size w0 w1) (hg : W.grownBy w1 v.ownBlock) : Sep w0 w1 (.row d e v1 ys :: L) := by
 refine ⟨hB, Sat.cons (hL.step (fun k hk hlt => hg.block k hlt (fun e => hk.1.2 (hv k e.symm)))) (Asr.holds.bound (a := .row d e v1 ys) hR) (fun k hk => hk.2.2) (fun k hk => ⟨Nat.lt_of_lt_of_le hk.1.1 hg.size, fun h => ?_⟩)⟩
 rcases h.1 with h | h | h
 ·exact hk.1.2 h
 ·exact hk.2 h
 ·have := hk.1.1
  omega
theorem sp_append (S : Sep w0 W (.row d e v xs :: .made d p cs :: L)) (hgd : o.guard = none) {s x : Operand} {t : TypeId} {z : Value} {bytes : Nat}
  (ho : o.op = .call { callee := .builtin .append, args := #[s, x], argTypes := #[t, t] })
  (ht : P.underlying t = some (.slice e)) (hinfo : (P.info? e).map (fun i => (i.zero, i.size, i.bytes)) = some (some z, d.sz, bytes)) (hz : z.cells.size = d.sz) (hs0 : 0 < d.sz) (hb0 : 0 < bytes)
  (hs : a.eval s = v) (hx : a.eval x = .slice (some ⟨W.heap.size, 0, none⟩) 1 1) (hl : (xs.length + 1) * bytes ≤ 140737488355328)
  (h : ∀ v1 w1, Sep w0 w1 (.row d e v1 (xs ++ [p]) :: L) → wpList P ops Q rest (a.put o.dst v1) w1) : wpList P ops Q (o :: rest) a (W.alloc (.cells cs.toArray e)) := by
 obtain ⟨B, F, h1, h2, G, h3, h4, h5⟩ := S
 refine Kd.R_append d (w0 := w0) w0.heap.size hgd s x t e z bytes ho ht hinfo hz hs0 hb0 v xs p cs (fun k => F k ∨ G k ∨ W.heap.size ≤ k) G hs hx h4 (fun k hk => ⟨.inr (.inl hk), fun he => (h3 k hk).2 (h2.1 k he.symm)⟩) (fun k hk => .inr (.inr hk)) (Kd.R_mono h2 (fun k hk => .inl hk)) B B.size hl ?_
 intro v1 w1 hr hb hg _
 exact h v1 w1 (Sep.appended (ok := fun _ => True) (A := fun _ => True) B h1 h2.1 h3 h5 hr hb hg)
end
def Kp (L : List Asr) (ks : List Nat) (w : World) : Prop := ∀ k ∈ ks, ∀ g cs t, L[k]? = some (.box g cs t) → w.heap[g]? = some (.cells cs t (0, 0))
theorem hasAt {a : Asr} : ∀ {L : List Asr} {k : Nat}, L[k]? = some a → Has a L
 | [], _, e => by simp at e
 | x :: r, 0, e => by
  obtain rfl : x = a := by simpa using e
  exact .here
 | x :: r, k + 1, e => .there (hasAt (k := k) (by simpa using e))
theorem Sep.kp {w0 w : World} {L L' : List Asr} {ks : List Nat} (S : Sep w0 w L') (h : ∀ k ∈ ks, L'[k]? = L[k]?) : Kp L ks w := fun k hk g cs t e => S.blk (hasAt ((h k hk).trans e))
inductive At (a : Asr) : List Asr → Nat → Prop
 | here {r : List Asr} : At a (a :: r) 0
 | there {x : Asr} {r : List Asr} {k : Nat} (h : At a r k) : At a (x :: r) (k + 1)
theorem At.get {a : Asr} {L : List Asr} {k : Nat} (h : At a L k) : L[k]? = some a := by
 induction h with
 | here => rfl
 | there _ ih => simpa using ih
section
variable {P : Program} {md : Region.Mode} {ops : Array Oper} {Q : Exit → Act → World → Prop} {w0 W w : World} {L L' : List Asr} {ks : List Nat}
theorem rs (ks : List Nat) (S : Sep w0 W L) {id n : Nat} {l : Array Bool} {a : Act} (h : ∀ w1, Sep w0 w1 L → wpAnyLast P .any ops Q (Kp L ks) [] n l a w1)
  (h1 : P.follows .mixedOrders = true := by kernel_rfl) (h2 : ops.size = n := by simp only [List.size_toArray, List.length_cons, List.length_nil, Nat.reduceAdd]; rfl)
  (h3 : Array.replicate n false = l := by simp only [Array.replicate_succ, Array.replicate_zero, List.push_toArray, List.nil_append, List.cons_append]; rfl) : (Code.region id ops true).wp P Q a W :=
 start_ (S := Kp L ks) l h1 h2 h3 (S.drew.kp (fun _ _ => rfl)) (fun _ => h _ S.drew)
theorem run_kp {oi : Oper} {a : Act} {t : TypeId} {p : Operand} {g i ty k : Nat} {cs : Array Value} {v : Value} (h1 : oi.op = .load t p) (h2 : a.eval p = .pointer (some ⟨g, i, none⟩)) (h3 : At (.box g cs ty) L k) (h4 : k ∈ ks) (h5 : cs[i]? = some v) (h6 : scalB P t = true) : ∀ w, Kp L ks w → (execOp a.eval oi).run P w = .ok (.value v) w := by
 intro w hw
 have hr := run_load_one (P := P) h6 ((blk_cell (hw k h4 g cs ty h3.get) i).trans h5)
 unfold execOp
 simp only [h1, h2, Sem.run_bind, Sem.run_pure, Result.andThen_ok, hr]
theorem run_kpA {oi : Oper} {a : Act} {t : TypeId} {p : Operand} {g k : Nat} {cs : Array Value} (h1 : oi.op = .load t p) (h2 : a.eval p = .pointer (some ⟨g, 0, none⟩)) (h3 : At (.box g cs t) L k) (h4 : k ∈ ks) (h5 : aggB P t = true) (h6 : (P.info? t).map (·.size) = some cs.size) : ∀ w, Kp L ks w → (execOp a.eval oi).run P w = .ok (.value (.agg cs)) w := by
 intro w hw
 unfold aggB at h5
 cases hu : P.underlying t with
 | none => rw [hu] at h5; cases h5
 | some d =>
  have hr := run_loadVar_row w g t t cs (0, 0) d (hw k h4 g cs t h3.get) hu (by rw [hu] at h5; cases d <;> simp_all) h6
  unfold execOp
  simp only [h1, h2, Instr.loadAt, Instr.sureAddr, Sem.run_bind, Sem.run_pure, Result.andThen_ok, hr]
def LtAt (P : Program) (md : Region.Mode) (ops : Array Oper) (Q : Exit → Act → World → Prop) (L : List Asr) (ks : List Nat) (i : Nat) (l l' : Array Bool) (a a' : Act) : Prop :=
 ∃ oi v, ops[i]? = some oi ∧ l.setIfInBounds i true = l' ∧ takeB md ops [] l l' i = true ∧ oi.guard = none ∧ (∀ w, Kp L ks w → (execOp a.eval oi).run P w = .ok (.value v) w) ∧ a.put oi.dst v = a' ∧ (∀ c v a w, Q (.panic c) (a.put oi.dst v) w → Q (.panic c) a w)
theorem ltAt1 {oi : Oper} {i : Nat} {l l' : Array Bool} {a a' : Act} {t : TypeId} {p : Operand} {g j ty k : Nat} {cs : Array Value} {v q : Value} (h1 : ops[i]? = some oi) (h2 : l.setIfInBounds i true = l') (h3 : takeB md ops [] l l' i = true) (hw : oi.guard = none) (h4 : oi.op = .load t p) (h5 : a.eval p = q) (hq : q = .pointer (some ⟨g, j, none⟩)) (h6 : At (.box g cs ty) L k) (h7 : k ∈ ks) (_h : Nat.beq t ty = false) (h8 : cs[j]? = some v) (h9 : scalB P t = true) (ha : a.put oi.dst v = a') (hp : ∀ c v a w, Q (.panic c) (a.put oi.dst v) w → Q (.panic c) a w) : LtAt P md ops Q L ks i l l' a a' := ⟨oi, v, h1, h2, h3, hw, run_kp h4 (h5.trans hq) h6 h7 h8 h9, ha, hp⟩
theorem ltAtN {oi : Oper} {i : Nat} {l l' : Array Bool} {a a' : Act} {t : TypeId} {p : Operand} {g k : Nat} {cs : Array Value} {q : Value} (h1 : ops[i]? = some oi) (h2 : l.setIfInBounds i true = l') (h3 : takeB md ops [] l l' i = true) (hw : oi.guard = none) (h4 : oi.op = .load t p) (h5 : a.eval p = q) (hq : q = .pointer (some ⟨g, 0, none⟩)) (h6 : At (.box g cs t) L k) (h7 : k ∈ ks) (h8 : aggB P t = true) (h9 : (P.info? t).map (·.size) = some cs.size) (ha : a.put oi.dst (.agg cs) = a') (hp : ∀ c v a w, Q (.panic c) (a.put oi.dst v) w → Q (.panic c) a w) : LtAt P md ops Q L ks i l l' a a' := ⟨oi, _, h1, h2, h3, hw, run_kpA h4 (h5.trans hq) h6 h7 h8 h9, ha, hp⟩
theorem LtAt.run {i : Nat} {l l' : Array Bool} {a a' : Act} {fuel : Nat} (k : LtAt P md ops Q L ks i l l' a a') (S : Kp L ks w) (h : wpAnyLast P md ops Q (Kp L ks) [] fuel l' a' w) : wpAnyLast P md ops Q (Kp L ks) [] (fuel + 1) l a w := by
 obtain ⟨oi, v, h1, h2, h3, hw, hr, ha, h5⟩ := k
 exact take_ l' h1 rfl h3 (fun c a w => h5 c v a w) (.inl ⟨want0 hw, fun w' s => hr _ s⟩) S ha h
theorem lt (i : Nat) (S : Sep w0 w L') {l l' : Array Bool} {a a' : Act} {fuel : Nat} (h : wpAnyLast P md ops Q (Kp L ks) [] fuel l' a' w)
    (hk : ∀ k ∈ ks, L'[k]? = L[k]? := by repeat (first | exact List.forall_mem_nil _ | refine List.forall_mem_cons.2 ⟨rfl, ?_⟩))
    (k : LtAt P md ops Q L ks i l l' a a' := by
      first
        | (apply ltAt1
           case h1 => simp only [List.getElem?_toArray, List.getElem?_cons_zero, List.getElem?_cons_succ]; rfl
           case h2 => simp only [List.setIfInBounds_toArray, List.set_cons_zero, List.set_cons_succ]; rfl
           case h3 => kernel_rfl
           case hw => rfl
           case h4 => with_reducible rfl
           case h5 => go_simp; with_reducible rfl
           case hq => with_reducible rfl
           case h6 => repeat (first | exact At.here | apply At.there)
           case h7 => decide
           case _h => rfl
           case h8 => rfl
           case h9 => kernel_rfl
           case ha => simp only [Act.put, List.setIfInBounds_toArray, List.set_cons_zero, List.set_cons_succ]; rfl
           case hp => exact fun _ _ _ _ h => h)
        | (apply ltAtN
           case h1 => simp only [List.getElem?_toArray, List.getElem?_cons_zero, List.getElem?_cons_succ]; rfl
           case h2 => simp only [List.setIfInBounds_toArray, List.set_cons_zero, List.set_cons_succ]; rfl
           case h3 => kernel_rfl
           case hw => rfl
           case h4 => with_reducible rfl
           case h5 => go_simp; with_reducible rfl
           case hq => with_reducible rfl
           case h6 => repeat (first | exact At.here | apply At.there)
           case h7 => decide
           case h8 => kernel_rfl
           case h9 => kernel_rfl
           case ha => simp only [Act.put, List.setIfInBounds_toArray, List.set_cons_zero, List.set_cons_succ]; rfl
           case hp => exact fun _ _ _ _ h => h)) : wpAnyLast P md ops Q (Kp L ks) [] (fuel + 1) l a w := k.run (S.kp hk) h
def LsAt (P : Program) (md : Region.Mode) (ops : Array Oper) (L L' : List Asr) (i : Nat) (l l' : Array Bool) (a : Act) : Prop :=
 ∃ oi, ops[i]? = some oi ∧ l.setIfInBounds i true = l' ∧ readyB md ops l l' i = true ∧ oi.guard = none ∧ StAt P oi a L L'
theorem lsAt {oi : Oper} {i : Nat} {l l' : Array Bool} {a : Act} (h1 : ops[i]? = some oi) (h2 : l.setIfInBounds i true = l') (h3 : readyB md ops l l' i = true) (h5 : oi.guard = none) (h6 : StAt P oi a L L') : LsAt P md ops L L' i l l' a := ⟨oi, h1, h2, h3, h5, h6⟩
theorem LsAt.run {L0 : List Asr} {i : Nat} {l l' : Array Bool} {a : Act} {fuel : Nat} (k : LsAt P md ops L L' i l l' a) (S : Sep w0 w L) (hk : ∀ k ∈ ks, L'[k]? = L0[k]?) (h : ∀ w1, Sep w0 w1 L' → wpAnyLast P md ops Q (Kp L0 ks) [] fuel l' a w1) : wpAnyLast P md ops Q (Kp L0 ks) [] (fuel + 1) l a w := by
 obtain ⟨oi, h1, h2, h3, h5, t, p, x, g, i', ty, cs, cs', u, seg, e1, e2, e3, e4, e5, e6, e7, e8, e9, e10⟩ := k
 exact one_ l' h1 e2 h3 (by simp) (fun K hK => sp_store_step e1 e2 (want0 h5) S e3 e4 e5 e6 e7 e8 e9 e10 (fun w1 S1 => hK.out _ _ (S1.kp hk) (fun _ => h w1 S1)))
theorem ls (i : Nat) (S : Sep w0 w L) {L0 : List Asr} {l l' : Array Bool} {a : Act} {fuel : Nat} (h : ∀ w1, Sep w0 w1 L' → wpAnyLast P md ops Q (Kp L0 ks) [] fuel l' a w1)
    (k : LsAt P md ops L L' i l l' a := by
      apply lsAt
      case h1 => simp only [List.getElem?_toArray, List.getElem?_cons_zero, List.getElem?_cons_succ]; rfl
      case h2 => simp only [List.setIfInBounds_toArray, List.set_cons_zero, List.set_cons_succ]; rfl
      case h3 => kernel_rfl
      case h5 => rfl
      case h6 =>
        apply stAt
        case h1 => rfl
        case h2 => rfl
        case h3 => rfl
        case h4 => repeat (first | exact Upd.here | apply Upd.there)
        case h5 => go_simp; with_reducible rfl
        case h6 => first | exact (rfl : _ = [_]) | exact (rfl : _ = [_, _, _, _, _]) | exact (rfl : _ = [_, _, _]) | exact (rfl : _ = [_, _, _, _, _, _, _, _]) | exact (rfl : _ = [_, _, _, _, _, _, _, _, _, _])
        case h7 => kernel_rfl
        case h8 => rfl
        case h9 => rfl
        case h10 => simp only [putL, List.set_cons_zero, List.set_cons_succ]; rfl)
    (hk : ∀ k ∈ ks, L'[k]? = L0[k]? := by repeat (first | exact List.forall_mem_nil _ | refine List.forall_mem_cons.2 ⟨rfl, ?_⟩)) : wpAnyLast P md ops Q (Kp L0 ks) [] (fuel + 1) l a w := k.run S hk h
theorem dn {Sp : World → Prop} {ds : List Nat} {l : Array Bool} {a : Act} {n : Nat} (h : Q .normal a w) (hr : (Region.ready md ops l == []) = true := by kernel_rfl) : wpAnyLast P md ops Q Sp ds n l a w := done_ hr h
end
end Go.Proofs.YtidglmocekghmaaDoor.Pr
end
section
namespace Go.Proofs.YtidglmocekghmaaDoor.Pr
open Go.RowKit Go.Proofs.YtidglmocekghmaaDoorW.PrintWords Go.Proofs.YtidglmocekghmaaDoorW.PrintLast Go.Proofs.YtidglmocekghmaaDoorW.PrintMore
set_option linter.unusedVariables false
set_option linter.unusedSimpArgs false
theorem ret_k {k : IntKind} {a b : Int} (h : a = b) : Ending.returned (.int k a) = .returned (.int k b) := by rw [h]
def p2 (k : Nat) : Int := ((2 ^ k : Nat) : Int)
theorem p2_succ (k : Nat) : p2 (k + 1) = p2 k * 2 := by unfold p2; rw [Nat.pow_succ]; omega
theorem p2_add (a k : Nat) : p2 (a + k) = p2 a * p2 k := by unfold p2; rw [Nat.pow_add]; exact Int.natCast_mul ..
theorem p2_pos (k : Nat) : 0 < p2 k := by unfold p2; have := Nat.two_pow_pos k; omega
theorem p2_le {k m : Nat} (h : k ≤ m) : p2 k ≤ p2 m := by unfold p2; have := Nat.pow_le_pow_right (n := 2) (by omega) h; omega
theorem p2_63 : p2 63 = 9223372036854775808 := rfl
theorem emod_mul2 (x m : Int) (h : 0 < m) : x % (m * 2) = x % m + x / m % 2 * m := by
 have h1 := Int.mul_ediv_add_emod x m
 have h2 := Int.mul_ediv_add_emod (x / m) 2
 have h3 := Int.emod_nonneg x (Int.ne_of_gt h)
 have h4 := Int.emod_lt_of_pos x h
 have h5 := Int.emod_two_eq (x / m)
 have e : x = (x % m + x / m % 2 * m) + (m * 2) * (x / m / 2) := by
  have : m * (x / m) = m * (2 * (x / m / 2) + x / m % 2) := by rw [h2]
  rw [Int.mul_add] at this
  have e2 : m * (2 * (x / m / 2)) = m * 2 * (x / m / 2) := by rw [Int.mul_assoc]
  have e3 : m * (x / m % 2) = x / m % 2 * m := Int.mul_comm _ _
  omega
 conv => lhs; rw [e]
 rw [Int.add_mul_emod_self_left]
 apply Int.emod_eq_of_lt
 ·rcases h5 with h5 | h5 <;> rw [h5] <;> omega
 ·rcases h5 with h5 | h5 <;> rw [h5] <;> omega
def fld (w : Int) (a n : Nat) : Int := w / p2 a % p2 n
theorem fld_succ (w : Int) (a k : Nat) : fld w a (k + 1) = fld w a k + w / p2 (a + k) % 2 * p2 k := by
 unfold fld
 rw [p2_succ, p2_add, ← Int.ediv_ediv_of_nonneg (Int.le_of_lt (p2_pos a))]
 exact emod_mul2 _ _ (p2_pos k)
theorem fld_bd (w : Int) (a n : Nat) : 0 ≤ fld w a n ∧ fld w a n < p2 n := ⟨Int.emod_nonneg _ (Int.ne_of_gt (p2_pos n)), Int.emod_lt_of_pos _ (p2_pos n)⟩
theorem pow_at (n : Nat) (w : World) (hn : n ≤ 63) : Calls Tryd.prog 80 #[.int .i64 n] w fun e w' => e = .returned (.int .u64 (p2 n)) ∧ w' = w := by
 go_enter Tryd.func80, Tryd.ntmps80
 go_wp2
 go_loop [3, 4] (fun v i => ∃ k : Nat, k ≤ n ∧ i = .int .i64 k ∧ v = .int .u64 (p2 k)) (fun _ i => n - (intOf i).toNat)
 case atStart => exact ⟨0, Nat.zero_le _, rfl, rfl⟩
 case round =>
  obtain ⟨k, hk, rfl, rfl⟩ := hrel
  by_cases hlt : k < n
  ·have h1 := p2_pos k
   have h2 := p2_le (k := k + 1) (m := 63) (by omega)
   have h3 := Lib.hid (p2_succ k)
   rw [p2_succ, p2_63] at h2
   go_wp2
   go_round
   case rel => exact ⟨k + 1, by omega, by go_num, by rw [h3.out]⟩
   case measure => simp [intOf]; omega
  ·obtain rfl : k = n := by omega
   go_wp2
   go_ret
   exact ⟨rfl, rfl⟩
theorem pow_i (i : Int) (n : Nat) (w : World) (h : i = n) (hn : n ≤ 63) : Calls Tryd.prog 80 #[.int .i64 i] w fun e w' => e = .returned (.int .u64 (p2 n)) ∧ w' = w := h ▸ pow_at n w hn
set_option maxRecDepth 100000 in
theorem field_at (x : Int) (a n : Nat) (w : World) (h0 : 0 ≤ x) (h1 : x < 18446744073709551616) (hn : a + n ≤ 64) : Calls Tryd.prog 64 #[.int .u64 x, .int .i64 a, .int .i64 n] w fun e w' => e = .returned (.int .u64 (fld x a n)) ∧ w' = w := by
  go_enter Tryd.func64, Tryd.ntmps64
  go_wp2
  go_loop [7, 8] (fun v i => ∃ k : Nat, k ≤ n ∧ i = .int .i64 k ∧ v = .int .u64 (fld x a k)) (fun _ i => n - (intOf i).toNat)
  case atStart => exact ⟨0, Nat.zero_le _, rfl, by simp [fld, p2, Int.emod_one]⟩
  case round =>
    obtain ⟨k, hk, rfl, rfl⟩ := hrel
    by_cases hlt : k < n
    · have hp := p2_pos (a + k)
      have hq := p2_pos k
      have hf := fld_bd x a k
      have hl := p2_le (k := k) (m := 63) (by omega)
      rw [p2_63] at hl
      obtain ⟨hf0, hf1⟩ := hf
      have h3 := Lib.hid (fld_succ x a k)
      have c1 : p2 (a + k) ≠ 0 := Int.ne_of_gt hp
      have d0 : 0 ≤ x / p2 (a + k) := Int.ediv_nonneg h0 (Int.le_of_lt hp)
      by_cases hb : x / p2 (a + k) % 2 = 1
      · have hb1 : (x / p2 (a + k) % 2 == 1) = true := beq_iff_eq.2 hb
        have HB := Lib.hid hb
        clear hb
        go_wp2_with (first | ((with_reducible refine (pow_i _ (a + k) _ (by omega) (by omega)).mono ?_); rintro e w' ⟨rfl, rfl⟩) | ((with_reducible refine (pow_i _ k _ (by omega) (by omega)).mono ?_); rintro e w' ⟨rfl, rfl⟩))
        go_round
        case rel => exact ⟨k + 1, by omega, by go_num, by rw [h3.out, HB.out, Int.one_mul]⟩
        case measure => simp [intOf]; omega
      · have hb1 : (x / p2 (a + k) % 2 == 1) = false := beq_eq_false_iff_ne.2 hb
        have HB : Hid (x / p2 (a + k) % 2 = 0) := Lib.hid (by omega)
        clear hb
        go_wp2_with ((with_reducible refine (pow_i _ (a + k) _ (by omega) (by omega)).mono ?_); rintro e w' ⟨rfl, rfl⟩)
        go_round
        case rel => exact ⟨k + 1, by omega, by go_num, by rw [h3.out, HB.out, Int.zero_mul, Int.add_zero]⟩
        case measure => simp [intOf]; omega
    · obtain rfl : k = n := by omega
      go_wp2
      go_ret
      exact ⟨rfl, rfl⟩
theorem field_i (x i j : Int) (a n : Nat) (w : World) (h0 : 0 ≤ x) (h1 : x < 18446744073709551616) (hi : i = a) (hj : j = n) (hn : a + n ≤ 64) : Calls Tryd.prog 64 #[.int .u64 x, .int .i64 i, .int .i64 j] w fun e w' => e = .returned (.int .u64 (fld x a n)) ∧ w' = w := hi ▸ hj ▸ field_at x a n w h0 h1 hn
theorem signed_at (x : Int) (w : World) (h0 : 0 ≤ x) (h1 : x < 18446744073709551616) : Calls Tryd.prog 63 #[.int .u64 x, .int .i64 2, .int .i64 30] w fun e w' => e = .returned (.int .i64 (offW x)) ∧ w' = w := by
  have e1 : fld x 2 30 = x / 4 % 1073741824 := rfl
  have hb := fld_bd x 2 30
  have H : Hid (offW x = if fld x 2 30 < 536870912 then fld x 2 30 else fld x 2 30 - 1073741824) := Lib.hid (by unfold offW; rw [e1])
  have hp : p2 29 = 536870912 := rfl
  have hq : p2 30 = 1073741824 := rfl
  rw [hq] at hb
  obtain ⟨b0, b1⟩ := hb
  rw [H.out]
  clear hq e1
  have HF := Lib.hid (field_i x 2 30 2 30 w h0 h1 rfl rfl (by omega))
  have HP := Lib.hid hp
  clear hp h0 h1
  generalize fld x 2 30 = f at *
  by_cases hf : f < 536870912
  · rw [if_pos hf]
    go_enter Tryd.func63, Tryd.ntmps63
    go_wp2_with (first | ((with_reducible refine HF.out.mono ?_); rintro e w' ⟨rfl, rfl⟩) | ((with_reducible refine (pow_i _ 29 _ (by omega) (by omega)).mono ?_); rw [HP.out]; rintro e w' ⟨rfl, rfl⟩))
    go_ret
    exact ⟨rfl, rfl⟩
  · rw [if_neg hf]
    go_enter Tryd.func63, Tryd.ntmps63
    go_wp2_with (first | ((with_reducible refine HF.out.mono ?_); rintro e w' ⟨rfl, rfl⟩) | ((with_reducible refine (pow_i _ 29 _ (by omega) (by omega)).mono ?_); rw [HP.out]; rintro e w' ⟨rfl, rfl⟩))
    go_ret
    exact ⟨ret_k (by omega), rfl⟩
end Go.Proofs.YtidglmocekghmaaDoor.Pr
end
section
namespace Go.Proofs.YtidglmocekghmaaDoor.Pr
open Go.RowKit Go.Proofs.YtidglmocekghmaaDoorW.PrintWords Go.Proofs.YtidglmocekghmaaDoorW.PrintLast Go.Proofs.YtidglmocekghmaaDoorW.PrintMore
set_option linter.unusedVariables false
set_option linter.unusedSimpArgs false
abbrev FldIs (w : Int) (i n : Int) (r : Int) : Prop := ∀ W, Calls Tryd.prog 64 #[.int .u64 w, .int .i64 i, .int .i64 n] W fun e w' => e = .returned (.int .u64 r) ∧ w' = W
theorem fldIs {w : Int} (h0 : 0 ≤ w) (h1 : w < 18446744073709551616) (a n : Nat) {r : Int} (hn : a + n ≤ 64) (hr : fld w a n = r) : FldIs w a n r := fun W => hr ▸ field_at w a n W h0 h1 hn
set_option maxRecDepth 100000 in
set_option maxHeartbeats 1000000 in
theorem rdecode_any (w : Int) (W : World) (h0 : 0 ≤ w) (h1 : w < 18446744073709551616) :
    Calls Tryd.prog 35 #[.int .u64 w] W fun e W' => e = .returned (decV w) ∧ Below W.heap.size W W' := by
  have HS := fun W => Lib.hid (signed_at w W h0 h1)
  have S := Sep.start W
  have hb := kindW_bd w
  have hk : w % 4 = kindW w := rfl
  by_cases k0 : kindW w = 0
  · have HR : Hid (aggP 0 (offW w) (dataW w) (ptrsW w) 0 0 false 0 0 0 = decV w) := Lib.hid (by unfold decV; rw [if_pos k0])
    rw [k0] at hk
    have F0 : Hid (FldIs w 32 16 (dataW w)) := Lib.hid (fldIs h0 h1 32 16 (by omega) rfl)
    obtain ⟨b0, c0⟩ := dataW_bd w
    have F1 : Hid (FldIs w 48 16 (ptrsW w)) := Lib.hid (fldIs h0 h1 48 16 (by omega) rfl)
    obtain ⟨b1, c1⟩ := ptrsW_bd w
    clear hb
    go_enter Tryd.func35, Tryd.ntmps35
    go_wp2_with (first | ((with_reducible refine wl ?_); first | refine sn S (fun g w1 S => ?_) | refine ss S (fun w1 S => ?_) | refine sl S ?_ | refine sa S ?_) | ((with_reducible refine (HS _).out.mono ?_); rintro e w' ⟨rfl, rfl⟩) | ((with_reducible refine (F0.out _).mono ?_); rintro e w' ⟨rfl, rfl⟩) | ((with_reducible refine (F1.out _).mono ?_); rintro e w' ⟨rfl, rfl⟩))
    exact rt S ⟨by rw [← HR.out], S.below⟩
  by_cases k1 : kindW w = 1
  · have HR : Hid (aggP 1 (offW w) 0 0 (elemW w) (cntW w) false 0 0 0 = decV w) := Lib.hid (by unfold decV; rw [if_neg k0, if_pos k1])
    rw [k1] at hk
    clear k0
    have F0 : Hid (FldIs w 32 3 (elemW w)) := Lib.hid (fldIs h0 h1 32 3 (by omega) rfl)
    obtain ⟨b0, c0⟩ := elemW_bd w
    have F1 : Hid (FldIs w 35 29 (cntW w)) := Lib.hid (fldIs h0 h1 35 29 (by omega) rfl)
    obtain ⟨b1, c1⟩ := cntW_bd w
    clear hb
    go_enter Tryd.func35, Tryd.ntmps35
    go_wp2_with (first | ((with_reducible refine wl ?_); first | refine sn S (fun g w1 S => ?_) | refine ss S (fun w1 S => ?_) | refine sl S ?_ | refine sa S ?_) | ((with_reducible refine (HS _).out.mono ?_); rintro e w' ⟨rfl, rfl⟩) | ((with_reducible refine (F0.out _).mono ?_); rintro e w' ⟨rfl, rfl⟩) | ((with_reducible refine (F1.out _).mono ?_); rintro e w' ⟨rfl, rfl⟩))
    exact rt S ⟨by rw [← HR.out], S.below⟩
  by_cases k2 : kindW w = 2
  · have HR : Hid (aggP 2 0 0 0 0 0 (w / 4 % 2 == 1) (padW w) (w / 4294967296) 0 = decV w) := Lib.hid (by unfold decV; rw [if_neg k0, if_neg k1, if_pos k2, show segW w = w / 4294967296 by unfold segW; omega]; rfl)
    rw [k2] at hk
    clear k0 k1
    have F0 : Hid (FldIs w 2 1 (w / 4 % 2)) := Lib.hid (fldIs h0 h1 2 1 (by omega) rfl)
    have F1 : Hid (FldIs w 3 29 (padW w)) := Lib.hid (fldIs h0 h1 3 29 (by omega) rfl)
    obtain ⟨b1, c1⟩ := padW_bd w
    clear hb
    go_enter Tryd.func35, Tryd.ntmps35
    go_wp2_with (first | ((with_reducible refine wl ?_); first | refine sn S (fun g w1 S => ?_) | refine ss S (fun w1 S => ?_) | refine sl S ?_ | refine sa S ?_) | ((with_reducible refine (HS _).out.mono ?_); rintro e w' ⟨rfl, rfl⟩) | ((with_reducible refine (F0.out _).mono ?_); rintro e w' ⟨rfl, rfl⟩) | ((with_reducible refine (F1.out _).mono ?_); rintro e w' ⟨rfl, rfl⟩))
    exact rt S ⟨by rw [← HR.out], S.below⟩
  · obtain k3 : kindW w = 3 := by omega
    have HR : Hid (aggP 3 0 0 0 0 0 false 0 (w / 4294967296) (lowW w) = decV w) := Lib.hid (by unfold decV; rw [if_neg k0, if_neg k1, if_neg k2, show segW w = w / 4294967296 by unfold segW; omega])
    rw [k3] at hk
    clear k0 k1 k2
    have F0 : Hid (FldIs w 2 30 (lowW w)) := Lib.hid (fldIs h0 h1 2 30 (by omega) rfl)
    obtain ⟨b0, c0⟩ := lowW_bd w
    clear hb
    go_enter Tryd.func35, Tryd.ntmps35
    go_wp2_with (first | ((with_reducible refine wl ?_); first | refine sn S (fun g w1 S => ?_) | refine ss S (fun w1 S => ?_) | refine sl S ?_ | refine sa S ?_) | ((with_reducible refine (HS _).out.mono ?_); rintro e w' ⟨rfl, rfl⟩) | ((with_reducible refine (F0.out _).mono ?_); rintro e w' ⟨rfl, rfl⟩))
    exact rt S ⟨by rw [← HR.out], S.below⟩
end Go.Proofs.YtidglmocekghmaaDoor.Pr
end
section
namespace Go.Proofs.YtidglmocekghmaaDoor.Pr
open Go.RowKit Go.Proofs.YtidglmocekghmaaDoorW.PrintWords Go.Proofs.YtidglmocekghmaaDoorW.PrintLast Go.Proofs.YtidglmocekghmaaDoorW.PrintMore
set_option linter.unusedVariables false
set_option linter.unusedSimpArgs false
def sgG (G : List (List Int)) (s : Int) : List Int := G.getD s.toNat []
def inG (G : List (List Int)) (s a n : Int) : Bool := decide (0 ≤ s ∧ s < G.length ∧ 0 ≤ a ∧ 0 ≤ n ∧ a + n ≤ (sgG G s).length)
abbrev RdG (w : World) (A : Option Addr) (G : List (List Int)) : Prop := Kd.C (Kd.slice 32 (Kd.int .u64)) w A G.length G
theorem ret_b {a b : Bool} (h : a = b) : Ending.returned (.bool a) = .returned (.bool b) := by rw [h]
theorem inb_any (A : Option Addr) (c : Nat) (G : List (List Int)) (s a n : Int) (w : World) (hr : RdG w A G) (hs : s ≤ 4611686018427387904) (ha : a ≤ 4611686018427387904) (hn : n ≤ 4611686018427387904) (hl : ∀ x ∈ G, x.length ≤ 4611686018427387904) :
  Calls Tryd.prog 66 #[.slice A G.length c, .int .i64 s, .int .i64 a, .int .i64 n] w fun e w' => e = .returned (.bool (inG G s a n)) ∧ w' = w := by
 by_cases hb : 0 ≤ s ∧ s < G.length
 ·obtain ⟨b0, b1⟩ := hb
  obtain ⟨ad, A0, c0, rfl, hc, _, _⟩ := at_L1 hr s b0 b1
  have hlen : (rd_L1 G s).length ≤ 4611686018427387904 := hl _ (by
   unfold rd_L1
   have : s.toNat < G.length := by omega
   rw [List.getD_eq_getElem?_getD, List.getElem?_eq_getElem this]
   exact List.getElem_mem this)
  have HR : Hid (inG G s a n = (decide (0 ≤ a ∧ 0 ≤ n ∧ a + n ≤ (rd_L1 G s).length))) := Lib.hid (by unfold inG sgG rd_L1; simp [b0, b1])
  rw [HR.out]
  generalize (rd_L1 G s).length = m at *
  clear hr hl
  go_enter Tryd.func66, Tryd.ntmps66
  go_wp2
  all_goals (go_ret; exact ⟨ret_b (Bool.eq_iff_iff.2 (by simp; omega)), rfl⟩)
 ·have HR : Hid (inG G s a n = false) := Lib.hid (by unfold inG; simp; omega)
  rw [HR.out]
  go_enter Tryd.func66, Tryd.ntmps66
  go_wp2
  all_goals (go_ret; exact ⟨rfl, rfl⟩)
theorem at_G {A : Option Addr} {G : List (List Int)} {w : World} (hr : RdG w A G) (i : Nat) (h : i < G.length) : ∃ ad A0 c0, A = some ad ∧ w.cell? (ad.add i) = some (.slice A0 (sgG G i).length c0) ∧ (∀ k : Nat, k < (sgG G i).length → ∃ a0, A0 = some a0 ∧ w.cell? (a0.add k) = some (.int .u64 (wd (sgG G i) k))) := by
 obtain ⟨ad, A0, c0, e, hc, _, hC⟩ := at_L1 hr i (by omega) (by omega)
 refine ⟨ad, A0, c0, e, hc, fun k hk => ?_⟩
 obtain ⟨a0, c, e0, _, hK, hcc⟩ := Kd.C_get hC (0 : Int) k (by omega) (Int.ofNat_lt.2 hk)
 obtain rfl : c = [.int .u64 (wd (sgG G i) k)] := hK
 refine ⟨a0, e0, ?_⟩
 have := hcc 0 _ rfl
 simpa [Kd.int, Kd.scalar] using this
def wdG (G : List (List Int)) (s a : Int) : Int := if inG G s a 1 = true then wd (sgG G s) a.toNat else 0
theorem inG_1 {G : List (List Int)} {s a : Int} (h : inG G s a 1 = true) : 0 ≤ s ∧ s < G.length ∧ 0 ≤ a ∧ a < (sgG G s).length := by
 unfold inG at h
 rw [decide_eq_true_eq] at h
 omega
theorem word_any (A : Option Addr) (c : Nat) (G : List (List Int)) (s a : Int) (w : World) (hr : RdG w A G) (hg : G.length ≤ 4611686018427387904) (hl : ∀ x ∈ G, x.length ≤ 4611686018427387904) :
  Calls Tryd.prog 67 #[.slice A G.length c, .int .i64 s, .int .i64 a] w fun e w' => e = .returned (.tuple #[.int .u64 (wdG G s a), .bool (inG G s a 1)]) ∧ w' = w := by
 have HR := Lib.hid hr
 have HL : ∀ i : Nat, i < G.length → (sgG G i).length ≤ 4611686018427387904 := fun i hi => hl _ (by
  unfold sgG
  rw [Int.toNat_natCast, List.getD_eq_getElem?_getD, List.getElem?_eq_getElem hi]
  exact List.getElem_mem hi)
 have HL := Lib.hid HL
 clear hr hl
 go_enter Tryd.func67, Tryd.ntmps67
 go_wp2
 go_loop [8] (fun v => ∃ i : Nat, i ≤ G.length ∧ v = .int .i64 i ∧ Hid (inG G s a 1 = true → (i : Int) ≤ s)) (fun v => G.length - (intOf v).toNat)
 case atStart => exact ⟨0, Nat.zero_le _, rfl, fun h => (inG_1 h).1⟩
 case round =>
  obtain ⟨i, hi, rfl, HI⟩ := hrel
  by_cases hlt : i < G.length
  ·obtain ⟨ad, A0, c0, rfl, hc, hk⟩ := at_G HR.out i hlt
   have HK := Lib.hid hk
   have hln := HL.out i hlt
   obtain ⟨n, hn⟩ : ∃ n, (sgG G i).length = n := ⟨_, rfl⟩
   rw [hn] at hc hln
   have HN := Lib.hid hn
   clear hk hn
   go_wp2
   go_loop [9] (fun v => ∃ k : Nat, k ≤ n ∧ v = .int .i64 k ∧ Hid (inG G s a 1 = true → s = i → (k : Int) ≤ a)) (fun v => n - (intOf v).toNat)
   case atStart => exact ⟨0, Nat.zero_le _, rfl, fun h _ => (inG_1 h).2.2.1⟩
   case round =>
    obtain ⟨k, hk, rfl, HJ⟩ := hrel
    by_cases hkl : k < n
    ·obtain ⟨a0, rfl, hv⟩ := HK.out k (by rw [HN.out]; exact hkl)
     by_cases hs : (i : Int) = s
     ·by_cases ha : (k : Int) = a
      ·subst hs ha
       have hin : inG G i k 1 = true := by
        unfold inG
        rw [decide_eq_true_eq, HN.out]
        omega
       have HV : Hid (wdG G i k = wd (sgG G i) k) := Lib.hid (by unfold wdG; rw [if_pos hin]; rfl)
       have HIN := Lib.hid hin
       clear hin
       go_wp2
       go_ret2
       exact ⟨by rw [HV.out, HIN.out]; rfl, rfl⟩
      ·have ha1 : ((k : Int) == a) = false := beq_eq_false_iff_ne.2 ha
       have hs1 : ((i : Int) == s) = true := beq_iff_eq.2 hs
       have HA := Lib.hid ha
       have HS := Lib.hid hs
       clear ha hs
       go_wp2
       go_round
       case rel => exact ⟨k + 1, by omega, by go_num, fun h e => by have := HJ.out h e; have := HA.out; omega⟩
       case measure => simp [intOf]; omega
     ·have hs1 : ((i : Int) == s) = false := beq_eq_false_iff_ne.2 hs
      have HS := Lib.hid hs
      clear hs
      go_wp2
      go_round
      case rel => exact ⟨k + 1, by omega, by go_num, fun h e => absurd e.symm HS.out⟩
      case measure => simp [intOf]; omega
    ·obtain rfl : k = n := by omega
     go_wp2
     go_round
     case rel => exact ⟨i + 1, by omega, by go_num, fun h => by
      have h1 := HI.out h
      have h2 := HJ.out h
      have h3 := inG_1 h
      by_cases e : s = i
      ·have := h2 e
       rw [e] at h3
       rw [HN.out] at h3
       omega
      ·omega⟩
     case measure => simp [intOf]; omega
  ·obtain rfl : i = G.length := by omega
   have hin : inG G s a 1 = false := by
    cases h : inG G s a 1 with
    | false => rfl
    | true =>
     have h1 := HI.out h
     have h2 := inG_1 h
     omega
   have HV : Hid (wdG G s a = 0) := Lib.hid (by unfold wdG; rw [hin]; rfl)
   have HIN := Lib.hid hin
   clear hin
   go_wp2
   go_ret2
   exact ⟨by rw [HV.out, HIN.out]; rfl, rfl⟩
end Go.Proofs.YtidglmocekghmaaDoor.Pr
end
section
namespace Go.Proofs.YtidglmocekghmaaDoor.Pr
open Go.RowKit Go.Proofs.YtidglmocekghmaaDoorW.PrintWords Go.Proofs.YtidglmocekghmaaDoorW.PrintLast Go.Proofs.YtidglmocekghmaaDoorW.PrintMore
set_option linter.unusedVariables false
set_option linter.unusedSimpArgs false
def cutG (G : List (List Int)) (s a n : Int) : List Int := ((sgG G s).drop a.toNat).take n.toNat
theorem take_next (xs : List Int) (a k : Nat) (h : a + k < xs.length) : (xs.drop a).take (k + 1) = (xs.drop a).take k ++ [wd xs (a + k)] := by
 rw [List.take_succ_eq_append_getElem (by rw [List.length_drop]; omega)]
 simp [wd, List.getD_eq_getElem?_getD, List.getElem?_eq_getElem h]
theorem sg_len {G : List (List Int)} (hl : ∀ x ∈ G, x.length ≤ 17592186040320) (i : Nat) (hi : i < G.length) : (sgG G i).length ≤ 17592186040320 := hl _ (by
  unfold sgG
  rw [Int.toNat_natCast, List.getD_eq_getElem?_getD, List.getElem?_eq_getElem hi]
  exact List.getElem_mem hi)
theorem slice_at (A : Option Addr) (c : Nat) (G : List (List Int)) (s a n : Int) (w : World) (hr : RdG w A G) (hi : inG G s a n = true) (hg : G.length ≤ 4611686018427387904) (hl : ∀ x ∈ G, x.length ≤ 17592186040320) :
  Calls Tryd.prog 54 #[.slice A G.length c, .int .i64 s, .int .i64 a, .int .i64 n] w fun e w' => ∃ v, e = .returned (.tuple #[v, .bool true]) ∧ Kd.R (Kd.int .u64) 32 w' w.heap.size (fun _ => True) v (cutG G s a n) ∧ Below w.heap.size w w' := by
 have hb : 0 ≤ s ∧ s < G.length ∧ 0 ≤ a ∧ 0 ≤ n ∧ a + n ≤ (sgG G s).length := by unfold inG at hi; rw [decide_eq_true_eq] at hi; exact hi
 obtain ⟨s0, s1, a0, n0, hn⟩ := hb
 obtain ⟨i, rfl⟩ := Int.eq_ofNat_of_zero_le s0
 obtain ⟨a, rfl⟩ := Int.eq_ofNat_of_zero_le a0
 obtain ⟨n, rfl⟩ := Int.eq_ofNat_of_zero_le n0
 have hlt : i < G.length := by omega
 have hln := sg_len hl i hlt
 have HIB := Lib.hid (inb_any A c G i a n w hr (by omega) (by omega) (by omega) (fun x hx => Nat.le_trans (hl x hx) (by omega)))
 have HIN := Lib.hid hi
 obtain ⟨ad, A0, c0, rfl, hc, hk⟩ := at_G hr i hlt
 have HC := Lib.hid hc
 have HK := Lib.hid hk
 have HN := Lib.hid hn
 obtain ⟨m, hm⟩ : ∃ m, (sgG G i).length = m := ⟨_, rfl⟩
 rw [hm] at HC hln hn
 have HM := Lib.hid hm
 have S := Lib.hid ((Sep.start w).nil (Kd.int .u64) 32)
 clear hc hk hm hr hi hl
 go_enter Tryd.func54, Tryd.ntmps54
 go_wp2_with ((with_reducible refine HIB.out.mono ?_); rw [HIN.out]; rintro e w' ⟨rfl, rfl⟩)
 go_loopw [10, 11] (fun v k wr => ∃ j : Nat, j ≤ n ∧ k = .int .i64 j ∧ Hid (Sep w' wr [.row (Kd.int .u64) 32 v (((sgG G i).drop a).take j)])) (fun _ k _ => n - (intOf k).toNat)
 case atStart => exact ⟨0, Nat.zero_le _, rfl, S⟩
 case round =>
  clear S
  obtain ⟨j, hj, rfl, S⟩ := hrel
  by_cases hjl : j < n
  ·obtain ⟨a0, rfl, hv⟩ := HK.out (a + j) (by rw [HM.out]; omega)
   have hv := pw_cell_below S.out.below hv
   have hc := pw_cell_below S.out.below HC.out
   have e1 : a + j < m := by omega
   have HT := Lib.hid (take_next (sgG G i) a j (by rw [HM.out]; omega))
   have HL : Hid ((((sgG G i).drop a).take j).length = j) := Lib.hid (by rw [List.length_take, List.length_drop, HM.out]; omega)
   generalize wd (sgG G i) (a + j) = x at *
   have S1 : Sep w' wr [.row (Kd.int .u64) 32 u10 (((sgG G i).drop a).take j), .made (Kd.int .u64) x [.int .u64 x]] := (S.out.one (Value.int .u64) (fun _ => rfl) x).swap
   have S := Lib.hid S1
   clear S1
   go_wp2_with (at_builtin; refine sp_append S.out rfl rfl Tryd.underlying22 info32 rfl (by decide) (by omega) rfl rfl (by rw [HL.out]; omega) (fun v1 w1 S => ?_))
   go_roundw
   case rel => exact ⟨j + 1, by omega, by go_num, Lib.hid (by rw [HT.out]; exact S)⟩
   case measure => simp [intOf]; omega
  ·obtain rfl : j = n := by omega
   go_wp2
   go_ret2
   exact ⟨_, rfl, S.out.outR .here, S.out.below⟩
theorem bytesW_next (x : Int) (q : Nat) (h : q < 8) : (bytesW x).take (q + 1) = (bytesW x).take q ++ [x / p2 (8 * q) % 256] := by
 rcases (by omega : q = 0 ∨ q = 1 ∨ q = 2 ∨ q = 3 ∨ q = 4 ∨ q = 5 ∨ q = 6 ∨ q = 7) with rfl | rfl | rfl | rfl | rfl | rfl | rfl | rfl <;> simp [bytesW, p2]
set_option maxRecDepth 100000 in
theorem rbytes_any (A : Option Addr) (c : Nat) (ws : List Int) (w : World) (hr : Kd.C (Kd.int .u64) w A ws.length ws) (hl : ws.length ≤ 17592186040320) (h0 : ∀ x ∈ ws, 0 ≤ x ∧ x < 18446744073709551616) :
    Calls Tryd.prog 38 #[.slice A ws.length c] w fun e w' => ∃ v, e = .returned v ∧ Kd.R (Kd.int .u8) 5 w' w.heap.size (fun _ => True) v (bytesL ws) ∧ Below w.heap.size w w' := by
  have HK : Hid (∀ k : Nat, k < ws.length → ∃ a0, A = some a0 ∧ w.cell? (a0.add k) = some (.int .u64 (wd ws k))) := Lib.hid (fun k hk => by
    obtain ⟨a0, c, e0, _, hK, hcc⟩ := Kd.C_get hr (0 : Int) k (by omega) (Int.ofNat_lt.2 hk)
    obtain rfl : c = [.int .u64 (wd ws k)] := hK
    refine ⟨a0, e0, ?_⟩
    have := hcc 0 _ rfl
    simpa [Kd.int, Kd.scalar] using this)
  have HB : Hid (∀ k : Nat, k < ws.length → 0 ≤ wd ws k ∧ wd ws k < 18446744073709551616) := Lib.hid (fun k hk => h0 _ (by
    unfold wd
    rw [List.getD_eq_getElem?_getD, List.getElem?_eq_getElem hk]
    exact List.getElem_mem hk))
  have S := Lib.hid ((Sep.start w).nil (Kd.int .u8) 5)
  obtain ⟨n, hn⟩ : ∃ n, ws.length = n := ⟨_, rfl⟩
  have HN := Lib.hid hn
  rw [hn] at hl
  rw [HN.out]
  clear hr h0 hn
  go_enter Tryd.func38, Tryd.ntmps38
  go_wp2
  go_loopw [3, 4] (fun v k wr => ∃ j : Nat, j ≤ n ∧ k = .int .i64 j ∧ Hid (Sep w wr [.row (Kd.int .u8) 5 v (bytesL (ws.take j))])) (fun _ k _ => n - (intOf k).toNat)
  case atStart => exact ⟨0, Nat.zero_le _, rfl, S⟩
  case round =>
    clear S
    obtain ⟨j, hj, rfl, S⟩ := hrel
    by_cases hjl : j < n
    · obtain ⟨a0, rfl, hv⟩ := HK.out j (by rw [HN.out]; exact hjl)
      have hv := pw_cell_below S.out.below hv
      obtain ⟨b0, b1⟩ := HB.out j (by rw [HN.out]; exact hjl)
      have HT : Hid (bytesL (ws.take (j + 1)) = bytesL (ws.take j) ++ bytesW (wd ws j)) := Lib.hid (by
        have hkl : j < ws.length := by rw [HN.out]; exact hjl
        rw [bytesL_take ws j hkl]
        simp [wd, List.getD_eq_getElem?_getD, List.getElem?_eq_getElem hkl])
      have HL : Hid ((bytesL (ws.take j)).length = 8 * j) := Lib.hid (by rw [bytesL_length, List.length_take, HN.out]; omega)
      generalize wd ws j = x at *
      go_wp2
      go_loopw [3, 5, 6] (fun v y k wr => ∃ q : Nat, q ≤ 8 ∧ k = .int .i64 q ∧ y = .int .u64 (x / p2 (8 * q)) ∧ Hid (Sep w wr [.row (Kd.int .u8) 5 v (bytesL (ws.take j) ++ (bytesW x).take q)])) (fun _ _ k _ => 8 - (intOf k).toNat)
      case atStart => exact ⟨0, by omega, rfl, by simp [p2], Lib.hid (by simpa using S.out)⟩
      case round =>
        clear S hv
        obtain ⟨q, hq, rfl, rfl, S⟩ := hrel
        by_cases hql : q < 8
        · have HY := Lib.hid (bytesW_next x q hql)
          have HZ : Hid (x / p2 (8 * (q + 1)) = x / p2 (8 * q) / 256) := Lib.hid (by
            rw [show 8 * (q + 1) = 8 * q + 8 by omega, p2_add, ← Int.ediv_ediv_of_nonneg (Int.le_of_lt (p2_pos _))]; rfl)
          have z0 : 0 ≤ x / p2 (8 * q) := Int.ediv_nonneg b0 (Int.le_of_lt (p2_pos _))
          have z1 : x / p2 (8 * q) < 18446744073709551616 := Int.lt_of_le_of_lt (Int.ediv_le_self _ b0) b1
          have HLL : Hid ((bytesL (ws.take j) ++ (bytesW x).take q).length ≤ 140737488322568) := Lib.hid (by
            rw [List.length_append, HL.out, List.length_take]; simp [bytesW]; omega)
          generalize x / p2 (8 * q) = z at *
          have S1 : Sep w wr [.row (Kd.int .u8) 5 u3 (bytesL (ws.take j) ++ (bytesW x).take q), .made (Kd.int .u8) (z % 256) [.int .u8 (z % 256)]] := (S.out.one (Value.int .u8) (fun _ => rfl) (z % 256)).swap
          have S := Lib.hid S1
          clear S1
          go_wp2_with (at_builtin; refine sp_append S.out rfl rfl Tryd.underlying34 info5 rfl (by decide) (by omega) rfl rfl (by have := HLL.out; omega) (fun v1 w1 S => ?_))
          go_roundw
          case rel => exact ⟨q + 1, by omega, by go_num, by rw [HZ.out], Lib.hid (by rw [HY.out, ← List.append_assoc]; exact S)⟩
          case measure => simp [intOf]; omega
        · obtain rfl : q = 8 := by omega
          go_wp2
          go_roundw
          case rel => exact ⟨j + 1, by omega, by go_num, Lib.hid (by rw [HT.out]; exact S.out)⟩
          case measure => simp [intOf]; omega
    · obtain rfl : j = n := by omega
      go_wp2
      go_ret
      exact ⟨_, rfl, by have := S.out.outR .here; rwa [← HN.out, List.take_length] at this, S.out.below⟩
end Go.Proofs.YtidglmocekghmaaDoor.Pr
end
section
namespace Go.Proofs.YtidglmocekghmaaDoor.Pr
open Go.RowKit Go.Proofs.YtidglmocekghmaaDoorW.PrintWords Go.Proofs.YtidglmocekghmaaDoorW.PrintLast Go.Proofs.YtidglmocekghmaaDoorW.PrintMore
set_option linter.unusedVariables false
set_option linter.unusedSimpArgs false
theorem bits_any (e : Int) (w : World) : Calls Tryd.prog 65 #[.int .i64 e] w fun r w' => r = .returned (.int .i64 (bitsE e)) ∧ w' = w := by
 by_cases h : 1 ≤ e ∧ e ≤ 6
 ·rcases (by omega : e = 1 ∨ e = 2 ∨ e = 3 ∨ e = 4 ∨ e = 5 ∨ e = 6) with rfl | rfl | rfl | rfl | rfl | rfl
  all_goals
   go_enter Tryd.func65, Tryd.ntmps65
   go_wp2
   go_ret
   exact ⟨rfl, rfl⟩
 ·have HR : Hid (bitsE e = 0) := Lib.hid (by unfold bitsE; repeat rw [if_neg (by omega)])
  have h1 : (e == 1) = false := beq_eq_false_iff_ne.2 (by omega)
  have h2 : (e == 2) = false := beq_eq_false_iff_ne.2 (by omega)
  have h3 : (e == 3) = false := beq_eq_false_iff_ne.2 (by omega)
  have h4 : (e == 4) = false := beq_eq_false_iff_ne.2 (by omega)
  have h5 : (e == 5) = false := beq_eq_false_iff_ne.2 (by omega)
  have h6 : (e == 6) = false := beq_eq_false_iff_ne.2 (by omega)
  clear h
  go_enter Tryd.func65, Tryd.ntmps65
  go_wp2
  go_ret
  exact ⟨by rw [HR.out]; rfl, rfl⟩
theorem bitsE_bd (e : Int) : 0 ≤ bitsE e ∧ bitsE e ≤ 64 := by unfold bitsE; repeat' split <;> omega
theorem bitsE_mul (e c : Int) (c0 : 0 ≤ c) (c1 : c ≤ 536870911) : 0 ≤ bitsE e * c ∧ bitsE e * c ≤ 34359738304 := by
 obtain ⟨h0, h1⟩ := bitsE_bd e
 exact ⟨Int.mul_nonneg h0 c0, Int.le_trans (Int.mul_le_mul_of_nonneg_right h1 c0) (by omega)⟩
theorem words_any6 (e c : Int) (w : World) (c0 : 0 ≤ c) (c1 : c ≤ 536870911) : Calls Tryd.prog 36 #[.int .i64 e, .int .i64 c] w fun r w' => r = .returned (.int .i64 (wordsE e c)) ∧ w' = w := by
 by_cases h : e = 7
 ·subst h
  go_enter Tryd.func36, Tryd.ntmps36
  go_wp2
  go_ret
  exact ⟨rfl, rfl⟩
 ·have h7 : (e == 7) = false := beq_eq_false_iff_ne.2 h
  obtain ⟨b0, b1⟩ := bitsE_mul e c c0 c1
  have HR : Hid (wordsE e c = (bitsE e * c + 63) / 64) := Lib.hid (by unfold wordsE; rw [if_neg h])
  have HB := fun w => Lib.hid (bits_any e w)
  clear h
  generalize bitsE e = b at *
  obtain ⟨n, hp⟩ : ∃ n, b * c = n := ⟨_, rfl⟩
  have HP := Lib.hid hp
  rw [hp] at b0 b1
  by_cases hl : n / 64 * 64 < n
  all_goals
   go_enter Tryd.func36, Tryd.ntmps36
   go_wp2_with ((with_reducible refine (HB _).out.mono ?_); rintro r w' ⟨rfl, rfl⟩)
   go_ret
   exact ⟨ret_k (by rw [HR.out, HP.out]; omega), rfl⟩
theorem bytes_any6 (e c : Int) (w : World) (c0 : 0 ≤ c) (c1 : c ≤ 536870911) : Calls Tryd.prog 44 #[.int .i64 e, .int .i64 c] w fun r w' => r = .returned (.int .i64 (bytesE e c)) ∧ w' = w := by
 obtain ⟨b0, b1⟩ := bitsE_mul e c c0 c1
 have HR : Hid (bytesE e c = (bitsE e * c + 7) / 8) := Lib.hid rfl
 have HB := fun w => Lib.hid (bits_any e w)
 generalize bitsE e = b at *
 obtain ⟨n, hp⟩ : ∃ n, b * c = n := ⟨_, rfl⟩
 have HP := Lib.hid hp
 rw [hp] at b0 b1
 by_cases hl : n / 8 * 8 < n
 all_goals
  go_enter Tryd.func44, Tryd.ntmps44
  go_wp2_with ((with_reducible refine (HB _).out.mono ?_); rintro r w' ⟨rfl, rfl⟩)
  go_ret
  exact ⟨ret_k (by rw [HR.out, HP.out]; omega), rfl⟩
theorem isFar_any (x : Int) (w : World) (h0 : 0 ≤ x) (h1 : x < 18446744073709551616) : Calls Tryd.prog 72 #[.int .u64 x] w fun r w' => r = .returned (.bool (decide (kindW x = 2))) ∧ w' = w := by
 go_enter Tryd.func72, Tryd.ntmps72
 go_wp2
 go_ret
 exact ⟨ret_b rfl, rfl⟩
set_option maxRecDepth 100000 in
theorem landing_any (x : Int) (w : World) (h0 : 0 ≤ x) (h1 : x < 18446744073709551616) : Calls Tryd.prog 73 #[.int .u64 x] w fun r w' => r = .returned (.tuple #[.int .i64 (segW x), .int .i64 (padW x)]) ∧ w' = w := by
 have H1 : Hid (segW x = x / 4294967296) := Lib.hid (by unfold segW; omega)
 have H2 : Hid (padW x = x % 4294967296 / 8) := Lib.hid (by unfold padW; omega)
 go_enter Tryd.func73, Tryd.ntmps73
 go_wp2
 go_ret2
 exact ⟨by rw [H1.out, H2.out]; rfl, rfl⟩
end Go.Proofs.YtidglmocekghmaaDoor.Pr
end
section
namespace Go.Proofs.YtidglmocekghmaaDoor.Pr
open Go.RowKit Go.Proofs.YtidglmocekghmaaDoorW.PrintWords Go.Proofs.YtidglmocekghmaaDoorW.PrintLast Go.Proofs.YtidglmocekghmaaDoorW.PrintMore
set_option linter.unusedVariables false
set_option linter.unusedSimpArgs false
theorem bytesE_bd (e c : Int) (c0 : 0 ≤ c) (c1 : c ≤ 536870911) : 0 ≤ bytesE e c ∧ bytesE e c ≤ 4294967296 := by
 have := bitsE_mul e c c0 c1
 unfold bytesE
 omega
theorem trimE_length (e c : Int) (b : List Int) (h : (bytesE e c).toNat ≤ b.length) : (trimE e c b).length = (bytesE e c).toNat := by
 unfold trimE
 split
 ·rw [List.length_set, List.length_take]; omega
 ·rw [List.length_take]; omega
theorem trimE_at (e c : Int) (b : List Int) (c0 : 0 ≤ c) (j : Nat) (hj : (j : Int) < bytesE e c) (h : (bytesE e c).toNat ≤ b.length) : wd (trimE e c b) j = if e = 1 ∧ c < 8 * j + 8 then wd b j % p2 (c - 8 * j).toNat else wd b j := by
 have hjl : j < (bytesE e c).toNat := by omega
 unfold trimE
 by_cases h1 : e = 1 ∧ 0 < c % 8
 ·obtain ⟨rfl, h8⟩ := h1
  rw [if_pos ⟨rfl, h8⟩]
  have hB : bytesE 1 c = (c + 7) / 8 := by simp [bytesE, bitsE]
  generalize hN : (bytesE 1 c).toNat = N at *
  have hN2 : (N : Int) = (c + 7) / 8 := by rw [← hB, ← hN]; omega
  clear hB hN hj
  by_cases hl : j = N - 1
  ·rw [if_pos ⟨rfl, by omega⟩]
   subst hl
   have e1 : (c - 8 * ((N - 1 : Nat) : Int)).toNat = (c % 8).toNat := by omega
   rw [e1]
   unfold wd
   rw [List.getD_eq_getElem?_getD, List.getElem?_set_self (by rw [List.length_take]; omega)]
   rfl
  ·rw [if_neg (by omega)]
   unfold wd
   rw [List.getD_eq_getElem?_getD, List.getD_eq_getElem?_getD, List.getElem?_set_ne (by omega), List.getElem?_take_of_lt (by omega)]
   simp [List.getD_eq_getElem?_getD]
 ·rw [if_neg h1, if_neg (by
   rintro ⟨rfl, h2⟩
   have hB : bytesE 1 c = (c + 7) / 8 := by simp [bytesE, bitsE]
   rw [hB] at hj
   omega)]
  unfold wd
  rw [List.getD_eq_getElem?_getD, List.getD_eq_getElem?_getD, List.getElem?_take_of_lt hjl]
theorem take_wd (xs : List Int) (k : Nat) (h : k < xs.length) : xs.take (k + 1) = xs.take k ++ [wd xs k] := by
 have := take_next xs 0 k (by omega)
 simpa using this
set_option maxHeartbeats 1000000 in
theorem rtrim_any (e c : Int) (A : Option Addr) (cp : Nat) (b : List Int) (w : World) (hr : Kd.C (Kd.int .u8) w A b.length b) (h0 : ∀ x ∈ b, 0 ≤ x ∧ x < 256) (c0 : 0 ≤ c) (c1 : c ≤ 536870911) (hl : (bytesE e c).toNat ≤ b.length) :
    Calls Tryd.prog 39 #[.int .i64 e, .int .i64 c, .slice A b.length cp] w fun r w' => ∃ v, r = .returned v ∧ Kd.R (Kd.int .u8) 5 w' w.heap.size (fun _ => True) v (trimE e c b) ∧ Below w.heap.size w w' := by
  have HK : Hid (∀ k : Nat, k < b.length → ∃ a0, A = some a0 ∧ w.cell? (a0.add k) = some (.int .u8 (wd b k))) := Lib.hid (fun k hk => by
    obtain ⟨a0, c, e0, _, hK, hcc⟩ := Kd.C_get hr (0 : Int) k (by omega) (Int.ofNat_lt.2 hk)
    obtain rfl : c = [.int .u8 (wd b k)] := hK
    refine ⟨a0, e0, ?_⟩
    have := hcc 0 _ rfl
    simpa [Kd.int, Kd.scalar] using this)
  have HBD : Hid (∀ k : Nat, k < b.length → 0 ≤ wd b k ∧ wd b k < 256) := Lib.hid (fun k hk => h0 _ (by
    unfold wd
    rw [List.getD_eq_getElem?_getD, List.getElem?_eq_getElem hk]
    exact List.getElem_mem hk))
  have S := Lib.hid ((Sep.start w).nil (Kd.int .u8) 5)
  have HT := Lib.hid (fun j hj => trimE_at e c b c0 j hj hl)
  have HTL := Lib.hid (trimE_length e c b hl)
  have HB := fun w => Lib.hid (bytes_any6 e c w c0 c1)
  have hbd := bytesE_bd e c c0 c1
  obtain ⟨n, hn⟩ : ∃ n : Nat, bytesE e c = n := ⟨(bytesE e c).toNat, by omega⟩
  rw [hn] at HB HT HTL hl hbd
  simp only [Int.toNat_natCast] at HTL hl
  generalize trimE e c b = T at *
  obtain ⟨m, hm⟩ : ∃ m, b.length = m := ⟨_, rfl⟩
  have HM := Lib.hid hm
  have HN := Lib.hid hn
  rw [HM.out] at hl ⊢
  clear hr h0 hm hn
  obtain ⟨-, hbd⟩ := hbd
  go_enter Tryd.func39, Tryd.ntmps39
  go_wp2
  go_loopw [7, 8] (fun v k wr => ∃ j : Nat, j ≤ n ∧ k = .int .i64 j ∧ Hid (Sep w wr [.row (Kd.int .u8) 5 v (T.take j)])) (fun _ k _ => n - (intOf k).toNat)
  case atStart => exact ⟨0, Nat.zero_le _, rfl, S⟩
  case round =>
    clear S
    obtain ⟨j, hj, rfl, S⟩ := hrel
    by_cases hjl : j < n
    · obtain ⟨a0, rfl, hv⟩ := HK.out j (by rw [HM.out]; omega)
      have hv := pw_cell_below S.out.below hv
      obtain ⟨b0, b1⟩ := HBD.out j (by rw [HM.out]; omega)
      have HX : Hid (T.take (j + 1) = T.take j ++ [if e = 1 ∧ c < 8 * j + 8 then wd b j % p2 (c - 8 * j).toNat else wd b j]) := Lib.hid (by rw [← HT.out j (by omega)]; exact take_wd T j (by rw [HTL.out]; exact hjl))
      have HLL : Hid ((T.take j).length ≤ 4294967296) := Lib.hid (by rw [List.length_take, HTL.out]; omega)
      generalize wd b j = x at *
      by_cases hh : e = 1 ∧ c < 8 * j + 8
      · obtain ⟨rfl, h8⟩ := hh
        have HX : Hid (T.take (j + 1) = T.take j ++ [x % p2 (c - 8 * j).toNat]) := Lib.hid (by rw [HX.out, if_pos ⟨rfl, h8⟩])
        have d1 : decide (c < 8 * (j : Int) + 8) = true := decide_eq_true h8
        have hn1 : (c + 7) / 8 = (n : Int) := by rw [← HN.out]; simp [bytesE, bitsE]
        obtain ⟨q, hq⟩ : ∃ q : Nat, c - 8 * (j : Int) = q := ⟨(c - 8 * (j : Int)).toNat, by omega⟩
        have hq1 : q ≤ 8 := by omega
        rw [hq, Int.toNat_natCast] at HX
        clear hn1
        go_wp2_with ((with_reducible refine (HB _).out.mono ?_); rintro r w' ⟨rfl, rfl⟩)
        go_loop [11, 12] (fun v k => ∃ i : Nat, i ≤ q ∧ k = .int .i64 i ∧ v = .int .i64 (p2 i)) (fun _ k => q - (intOf k).toNat)
        case atStart => exact ⟨0, Nat.zero_le _, rfl, rfl⟩
        case round =>
          obtain ⟨i, hi, rfl, rfl⟩ := hrel
          have q0 := p2_pos i
          have q1 := p2_le (k := i) (m := 8) (by omega)
          rw [show p2 8 = 256 from rfl] at q1
          by_cases hiq : i < q
          · have h3 := Lib.hid (p2_succ i)
            go_wp2
            go_round
            case rel => exact ⟨i + 1, by omega, by go_num, by rw [h3.out]⟩
            case measure => simp [intOf]; omega
          · obtain rfl : i = q := by omega
            have y0 : 0 ≤ x % p2 i := Int.emod_nonneg _ (Int.ne_of_gt q0)
            have y1 : x % p2 i < 256 := Int.lt_of_lt_of_le (Int.emod_lt_of_pos _ q0) q1
            have q2 : p2 i ≠ 0 := Int.ne_of_gt q0
            have S1 : Sep w w' [.row (Kd.int .u8) 5 u7 (T.take j), .made (Kd.int .u8) (x % p2 i) [.int .u8 (x % p2 i)]] := (S.out.one (Value.int .u8) (fun _ => rfl) (x % p2 i)).swap
            have S := Lib.hid S1
            clear S1
            go_wp2_with (at_builtin; refine sp_append S.out rfl rfl Tryd.underlying34 info5 rfl (by decide) (by omega) rfl rfl (by have := HLL.out; omega) (fun v1 w1 S => ?_))
            go_roundw
            case rel => exact ⟨j + 1, by omega, by go_num, Lib.hid (by rw [HX.out]; exact S)⟩
            case measure => simp [intOf]; omega
      · have HX2 : Hid (T.take (j + 1) = T.take j ++ [x]) := Lib.hid (by rw [HX.out, if_neg hh])
        have S1 : Sep w wr [.row (Kd.int .u8) 5 u7 (T.take j), .made (Kd.int .u8) x [.int .u8 x]] := (S.out.one (Value.int .u8) (fun _ => rfl) x).swap
        have S := Lib.hid S1
        clear S1
        by_cases he : e = 1
        · have d1 : decide (c < 8 * (j : Int) + 8) = false := decide_eq_false (fun h => hh ⟨he, h⟩)
          subst he
          clear hh
          go_wp2_with (first | ((with_reducible refine (HB _).out.mono ?_); rintro r w' ⟨rfl, rfl⟩) | (at_builtin; refine sp_append S.out rfl rfl Tryd.underlying34 info5 rfl (by decide) (by omega) rfl rfl (by have := HLL.out; omega) (fun v1 w1 S => ?_)))
          go_roundw
          case rel => exact ⟨j + 1, by omega, by go_num, Lib.hid (by rw [HX2.out]; exact S)⟩
          case measure => simp [intOf]; omega
        · have d1 : (e == 1) = false := beq_eq_false_iff_ne.2 he
          clear hh he
          go_wp2_with (first | ((with_reducible refine (HB _).out.mono ?_); rintro r w' ⟨rfl, rfl⟩) | (at_builtin; refine sp_append S.out rfl rfl Tryd.underlying34 info5 rfl (by decide) (by omega) rfl rfl (by have := HLL.out; omega) (fun v1 w1 S => ?_)))
          go_roundw
          case rel => exact ⟨j + 1, by omega, by go_num, Lib.hid (by rw [HX2.out]; exact S)⟩
          case measure => simp [intOf]; omega
    · obtain rfl : j = n := by omega
      go_wp2_with ((with_reducible refine (HB _).out.mono ?_); rintro r w' ⟨rfl, rfl⟩)
      go_ret
      exact ⟨_, rfl, by have := S.out.outR .here; rwa [← HTL.out, List.take_length] at this, S.out.below⟩
end Go.Proofs.YtidglmocekghmaaDoor.Pr
end
section
namespace Go.Proofs.YtidglmocekghmaaDoor.Pr
open Go.RowKit Go.Proofs.YtidglmocekghmaaDoorW.PrintWords Go.Proofs.YtidglmocekghmaaDoorW.PrintLast Go.Proofs.YtidglmocekghmaaDoorW.PrintMore
set_option linter.unusedVariables false
set_option linter.unusedSimpArgs false
def pO (w : Int) : Int := if kindW w ≤ 1 then offW w else 0
def pD (w : Int) : Int := if kindW w = 0 then dataW w else 0
def pP (w : Int) : Int := if kindW w = 0 then ptrsW w else 0
def pE (w : Int) : Int := if kindW w = 1 then elemW w else 0
def pC (w : Int) : Int := if kindW w = 1 then cntW w else 0
def pB (w : Int) : Bool := if kindW w = 2 then dblW w else false
def pF (w : Int) : Int := if kindW w = 2 then padW w else 0
def pS (w : Int) : Int := if kindW w ≤ 1 then 0 else segW w
def pL (w : Int) : Int := if kindW w ≤ 2 then 0 else lowW w
theorem decV_lit (w : Int) : decV w = .agg #[.int .i64 (kindW w), .int .i64 (pO w), .int .i64 (pD w), .int .i64 (pP w), .int .i64 (pE w), .int .i64 (pC w), .bool (pB w), .int .i64 (pF w), .int .u32 (pS w), .int .u32 (pL w)] := by
 have hb := kindW_bd w
 unfold decV pO pD pP pE pC pB pF pS pL
 rcases (by omega : kindW w = 0 ∨ kindW w = 1 ∨ kindW w = 2 ∨ kindW w = 3) with h | h | h | h <;> simp [h, aggP]
theorem rdec_lit (w : Int) (W : World) (h0 : 0 ≤ w) (h1 : w < 18446744073709551616) :
  Calls Tryd.prog 35 #[.int .u64 w] W fun e W' => e = .returned (.agg #[.int .i64 (kindW w), .int .i64 (pO w), .int .i64 (pD w), .int .i64 (pP w), .int .i64 (pE w), .int .i64 (pC w), .bool (pB w), .int .i64 (pF w), .int .u32 (pS w), .int .u32 (pL w)]) ∧ Below W.heap.size W W' := decV_lit w ▸ rdecode_any w W h0 h1
def farB (x : Int) : Bool := decide (kindW x = 2)
theorem far_any (x : Int) (w : World) (h0 : 0 ≤ x) (h1 : x < 18446744073709551616) : Calls Tryd.prog 72 #[.int .u64 x] w fun r w' => r = .returned (.bool (farB x)) ∧ w' = w := isFar_any x w h0 h1
def folM (G : List (List Int)) (s a : Int) : Int × Int × Int × Int :=
 if inG G s a 1 = false then (0, 0, 0, 2)
 else if farB (wdG G s a) = false then (wdG G s a, s, a + 1, 0)
 else if inG G (segW (wdG G s a)) (padW (wdG G s a)) 1 = false then (0, 0, 0, 2)
 else if wdG G s a / 4 % 2 = 0 then
  if farB (wdG G (segW (wdG G s a)) (padW (wdG G s a))) = true then (0, 0, 0, 3) else (wdG G (segW (wdG G s a)) (padW (wdG G s a)), segW (wdG G s a), padW (wdG G s a) + 1, 0)
 else if inG G (segW (wdG G s a)) (padW (wdG G s a) + 1) 1 = false then (0, 0, 0, 2)
 else if farB (wdG G (segW (wdG G s a)) (padW (wdG G s a))) = false then (0, 0, 0, 3)
 else if wdG G (segW (wdG G s a)) (padW (wdG G s a)) / 4 % 2 = 1 then (0, 0, 0, 3)
 else if 1 < kindW (wdG G (segW (wdG G s a)) (padW (wdG G s a) + 1)) then (0, 0, 0, 3)
 else if pO (wdG G (segW (wdG G s a)) (padW (wdG G s a) + 1)) ≠ 0 then (0, 0, 0, 3)
 else (wdG G (segW (wdG G s a)) (padW (wdG G s a) + 1), segW (wdG G (segW (wdG G s a)) (padW (wdG G s a))), padW (wdG G (segW (wdG G s a)) (padW (wdG G s a))), 0)
def folV (r : Int × Int × Int × Int) : Value := .tuple #[.int .u64 r.1, .int .i64 r.2.1, .int .i64 r.2.2.1, .int .i64 r.2.2.2]
abbrev OkG (G : List (List Int)) : Prop := ∀ x ∈ G, ∀ y ∈ x, 0 ≤ y ∧ y < 18446744073709551616
theorem wdG_bd {G : List (List Int)} (h : OkG G) (s a : Int) : 0 ≤ wdG G s a ∧ wdG G s a < 18446744073709551616 := by
 unfold wdG
 split
 ·rename_i hi
  obtain ⟨s0, s1, a0, a1⟩ := inG_1 hi
  have h1 : s.toNat < G.length := by omega
  have h2 : a.toNat < (sgG G s).length := by omega
  unfold wd
  rw [List.getD_eq_getElem?_getD, List.getElem?_eq_getElem h2]
  refine h _ ?_ _ (List.getElem_mem h2)
  unfold sgG
  rw [List.getD_eq_getElem?_getD, List.getElem?_eq_getElem h1]
  exact List.getElem_mem h1
 ·exact ⟨by omega, by omega⟩
set_option maxRecDepth 100000 in
set_option maxHeartbeats 4000000 in
theorem fol_any (A : Option Addr) (c : Nat) (G : List (List Int)) (s a : Int) (w : World) (hr : RdG w A G) (hg : G.length ≤ 4611686018427387904) (hl : ∀ x ∈ G, x.length ≤ 4611686018427387904) (hk : OkG G) (a0 : -4611686018427387904 ≤ a) (a1 : a ≤ 4611686018427387904) :
    Calls Tryd.prog 51 #[.slice A G.length c, .int .i64 s, .int .i64 a] w fun e w' => e = .returned (folV (folM G s a)) ∧ Below w.heap.size w w' := by
  have HW := fun s a w' (hb : Below w.heap.size w w') => Lib.hid (word_any A c G s a w' (Kd.C_below hr hb) hg hl)
  have HBD := Lib.hid (fun s a => wdG_bd hk s a)
  have S := Sep.start w
  clear hr hl hk
  have HR := Lib.hid (folM.eq_1 G s a)
  obtain ⟨x, hx⟩ : ∃ x, wdG G s a = x := ⟨_, rfl⟩
  have HX := Lib.hid hx
  rw [HX.out] at HR
  obtain ⟨x0, x1⟩ := HBD.out s a
  rw [HX.out] at x0 x1
  have HW1 := HW s a w (Below.refl _ _)
  rw [HX.out] at HW1
  obtain ⟨y, hy⟩ : ∃ y, wdG G (segW x) (padW x) = y := ⟨_, rfl⟩
  have HY := Lib.hid hy
  obtain ⟨y0, y1⟩ := HBD.out (segW x) (padW x)
  have HW2 := HW (segW x) (padW x)
  obtain ⟨z, hz⟩ : ∃ z, wdG G (segW x) (padW x + 1) = z := ⟨_, rfl⟩
  have HZ := Lib.hid hz
  obtain ⟨z0, z1⟩ := HBD.out (segW x) (padW x + 1)
  have HW3 := HW (segW x) (padW x + 1)
  rw [HY.out] at HR HW2 y0 y1
  rw [HZ.out] at HR HW3 z0 z1
  obtain ⟨q0, q1⟩ := padW_bd x
  have F1 := fun w => Lib.hid (far_any x w x0 x1)
  have F2 := fun w => Lib.hid (far_any y w y0 y1)
  have L1 := fun w => Lib.hid (landing_any x w x0 x1)
  have L2 := fun w => Lib.hid (landing_any y w y0 y1)
  have D3 := fun w => Lib.hid (rdec_lit z w z0 z1)
  clear hx hy hz HX HY HZ HW HBD
  generalize folM G s a = r at *
  cases h1 : inG G s a 1 with
  | false => replace HR := Lib.hid (HR.out.trans (if_pos h1)); (go_enter Tryd.func51, Tryd.ntmps51; go_wp2_with (first | ((with_reducible refine wl ?_); first | refine sn S (fun g w1 S => ?_) | refine ss S (fun w1 S => ?_) | refine sl S ?_ | refine sa S ?_) | ((with_reducible refine HW1.out.mono ?_); rintro e w' ⟨rfl, rfl⟩) | ((with_reducible refine (HW2 _ S.below).out.mono ?_); rintro e w' ⟨rfl, rfl⟩) | ((with_reducible refine (HW3 _ S.below).out.mono ?_); rintro e w' ⟨rfl, rfl⟩) | ((with_reducible refine (F1 _).out.mono ?_); rintro e w' ⟨rfl, rfl⟩) | ((with_reducible refine (F2 _).out.mono ?_); rintro e w' ⟨rfl, rfl⟩) | ((with_reducible refine (L1 _).out.mono ?_); rintro e w' ⟨rfl, rfl⟩) | ((with_reducible refine (L2 _).out.mono ?_); rintro e w' ⟨rfl, rfl⟩) | ((with_reducible refine (D3 _).out.mono ?_); rintro e w' ⟨rfl, hb⟩; replace S := S.call hb)); exact rt S ⟨by rw [HR.out], S.below⟩)
  | true =>
  replace HR := Lib.hid (HR.out.trans (if_neg (by rw [h1]; simp)))
  cases h2 : farB x with
  | false => replace HR := Lib.hid (HR.out.trans (if_pos h2)); (go_enter Tryd.func51, Tryd.ntmps51; go_wp2_with (first | ((with_reducible refine wl ?_); first | refine sn S (fun g w1 S => ?_) | refine ss S (fun w1 S => ?_) | refine sl S ?_ | refine sa S ?_) | ((with_reducible refine HW1.out.mono ?_); rintro e w' ⟨rfl, rfl⟩) | ((with_reducible refine (HW2 _ S.below).out.mono ?_); rintro e w' ⟨rfl, rfl⟩) | ((with_reducible refine (HW3 _ S.below).out.mono ?_); rintro e w' ⟨rfl, rfl⟩) | ((with_reducible refine (F1 _).out.mono ?_); rintro e w' ⟨rfl, rfl⟩) | ((with_reducible refine (F2 _).out.mono ?_); rintro e w' ⟨rfl, rfl⟩) | ((with_reducible refine (L1 _).out.mono ?_); rintro e w' ⟨rfl, rfl⟩) | ((with_reducible refine (L2 _).out.mono ?_); rintro e w' ⟨rfl, rfl⟩) | ((with_reducible refine (D3 _).out.mono ?_); rintro e w' ⟨rfl, hb⟩; replace S := S.call hb)); exact rt S ⟨by rw [HR.out], S.below⟩)
  | true =>
  replace HR := Lib.hid (HR.out.trans (if_neg (by rw [h2]; simp)))
  cases h3 : inG G (segW x) (padW x) 1 with
  | false => replace HR := Lib.hid (HR.out.trans (if_pos h3)); (go_enter Tryd.func51, Tryd.ntmps51; go_wp2_with (first | ((with_reducible refine wl ?_); first | refine sn S (fun g w1 S => ?_) | refine ss S (fun w1 S => ?_) | refine sl S ?_ | refine sa S ?_) | ((with_reducible refine HW1.out.mono ?_); rintro e w' ⟨rfl, rfl⟩) | ((with_reducible refine (HW2 _ S.below).out.mono ?_); rintro e w' ⟨rfl, rfl⟩) | ((with_reducible refine (HW3 _ S.below).out.mono ?_); rintro e w' ⟨rfl, rfl⟩) | ((with_reducible refine (F1 _).out.mono ?_); rintro e w' ⟨rfl, rfl⟩) | ((with_reducible refine (F2 _).out.mono ?_); rintro e w' ⟨rfl, rfl⟩) | ((with_reducible refine (L1 _).out.mono ?_); rintro e w' ⟨rfl, rfl⟩) | ((with_reducible refine (L2 _).out.mono ?_); rintro e w' ⟨rfl, rfl⟩) | ((with_reducible refine (D3 _).out.mono ?_); rintro e w' ⟨rfl, hb⟩; replace S := S.call hb)); exact rt S ⟨by rw [HR.out], S.below⟩)
  | true =>
  replace HR := Lib.hid (HR.out.trans (if_neg (by rw [h3]; simp)))
  by_cases h4 : x / 4 % 2 = 0
  · replace HR := Lib.hid (HR.out.trans (if_pos h4))
    have t4 : (x / 4 % 2 == 0) = true := beq_iff_eq.2 h4
    clear h4
    cases h5 : farB y with
    | true => replace HR := Lib.hid (HR.out.trans (if_pos h5)); (go_enter Tryd.func51, Tryd.ntmps51; go_wp2_with (first | ((with_reducible refine wl ?_); first | refine sn S (fun g w1 S => ?_) | refine ss S (fun w1 S => ?_) | refine sl S ?_ | refine sa S ?_) | ((with_reducible refine HW1.out.mono ?_); rintro e w' ⟨rfl, rfl⟩) | ((with_reducible refine (HW2 _ S.below).out.mono ?_); rintro e w' ⟨rfl, rfl⟩) | ((with_reducible refine (HW3 _ S.below).out.mono ?_); rintro e w' ⟨rfl, rfl⟩) | ((with_reducible refine (F1 _).out.mono ?_); rintro e w' ⟨rfl, rfl⟩) | ((with_reducible refine (F2 _).out.mono ?_); rintro e w' ⟨rfl, rfl⟩) | ((with_reducible refine (L1 _).out.mono ?_); rintro e w' ⟨rfl, rfl⟩) | ((with_reducible refine (L2 _).out.mono ?_); rintro e w' ⟨rfl, rfl⟩) | ((with_reducible refine (D3 _).out.mono ?_); rintro e w' ⟨rfl, hb⟩; replace S := S.call hb)); exact rt S ⟨by rw [HR.out], S.below⟩)
    | false => replace HR := Lib.hid (HR.out.trans (if_neg (by rw [h5]; simp))); (go_enter Tryd.func51, Tryd.ntmps51; go_wp2_with (first | ((with_reducible refine wl ?_); first | refine sn S (fun g w1 S => ?_) | refine ss S (fun w1 S => ?_) | refine sl S ?_ | refine sa S ?_) | ((with_reducible refine HW1.out.mono ?_); rintro e w' ⟨rfl, rfl⟩) | ((with_reducible refine (HW2 _ S.below).out.mono ?_); rintro e w' ⟨rfl, rfl⟩) | ((with_reducible refine (HW3 _ S.below).out.mono ?_); rintro e w' ⟨rfl, rfl⟩) | ((with_reducible refine (F1 _).out.mono ?_); rintro e w' ⟨rfl, rfl⟩) | ((with_reducible refine (F2 _).out.mono ?_); rintro e w' ⟨rfl, rfl⟩) | ((with_reducible refine (L1 _).out.mono ?_); rintro e w' ⟨rfl, rfl⟩) | ((with_reducible refine (L2 _).out.mono ?_); rintro e w' ⟨rfl, rfl⟩) | ((with_reducible refine (D3 _).out.mono ?_); rintro e w' ⟨rfl, hb⟩; replace S := S.call hb)); exact rt S ⟨by rw [HR.out], S.below⟩)
  replace HR := Lib.hid (HR.out.trans (if_neg h4))
  have t4 : (x / 4 % 2 == 0) = false := beq_eq_false_iff_ne.2 h4
  clear h4
  cases h5 : inG G (segW x) (padW x + 1) 1 with
  | false => replace HR := Lib.hid (HR.out.trans (if_pos h5)); (go_enter Tryd.func51, Tryd.ntmps51; go_wp2_with (first | ((with_reducible refine wl ?_); first | refine sn S (fun g w1 S => ?_) | refine ss S (fun w1 S => ?_) | refine sl S ?_ | refine sa S ?_) | ((with_reducible refine HW1.out.mono ?_); rintro e w' ⟨rfl, rfl⟩) | ((with_reducible refine (HW2 _ S.below).out.mono ?_); rintro e w' ⟨rfl, rfl⟩) | ((with_reducible refine (HW3 _ S.below).out.mono ?_); rintro e w' ⟨rfl, rfl⟩) | ((with_reducible refine (F1 _).out.mono ?_); rintro e w' ⟨rfl, rfl⟩) | ((with_reducible refine (F2 _).out.mono ?_); rintro e w' ⟨rfl, rfl⟩) | ((with_reducible refine (L1 _).out.mono ?_); rintro e w' ⟨rfl, rfl⟩) | ((with_reducible refine (L2 _).out.mono ?_); rintro e w' ⟨rfl, rfl⟩) | ((with_reducible refine (D3 _).out.mono ?_); rintro e w' ⟨rfl, hb⟩; replace S := S.call hb)); exact rt S ⟨by rw [HR.out], S.below⟩)
  | true =>
  replace HR := Lib.hid (HR.out.trans (if_neg (by rw [h5]; simp)))
  cases h6 : farB y with
  | false => replace HR := Lib.hid (HR.out.trans (if_pos h6)); (go_enter Tryd.func51, Tryd.ntmps51; go_wp2_with (first | ((with_reducible refine wl ?_); first | refine sn S (fun g w1 S => ?_) | refine ss S (fun w1 S => ?_) | refine sl S ?_ | refine sa S ?_) | ((with_reducible refine HW1.out.mono ?_); rintro e w' ⟨rfl, rfl⟩) | ((with_reducible refine (HW2 _ S.below).out.mono ?_); rintro e w' ⟨rfl, rfl⟩) | ((with_reducible refine (HW3 _ S.below).out.mono ?_); rintro e w' ⟨rfl, rfl⟩) | ((with_reducible refine (F1 _).out.mono ?_); rintro e w' ⟨rfl, rfl⟩) | ((with_reducible refine (F2 _).out.mono ?_); rintro e w' ⟨rfl, rfl⟩) | ((with_reducible refine (L1 _).out.mono ?_); rintro e w' ⟨rfl, rfl⟩) | ((with_reducible refine (L2 _).out.mono ?_); rintro e w' ⟨rfl, rfl⟩) | ((with_reducible refine (D3 _).out.mono ?_); rintro e w' ⟨rfl, hb⟩; replace S := S.call hb)); exact rt S ⟨by rw [HR.out], S.below⟩)
  | true =>
  replace HR := Lib.hid (HR.out.trans (if_neg (by rw [h6]; simp)))
  by_cases h7 : y / 4 % 2 = 1
  · replace HR := Lib.hid (HR.out.trans (if_pos h7))
    have t7 : (y / 4 % 2 == 1) = true := beq_iff_eq.2 h7
    clear h7
    (go_enter Tryd.func51, Tryd.ntmps51; go_wp2_with (first | ((with_reducible refine wl ?_); first | refine sn S (fun g w1 S => ?_) | refine ss S (fun w1 S => ?_) | refine sl S ?_ | refine sa S ?_) | ((with_reducible refine HW1.out.mono ?_); rintro e w' ⟨rfl, rfl⟩) | ((with_reducible refine (HW2 _ S.below).out.mono ?_); rintro e w' ⟨rfl, rfl⟩) | ((with_reducible refine (HW3 _ S.below).out.mono ?_); rintro e w' ⟨rfl, rfl⟩) | ((with_reducible refine (F1 _).out.mono ?_); rintro e w' ⟨rfl, rfl⟩) | ((with_reducible refine (F2 _).out.mono ?_); rintro e w' ⟨rfl, rfl⟩) | ((with_reducible refine (L1 _).out.mono ?_); rintro e w' ⟨rfl, rfl⟩) | ((with_reducible refine (L2 _).out.mono ?_); rintro e w' ⟨rfl, rfl⟩) | ((with_reducible refine (D3 _).out.mono ?_); rintro e w' ⟨rfl, hb⟩; replace S := S.call hb)); exact rt S ⟨by rw [HR.out], S.below⟩)
  replace HR := Lib.hid (HR.out.trans (if_neg h7))
  have t7 : (y / 4 % 2 == 1) = false := beq_eq_false_iff_ne.2 h7
  clear h7
  by_cases h8 : 1 < kindW z
  · replace HR := Lib.hid (HR.out.trans (if_pos h8))
    have t8 : decide (1 < kindW z) = true := decide_eq_true h8
    clear h8
    (go_enter Tryd.func51, Tryd.ntmps51; go_wp2_with (first | ((with_reducible refine wl ?_); first | refine sn S (fun g w1 S => ?_) | refine ss S (fun w1 S => ?_) | refine sl S ?_ | refine sa S ?_) | ((with_reducible refine HW1.out.mono ?_); rintro e w' ⟨rfl, rfl⟩) | ((with_reducible refine (HW2 _ S.below).out.mono ?_); rintro e w' ⟨rfl, rfl⟩) | ((with_reducible refine (HW3 _ S.below).out.mono ?_); rintro e w' ⟨rfl, rfl⟩) | ((with_reducible refine (F1 _).out.mono ?_); rintro e w' ⟨rfl, rfl⟩) | ((with_reducible refine (F2 _).out.mono ?_); rintro e w' ⟨rfl, rfl⟩) | ((with_reducible refine (L1 _).out.mono ?_); rintro e w' ⟨rfl, rfl⟩) | ((with_reducible refine (L2 _).out.mono ?_); rintro e w' ⟨rfl, rfl⟩) | ((with_reducible refine (D3 _).out.mono ?_); rintro e w' ⟨rfl, hb⟩; replace S := S.call hb)); exact rt S ⟨by rw [HR.out], S.below⟩)
  replace HR := Lib.hid (HR.out.trans (if_neg h8))
  have t8 : decide (1 < kindW z) = false := decide_eq_false h8
  clear h8
  by_cases h9 : pO z ≠ 0
  · replace HR := Lib.hid (HR.out.trans (if_pos h9))
    have t9 : (pO z != 0) = true := bne_iff_ne.2 h9
    clear h9
    (go_enter Tryd.func51, Tryd.ntmps51; go_wp2_with (first | ((with_reducible refine wl ?_); first | refine sn S (fun g w1 S => ?_) | refine ss S (fun w1 S => ?_) | refine sl S ?_ | refine sa S ?_) | ((with_reducible refine HW1.out.mono ?_); rintro e w' ⟨rfl, rfl⟩) | ((with_reducible refine (HW2 _ S.below).out.mono ?_); rintro e w' ⟨rfl, rfl⟩) | ((with_reducible refine (HW3 _ S.below).out.mono ?_); rintro e w' ⟨rfl, rfl⟩) | ((with_reducible refine (F1 _).out.mono ?_); rintro e w' ⟨rfl, rfl⟩) | ((with_reducible refine (F2 _).out.mono ?_); rintro e w' ⟨rfl, rfl⟩) | ((with_reducible refine (L1 _).out.mono ?_); rintro e w' ⟨rfl, rfl⟩) | ((with_reducible refine (L2 _).out.mono ?_); rintro e w' ⟨rfl, rfl⟩) | ((with_reducible refine (D3 _).out.mono ?_); rintro e w' ⟨rfl, hb⟩; replace S := S.call hb)); exact rt S ⟨by rw [HR.out], S.below⟩)
  · replace HR := Lib.hid (HR.out.trans (if_neg h9))
    have t9 : (pO z != 0) = false := bne_eq_false_iff_eq.2 (by omega)
    clear h9
    (go_enter Tryd.func51, Tryd.ntmps51; go_wp2_with (first | ((with_reducible refine wl ?_); first | refine sn S (fun g w1 S => ?_) | refine ss S (fun w1 S => ?_) | refine sl S ?_ | refine sa S ?_) | ((with_reducible refine HW1.out.mono ?_); rintro e w' ⟨rfl, rfl⟩) | ((with_reducible refine (HW2 _ S.below).out.mono ?_); rintro e w' ⟨rfl, rfl⟩) | ((with_reducible refine (HW3 _ S.below).out.mono ?_); rintro e w' ⟨rfl, rfl⟩) | ((with_reducible refine (F1 _).out.mono ?_); rintro e w' ⟨rfl, rfl⟩) | ((with_reducible refine (F2 _).out.mono ?_); rintro e w' ⟨rfl, rfl⟩) | ((with_reducible refine (L1 _).out.mono ?_); rintro e w' ⟨rfl, rfl⟩) | ((with_reducible refine (L2 _).out.mono ?_); rintro e w' ⟨rfl, rfl⟩) | ((with_reducible refine (D3 _).out.mono ?_); rintro e w' ⟨rfl, hb⟩; replace S := S.call hb)); exact rt S ⟨by rw [HR.out], S.below⟩)
end Go.Proofs.YtidglmocekghmaaDoor.Pr
end
section
namespace Go.Proofs.YtidglmocekghmaaDoor.TabD
open Go.Proofs.YtidglmocekghmaaDoorW.PrintWords Go.Proofs.YtidglmocekghmaaDoorW.PrintLast Go.Proofs.YtidglmocekghmaaDoorW.PrintMore Go.Proofs.YtidglmocekghmaaDoor.Pr Go.WideElems Go.ChangeShapes Go.WideShapes Go.ChangeAt Go.RowKit Go.Maps
set_option linter.unusedVariables false
set_option linter.unusedSimpArgs false
theorem segs_in {H : Type} {enc : TypeId × Value → H} {w : World} {base : Nat} {held : Bool} {fuel : Nat} {cs : List Value} {x : DataW H × List MemPlace} (h : DataW.trod enc Tryd.prog w base (fun _ => true) held fuel 27 cs = some x) :
  ∃ (A : Option Addr) (c : Nat) (G : List (List Int)), cs = [.slice A G.length c] ∧ RdG w A G ∧ OkG G ∧ ∀ x ∈ G, x.length ≤ 9223372036854775807 := by
 rcases Go.Deep.open_int_rows Tryd.underlying27 Tryd.underlying22 Tryd.underlying32 (by kernel_rfl) (by kernel_rfl) h with ⟨rfl, rfl⟩ | ⟨a, len, cap, A, L, C, Z, rfl, hb, hle, hm, rfl, hx⟩
 ·exact ⟨none, 0, [], rfl, Kd.C_nil _ _, fun x hx => by (cases hx), fun x hx => by (cases hx)⟩
 ·simp only [maxLen] at hm
  have hlen : ((List.range len).map fun r => (Z r).take (L r)).length = len := by simp
  have hin : ∀ y ∈ (List.range len).map (fun r => (Z r).take (L r)), ∃ r, r < cap ∧ y = (Z r).take (L r) := fun y hy => by
   obtain ⟨r, hr, rfl⟩ := List.mem_map.1 hy
   exact ⟨r, by have := List.mem_range.1 hr; omega, rfl⟩
  refine ⟨some a, cap, (List.range len).map fun r => (Z r).take (L r), by rw [hlen], ?_, ?_, ?_⟩
  ·show Kd.C (Kd.slice 32 (Kd.int .u64)) w (some a) _ _
   refine ⟨rfl, by rw [hlen]; omega, fun hp => ⟨a, rfl, fun j p hj => ?_⟩⟩
   have hjl : j < len := by have := (List.getElem?_eq_some_iff.1 hj).1; rwa [hlen] at this
   obtain rfl : (Z j).take (L j) = p := by simpa [hjl] using hj
   obtain ⟨h1, h2, h3, h4, h5, h6, h7⟩ := hx j (by omega)
   have htl : ((Z j).take (L j)).length = L j := by rw [List.length_take]; omega
   simp only [maxLen] at h3
   refine ⟨[.slice (A j) (L j) (C j)], rfl, ⟨A j, C j, by rw [htl], by rw [htl]; exact h2, ⟨rfl, by rw [htl]; omega, fun hp => ?_⟩⟩, fun i u hu => ?_⟩
   ·rw [htl] at hp
    cases hA : A j with
    | none => have := h6 hA; omega
    | some a' =>
     obtain ⟨_, hc⟩ := h7 a' hA
     refine ⟨a', rfl, fun i z hz => ⟨[.int .u64 z], rfl, rfl, fun q u hu => ?_⟩⟩
     match q with
     | 0 =>
      obtain rfl : Value.int .u64 z = u := by simpa using hu
      have hil := (List.getElem?_eq_some_iff.1 hz).1
      rw [htl] at hil
      have := hc i (by omega)
      rw [List.getElem?_take_of_lt hil] at hz
      rw [List.getD_eq_getElem?_getD, hz] at this
      show w.cell? (a'.add (i * 1 + 0)) = _
      rw [Nat.mul_one, Nat.add_zero]
      exact this
     | q + 1 => simp at hu
   ·match i with
    | 0 =>
     obtain rfl : Value.slice (A j) (L j) (C j) = u := by simpa using hu
     show w.cell? (a.add (j * 1 + 0)) = _
     rw [Nat.mul_one, Nat.add_zero]
     exact h1
    | i + 1 => simp at hu
  ·intro y hy z hz
   obtain ⟨r, hr, rfl⟩ := hin y hy
   obtain ⟨_, _, _, _, h5, _, _⟩ := hx r hr
   exact word_range (h5 z (List.mem_of_mem_take hz))
  ·intro y hy
   obtain ⟨r, hr, rfl⟩ := hin y hy
   obtain ⟨_, h2, h3, h4, _, _, _⟩ := hx r hr
   simp only [maxLen] at h3
   rw [List.length_take]
   omega
end Go.Proofs.YtidglmocekghmaaDoor.TabD
end
section
namespace Go.Proofs.YtidglmocekghmaaDoor.Pr
set_option linter.unusedSimpArgs false
open Go.RowKit Go.Proofs.YtidglmocekghmaaDoorW.PrintWords Go.Proofs.YtidglmocekghmaaDoorW.PrintLast Go.Proofs.YtidglmocekghmaaDoorW.PrintMore
set_option linter.unusedVariables false
section
variable {P : Program} {md : Region.Mode} {ops : Array Oper} {Q : Exit → Act → World → Prop} {w0 W w : World} {L L' L0 : List Asr} {ks : List Nat}
def CaAt (P : Program) (md : Region.Mode) (ops : Array Oper) (i n : Nat) (l l' : Array Bool) (a : Act) (f : FuncId) (fn : Func) (args : Array Value) : Prop :=
 ∃ (oi : Oper) (av : Array Operand) (ts : Array TypeId), ops[i]? = some oi ∧ oi.dst = some n ∧ l.setIfInBounds i true = l' ∧ readyB md ops l l' i = true ∧ oi.guard = none ∧ (fn.name == "runtime.NumGoroutine") = false ∧ fn.body.isSome = true ∧ oi.op = .call { callee := .value (.func f), args := av, argTypes := ts } ∧ av.map a.eval = args
theorem caAt {i n : Nat} {l l' : Array Bool} {a : Act} {f : FuncId} {args : Array Value} {oi : Oper} {fn : Func} {av : Array Operand} {ts : Array TypeId} (h1 : ops[i]? = some oi) (h2 : oi.dst = some n) (h3 : l.setIfInBounds i true = l') (h4 : readyB md ops l l' i = true) (h5 : oi.guard = none) (h7 : (fn.name == "runtime.NumGoroutine") = false) (h8 : fn.body.isSome = true) (h9 : oi.op = .call { callee := .value (.func f), args := av, argTypes := ts }) (h10 : av.map a.eval = args) : CaAt P md ops i n l l' a f fn args :=
 ⟨oi, av, ts, h1, h2, h3, h4, h5, h7, h8, h9, h10⟩
theorem lc (i n : Nat) {f : FuncId} {args : Array Value} {R : Ending → World → Prop} {fuel : Nat} {l l' : Array Bool} {a : Act} {fn : Func} (h6 : P.funcs[f]? = some fn) (hC : Calls P f args w R)
    (h : ∀ e w1, R e w1 → ∃ v, e = .returned v ∧ Kp L0 ks w1 ∧ ∃ a', a.put (some n) v = a' ∧ wpAnyLast P md ops Q (Kp L0 ks) [] fuel l' a' w1)
    (k : CaAt P md ops i n l l' a f fn args := by
      apply caAt
      case h1 => simp only [List.getElem?_toArray, List.getElem?_cons_zero, List.getElem?_cons_succ]; rfl
      case h2 => rfl
      case h3 => simp only [List.setIfInBounds_toArray, List.set_cons_zero, List.set_cons_succ]; rfl
      case h4 => kernel_rfl
      case h5 => rfl
      case h7 => kernel_rfl
      case h8 => kernel_rfl
      case h9 => rfl
      case h10 => simp only [List.map_toArray, List.map_cons, List.map_nil]; rfl) : wpAnyLast P md ops Q (Kp L0 ks) [] (fuel + 1) l a w := by
  obtain ⟨oi, av, ts, h1, h2, h3, h4, h5, h7, h8, h9, h10⟩ := k
  refine one_ l' h1 h2 h4 (by simp) (fun K hK => goes_ h6 h7 h8 args (want0 h5) h2 h9 h10 (hC.mono ?_))
  intro e w1 hR
  obtain ⟨v, he, hk, a', ha, hh⟩ := h e w1 hR
  subst ha
  exact ⟨v, he, hK.out _ _ hk (fun _ => hh)⟩
theorem Sep.kpq {ks : List Nat} (q : Nat) (S : Sep w0 w L') (h : ∀ k ∈ ks, L'[k + q]? = L[k]? := by repeat (first | exact List.forall_mem_nil _ | refine List.forall_mem_cons.2 ⟨rfl, ?_⟩)) : Kp L ks w := fun k hk g cs t e => S.blk (hasAt ((h k hk).trans e))
theorem lsd (i q : Nat) (S : Sep w0 w L) {L0 : List Asr} {l l' : Array Bool} {a : Act} {fuel : Nat} (h : ∀ w1, Sep w0 w1 L' → wpAnyLast P md ops Q (Kp L0 ks) [] fuel l' a w1)
    (k : LsAt P md ops L L' i l l' a := by
      apply lsAt
      case h1 => simp only [List.getElem?_toArray, List.getElem?_cons_zero, List.getElem?_cons_succ]; rfl
      case h2 => simp only [List.setIfInBounds_toArray, List.set_cons_zero, List.set_cons_succ]; rfl
      case h3 => kernel_rfl
      case h5 => rfl
      case h6 =>
        apply stAt
        case h1 => rfl
        case h2 => rfl
        case h3 => rfl
        case h4 => repeat (first | exact Upd.here | apply Upd.there)
        case h5 => go_simp; with_reducible rfl
        case h6 => first | exact (rfl : _ = [_]) | exact (rfl : _ = [_, _, _, _, _]) | exact (rfl : _ = [_, _, _]) | exact (rfl : _ = [_, _, _, _, _, _, _, _]) | exact (rfl : _ = [_, _, _, _, _, _, _, _, _, _])
        case h7 => kernel_rfl
        case h8 => rfl
        case h9 => rfl
        case h10 => simp only [putL, List.set_cons_zero, List.set_cons_succ]; rfl)
    (hk : ∀ k ∈ ks, L'[k + q]? = L0[k]? := by repeat (first | exact List.forall_mem_nil _ | refine List.forall_mem_cons.2 ⟨rfl, ?_⟩)) : wpAnyLast P md ops Q (Kp L0 ks) [] (fuel + 1) l a w := by
  obtain ⟨oi, h1, e2, h3, h5, t, p, x, g, i', ty, cs, cs', u, seg, e1, e2', e3, e4, e5, e6, e7, e8, e9, e10⟩ := k
  exact one_ l' h1 e2' h3 (by simp) (fun K hK => sp_store_step e1 e2' (want0 h5) S e3 e4 e5 e6 e7 e8 e9 e10 (fun w1 S1 => hK.out _ _ (S1.kpq q hk) (fun _ => h w1 S1)))
theorem R_C {α : Type} {d : Kd α} {e b c n : Nat} {F : Nat → Prop} {A : Option Addr} {xs : List α} (h : d.R e w b F (.slice A n c) xs) : d.C w A xs.length xs := by
 obtain ⟨A', c', e', _, hC⟩ := Kd.R_reads h
 injection e' with e1
 exact e1 ▸ hC
end
set_option linter.unusedVariables false
section
variable {P : Program} {md : Region.Mode} {ops : Array Oper} {Q : Exit → Act → World → Prop} {w0 W w : World} {L L' L0 : List Asr} {ks ds : List Nat}
theorem rsd (ks ds : List Nat) (S : Sep w0 W L) {id n : Nat} {l : Array Bool} {a : Act} (h : ∀ w1, Sep w0 w1 L → wpAnyLast P .any ops Q (Kp L ks) ds n l a w1)
  (h1 : P.follows .mixedOrders = true := by kernel_rfl) (h2 : ops.size = n := by simp only [List.size_toArray, List.length_cons, List.length_nil, Nat.reduceAdd]; rfl)
  (h3 : Array.replicate n false = l := by simp only [Array.replicate_succ, Array.replicate_zero, List.push_toArray, List.nil_append, List.cons_append]; rfl) : (Code.region id ops true).wp P Q a W :=
 start_ (S := Kp L ks) l h1 h2 h3 (S.drew.kp (fun _ _ => rfl)) (fun _ => h _ S.drew)
def LtD (P : Program) (md : Region.Mode) (ops : Array Oper) (Q : Exit → Act → World → Prop) (ds : List Nat) (L : List Asr) (ks : List Nat) (i : Nat) (l l' : Array Bool) (a a' : Act) : Prop :=
 ∃ oi v, ops[i]? = some oi ∧ l.setIfInBounds i true = l' ∧ takeB md ops ds l l' i = true ∧ oi.guard = none ∧ (∀ w, Kp L ks w → (execOp a.eval oi).run P w = .ok (.value v) w) ∧ a.put oi.dst v = a' ∧ (∀ c v a w, Q (.panic c) (a.put oi.dst v) w → Q (.panic c) a w)
theorem ltD1 {oi : Oper} {i : Nat} {l l' : Array Bool} {a a' : Act} {t : TypeId} {p : Operand} {g j ty k : Nat} {cs : Array Value} {v q : Value} (h1 : ops[i]? = some oi) (h2 : l.setIfInBounds i true = l') (h3 : takeB md ops ds l l' i = true) (hw : oi.guard = none) (h4 : oi.op = .load t p) (h5 : a.eval p = q) (hq : q = .pointer (some ⟨g, j, none⟩)) (h6 : At (.box g cs ty) L k) (h7 : k ∈ ks) (_h : Nat.beq t ty = false) (h8 : cs[j]? = some v) (h9 : scalB P t = true) (ha : a.put oi.dst v = a') (hp : ∀ c v a w, Q (.panic c) (a.put oi.dst v) w → Q (.panic c) a w) : LtD P md ops Q ds L ks i l l' a a' := ⟨oi, v, h1, h2, h3, hw, run_kp h4 (h5.trans hq) h6 h7 h8 h9, ha, hp⟩
theorem ltDN {oi : Oper} {i : Nat} {l l' : Array Bool} {a a' : Act} {t : TypeId} {p : Operand} {g k : Nat} {cs : Array Value} {q : Value} (h1 : ops[i]? = some oi) (h2 : l.setIfInBounds i true = l') (h3 : takeB md ops ds l l' i = true) (hw : oi.guard = none) (h4 : oi.op = .load t p) (h5 : a.eval p = q) (hq : q = .pointer (some ⟨g, 0, none⟩)) (h6 : At (.box g cs t) L k) (h7 : k ∈ ks) (h8 : aggB P t = true) (h9 : (P.info? t).map (·.size) = some cs.size) (ha : a.put oi.dst (.agg cs) = a') (hp : ∀ c v a w, Q (.panic c) (a.put oi.dst v) w → Q (.panic c) a w) : LtD P md ops Q ds L ks i l l' a a' := ⟨oi, _, h1, h2, h3, hw, run_kpA h4 (h5.trans hq) h6 h7 h8 h9, ha, hp⟩
theorem LtD.run {i : Nat} {l l' : Array Bool} {a a' : Act} {fuel : Nat} (k : LtD P md ops Q ds L ks i l l' a a') (S : Kp L ks w) (h : wpAnyLast P md ops Q (Kp L ks) ds fuel l' a' w) : wpAnyLast P md ops Q (Kp L ks) ds (fuel + 1) l a w := by
 obtain ⟨oi, v, h1, h2, h3, hw, hr, ha, h5⟩ := k
 exact take_ l' h1 rfl h3 (fun c a w => h5 c v a w) (.inl ⟨want0 hw, fun w' s => hr _ s⟩) S ha h
theorem ltd (i : Nat) (S : Sep w0 w L') {l l' : Array Bool} {a a' : Act} {fuel : Nat} (h : wpAnyLast P md ops Q (Kp L ks) ds fuel l' a' w)
    (hk : ∀ k ∈ ks, L'[k]? = L[k]? := by repeat (first | exact List.forall_mem_nil _ | refine List.forall_mem_cons.2 ⟨rfl, ?_⟩))
    (k : LtD P md ops Q ds L ks i l l' a a' := by
      first
        | (apply ltD1
           case h1 => simp only [List.getElem?_toArray, List.getElem?_cons_zero, List.getElem?_cons_succ]; rfl
           case h2 => simp only [List.setIfInBounds_toArray, List.set_cons_zero, List.set_cons_succ]; rfl
           case h3 => kernel_rfl
           case hw => rfl
           case h4 => with_reducible rfl
           case h5 => go_simp; with_reducible rfl
           case hq => with_reducible rfl
           case h6 => repeat (first | exact At.here | apply At.there)
           case h7 => decide
           case _h => rfl
           case h8 => rfl
           case h9 => kernel_rfl
           case ha => simp only [Act.put, List.setIfInBounds_toArray, List.set_cons_zero, List.set_cons_succ]; rfl
           case hp => exact fun _ _ _ _ h => h)
        | (apply ltDN
           case h1 => simp only [List.getElem?_toArray, List.getElem?_cons_zero, List.getElem?_cons_succ]; rfl
           case h2 => simp only [List.setIfInBounds_toArray, List.set_cons_zero, List.set_cons_succ]; rfl
           case h3 => kernel_rfl
           case hw => rfl
           case h4 => with_reducible rfl
           case h5 => go_simp; with_reducible rfl
           case hq => with_reducible rfl
           case h6 => repeat (first | exact At.here | apply At.there)
           case h7 => decide
           case h8 => kernel_rfl
           case h9 => kernel_rfl
           case ha => simp only [Act.put, List.setIfInBounds_toArray, List.set_cons_zero, List.set_cons_succ]; rfl
           case hp => exact fun _ _ _ _ h => h)) : wpAnyLast P md ops Q (Kp L ks) ds (fuel + 1) l a w := k.run (S.kp hk) h
theorem lcd (i n : Nat) {f : FuncId} {args : Array Value} {R : Ending → World → Prop} {fuel : Nat} {l l' : Array Bool} {a : Act} {fn : Func} (h6 : P.funcs[f]? = some fn) (hC : Calls P f args w R)
    (h : ∀ e w1, R e w1 → ∃ v, e = .returned v ∧ Kp L0 ks w1 ∧ ∃ a', a.put (some n) v = a' ∧ wpAnyLast P md ops Q (Kp L0 ks) ds fuel l' a' w1)
    (hd : i ∉ ds := by decide)
    (k : CaAt P md ops i n l l' a f fn args := by
      apply caAt
      case h1 => simp only [List.getElem?_toArray, List.getElem?_cons_zero, List.getElem?_cons_succ]; rfl
      case h2 => rfl
      case h3 => simp only [List.setIfInBounds_toArray, List.set_cons_zero, List.set_cons_succ]; rfl
      case h4 => kernel_rfl
      case h5 => rfl
      case h7 => kernel_rfl
      case h8 => kernel_rfl
      case h9 => rfl
      case h10 => simp only [List.map_toArray, List.map_cons, List.map_nil]; rfl) : wpAnyLast P md ops Q (Kp L0 ks) ds (fuel + 1) l a w := by
  obtain ⟨oi, av, ts, h1, h2, h3, h4, h5, h7, h8, h9, h10⟩ := k
  refine one_ l' h1 h2 h4 hd (fun K hK => goes_ h6 h7 h8 args (want0 h5) h2 h9 h10 (hC.mono ?_))
  intro e w1 hR
  obtain ⟨v, he, hk, a', ha, hh⟩ := h e w1 hR
  subst ha
  exact ⟨v, he, hK.out _ _ hk (fun _ => hh)⟩
theorem lse (i q : Nat) (S : Sep w0 w L) {L0 : List Asr} {l l' : Array Bool} {a : Act} {fuel : Nat} (h : ∀ w1, Sep w0 w1 L' → wpAnyLast P md ops Q (Kp L0 ks) ds fuel l' a w1)
    (k : LsAt P md ops L L' i l l' a := by
      apply lsAt
      case h1 => simp only [List.getElem?_toArray, List.getElem?_cons_zero, List.getElem?_cons_succ]; rfl
      case h2 => simp only [List.setIfInBounds_toArray, List.set_cons_zero, List.set_cons_succ]; rfl
      case h3 => kernel_rfl
      case h5 => rfl
      case h6 =>
        apply stAt
        case h1 => rfl
        case h2 => rfl
        case h3 => rfl
        case h4 => repeat (first | exact Upd.here | apply Upd.there)
        case h5 => go_simp; with_reducible rfl
        case h6 => first | exact (rfl : _ = [_]) | exact (rfl : _ = [_, _, _, _, _]) | exact (rfl : _ = [_, _, _]) | exact (rfl : _ = [_, _, _, _, _, _, _, _]) | exact (rfl : _ = [_, _, _, _, _, _, _, _, _, _])
        case h7 => kernel_rfl
        case h8 => rfl
        case h9 => rfl
        case h10 => simp only [putL, List.set_cons_zero, List.set_cons_succ]; rfl)
    (hd : i ∉ ds := by decide)
    (hk : ∀ k ∈ ks, L'[k + q]? = L0[k]? := by repeat (first | exact List.forall_mem_nil _ | refine List.forall_mem_cons.2 ⟨rfl, ?_⟩)) : wpAnyLast P md ops Q (Kp L0 ks) ds (fuel + 1) l a w := by
  obtain ⟨oi, h1, e2, h3, h5, t, p, x, g, i', ty, cs, cs', u, seg, e1, e2', e3, e4, e5, e6, e7, e8, e9, e10⟩ := k
  exact one_ l' h1 e2' h3 hd (fun K hK => sp_store_step e1 e2' (want0 h5) S e3 e4 e5 e6 e7 e8 e9 e10 (fun w1 S1 => hK.out _ _ (S1.kpq q hk) (fun _ => h w1 S1)))
theorem lsl (i : Nat) (S : Sep w0 w L) {L0 : List Asr} {l l' : Array Bool} {a : Act} {fuel : Nat} (h : ∀ w1, Sep w0 w1 L' → wpAnyLast P md ops Q (Kp L0 ks) ds fuel l' a w1)
    (k : LsAt P md ops L L' i l l' a := by
      apply lsAt
      case h1 => simp only [List.getElem?_toArray, List.getElem?_cons_zero, List.getElem?_cons_succ]; rfl
      case h2 => simp only [List.setIfInBounds_toArray, List.set_cons_zero, List.set_cons_succ]; rfl
      case h3 => kernel_rfl
      case h5 => rfl
      case h6 =>
        apply stAt
        case h1 => rfl
        case h2 => rfl
        case h3 => rfl
        case h4 => repeat (first | exact Upd.here | apply Upd.there)
        case h5 => go_simp; with_reducible rfl
        case h6 => first | exact (rfl : _ = [_]) | exact (rfl : _ = [_, _, _, _, _]) | exact (rfl : _ = [_, _, _]) | exact (rfl : _ = [_, _, _, _, _, _, _, _]) | exact (rfl : _ = [_, _, _, _, _, _, _, _, _, _])
        case h7 => kernel_rfl
        case h8 => rfl
        case h9 => rfl
        case h10 => simp only [putL, List.set_cons_zero, List.set_cons_succ]; rfl)
    (hd : i ∈ ds := by decide) : wpAnyLast P md ops Q (Kp L0 ks) ds (fuel + 1) l a w := by
  obtain ⟨oi, h1, e2, h3, h5, t, p, x, g, i', ty, cs, cs', u, seg, e1, e2', e3, e4, e5, e6, e7, e8, e9, e10⟩ := k
  exact last_ l' h1 e2' h3 hd (fun K hK => sp_store_step e1 e2' (want0 h5) S e3 e4 e5 e6 e7 e8 e9 e10 (fun w1 S1 => hK.out _ _ (h w1 S1)))
end
section
variable {P : Program} {ops : Array Oper} {rest : List Oper} {o : Oper} {a a' : Act} {Q : Exit → Act → World → Prop} {w0 W : World} {L : List Asr}
def XdAt (P : Program) (ops : Array Oper) (o : Oper) (a a' : Act) (ad : Addr) (v : Value) : Prop := Region.wanted o (yielded ops a.tmps) = true ∧ ∃ t p, o.op = .load t p ∧ a.eval p = .pointer (some ad) ∧ scalB P t = true ∧ a.put o.dst v = a'
theorem xdAt {ad : Addr} {v : Value} {t : TypeId} {p : Operand} (hw : Region.wanted o (yielded ops a.tmps) = true) (h1 : o.op = .load t p) (h2 : a.eval p = .pointer (some ad)) (h3 : scalB P t = true) (h4 : a.put o.dst v = a') : XdAt P ops o a a' ad v := ⟨hw, t, p, h1, h2, h3, h4⟩
theorem sx (S : Sep w0 W L) {ad : Addr} {v : Value} (hv : w0.cell? ad = some v) (h : wpList P ops Q rest a' W)
    (k : XdAt P ops o a a' ad v := by
      apply xdAt
      case h1 => with_reducible rfl
      case h2 => go_simp
      case hw => first | exact want0 rfl | rfl
      case h3 => kernel_rfl
      case h4 => simp only [Act.put, List.setIfInBounds_toArray, List.set_cons_zero, List.set_cons_succ]; rfl) : wpList P ops Q (o :: rest) a W := by
  obtain ⟨hw, t, p, h1, h2, h3, rfl⟩ := k
  refine wpList_step fun K hK => ?_
  rw [if_pos hw]
  unfold Oper.wp
  have hr := run_load_one (P := P) h3 (pw_cell_below S.below hv)
  have he : (execOp a.eval o).run P W = .ok (.value v) W := by
    unfold execOp
    simp only [h1, h2, Sem.run_bind, Sem.run_pure, Result.andThen_ok, hr]
  rw [he]
  exact hK _ _ h
end
section
variable {P : Program} {md : Region.Mode} {ops : Array Oper} {Q : Exit → Act → World → Prop} {w0 W w : World} {L L' L0 : List Asr} {ks ds : List Nat}
def Rdy (P : Program) (md : Region.Mode) (ops : Array Oper) (Q : Exit → Act → World → Prop) (S : World → Prop) (ds : List Nat) (fuel : Nat) (l : Array Bool) (a : Act) (w : World) (i : Nat) : Prop :=
 ∃ o, ops[i]? = some o ∧ i ∉ ds ∧ ∀ K : Act → World → Prop, Shut (∀ a' w', S w' → (S w' → wpAnyLast P md ops Q S ds fuel (l.setIfInBounds i true) a' w') → K a' w') → if Region.wanted o (yielded ops a.tmps) = true then Oper.wp P o a w K Q else K (a.put o.dst undef) w
theorem rdAll {S : World → Prop} {fuel : Nat} {l : Array Bool} {a : Act} {w : World} : ∀ {rs : List Nat}, (∀ i ∈ rs, Rdy P md ops Q S ds fuel l a w i) → AllReadyL P md ops Q S ds fuel l a w rs
 | [], _ => AllReadyL.nil
 | i :: rs, h => by
  obtain ⟨o, h1, h2, h3⟩ := h i List.mem_cons_self
  exact AllReadyL.cons h1 h2 (fun K hK => h3 K hK) (rdAll (fun j hj => h j (List.mem_cons_of_mem _ hj)))
theorem rdo {S : World → Prop} {fuel : Nat} {l : Array Bool} {a : Act} (rs : List Nat) (hne : rs ≠ []) (h : ∀ i ∈ rs, Rdy P md ops Q S ds fuel l a w i) (hr : (Region.ready md ops l == rs) = true := by kernel_rfl) : wpAnyLast P md ops Q S ds (fuel + 1) l a w :=
 wpAnyLast_ready (by simpa using hr) hne (rdAll h)
def RcAt (P : Program) (ops : Array Oper) (i n : Nat) (l l' : Array Bool) (a : Act) (f : FuncId) (fn : Func) (args : Array Value) : Prop :=
 ∃ (oi : Oper) (av : Array Operand) (ts : Array TypeId), ops[i]? = some oi ∧ oi.dst = some n ∧ l.setIfInBounds i true = l' ∧ oi.guard = none ∧ (fn.name == "runtime.NumGoroutine") = false ∧ fn.body.isSome = true ∧ oi.op = .call { callee := .value (.func f), args := av, argTypes := ts } ∧ av.map a.eval = args
theorem rcAt {i n : Nat} {l l' : Array Bool} {a : Act} {f : FuncId} {fn : Func} {args : Array Value} {oi : Oper} {av : Array Operand} {ts : Array TypeId} (h1 : ops[i]? = some oi) (h2 : oi.dst = some n) (h3 : l.setIfInBounds i true = l') (h5 : oi.guard = none) (h7 : (fn.name == "runtime.NumGoroutine") = false) (h8 : fn.body.isSome = true) (h9 : oi.op = .call { callee := .value (.func f), args := av, argTypes := ts }) (h10 : av.map a.eval = args) : RcAt P ops i n l l' a f fn args :=
 ⟨oi, av, ts, h1, h2, h3, h5, h7, h8, h9, h10⟩
theorem rc (n : Nat) {i : Nat} {f : FuncId} {args : Array Value} {R : Ending → World → Prop} {fuel : Nat} {l l' : Array Bool} {a : Act} {fn : Func} (h6 : P.funcs[f]? = some fn) (hC : Calls P f args w R)
    (h : ∀ e w1, R e w1 → ∃ v, e = .returned v ∧ Kp L0 ks w1 ∧ ∃ a', a.put (some n) v = a' ∧ wpAnyLast P md ops Q (Kp L0 ks) ds fuel l' a' w1)
    (hd : i ∉ ds := by decide)
    (k : RcAt P ops i n l l' a f fn args := by
      apply rcAt
      case h1 => simp only [List.getElem?_toArray, List.getElem?_cons_zero, List.getElem?_cons_succ]; rfl
      case h2 => rfl
      case h3 => simp only [List.setIfInBounds_toArray, List.set_cons_zero, List.set_cons_succ]; rfl
      case h5 => rfl
      case h7 => kernel_rfl
      case h8 => kernel_rfl
      case h9 => rfl
      case h10 => simp only [List.map_toArray, List.map_cons, List.map_nil]; rfl) : Rdy P md ops Q (Kp L0 ks) ds fuel l a w i := by
  obtain ⟨oi, av, ts, h1, h2, h3, h5, h7, h8, h9, h10⟩ := k
  refine ⟨oi, h1, hd, fun K hK => ?_⟩
  rw [h2]
  refine goes_ h6 h7 h8 args (want0 h5) h2 h9 h10 (hC.mono ?_)
  intro e w1 hR
  obtain ⟨v, he, hk, a', ha, hh⟩ := h e w1 hR
  subst ha h3
  exact ⟨v, he, hK.out _ _ hk (fun _ => hh)⟩
def RnAt (P : Program) (W : World) (ops : Array Oper) (i n : Nat) (l l' : Array Bool) (a : Act) (cs : Array Value) (t : TypeId) (f : Nat → Act) : Prop :=
 ∃ oi : Oper, ops[i]? = some oi ∧ oi.dst = some n ∧ l.setIfInBounds i true = l' ∧ oi.guard = none ∧ (execOp a.eval oi).run P W = .ok (.value (.pointer (some ⟨W.heap.size, 0, none⟩))) (W.alloc (.cells cs t (0, 0))) ∧ ∀ g, a.put (some n) (.pointer (some ⟨g, 0, none⟩)) = f g
theorem rnAt {W : World} {i n : Nat} {l l' : Array Bool} {a : Act} {cs : Array Value} {t : TypeId} {f : Nat → Act} {oi : Oper} (h1 : ops[i]? = some oi) (h2 : oi.dst = some n) (h3 : l.setIfInBounds i true = l') (h5 : oi.guard = none) (h6 : (execOp a.eval oi).run P W = .ok (.value (.pointer (some ⟨W.heap.size, 0, none⟩))) (W.alloc (.cells cs t (0, 0)))) (h7 : ∀ g, a.put (some n) (.pointer (some ⟨g, 0, none⟩)) = f g) : RnAt P W ops i n l l' a cs t f := ⟨oi, h1, h2, h3, h5, h6, h7⟩
theorem rn (n : Nat) {i : Nat} (S : Sep w0 W L) {fuel : Nat} {l l' : Array Bool} {a : Act} {cs : Array Value} {t : TypeId} {f : Nat → Act} (h : ∀ g w1, Sep w0 w1 (.box g cs t :: L) → Kp L0 ks w1 ∧ wpAnyLast P md ops Q (Kp L0 ks) ds fuel l' (f g) w1)
    (hd : i ∉ ds := by decide)
    (k : RnAt P W ops i n l l' a cs t f := by
      apply rnAt
      case h1 => simp only [List.getElem?_toArray, List.getElem?_cons_zero, List.getElem?_cons_succ]; rfl
      case h2 => rfl
      case h3 => simp only [List.setIfInBounds_toArray, List.set_cons_zero, List.set_cons_succ]; rfl
      case h5 => rfl
      case h6 => first | (go_simp; done) | (go_simp; rfl)
      case h7 => intro g; simp only [Act.put, List.setIfInBounds_toArray, List.set_cons_zero, List.set_cons_succ]; rfl) : Rdy P md ops Q (Kp L0 ks) ds fuel l a W i := by
  obtain ⟨oi, h1, h2, h3, h5, h6, h7⟩ := k
  refine ⟨oi, h1, hd, fun K hK => ?_⟩
  rw [h2]
  subst h3
  have hh := h _ _ (S.new cs t)
  refine value_ (want0 h5) h2 h6 ?_
  rw [h7]
  exact hK.out _ _ hh.1 (fun _ => hh.2)
end
end Go.Proofs.YtidglmocekghmaaDoor.Pr
end
section
namespace Go.Proofs.YtidglmocekghmaaDoor.Pr
open Go.RowKit Go.Proofs.YtidglmocekghmaaDoorW.PrintWords Go.Proofs.YtidglmocekghmaaDoorW.PrintLast Go.Proofs.YtidglmocekghmaaDoorW.PrintMore
set_option linter.unusedVariables false
set_option linter.unusedSimpArgs false
section
variable {P : Program} {ops : Array Oper} {rest : List Oper} {o : Oper} {a : Act} {Q : Exit → Act → World → Prop} {w0 W w1 : World} {L : List Asr} {α : Type} {d : Kd α} {e : Nat} {v v1 : Value} {xs ys : List α}
theorem R_litX (d : Kd α) (e : Nat) (W : World) {inner : List Value} (hr : Reps (d.M W W.heap.size (fun _ => False)) d.sz xs inner) (hm : xs.length ≤ 9223372036854775807) : d.R e (W.alloc (.cells inner.toArray e)) W.heap.size (fun _ => True) (.slice (some ⟨W.heap.size, 0, none⟩) xs.length xs.length) xs := by
 refine ⟨fun _ _ => trivial, inner, ?_, hr.imp_ (fun p c hp => d.M_mono (fun k hk => hk.1.elim) (Kd.M_below (d.M_bound hp) (below_alloc (Below.refl _ _) _)))⟩
 have h2 := World.ownsRow_lit (base := W.heap.size) (e := e) (size := d.sz) W inner.toArray xs.length (Nat.le_refl _) (by simpa [maxLen] using hm) (by simpa using hr.1)
 simpa using h2
theorem sp_lit (d : Kd α) (e : Nat) {N : Tmp} (hd : o.dst = some N) (hg : o.guard = none) (S : Sep w0 W L) (xs : List α) (inner : List Value)
  (hrun : (execOp a.eval o).run P W = .ok (.value (.slice (some ⟨W.heap.size, 0, none⟩) xs.length xs.length)) (W.alloc (.cells inner.toArray e)))
  (hr : Reps (d.M W W.heap.size (fun _ => False)) d.sz xs inner) (hm : xs.length ≤ 9223372036854775807)
  (h : ∀ g w1, Sep w0 w1 (.row d e (.slice (some ⟨g, 0, none⟩) xs.length xs.length) xs :: L) → wpList P ops Q rest (a.put (some N) (.slice (some ⟨g, 0, none⟩) xs.length xs.length)) w1) : wpList P ops Q (o :: rest) a W := by
 rw [← hd] at h
 exact Kd.event_run hg hrun (h _ _ (S.push (a := .row d e _ xs) (below_alloc (Below.refl _ _) _) (R_litX d e W hr hm)))
theorem Sep.grown {F : Nat → Prop} (hb : Below w0.heap.size w0 W) (hF : ∀ k, F k → k < W.heap.size) (hv : ∀ k, v.ownBlock = some k → F k)
  (hL : Sat W w0.heap.size L (fun k => k < W.heap.size ∧ ¬ F k)) (hR : d.R e w1 w0.heap.size (fun k => F k ∨ W.heap.size ≤ k) v1 ys) (hB : Below w0.heap.size w0 w1) (hg : W.grownBy w1 v.ownBlock) : Sep w0 w1 (.row d e v1 ys :: L) :=
 Sep.appended (ok := fun _ => True) (A := fun _ => True) (F := F) (G := fun _ => False) hb hF hv (fun _ h => h.elim) (hL.mono (fun k hk => ⟨hk, fun h => h⟩)) (Kd.R_mono hR (fun k hk => hk.elim .inl (fun h => .inr (.inr h)))) hB hg
theorem sp_rows (S : Sep w0 W (.row d e v xs :: L)) (hgd : o.guard = none) {s x : Operand} {t : TypeId} {z : Value} {bytes : Nat} {A : Option Addr} {m c : Nat}
  (ho : o.op = .call { callee := .builtin .append, args := #[s, x], argTypes := #[t, t] })
  (ht : P.underlying t = some (.slice e)) (hinfo : (P.info? e).map (fun i => (i.zero, i.size, i.bytes)) = some (some z, d.sz, bytes)) (hz : z.cells.size = d.sz) (hs0 : 0 < d.sz) (hb0 : 0 < bytes)
  (hs : a.eval s = v) (hx : a.eval x = .slice A m c) (hr : d.C W A m ys) (hKM : ∀ x cs, d.K W x cs → d.M W w0.heap.size (fun _ => False) x cs) (hl : (xs.length + m) * bytes ≤ 140737488355328)
  (h : ∀ v1 w1, Sep w0 w1 (.row d e v1 (xs ++ ys) :: L) → wpList P ops Q rest (a.put o.dst v1) w1) : wpList P ops Q (o :: rest) a W := by
 obtain ⟨B, F, h1, h2, h3⟩ := S
 refine Kd.R_append_rows d (w0 := w0) (Rr := d.K W) w0.heap.size hgd s x t e z bytes ho ht hinfo hz hs0 hb0 v xs ys A m c (fun k => F k ∨ W.heap.size ≤ k) (fun _ => False) hs hx (Kd.R_mono h2 (fun k hk => .inl hk)) hr hKM (fun k hk => hk.elim) (fun k hk => .inr hk) B B.size hl ?_
 intro v1 w1 hr hb hg _
 exact h v1 w1 (Sep.grown B h1 h2.1 h3 hr hb hg)
theorem Sep.putR {enc : α → Value} {h1 : ∀ x, (enc x).oneCell' = true} {g n c i : Nat} {y : α} (S : Sep w0 W (.row (Kd.scalar enc h1) e (.slice (some ⟨g, 0, none⟩) n c) xs :: L)) (hi : i < n) : Sep w0 (W.setCell ⟨g, i, none⟩ (enc y)) (.row (Kd.scalar enc h1) e (.slice (some ⟨g, 0, none⟩) n c) (xs.set i y) :: L) := by
 obtain ⟨B, F, k1, k2, k3⟩ := S
 have hn : xs.length = n := (Kd.R_reads' k2).1.symm
 subst hn
 obtain ⟨r1, r2⟩ := Kd.R_put k2 (i : Int) y
 rw [Int.toNat_natCast] at r1 r2
 have hob : (Value.slice (some ⟨g, 0, none⟩) xs.length c).ownBlock = some g := by simp [Value.ownBlock]
 have hge : w0.heap.size ≤ g := by
  obtain ⟨_, ho⟩ := k2.2
  exact own_base ho.1 g hob
 have hFg := k2.1 g hob
 have hsz : (W.setCell ⟨g, i, none⟩ (enc y)).heap.size = W.heap.size := by
  have := setCells_only g i [enc y] W
  exact this.size
 have hos := setCells_only g i [enc y] W
 refine ⟨⟨hos.os.trans B.os, hos.tape.trans B.tape, hos.output.trans B.output, by rw [hsz]; exact B.size, fun k hk => (hos.block k (by omega)).trans (B.block k hk)⟩, F, fun k hk => by rw [hsz]; exact k1 k hk, r1, ?_⟩
 rw [hsz]
 exact k3.step (fun k hk _ => hos.block k (fun e' => hk.2 (e' ▸ hFg)))
theorem sp_put {enc : α → Value} {h1 : ∀ x, (enc x).oneCell' = true} {g n c i : Nat} {y : α} {t : TypeId} {p x : Operand} (ho : o.op = .store t p x) (hN : o.dst = none) (hg : o.guard = none) (S : Sep w0 W (.row (Kd.scalar enc h1) e (.slice (some ⟨g, 0, none⟩) n c) xs :: L))
  (hp : a.eval p = .pointer (some ⟨g, i, none⟩)) (hx : a.eval x = enc y) (hi : i < n) (ht : (P.info? t).map (·.size) = some 1) (hu : (enc y).cells.toList = [enc y])
  (h : ∀ w1, Sep w0 w1 (.row (Kd.scalar enc h1) e (.slice (some ⟨g, 0, none⟩) n c) (xs.set i y) :: L) → wpList P ops Q rest a w1) : wpList P ops Q (o :: rest) a W := by
 have hn : xs.length = n := (Kd.R_reads' (S.outR .here)).1.symm
 obtain ⟨inner, hown⟩ := (S.outR .here).2
 have hob : (Value.slice (some ⟨g, 0, none⟩) n c).ownBlock = some g := by simp [Value.ownBlock]
 obtain ⟨cells, hc⟩ := own_typed hown.1 g hob
 have hfit : i + 1 ≤ cells.toList.length := by
  have h2 := (Kd.R_celln y (S.outR .here) (i : Int) (by omega) (by omega)).1
  rw [Int.toNat_natCast, blk_cell hc] at h2
  have := (Array.getElem?_eq_some_iff.1 h2).1
  simp; omega
 have hr := run_store_run (P := P) t (enc y) [enc y] (show W.heap[g]? = some (.cells cells.toList.toArray e (0, 0)) by simpa using hc) hu ht (by simpa using hfit) (fun q hq => by simp at hq; subst hq; exact h1 y)
 have he : (execOp a.eval o).run P W = .ok .skip (W.setCells g i [enc y]) := by
  unfold execOp
  simp only [ho, hp, hx, Sem.run_bind, Sem.run_pure, Result.andThen_ok, hr]
 refine wpList_plain hg fun K hK => ?_
 unfold Oper.wp
 rw [he]
 show K (a.put o.dst undef) _
 rw [hN]
 exact hK _ _ (h _ (S.putR hi))
end
section
variable {P : Program} {md : Region.Mode} {ops : Array Oper} {Q : Exit → Act → World → Prop} {w0 W w w1 : World} {L : List Asr}
def Bw (w1 : World) (w : World) : Prop := Below w1.heap.size w1 w
theorem bws (S : Sep w0 W L) {id n : Nat} {l : Array Bool} {a : Act} (h : Sep w0 W.drew L → wpAnyLast P .any ops Q (Bw W.drew) [] n l a W.drew)
  (h1 : P.follows .mixedOrders = true := by kernel_rfl) (h2 : ops.size = n := by simp only [List.size_toArray, List.length_cons, List.length_nil, Nat.reduceAdd]; rfl)
  (h3 : Array.replicate n false = l := by simp only [Array.replicate_succ, Array.replicate_zero, List.push_toArray, List.nil_append, List.cons_append]; rfl) : (Code.region id ops true).wp P Q a W :=
 start_ (S := Bw W.drew) l h1 h2 h3 (Below.refl _ _) (fun _ => h S.drew)
def BlAt (P : Program) (md : Region.Mode) (ops : Array Oper) (Q : Exit → Act → World → Prop) (i : Nat) (l l' : Array Bool) (a a' : Act) (ad : Addr) (v : Value) : Prop :=
 ∃ oi t p, ops[i]? = some oi ∧ l.setIfInBounds i true = l' ∧ takeB md ops [] l l' i = true ∧ oi.guard = none ∧ oi.op = .load t p ∧ a.eval p = .pointer (some ad) ∧ scalB P t = true ∧ a.put oi.dst v = a' ∧ (∀ c a w, Q (.panic c) (a.put oi.dst v) w → Q (.panic c) a w)
theorem blAt {i : Nat} {l l' : Array Bool} {a a' : Act} {ad : Addr} {v : Value} {oi : Oper} {t : TypeId} {p : Operand} (h1 : ops[i]? = some oi) (h2 : l.setIfInBounds i true = l') (h3 : takeB md ops [] l l' i = true) (h4 : oi.guard = none) (h5 : oi.op = .load t p) (h6 : a.eval p = .pointer (some ad)) (h7 : scalB P t = true) (h8 : a.put oi.dst v = a') (h9 : ∀ c a w, Q (.panic c) (a.put oi.dst v) w → Q (.panic c) a w) : BlAt P md ops Q i l l' a a' ad v := ⟨oi, t, p, h1, h2, h3, h4, h5, h6, h7, h8, h9⟩
theorem bwl (i : Nat) {ad : Addr} {v : Value} (hv : w1.cell? ad = some v) (hb : Bw w1 w) {l l' : Array Bool} {a a' : Act} {fuel : Nat} (h : wpAnyLast P md ops Q (Bw w1) [] fuel l' a' w)
    (k : BlAt P md ops Q i l l' a a' ad v := by
      apply blAt
      case h1 => simp only [List.getElem?_toArray, List.getElem?_cons_zero, List.getElem?_cons_succ]; rfl
      case h2 => simp only [List.setIfInBounds_toArray, List.set_cons_zero, List.set_cons_succ]; rfl
      case h3 => kernel_rfl
      case h4 => rfl
      case h5 => with_reducible rfl
      case h6 => first | (go_simp; done) | (go_simp; rfl)
      case h7 => kernel_rfl
      case h8 => simp only [Act.put, List.setIfInBounds_toArray, List.set_cons_zero, List.set_cons_succ]; rfl
      case h9 => exact fun _ _ _ h => h) : wpAnyLast P md ops Q (Bw w1) [] (fuel + 1) l a w := by
  obtain ⟨oi, t, p, h1, h2, h3, h4, h5, h6, h7, h8, h9⟩ := k
  refine take_ l' h1 rfl h3 (fun c a w => h9 c a w) (.inl ⟨want0 h4, fun w' s => ?_⟩) hb h8 h
  have hr := run_load_one (P := P) h7 (pw_cell_below s hv)
  unfold execOp
  simp only [h5, h6, Sem.run_bind, Sem.run_pure, Result.andThen_ok, hr]
theorem bwc (i n : Nat) {f : FuncId} {args : Array Value} {R : Ending → World → Prop} {fuel : Nat} {l l' : Array Bool} {a : Act} {fn : Func} (h6 : P.funcs[f]? = some fn) (hC : Calls P f args w R)
    (h : ∀ e w2, R e w2 → ∃ v, e = .returned v ∧ Bw w1 w2 ∧ ∃ a', a.put (some n) v = a' ∧ wpAnyLast P md ops Q (Bw w1) [] fuel l' a' w2)
    (k : CaAt P md ops i n l l' a f fn args := by
      apply caAt
      case h1 => simp only [List.getElem?_toArray, List.getElem?_cons_zero, List.getElem?_cons_succ]; rfl
      case h2 => rfl
      case h3 => simp only [List.setIfInBounds_toArray, List.set_cons_zero, List.set_cons_succ]; rfl
      case h4 => kernel_rfl
      case h5 => rfl
      case h7 => kernel_rfl
      case h8 => kernel_rfl
      case h9 => rfl
      case h10 => simp only [List.map_toArray, List.map_cons, List.map_nil]; rfl) : wpAnyLast P md ops Q (Bw w1) [] (fuel + 1) l a w := by
  obtain ⟨oi, av, ts, h1, h2, h3, h4, h5, h7, h8, h9, h10⟩ := k
  refine one_ l' h1 h2 h4 (by simp) (fun K hK => goes_ h6 h7 h8 args (want0 h5) h2 h9 h10 (hC.mono ?_))
  intro e w2 hR
  obtain ⟨v, he, hk, a', ha, hh⟩ := h e w2 hR
  subst ha
  exact ⟨v, he, hK.out _ _ hk (fun _ => hh)⟩
end
end Go.Proofs.YtidglmocekghmaaDoor.Pr
end
section
namespace Go.Proofs.YtidglmocekghmaaDoor.Pr
open Go.RowKit Go.Proofs.YtidglmocekghmaaDoorW.PrintWords Go.Proofs.YtidglmocekghmaaDoorW.PrintLast Go.Proofs.YtidglmocekghmaaDoorW.PrintMore
attribute [local go_sem] max2_int min2_int max_two min_two max_three min_three max_four min_four
set_option linter.unusedVariables false
set_option linter.unusedSimpArgs false
def capnpref11_Words.l0 : Nat → List Int → Int → Int → Option (Int)
 | 0, _, _, _ => none
 | k + 1, x0, x3, x4 => if x4 < (x0.length : Int) then (if 0 ≤ x4 then (if (rd x0 x4) = 0 then (capnpref11_Words.l0 k x0 x3 (wrap64 (x4 + 1))) else (capnpref11_Words.l0 k x0 (wrap64 ((wrap64 (Int.tdiv x4 8)) + 1)) (wrap64 (x4 + 1)))) else (none)) else (some x3)
def capnpref11_Words.f (k : Nat) (l0 : List Int) : Option (Int) := capnpref11_Words.l0 k l0 0 0
set_option maxHeartbeats 8000000 in
set_option maxRecDepth 100000 in
theorem capnpref11_Words.calls (k : Nat) (A0 : Option Addr) (c0 : Nat) (l0 : List Int) (r : Int) (w : World) (hr0 : Kd.C (Kd.int .u8) w A0 l0.length l0) (hc0 : l0.length ≤ c0) (h : capnpref11_Words.f k l0 = some r) :
    Calls Tryd.prog 46 #[.slice A0 l0.length c0] w fun e w' => e = .returned (.int .i64 r) ∧ Drawn0 w w' := by
  have HR0 := Aside0.mk hr0
  have HC0 := Aside0.mk hc0
  clear hr0 hc0
  have H : (capnpref11_Words.l0 k l0 0 0) = some r := h
  clear h
  have H' := Aside0.mk H
  clear H
  go_enter Tryd.func46, Tryd.ntmps46
  go_wp2
  go_loopg [3, 4] k (fun kq v3 v4 w' => ∃ (x3_1 : Int) (x4_1 : Int), v3 = .int .i64 x3_1 ∧ v4 = .int .i64 x4_1 ∧ Aside0 (capnpref11_Words.l0 kq l0 x3_1 x4_1 = some r) ∧ Aside0 (kq ≤ k) ∧ Drawn0 w w')
  case atStart => exact ⟨(0), (0), (by first | rfl | (simp; done) | (simp [*]; done)), (by first | rfl | (simp; done) | (simp [*]; done)), H', ⟨Nat.le_refl _⟩, by repeat (first | exact Drawn0.refl _ | apply Drawn0.step)⟩
  case round =>
    clear H'
    obtain ⟨x3_1, x4_1, rfl, rfl, HA, HK1, ⟨m1, rfl⟩⟩ := hrel
    cases gk with
    | zero => exact absurd HA.out (by simp [capnpref11_Words.l0])
    | succ k1 =>
      have H := HA.out
      clear HA
      simp only [capnpref11_Words.l0] at H
      by_cases c2 : x4_1 < (l0.length : Int)
      · rw [if_pos c2] at H
        have c2b0 : decide (x4_1 < (l0.length : Int)) = true := decide_eq_true c2
        clear c2
        by_cases c3 : 0 ≤ x4_1
        · rw [if_pos c3] at H
          have c3b0 : decide (0 ≤ x4_1) = true := decide_eq_true c3
          clear c3
          by_cases c4 : (rd l0 x4_1) = 0
          · rw [if_pos c4] at H
            have c4b0 : ((rd l0 x4_1) == 0) = true := beq_iff_eq.mpr c4
            have c4b1 : ((rd l0 x4_1) != 0) = false := bne_eq_false_iff_eq.mpr c4
            clear c4
            have H' := Aside0.mk H
            clear H
            have p231 : 0 ≤ (x4_1 : Int) := of_decide_eq_true (by first | (with_reducible assumption) | assumption)
            have q231 : x4_1 < (l0.length : Int) := of_decide_eq_true (by first | (with_reducible assumption) | assumption)
            obtain ⟨ad231, e231, hx231_0⟩ := Kd.at_int HR0.out x4_1 p231 q231
            cases e231
            replace p231 := eq_true p231
            replace q231 := eq_true q231
            go_wp2
            go_roundg k1
            case measure => have := HK1.out; omega
            case rel => exact ⟨(x3_1), (wrap64 (x4_1 + 1)), (by first | rfl | (simp; done) | (simp [*]; done)), (by first | rfl | (simp; done) | (simp [*]; done)), H', ⟨by have := HK1.out; omega⟩, by repeat (first | exact Drawn0.refl _ | apply Drawn0.step)⟩
          · rw [if_neg c4] at H
            have c4b0 : ((rd l0 x4_1) == 0) = false := beq_eq_false_iff_ne.mpr c4
            have c4b1 : ((rd l0 x4_1) != 0) = true := bne_iff_ne.mpr c4
            have H' := Aside0.mk H
            clear H
            have p231 : 0 ≤ (x4_1 : Int) := of_decide_eq_true (by first | (with_reducible assumption) | assumption)
            have q231 : x4_1 < (l0.length : Int) := of_decide_eq_true (by first | (with_reducible assumption) | assumption)
            obtain ⟨ad231, e231, hx231_0⟩ := Kd.at_int HR0.out x4_1 p231 q231
            cases e231
            replace p231 := eq_true p231
            replace q231 := eq_true q231
            go_wp2
            go_roundg k1
            case measure => have := HK1.out; omega
            case rel => exact ⟨(wrap64 ((wrap64 (Int.tdiv x4_1 8)) + 1)), (wrap64 (x4_1 + 1)), (by first | rfl | (simp; done) | (simp [*]; done)), (by first | rfl | (simp; done) | (simp [*]; done)), H', ⟨by have := HK1.out; omega⟩, by repeat (first | exact Drawn0.refl _ | apply Drawn0.step)⟩
        · rw [if_neg c3] at H
          exact absurd H (by simp)
      · rw [if_neg c2] at H
        have c2b0 : decide (x4_1 < (l0.length : Int)) = false := decide_eq_false c2
        clear c2
        obtain rfl := Option.some.inj H
        go_wp2
        go_ret
        exact ⟨by first | rfl | (simp; done) | (simp [*]; done), by repeat (first | exact Drawn0.refl _ | apply Drawn0.step)⟩
def capnpref11_Pointers.l0 : Nat → List (S37) → Int → Int → Option (Int)
 | 0, _, _, _ => none
 | k + 1, x0, x3, x4 => if x4 < (x0.length : Int) then (if 0 ≤ x4 then (if ((rd_T37 x0 x4).f0) = 0 then (capnpref11_Pointers.l0 k x0 x3 (wrap64 (x4 + 1))) else (capnpref11_Pointers.l0 k x0 (wrap64 (x4 + 1)) (wrap64 (x4 + 1)))) else (none)) else (some x3)
def capnpref11_Pointers.f (k : Nat) (l0 : List (S37)) : Option (Int) := capnpref11_Pointers.l0 k l0 0 0
set_option maxHeartbeats 8000000 in
set_option maxRecDepth 100000 in
theorem capnpref11_Pointers.calls (k : Nat) (A0 : Option Addr) (c0 : Nat) (l0 : List (S37)) (r : Int) (w : World) (hr0 : Kd.C k37 w A0 l0.length l0) (hc0 : l0.length ≤ c0) (h : capnpref11_Pointers.f k l0 = some r) :
    Calls Tryd.prog 47 #[.slice A0 l0.length c0] w fun e w' => e = .returned (.int .i64 r) ∧ Drawn0 w w' := by
  have HR0 := Aside0.mk hr0
  have HC0 := Aside0.mk hc0
  clear hr0 hc0
  have H : (capnpref11_Pointers.l0 k l0 0 0) = some r := h
  clear h
  have H' := Aside0.mk H
  clear H
  go_enter Tryd.func47, Tryd.ntmps47
  go_wp2
  go_loopg [3, 4] k (fun kq v3 v4 w' => ∃ (x3_1 : Int) (x4_1 : Int), v3 = .int .i64 x3_1 ∧ v4 = .int .i64 x4_1 ∧ Aside0 (capnpref11_Pointers.l0 kq l0 x3_1 x4_1 = some r) ∧ Aside0 (kq ≤ k) ∧ Drawn0 w w')
  case atStart => exact ⟨(0), (0), (by first | rfl | (simp; done) | (simp [*]; done)), (by first | rfl | (simp; done) | (simp [*]; done)), H', ⟨Nat.le_refl _⟩, by repeat (first | exact Drawn0.refl _ | apply Drawn0.step)⟩
  case round =>
    clear H'
    obtain ⟨x3_1, x4_1, rfl, rfl, HA, HK1, ⟨m1, rfl⟩⟩ := hrel
    cases gk with
    | zero => exact absurd HA.out (by simp [capnpref11_Pointers.l0])
    | succ k1 =>
      have H := HA.out
      clear HA
      simp only [capnpref11_Pointers.l0] at H
      by_cases c2 : x4_1 < (l0.length : Int)
      · rw [if_pos c2] at H
        have c2b0 : decide (x4_1 < (l0.length : Int)) = true := decide_eq_true c2
        clear c2
        by_cases c3 : 0 ≤ x4_1
        · rw [if_pos c3] at H
          have c3b0 : decide (0 ≤ x4_1) = true := decide_eq_true c3
          clear c3
          by_cases c4 : ((rd_T37 l0 x4_1).f0) = 0
          · rw [if_pos c4] at H
            have c4b0 : (((rd_T37 l0 x4_1).f0) == 0) = true := beq_iff_eq.mpr c4
            have c4b1 : (((rd_T37 l0 x4_1).f0) != 0) = false := bne_eq_false_iff_eq.mpr c4
            clear c4
            have H' := Aside0.mk H
            clear H
            have p232 : 0 ≤ (x4_1 : Int) := of_decide_eq_true (by first | (with_reducible assumption) | assumption)
            have q232 : x4_1 < (l0.length : Int) := of_decide_eq_true (by first | (with_reducible assumption) | assumption)
            obtain ⟨ad232, A232_3, c232_3, A232_4, c232_4, e232, hx232_0, hx232_1, hx232_2, hx232_3, hx232_4, hl232_3, hi232_3, hl232_4, hi232_4⟩ := at_T37 HR0.out x4_1 p232 q232
            cases e232
            have HR232_3 := Aside0.mk hi232_3
            have HC232_3 := Aside0.mk hl232_3
            clear hi232_3 hl232_3
            have HR232_4 := Aside0.mk hi232_4
            have HC232_4 := Aside0.mk hl232_4
            clear hi232_4 hl232_4
            replace p232 := eq_true p232
            replace q232 := eq_true q232
            go_wp2
            go_roundg k1
            case measure => have := HK1.out; omega
            case rel => exact ⟨(x3_1), (wrap64 (x4_1 + 1)), (by first | rfl | (simp; done) | (simp [*]; done)), (by first | rfl | (simp; done) | (simp [*]; done)), H', ⟨by have := HK1.out; omega⟩, by repeat (first | exact Drawn0.refl _ | apply Drawn0.step)⟩
          · rw [if_neg c4] at H
            have c4b0 : (((rd_T37 l0 x4_1).f0) == 0) = false := beq_eq_false_iff_ne.mpr c4
            have c4b1 : (((rd_T37 l0 x4_1).f0) != 0) = true := bne_iff_ne.mpr c4
            have H' := Aside0.mk H
            clear H
            have p232 : 0 ≤ (x4_1 : Int) := of_decide_eq_true (by first | (with_reducible assumption) | assumption)
            have q232 : x4_1 < (l0.length : Int) := of_decide_eq_true (by first | (with_reducible assumption) | assumption)
            obtain ⟨ad232, A232_3, c232_3, A232_4, c232_4, e232, hx232_0, hx232_1, hx232_2, hx232_3, hx232_4, hl232_3, hi232_3, hl232_4, hi232_4⟩ := at_T37 HR0.out x4_1 p232 q232
            cases e232
            have HR232_3 := Aside0.mk hi232_3
            have HC232_3 := Aside0.mk hl232_3
            clear hi232_3 hl232_3
            have HR232_4 := Aside0.mk hi232_4
            have HC232_4 := Aside0.mk hl232_4
            clear hi232_4 hl232_4
            replace p232 := eq_true p232
            replace q232 := eq_true q232
            go_wp2
            go_roundg k1
            case measure => have := HK1.out; omega
            case rel => exact ⟨(wrap64 (x4_1 + 1)), (wrap64 (x4_1 + 1)), (by first | rfl | (simp; done) | (simp [*]; done)), (by first | rfl | (simp; done) | (simp [*]; done)), H', ⟨by have := HK1.out; omega⟩, by repeat (first | exact Drawn0.refl _ | apply Drawn0.step)⟩
        · rw [if_neg c3] at H
          exact absurd H (by simp)
      · rw [if_neg c2] at H
        have c2b0 : decide (x4_1 < (l0.length : Int)) = false := decide_eq_false c2
        clear c2
        obtain rfl := Option.some.inj H
        go_wp2
        go_ret
        exact ⟨by first | rfl | (simp; done) | (simp [*]; done), by repeat (first | exact Drawn0.refl _ | apply Drawn0.step)⟩
mutual
def capnpref11_Trim.j0 : Nat → Int → Int → Int → Int → Int → List Int → List (S37) → Option (Int × Int × Int × List Int × (List (S37)))
 | 0, _, _, _, _, _, _, _ => none
 | k + 1, x3, x4, x234000, x234001, x234002, x234003, x234004 => capnpref11_Trim.l0 k x3 x4 0 x234000 x234001 x234002 x234003 x234004 x234000 x234001 x234002 ([] : List Int)
def capnpref11_Trim.l0 : Nat → Int → Int → Int → Int → Int → Int → List Int → List (S37) → Int → Int → Int → List Int → Option (Int × Int × Int × List Int × (List (S37)))
 | 0, _, _, _, _, _, _, _, _, _, _, _, _ => none
 | k + 1, x3, x4, x6, x234000, x234001, x234002, x234003, x234004, x238000, x238001, x238002, x238003 => if x6 < x3 then (if 0 ≤ x6 then (if x6 < (x234003.length : Int) then (if x238003.length < 140737488355328 then (capnpref11_Trim.l0 k x3 x4 (wrap64 (x6 + 1)) x234000 x234001 x234002 x234003 x234004 x238000 x238001 x238002 (x238003 ++ [rd x234003 x6])) else (none)) else (none)) else (none)) else (capnpref11_Trim.l1 k x4 0 x234000 x234001 x234002 x234003 x234004 x238000 x238001 x238002 x238003 ([] : List (S37)))
def capnpref11_Trim.l1 : Nat → Int → Int → Int → Int → Int → List Int → List (S37) → Int → Int → Int → List Int → List (S37) → Option (Int × Int × Int × List Int × (List (S37)))
 | 0, _, _, _, _, _, _, _, _, _, _, _, _ => none
 | k + 1, x4, x7, x234000, x234001, x234002, x234003, x234004, x238000, x238001, x238002, x238003, x238004 => if x7 < x4 then (if 0 ≤ x7 then (if x7 < (x234004.length : Int) then ((capnpref11_Trim.f k ((rd_T37 x234004 x7).f0) ((rd_T37 x234004 x7).f1) ((rd_T37 x234004 x7).f2) ((rd_T37 x234004 x7).f3) ((rd_T37 x234004 x7).f4)).bind fun bt243 => (if x238004.length < 1954687338268 then (capnpref11_Trim.l1 k x4 (wrap64 (x7 + 1)) x234000 x234001 x234002 x234003 x234004 x238000 x238001 x238002 x238003 (x238004 ++ [(⟨bt243.1, bt243.2.1, bt243.2.2.1, bt243.2.2.2.1, bt243.2.2.2.2⟩ : S37)])) else (none))) else (none)) else (none)) else (some (x238000, x238001, x238002, x238003, x238004))
def capnpref11_Trim.f : Nat → Int → Int → Int → List Int → List (S37) → Option (Int × Int × Int × List Int × (List (S37)))
 | 0, _, _, _, _, _ => none
 | k + 1, a0_0, a0_1, a0_2, l0_3, l0_4 => if a0_0 = 1 then ((capnpref11_Words.f k l0_3).bind fun t235 => ((capnpref11_Pointers.f k l0_4).bind fun t236 => (capnpref11_Trim.j0 k (wrap64 (8 * t235)) t236 a0_0 a0_1 a0_2 l0_3 l0_4))) else (capnpref11_Trim.j0 k (l0_3.length : Int) (l0_4.length : Int) a0_0 a0_1 a0_2 l0_3 l0_4)
end
def capnpref11_Trim.T13 : Bool × List (List Nat × List Nat) := (true, [([], []), ([0], [0]), ([], []), ([2], [2]), ([], []), ([3, 4], [3, 4]), ([5], [5]), ([6], [6]), ([1, 7], [1, 7]), ([0, 1, 2, 3, 4, 5, 6, 7, 8], []), ([9, 8, 8, 0, 1, 2, 3, 4, 5, 6, 7, 8], [8, 9])])
def capnpref11_Trim.B13 : List Nat := [0, 1, 0, 4, 0, 28, 60, 124, 255, 511, 1023]
theorem capnpref11_Trim.tab13 : rtab .any (opsOf Tryd.f29 13) = capnpref11_Trim.T13 := by kernel_rfl
theorem capnpref11_Trim.bits13 : waitsOk capnpref11_Trim.T13.2 capnpref11_Trim.B13 = true := by kernel_rfl
def capnpref11_Trim.T17 : Bool × List (List Nat × List Nat) := (true, [([], []), ([0], [0]), ([], []), ([2], [2]), ([], []), ([3, 4], [3, 4]), ([5], [5]), ([6], [6]), ([7], [7]), ([1, 8, 7], [1, 8]), ([0, 1, 2, 3, 4, 5, 6, 7, 8, 9], []), ([10, 9, 9, 0, 1, 2, 3, 4, 5, 6, 7, 8, 9], [9, 10])])
def capnpref11_Trim.B17 : List Nat := [0, 1, 0, 4, 0, 28, 60, 124, 252, 511, 1023, 2047]
theorem capnpref11_Trim.tab17 : rtab .any (opsOf Tryd.f29 17) = capnpref11_Trim.T17 := by kernel_rfl
theorem capnpref11_Trim.bits17 : waitsOk capnpref11_Trim.T17.2 capnpref11_Trim.B17 = true := by kernel_rfl
end Go.Proofs.YtidglmocekghmaaDoor.Pr
end

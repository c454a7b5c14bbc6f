/- A part of the proof of YtidglmocekghmaaDoorMatchesCard (the texts that it stands on, gathered; declarations that nothing uses are left out). -/
import Derived.Test.YtidglmocekghmaaDoorBNMF
import Derived.Below
import Derived.Deep.Draws
import Derived.Deep.AppendLies
import Derived.Maps.AppendAt
import Derived.OwnWalk
import Derived.Laws.BytesArg
import Derived.Laws.MakeOwn
import Derived.Laws.OwnMore
import Derived.Deep.OwnRows
import Derived.Tactics
import Derived.Lib.ConvBytes
import Derived.Laws.Slices
import Derived.WalkKit
import Derived.KernelRfl
import Derived.RowKit3
import Derived.Deep.LoopGhost
import Derived.Deep.QuietTactic
import Derived.BigQuiet
import Derived.WideLaws
import Derived.Deep.DeepCutAuto
import Derived.Deep.CutBlock
import Derived.Deep.RegionHeld3
import Derived.Laws.Rows
import Derived.Lib.AppendStr
import Derived.ArgAppend
import Derived.Laws.IdiomCopy
import Derived.RowKit
import Derived.OrdersHeld
import Derived.Laws.BitsLemmas
import Derived.Laws.StructEq
import Derived.SizedLaws
import Derived.ChangeSlices
import Derived.Test.YtidglmocekghmaaDoorProg
import Derived.Lib.Hide
import Derived.WalkLawsBesides
import Derived.WalkSpells
import Derived.Outline
import Derived.IntWalk
import Derived.Laws.AppendOwn
import Derived.RangeFuncBox
import Derived.Lib.JoinLaws
import Derived.Defers
import Derived.Recover
import Derived.Laws.Pointers
import Derived.Test.YtidglmocekghmaaDoorCards
import Derived.ProofKit
import Derived.LaidMore
import Derived.LaidHandle
import Derived.Maps.Keyed
import Derived.WideKeyElems2
import Derived.Lib.LaidTab
import Derived.OpenShut
import Derived.Lib.SmallJoins
set_option linter.unusedVariables false
set_option linter.unusedSimpArgs false
section
namespace Go.Proofs.YtidglmocekghmaaDoor.Pr
open Go.RowKit Go.Proofs.YtidglmocekghmaaDoorW.PrintWords Go.Proofs.YtidglmocekghmaaDoorW.PrintLast Go.Proofs.YtidglmocekghmaaDoorW.PrintMore
set_option linter.unusedVariables false
set_option linter.unusedSimpArgs false
set_option maxRecDepth 100000 in
set_option maxHeartbeats 4000000 in
theorem vis_1 (ad : Addr) (n cp nx a : Nat) (w : World) (x : Int) (hv : AtS w ad a x) (ha : a < n) (hn : n ≤ 17592186040320) (hx0 : 0 ≤ x) (hx1 : x < 18446744073709551616) (hnx : nx ≤ n) (hx : x = 0) : Vi ad n cp nx a w nx := by
  have S := Sep.start w
  have D1 := fun w => Lib.hid (rdec_lit x w hx0 hx1)
  clear hx0 hx1
  subst hx
  go_enter Tryd.func22, Tryd.ntmps22
  go_wp2_with (first | go_skip | ((with_reducible refine wl ?_); first | refine sn S (fun g w1 S => ?_) | refine ss S (fun w1 S => ?_) | refine sl S ?_ | refine sa S ?_) | ((with_reducible refine (D1 _).out.mono ?_); rintro r w' ⟨rfl, hb⟩; replace S := S.call hb))
  exact rt S ⟨rfl, S.below⟩
set_option maxRecDepth 100000 in
set_option maxHeartbeats 4000000 in
theorem vis_2 (ad : Addr) (n cp nx a : Nat) (w : World) (x : Int) (hv : AtS w ad a x) (ha : a < n) (hn : n ≤ 17592186040320) (hx0 : 0 ≤ x) (hx1 : x < 18446744073709551616) (hnx : nx ≤ n) (hx : x ≠ 0) (hk : 1 < kindW x) : Vi ad n cp nx a w (-1) := by
  have S := Sep.start w
  have D1 := fun w => Lib.hid (rdec_lit x w hx0 hx1)
  clear hx0 hx1
  have tx : (x == 0) = false := beq_eq_false_iff_ne.2 hx
  clear hx
  have tk : decide (1 < kindW x) = true := decide_eq_true hk
  clear hk
  go_enter Tryd.func22, Tryd.ntmps22
  go_wp2_with (first | go_skip | ((with_reducible refine wl ?_); first | refine sn S (fun g w1 S => ?_) | refine ss S (fun w1 S => ?_) | refine sl S ?_ | refine sa S ?_) | ((with_reducible refine (D1 _).out.mono ?_); rintro r w' ⟨rfl, hb⟩; replace S := S.call hb))
  exact rt S ⟨rfl, S.below⟩
set_option maxRecDepth 100000 in
set_option maxHeartbeats 4000000 in
theorem vis_3 (ad : Addr) (n cp nx a : Nat) (w : World) (x : Int) (d p : Nat) (hv : AtS w ad a x) (ha : a < n) (hn : n ≤ 17592186040320) (hx0 : 0 ≤ x) (hx1 : x < 18446744073709551616) (hnx : nx ≤ n) (hx : x ≠ 0) (hk : kindW x = 0) (hd0 : dataW x = d) (hp0 : ptrsW x = p) (hz : d + p = 0) (hoff : offW x ≠ -1) : Vi ad n cp nx a w (-1) := by
  have S := Sep.start w
  have D1 := fun w => Lib.hid (rdec_lit x w hx0 hx1)
  clear hx0 hx1
  have tx : (x == 0) = false := beq_eq_false_iff_ne.2 hx
  clear hx
  have hpo := offW_bd x
  have ho : pO x = offW x := by unfold pO; rw [if_pos (by omega)]
  have hd : pD x = d := by unfold pD; rw [if_pos hk, hd0]
  have hp : pP x = p := by unfold pP; rw [if_pos hk, hp0]
  have hdb := (dataW_bd x).2
  have hpb := (ptrsW_bd x).2
  rw [hd0] at hdb
  rw [hp0] at hpb
  rw [ho, hd, hp, hk] at D1
  clear hk hd0 hp0 ho hd hp
  generalize pE x = pe at *
  generalize pC x = pc at *
  generalize pB x = pb at *
  generalize pF x = pf at *
  generalize pS x = ps at *
  generalize pL x = pl at *
  generalize offW x = o at *
  obtain rfl : d = 0 := by omega
  obtain rfl : p = 0 := by omega
  have tof : (o != -1) = true := bne_iff_ne.2 hoff
  clear hoff hz
  go_enter Tryd.func22, Tryd.ntmps22
  go_wp2_with (first | go_skip | ((with_reducible refine wl ?_); first | refine sn S (fun g w1 S => ?_) | refine ss S (fun w1 S => ?_) | refine sl S ?_ | refine sa S ?_) | ((with_reducible refine (D1 _).out.mono ?_); rintro r w' ⟨rfl, hb⟩; replace S := S.call hb))
  exact rt S ⟨rfl, S.below⟩
set_option maxRecDepth 100000 in
set_option maxHeartbeats 4000000 in
theorem vis_4 (ad : Addr) (n cp nx a : Nat) (w : World) (x : Int) (d p : Nat) (hv : AtS w ad a x) (ha : a < n) (hn : n ≤ 17592186040320) (hx0 : 0 ≤ x) (hx1 : x < 18446744073709551616) (hnx : nx ≤ n) (hx : x ≠ 0) (hk : kindW x = 0) (hd0 : dataW x = d) (hp0 : ptrsW x = p) (hz : d + p = 0) (hoff : offW x = -1) : Vi ad n cp nx a w nx := by
  have S := Sep.start w
  have D1 := fun w => Lib.hid (rdec_lit x w hx0 hx1)
  clear hx0 hx1
  have tx : (x == 0) = false := beq_eq_false_iff_ne.2 hx
  clear hx
  have hpo := offW_bd x
  have ho : pO x = offW x := by unfold pO; rw [if_pos (by omega)]
  have hd : pD x = d := by unfold pD; rw [if_pos hk, hd0]
  have hp : pP x = p := by unfold pP; rw [if_pos hk, hp0]
  have hdb := (dataW_bd x).2
  have hpb := (ptrsW_bd x).2
  rw [hd0] at hdb
  rw [hp0] at hpb
  rw [ho, hd, hp, hk] at D1
  clear hk hd0 hp0 ho hd hp
  generalize pE x = pe at *
  generalize pC x = pc at *
  generalize pB x = pb at *
  generalize pF x = pf at *
  generalize pS x = ps at *
  generalize pL x = pl at *
  generalize offW x = o at *
  obtain rfl : d = 0 := by omega
  obtain rfl : p = 0 := by omega
  subst hoff
  clear hz
  go_enter Tryd.func22, Tryd.ntmps22
  go_wp2_with (first | go_skip | ((with_reducible refine wl ?_); first | refine sn S (fun g w1 S => ?_) | refine ss S (fun w1 S => ?_) | refine sl S ?_ | refine sa S ?_) | ((with_reducible refine (D1 _).out.mono ?_); rintro r w' ⟨rfl, hb⟩; replace S := S.call hb))
  exact rt S ⟨rfl, S.below⟩
set_option maxRecDepth 100000 in
set_option maxHeartbeats 4000000 in
theorem vis_5 (ad : Addr) (n cp nx a : Nat) (w : World) (x : Int) (d p : Nat) (hv : AtS w ad a x) (ha : a < n) (hn : n ≤ 17592186040320) (hx0 : 0 ≤ x) (hx1 : x < 18446744073709551616) (hnx : nx ≤ n) (hx : x ≠ 0) (hk : kindW x = 0) (hd0 : dataW x = d) (hp0 : ptrsW x = p) (hz : d + p ≠ 0) (hst : (a : Int) + 1 + offW x ≠ nx) : Vi ad n cp nx a w (-1) := by
  have S := Sep.start w
  have D1 := fun w => Lib.hid (rdec_lit x w hx0 hx1)
  clear hx0 hx1
  have tx : (x == 0) = false := beq_eq_false_iff_ne.2 hx
  clear hx
  have hpo := offW_bd x
  have ho : pO x = offW x := by unfold pO; rw [if_pos (by omega)]
  have hd : pD x = d := by unfold pD; rw [if_pos hk, hd0]
  have hp : pP x = p := by unfold pP; rw [if_pos hk, hp0]
  have hdb := (dataW_bd x).2
  have hpb := (ptrsW_bd x).2
  rw [hd0] at hdb
  rw [hp0] at hpb
  rw [ho, hd, hp, hk] at D1
  clear hk hd0 hp0 ho hd hp
  generalize pE x = pe at *
  generalize pC x = pc at *
  generalize pB x = pb at *
  generalize pF x = pf at *
  generalize pS x = ps at *
  generalize pL x = pl at *
  generalize offW x = o at *
  have tz : ((d : Int) + p == 0) = false := beq_eq_false_iff_ne.2 (by omega)
  clear hz
  have ts : ((a : Int) + 1 + o != nx) = true := bne_iff_ne.2 hst
  clear hst
  go_enter Tryd.func22, Tryd.ntmps22
  go_wp2_with (first | go_skip | ((with_reducible refine wl ?_); first | refine sn S (fun g w1 S => ?_) | refine ss S (fun w1 S => ?_) | refine sl S ?_ | refine sa S ?_) | ((with_reducible refine (D1 _).out.mono ?_); rintro r w' ⟨rfl, hb⟩; replace S := S.call hb))
  exact rt S ⟨rfl, S.below⟩
set_option maxRecDepth 100000 in
set_option maxHeartbeats 4000000 in
theorem vis_6 (ad : Addr) (n cp nx a : Nat) (w : World) (x : Int) (d p : Nat) (hv : AtS w ad a x) (ha : a < n) (hn : n ≤ 17592186040320) (hx0 : 0 ≤ x) (hx1 : x < 18446744073709551616) (hnx : nx ≤ n) (hx : x ≠ 0) (hk : kindW x = 0) (hd0 : dataW x = d) (hp0 : ptrsW x = p) (hst : (a : Int) + 1 + offW x = nx) (hin : nx + (d + p) ≤ n) (hz : d + p ≠ 0) (h1 : 0 < d) (y : Int) (hy : AtS w ad (nx + d - 1) y) (hy0 : y = 0) : Vi ad n cp nx a w (-1) := by
  have S := Sep.start w
  have D1 := fun w => Lib.hid (rdec_lit x w hx0 hx1)
  clear hx0 hx1
  have tx : (x == 0) = false := beq_eq_false_iff_ne.2 hx
  clear hx
  have hpo := offW_bd x
  have ho : pO x = offW x := by unfold pO; rw [if_pos (by omega)]
  have hd : pD x = d := by unfold pD; rw [if_pos hk, hd0]
  have hp : pP x = p := by unfold pP; rw [if_pos hk, hp0]
  have hdb := (dataW_bd x).2
  have hpb := (ptrsW_bd x).2
  rw [hd0] at hdb
  rw [hp0] at hpb
  rw [ho, hd, hp, hk] at D1
  clear hk hd0 hp0 ho hd hp
  generalize pE x = pe at *
  generalize pC x = pc at *
  generalize pB x = pb at *
  generalize pF x = pf at *
  generalize pS x = ps at *
  generalize pL x = pl at *
  generalize offW x = o at *
  have tz : ((d : Int) + p == 0) = false := beq_eq_false_iff_ne.2 (by omega)
  clear hz
  have ts : ((a : Int) + 1 + o != nx) = false := bne_eq_false_iff_eq.2 hst
  subst hy0
  have td : decide ((d : Int) > 0) = true := decide_eq_true (by omega)
  go_enter Tryd.func22, Tryd.ntmps22
  go_wp2_with (first | go_skip | ((with_reducible refine wl ?_); first | refine sn S (fun g w1 S => ?_) | refine ss S (fun w1 S => ?_) | refine sl S ?_ | refine sa S ?_ | refine sx S hy ?_) | ((with_reducible refine (D1 _).out.mono ?_); rintro r w' ⟨rfl, hb⟩; replace S := S.call hb))
  exact rt S ⟨rfl, S.below⟩
set_option maxRecDepth 100000 in
set_option maxHeartbeats 4000000 in
theorem vis_7a (ad : Addr) (n cp nx a : Nat) (w : World) (x : Int) (d p : Nat) (hv : AtS w ad a x) (ha : a < n) (hn : n ≤ 17592186040320) (hx0 : 0 ≤ x) (hx1 : x < 18446744073709551616) (hnx : nx ≤ n) (hx : x ≠ 0) (hk : kindW x = 0) (hd0 : dataW x = d) (hp0 : ptrsW x = p) (hst : (a : Int) + 1 + offW x = nx) (hin : nx + (d + p) ≤ n) (hz : d + p ≠ 0) (h1 : 0 < d) (y : Int) (hy : AtS w ad (nx + d - 1) y) (hy0 : y ≠ 0) (h2 : 0 < p) (z : Int) (hz2 : AtS w ad (nx + (d + p) - 1) z) (hz0 : z = 0) : Vi ad n cp nx a w (-1) := by
  have S := Sep.start w
  have D1 := fun w => Lib.hid (rdec_lit x w hx0 hx1)
  clear hx0 hx1
  have tx : (x == 0) = false := beq_eq_false_iff_ne.2 hx
  clear hx
  have hpo := offW_bd x
  have ho : pO x = offW x := by unfold pO; rw [if_pos (by omega)]
  have hd : pD x = d := by unfold pD; rw [if_pos hk, hd0]
  have hp : pP x = p := by unfold pP; rw [if_pos hk, hp0]
  have hdb := (dataW_bd x).2
  have hpb := (ptrsW_bd x).2
  rw [hd0] at hdb
  rw [hp0] at hpb
  rw [ho, hd, hp, hk] at D1
  clear hk hd0 hp0 ho hd hp
  generalize pE x = pe at *
  generalize pC x = pc at *
  generalize pB x = pb at *
  generalize pF x = pf at *
  generalize pS x = ps at *
  generalize pL x = pl at *
  generalize offW x = o at *
  have tz : ((d : Int) + p == 0) = false := beq_eq_false_iff_ne.2 (by omega)
  clear hz
  have ts : ((a : Int) + 1 + o != nx) = false := bne_eq_false_iff_eq.2 hst
  have td : decide ((d : Int) > 0) = true := decide_eq_true (by omega)
  have ty : (y == 0) = false := beq_eq_false_iff_ne.2 hy0
  clear hy0
  have tp : decide ((p : Int) > 0) = true := decide_eq_true (by omega)
  subst hz0
  go_enter Tryd.func22, Tryd.ntmps22
  go_wp2_with (first | go_skip | ((with_reducible refine wl ?_); first | refine sn S (fun g w1 S => ?_) | refine ss S (fun w1 S => ?_) | refine sl S ?_ | refine sa S ?_ | refine sx S hy ?_ | refine sx S hz2 ?_) | ((with_reducible refine (D1 _).out.mono ?_); rintro r w' ⟨rfl, hb⟩; replace S := S.call hb))
  exact rt S ⟨rfl, S.below⟩
set_option maxRecDepth 100000 in
set_option maxHeartbeats 4000000 in
theorem vis_7b (ad : Addr) (n cp nx a : Nat) (w : World) (x : Int) (d p : Nat) (hv : AtS w ad a x) (ha : a < n) (hn : n ≤ 17592186040320) (hx0 : 0 ≤ x) (hx1 : x < 18446744073709551616) (hnx : nx ≤ n) (hx : x ≠ 0) (hk : kindW x = 0) (hd0 : dataW x = d) (hp0 : ptrsW x = p) (hst : (a : Int) + 1 + offW x = nx) (hin : nx + (d + p) ≤ n) (hz : d + p ≠ 0) (h1 : d = 0) (h2 : 0 < p) (z : Int) (hz2 : AtS w ad (nx + (d + p) - 1) z) (hz0 : z = 0) : Vi ad n cp nx a w (-1) := by
  have S := Sep.start w
  have D1 := fun w => Lib.hid (rdec_lit x w hx0 hx1)
  clear hx0 hx1
  have tx : (x == 0) = false := beq_eq_false_iff_ne.2 hx
  clear hx
  have hpo := offW_bd x
  have ho : pO x = offW x := by unfold pO; rw [if_pos (by omega)]
  have hd : pD x = d := by unfold pD; rw [if_pos hk, hd0]
  have hp : pP x = p := by unfold pP; rw [if_pos hk, hp0]
  have hdb := (dataW_bd x).2
  have hpb := (ptrsW_bd x).2
  rw [hd0] at hdb
  rw [hp0] at hpb
  rw [ho, hd, hp, hk] at D1
  clear hk hd0 hp0 ho hd hp
  generalize pE x = pe at *
  generalize pC x = pc at *
  generalize pB x = pb at *
  generalize pF x = pf at *
  generalize pS x = ps at *
  generalize pL x = pl at *
  generalize offW x = o at *
  have tz : ((d : Int) + p == 0) = false := beq_eq_false_iff_ne.2 (by omega)
  clear hz
  have ts : ((a : Int) + 1 + o != nx) = false := bne_eq_false_iff_eq.2 hst
  have tp : decide ((p : Int) > 0) = true := decide_eq_true (by omega)
  subst hz0 h1
  go_enter Tryd.func22, Tryd.ntmps22
  go_wp2_with (first | go_skip | ((with_reducible refine wl ?_); first | refine sn S (fun g w1 S => ?_) | refine ss S (fun w1 S => ?_) | refine sl S ?_ | refine sa S ?_ | refine sx S hz2 ?_) | ((with_reducible refine (D1 _).out.mono ?_); rintro r w' ⟨rfl, hb⟩; replace S := S.call hb))
  exact rt S ⟨rfl, S.below⟩
set_option maxRecDepth 100000 in
set_option maxHeartbeats 4000000 in
theorem vis_8a (ad : Addr) (n cp nx a : Nat) (w : World) (x : Int) (d p : Nat) (hv : AtS w ad a x) (ha : a < n) (hn : n ≤ 17592186040320) (hx0 : 0 ≤ x) (hx1 : x < 18446744073709551616) (hnx : nx ≤ n) (hx : x ≠ 0) (hk : kindW x = 0) (hd0 : dataW x = d) (hp0 : ptrsW x = p) (hst : (a : Int) + 1 + offW x = nx) (hin : nx + (d + p) ≤ n) (hz : d + p ≠ 0) (h1 : 0 < d) (y : Int) (hy : AtS w ad (nx + d - 1) y) (hy0 : y ≠ 0) (h2 : 0 < p) (z : Int) (hz2 : AtS w ad (nx + (d + p) - 1) z) (hz0 : z ≠ 0) (r : Int) (HVS : Vs ad n cp w (nx + (d + p)) (nx + d) p r)  : Vi ad n cp nx a w r := by
  have S := Sep.start w
  have D1 := fun w => Lib.hid (rdec_lit x w hx0 hx1)
  clear hx0 hx1
  have tx : (x == 0) = false := beq_eq_false_iff_ne.2 hx
  clear hx
  have hpo := offW_bd x
  have ho : pO x = offW x := by unfold pO; rw [if_pos (by omega)]
  have hd : pD x = d := by unfold pD; rw [if_pos hk, hd0]
  have hp : pP x = p := by unfold pP; rw [if_pos hk, hp0]
  have hdb := (dataW_bd x).2
  have hpb := (ptrsW_bd x).2
  rw [hd0] at hdb
  rw [hp0] at hpb
  rw [ho, hd, hp, hk] at D1
  clear hk hd0 hp0 ho hd hp
  generalize pE x = pe at *
  generalize pC x = pc at *
  generalize pB x = pb at *
  generalize pF x = pf at *
  generalize pS x = ps at *
  generalize pL x = pl at *
  generalize offW x = o at *
  have tz : ((d : Int) + p == 0) = false := beq_eq_false_iff_ne.2 (by omega)
  clear hz
  have ts : ((a : Int) + 1 + o != nx) = false := bne_eq_false_iff_eq.2 hst
  have td : decide ((d : Int) > 0) = true := decide_eq_true (by omega)
  have ty : (y == 0) = false := beq_eq_false_iff_ne.2 hy0
  clear hy0
  have tp : decide ((p : Int) > 0) = true := decide_eq_true (by omega)
  have tzz : (z == 0) = false := beq_eq_false_iff_ne.2 hz0
  clear hz0
  go_enter Tryd.func22, Tryd.ntmps22
  go_wp2_with (first | go_skip | ((with_reducible refine wl ?_); first | refine sn S (fun g w1 S => ?_) | refine ss S (fun w1 S => ?_) | refine sl S ?_ | refine sa S ?_ | refine sx S hy ?_ | refine sx S hz2 ?_) | ((with_reducible refine (D1 _).out.mono ?_); rintro r w' ⟨rfl, hb⟩; replace S := S.call hb) | ((with_reducible refine (HVS _ _ _ _ S.below (by omega) (by omega) (by omega)).out.mono ?_); rintro r' w' ⟨rfl, hb⟩; replace S := S.call hb))
  exact rt S ⟨rfl, S.below⟩
set_option maxRecDepth 100000 in
set_option maxHeartbeats 4000000 in
theorem vis_8b (ad : Addr) (n cp nx a : Nat) (w : World) (x : Int) (d p : Nat) (hv : AtS w ad a x) (ha : a < n) (hn : n ≤ 17592186040320) (hx0 : 0 ≤ x) (hx1 : x < 18446744073709551616) (hnx : nx ≤ n) (hx : x ≠ 0) (hk : kindW x = 0) (hd0 : dataW x = d) (hp0 : ptrsW x = p) (hst : (a : Int) + 1 + offW x = nx) (hin : nx + (d + p) ≤ n) (hz : d + p ≠ 0) (h1 : d = 0) (h2 : 0 < p) (z : Int) (hz2 : AtS w ad (nx + (d + p) - 1) z) (hz0 : z ≠ 0) (r : Int) (HVS : Vs ad n cp w (nx + (d + p)) (nx + d) p r)  : Vi ad n cp nx a w r := by
  have S := Sep.start w
  have D1 := fun w => Lib.hid (rdec_lit x w hx0 hx1)
  clear hx0 hx1
  have tx : (x == 0) = false := beq_eq_false_iff_ne.2 hx
  clear hx
  have hpo := offW_bd x
  have ho : pO x = offW x := by unfold pO; rw [if_pos (by omega)]
  have hd : pD x = d := by unfold pD; rw [if_pos hk, hd0]
  have hp : pP x = p := by unfold pP; rw [if_pos hk, hp0]
  have hdb := (dataW_bd x).2
  have hpb := (ptrsW_bd x).2
  rw [hd0] at hdb
  rw [hp0] at hpb
  rw [ho, hd, hp, hk] at D1
  clear hk hd0 hp0 ho hd hp
  generalize pE x = pe at *
  generalize pC x = pc at *
  generalize pB x = pb at *
  generalize pF x = pf at *
  generalize pS x = ps at *
  generalize pL x = pl at *
  generalize offW x = o at *
  have tz : ((d : Int) + p == 0) = false := beq_eq_false_iff_ne.2 (by omega)
  clear hz
  have ts : ((a : Int) + 1 + o != nx) = false := bne_eq_false_iff_eq.2 hst
  have tp : decide ((p : Int) > 0) = true := decide_eq_true (by omega)
  have tzz : (z == 0) = false := beq_eq_false_iff_ne.2 hz0
  clear hz0
  subst h1
  go_enter Tryd.func22, Tryd.ntmps22
  go_wp2_with (first | go_skip | ((with_reducible refine wl ?_); first | refine sn S (fun g w1 S => ?_) | refine ss S (fun w1 S => ?_) | refine sl S ?_ | refine sa S ?_ | refine sx S hz2 ?_) | ((with_reducible refine (D1 _).out.mono ?_); rintro r w' ⟨rfl, hb⟩; replace S := S.call hb) | ((with_reducible refine (HVS _ _ _ _ S.below (by omega) (by omega) (by omega)).out.mono ?_); rintro r' w' ⟨rfl, hb⟩; replace S := S.call hb))
  exact rt S ⟨rfl, S.below⟩
set_option maxRecDepth 100000 in
set_option maxHeartbeats 4000000 in
theorem vis_8c (ad : Addr) (n cp nx a : Nat) (w : World) (x : Int) (d p : Nat) (hv : AtS w ad a x) (ha : a < n) (hn : n ≤ 17592186040320) (hx0 : 0 ≤ x) (hx1 : x < 18446744073709551616) (hnx : nx ≤ n) (hx : x ≠ 0) (hk : kindW x = 0) (hd0 : dataW x = d) (hp0 : ptrsW x = p) (hst : (a : Int) + 1 + offW x = nx) (hin : nx + (d + p) ≤ n) (hz : d + p ≠ 0) (h1 : 0 < d) (y : Int) (hy : AtS w ad (nx + d - 1) y) (hy0 : y ≠ 0) (h2 : p = 0) (r : Int) (HVS : Vs ad n cp w (nx + (d + p)) (nx + d) p r)  : Vi ad n cp nx a w r := by
  have S := Sep.start w
  have D1 := fun w => Lib.hid (rdec_lit x w hx0 hx1)
  clear hx0 hx1
  have tx : (x == 0) = false := beq_eq_false_iff_ne.2 hx
  clear hx
  have hpo := offW_bd x
  have ho : pO x = offW x := by unfold pO; rw [if_pos (by omega)]
  have hd : pD x = d := by unfold pD; rw [if_pos hk, hd0]
  have hp : pP x = p := by unfold pP; rw [if_pos hk, hp0]
  have hdb := (dataW_bd x).2
  have hpb := (ptrsW_bd x).2
  rw [hd0] at hdb
  rw [hp0] at hpb
  rw [ho, hd, hp, hk] at D1
  clear hk hd0 hp0 ho hd hp
  generalize pE x = pe at *
  generalize pC x = pc at *
  generalize pB x = pb at *
  generalize pF x = pf at *
  generalize pS x = ps at *
  generalize pL x = pl at *
  generalize offW x = o at *
  have tz : ((d : Int) + p == 0) = false := beq_eq_false_iff_ne.2 (by omega)
  clear hz
  have ts : ((a : Int) + 1 + o != nx) = false := bne_eq_false_iff_eq.2 hst
  have td : decide ((d : Int) > 0) = true := decide_eq_true (by omega)
  have ty : (y == 0) = false := beq_eq_false_iff_ne.2 hy0
  clear hy0
  subst h2
  go_enter Tryd.func22, Tryd.ntmps22
  go_wp2_with (first | go_skip | ((with_reducible refine wl ?_); first | refine sn S (fun g w1 S => ?_) | refine ss S (fun w1 S => ?_) | refine sl S ?_ | refine sa S ?_ | refine sx S hy ?_) | ((with_reducible refine (D1 _).out.mono ?_); rintro r w' ⟨rfl, hb⟩; replace S := S.call hb) | ((with_reducible refine (HVS _ _ _ _ S.below (by omega) (by omega) (by omega)).out.mono ?_); rintro r' w' ⟨rfl, hb⟩; replace S := S.call hb))
  exact rt S ⟨rfl, S.below⟩
set_option maxRecDepth 100000 in
set_option maxHeartbeats 4000000 in
theorem vis_9 (ad : Addr) (n cp nx a : Nat) (w : World) (x : Int) (c m : Nat) (hv : AtS w ad a x) (ha : a < n) (hn : n ≤ 17592186040320) (hx0 : 0 ≤ x) (hx1 : x < 18446744073709551616) (hnx : nx ≤ n) (hx : x ≠ 0) (hk : kindW x = 1) (hc0 : cntW x = c) (hw : wordsE (elemW x) c = m) (hst : (a : Int) + 1 + offW x ≠ nx) : Vi ad n cp nx a w (-1) := by
  have S := Sep.start w
  have D1 := fun w => Lib.hid (rdec_lit x w hx0 hx1)
  clear hx0 hx1
  have tx : (x == 0) = false := beq_eq_false_iff_ne.2 hx
  clear hx
  have hpo := offW_bd x
  have ho : pO x = offW x := by unfold pO; rw [if_pos (by omega)]
  have hd : pD x = 0 := by unfold pD; rw [if_neg (by omega)]
  have hp : pP x = 0 := by unfold pP; rw [if_neg (by omega)]
  have he : pE x = elemW x := by unfold pE; rw [if_pos hk]
  have hc : pC x = c := by unfold pC; rw [if_pos hk, hc0]
  have heb := elemW_bd x
  have hcb := (cntW_bd x).2
  rw [hc0] at hcb
  rw [ho, hd, hp, he, hc, hk] at D1
  have HM := fun w => Lib.hid (words_any6 (elemW x) c w (by omega) (by omega))
  obtain ⟨hm0, hm1⟩ := wordsE_bd (elemW x) c (by omega) hcb
  rw [hw] at HM hm0 hm1
  clear hk hc0 ho hd hp he hc hw
  generalize elemW x = e at *
  generalize pB x = pb at *
  generalize pF x = pf at *
  generalize pS x = ps at *
  generalize pL x = pl at *
  generalize offW x = o at *
  have ts : ((a : Int) + 1 + o != nx) = true := bne_iff_ne.2 hst
  clear hst
  go_enter Tryd.func22, Tryd.ntmps22
  go_wp2_with (first | go_skip | ((with_reducible refine wl ?_); first | refine sn S (fun g w1 S => ?_) | refine ss S (fun w1 S => ?_) | refine sl S ?_ | refine sa S ?_) | ((with_reducible refine (D1 _).out.mono ?_); rintro r w' ⟨rfl, hb⟩; replace S := S.call hb) | ((with_reducible refine (HM _).out.mono ?_); rintro r' w' ⟨rfl, rfl⟩))
  exact rt S ⟨rfl, S.below⟩
set_option maxRecDepth 100000 in
set_option maxHeartbeats 4000000 in
theorem vis_10 (ad : Addr) (n cp nx a : Nat) (w : World) (x : Int) (c m : Nat) (hv : AtS w ad a x) (ha : a < n) (hn : n ≤ 17592186040320) (hx0 : 0 ≤ x) (hx1 : x < 18446744073709551616) (hnx : nx ≤ n) (hx : x ≠ 0) (hk : kindW x = 1) (hc0 : cntW x = c) (hw : wordsE (elemW x) c = m) (hst : (a : Int) + 1 + offW x = nx) (hin : nx + m ≤ n) (he6 : elemW x = 6) (r : Int) (HVS : Vs ad n cp w (nx + m) nx c r) : Vi ad n cp nx a w r := by
  have S := Sep.start w
  have D1 := fun w => Lib.hid (rdec_lit x w hx0 hx1)
  clear hx0 hx1
  have tx : (x == 0) = false := beq_eq_false_iff_ne.2 hx
  clear hx
  have hpo := offW_bd x
  have ho : pO x = offW x := by unfold pO; rw [if_pos (by omega)]
  have hd : pD x = 0 := by unfold pD; rw [if_neg (by omega)]
  have hp : pP x = 0 := by unfold pP; rw [if_neg (by omega)]
  have he : pE x = elemW x := by unfold pE; rw [if_pos hk]
  have hc : pC x = c := by unfold pC; rw [if_pos hk, hc0]
  have heb := elemW_bd x
  have hcb := (cntW_bd x).2
  rw [hc0] at hcb
  rw [ho, hd, hp, he, hc, hk] at D1
  have HM := fun w => Lib.hid (words_any6 (elemW x) c w (by omega) (by omega))
  obtain ⟨hm0, hm1⟩ := wordsE_bd (elemW x) c (by omega) hcb
  rw [hw] at HM hm0 hm1
  clear hk hc0 ho hd hp he hc hw
  generalize elemW x = e at *
  generalize pB x = pb at *
  generalize pF x = pf at *
  generalize pS x = ps at *
  generalize pL x = pl at *
  generalize offW x = o at *
  have ts : ((a : Int) + 1 + o != nx) = false := bne_eq_false_iff_eq.2 hst
  subst he6
  go_enter Tryd.func22, Tryd.ntmps22
  go_wp2_with (first | go_skip | ((with_reducible refine wl ?_); first | refine sn S (fun g w1 S => ?_) | refine ss S (fun w1 S => ?_) | refine sl S ?_ | refine sa S ?_) | ((with_reducible refine (D1 _).out.mono ?_); rintro r w' ⟨rfl, hb⟩; replace S := S.call hb) | ((with_reducible refine (HM _).out.mono ?_); rintro r' w' ⟨rfl, rfl⟩) | ((with_reducible refine (HVS _ _ _ _ S.below (by omega) (by omega) (by omega)).out.mono ?_); rintro r' w' ⟨rfl, hb⟩; replace S := S.call hb))
  exact rt S ⟨rfl, S.below⟩
end Go.Proofs.YtidglmocekghmaaDoor.Pr
end

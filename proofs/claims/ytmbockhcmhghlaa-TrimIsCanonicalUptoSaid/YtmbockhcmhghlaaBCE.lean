/- For every node of bulk at most 1048576 the trimmed form is canonical: the law answers true and leaves its argument as it was. -/
import Derived.Test.YtmbockhcmhghlaaBCD
import Derived.Below
import Derived.Deep.Draws
import Derived.Deep.AppendLies
import Derived.Maps.AppendAt
import Derived.OwnWalk
import Derived.Laws.BytesArg
import Derived.Laws.MakeOwn
import Derived.Laws.OwnMore
import Derived.Deep.OwnRows
import Derived.Tactics
import Derived.Lib.ConvBytes
import Derived.Laws.Slices
import Derived.WalkKit
import Derived.KernelRfl
import Derived.RowKit3
import Derived.Deep.LoopGhost
import Derived.Deep.QuietTactic
import Derived.BigQuiet
import Derived.WideLaws
import Derived.Deep.DeepCutAuto
import Derived.Deep.CutBlock
import Derived.Deep.RegionHeld3
import Derived.Laws.Rows
import Derived.Lib.AppendStr
import Derived.ArgAppend
import Derived.Laws.IdiomCopy
import Derived.RowKit
import Derived.OrdersHeld
import Derived.Laws.BitsLemmas
import Derived.Laws.StructEq
import Derived.SizedLaws
import Derived.ChangeSlices
import Derived.Test.YtmbockhcmhghlaaProg
import Derived.Lib.Hide
import Derived.IntWalk
import Derived.Test.YtmbockhcmhghlaaRows
import Derived.ProofKit
import Derived.OpenShut
import Derived.ChangeOld
import Derived.Lib.SmallJoins
import Derived.DataReads
import Derived.ShutString
import Derived.JoinedCond
section
namespace Go.Proofs.Ytmbockhcmhghlaa.Pr
open Go.RowKit Go.Proofs.YtmbockhcmhghlaaW.PrintWords Go.Proofs.YtmbockhcmhghlaaW.PrintLast Go.Proofs.YtmbockhcmhghlaaW.PrintMore
set_option linter.unusedVariables false
set_option linter.unusedSimpArgs false
theorem nulls_depth {l : List S25} (h : ∀ x ∈ l, nullN x = true) : tdeeps l = 0 ∧ tobjss l = 0 := by
  induction l with
  | nil => exact ⟨by simp [tdeeps], by simp [tobjss]⟩
  | cons k l ih =>
    have h1 := null_depth (h k List.mem_cons_self)
    have h2 := ih (fun x hx => h x (List.mem_cons_of_mem _ hx))
    simp only [tdeeps, tobjss]
    omega
theorem cutK_depth (a : S25) : tdeeps (cutK a) = tdeeps a.f4 ∧ tobjss (cutK a) = tobjss a.f4 := by
  unfold cutK
  split
  · obtain ⟨m, hm, hn, _⟩ := keptN_parts nullN a.f4
    have h1 := tdeeps_append (a.f4.take (keptN nullN a.f4)) m
    have h2 := tobjss_append (a.f4.take (keptN nullN a.f4)) m
    rw [← hm] at h1 h2
    have h3 := nulls_depth hn
    omega
  · exact ⟨rfl, rfl⟩
theorem map_depth {l : List S25} (h : ∀ x ∈ l, tdepth (ttrim x) = tdepth x ∧ tobjs (ttrim x) = tobjs x) : tdeeps (l.map ttrim) = tdeeps l ∧ tobjss (l.map ttrim) = tobjss l := by
  induction l with
  | nil => exact ⟨rfl, rfl⟩
  | cons k l ih =>
    have h1 := h k List.mem_cons_self
    have h2 := ih (fun x hx => h x (List.mem_cons_of_mem _ hx))
    simp only [List.map_cons, tdeeps, tobjss]
    omega
theorem kids_depth {l : List S25} (h : ∀ y ∈ l, ∀ x ∈ y.f4, tdepth (ttrim x) = tdepth x ∧ tobjs (ttrim x) = tobjs x) : tdeeps (tkids (l.map ttrim)) = tdeeps (tkids l) ∧ tobjss (tkids (l.map ttrim)) = tobjss (tkids l) := by
  induction l with
  | nil => exact ⟨rfl, rfl⟩
  | cons k l ih =>
    have h1 := map_depth (l := cutK k) (fun x hx => h k List.mem_cons_self x (cutK_sub hx))
    have h2 := cutK_depth k
    have h3 := ih (fun y hy => h y (List.mem_cons_of_mem _ hy))
    simp only [List.map_cons, tkids, tdeeps_append, tobjss_append, ttrim_f4]
    omega
theorem depth_trim : ∀ (n : Nat) (a : S25), tsize a ≤ n → tdepth (ttrim a) = tdepth a ∧ tobjs (ttrim a) = tobjs a
  | 0, a, h => by have := tsize_eq a; omega
  | n + 1, a, h => by
    rw [tdepth_eq, tobjs_eq, tdepth_eq a, tobjs_eq a, ttrim_f0]
    by_cases h0 : a.f0 = 0
    · rw [if_pos h0, if_pos h0, if_pos h0, if_pos h0]; exact ⟨rfl, rfl⟩
    · rw [if_neg h0, if_neg h0, if_neg h0, if_neg h0]
      have key : tdeeps (ttargets (ttrim a)) = tdeeps (ttargets a) ∧ tobjss (ttargets (ttrim a)) = tobjss (ttargets a) := by
        unfold ttargets
        rw [ttrim_f0, ttrim_f1, ttrim_f4]
        by_cases hc : a.f0 = 2 ∧ a.f1 = 7
        · rw [if_pos hc, if_pos hc]
          have e2 : cutK a = a.f4 := by unfold cutK; rw [if_neg (by omega)]
          rw [e2]
          exact kids_depth fun y hy x hx => depth_trim n x (by have := tsize_kid hy; have := tsize_kid hx; omega)
        · rw [if_neg hc, if_neg hc]
          have h1 := map_depth (l := cutK a) (fun x hx => depth_trim n x (by have := tsize_kid (cutK_sub hx); omega))
          have h2 := cutK_depth a
          omega
      omega
end Go.Proofs.Ytmbockhcmhghlaa.Pr
end
section
namespace Go.Proofs.Ytmbockhcmhghlaa.Pr
open Go.RowKit Go.Proofs.YtmbockhcmhghlaaW.PrintWords Go.Proofs.YtmbockhcmhghlaaW.PrintLast Go.Proofs.YtmbockhcmhghlaaW.PrintMore
set_option linter.unusedVariables false
set_option linter.unusedSimpArgs false
theorem awake_bind {β : Type} {f : Nat → Bool → Option β} {r : β} (h : Ev (fun k => f k true) r) : Ev (fun k => (capnplaw11_awake.f).bind (f k)) r := h
theorem ev_if {β : Type} {c : Prop} [Decidable c] {f g : Nat → Option β} {r : β} (h1 : c → Ev f r) (h2 : ¬ c → Ev g r) : Ev (fun k => if c then f k else g k) r := by
  by_cases hc : c
  · exact Ev.congr (fun k => by rw [if_pos hc]) (h1 hc)
  · exact Ev.congr (fun k => by rw [if_neg hc]) (h2 hc)
theorem canonical_true (n : S25) (hok : okT n) (hs : tsize n ≤ 2000000) :
    Ev (fun k => capnplaw11_TrimIsCanonical.f k n.f0 n.f1 n.f2 n.f3 n.f4) true := by
  have early : Ev (fun k => capnplaw11_TrimIsCanonical.j0 k true n.f0 n.f1 n.f2 n.f3 n.f4) true := by
    refine Ev.step (f := fun k => some true) (fun k => ?_) (Ev.now _)
    simp only [capnplaw11_TrimIsCanonical.j0]
    rw [if_pos trivial]; rfl
  have he := tsize_eq n
  unfold capnplaw11_TrimIsCanonical.f
  refine awake_bind (ev_if (fun _ => ?_) (fun _ => early))
  refine Ev.bind (few_ev n (by omega)) (ev_if (fun hf => ?_) (fun _ => early))
  refine Ev.bind (valid_ev n hok (by omega)) ?_
  cases hv : tvalid n with
  | false => exact early
  | true =>
    have hw := valid_words n hv
    have hst := size_trim n
    have hd := depth_trim _ n (Nat.le_refl _)
    have hwt := words_trim n hw
    refine Ev.step (fun k => by simp only [capnplaw11_TrimIsCanonical.j0]; rw [if_neg (by simp)]) ?_
    refine Ev.bind (ttrim_ev n hw (by omega)) ?_
    refine Ev.bind (ttrim_ev (ttrim n) hwt (by omega)) ?_
    refine Ev.bind (equal_ev (ttrim (ttrim n)) (ttrim n) (by have := size_trim (ttrim n); omega)) ?_
    rw [eqT_true (trim_idem n hw)]
    refine ev_if (fun _ => ?_) (fun h => absurd rfl h)
    refine Ev.bind (valid_ev (ttrim n) (ok_trim n hok) (by omega)) ?_
    rw [valid_trim n hv]
    refine ev_if (fun _ => ?_) (fun h => absurd rfl h)
    refine Ev.bind (trimmed_ev (ttrim n) (by omega)) ?_
    rw [trimmed_trim n hw]
    refine ev_if (fun _ => ?_) (fun h => absurd rfl h)
    refine Ev.bind (depth_ev _ (ttrim n) (Nat.le_refl _) (by omega)) ?_
    refine Ev.bind (depth_ev _ n (Nat.le_refl _) (by omega)) ?_
    refine ev_if (fun _ => ?_) (fun h => absurd (by rw [hd.1]) h)
    refine Ev.bind (objs_ev _ (ttrim n) (Nat.le_refl _) (by omega)) ?_
    refine Ev.bind (objs_ev _ n (Nat.le_refl _) (by omega)) ?_
    refine ev_if (fun _ => ?_) (fun h => absurd (by rw [hd.2]) h)
    refine Ev.bind (trimmed_ev n (by omega)) ?_
    refine ev_if (fun ht => ?_) (fun _ => Ev.now true)
    refine Ev.bind (equal_ev (ttrim n) n (by omega)) ?_
    rw [eqT_true (trim_same n ht)]
    exact Ev.now true
end Go.Proofs.Ytmbockhcmhghlaa.Pr
end
section
namespace Go.Proofs.Ytmbockhcmhghlaa.Pr
open Go.RowKit Go.ChangeShapes Go.WideShapes Go.ChangeAt Go.Proofs.YtmbockhcmhghlaaW.PrintWords Go.Proofs.YtmbockhcmhghlaaW.PrintLast Go.Proofs.YtmbockhcmhghlaaW.PrintMore
set_option linter.unusedVariables false
set_option linter.unusedSimpArgs false
theorem byte_range {n : Int} (h : (Lit.int .u8 n).wf = true) : 0 ≤ n ∧ n ≤ 255 := by
  simpa [Lit.wf, IntKind.min, IntKind.max, IntKind.signed, IntKind.bits] using h
theorem cells_each {w : World} {base : Nat} {a : Addr} {n : Nat} {cs : List Value} (h : w.cells? base a n = some cs) : cs.length = n ∧ ∀ (i : Nat) (u : Value), cs[i]? = some u → w.cell? (a.add i) = some u := by
  unfold World.cells? at h
  split at h
  · have hl := mapM_some_length h
    refine ⟨by simpa using hl, fun i u hu => ?_⟩
    have hi : i < n := by
      have := (List.getElem?_eq_some_iff.1 hu).1
      simp at hl; omega
    have := mapM_some_get h i i (by simp [hi])
    rw [this, hu]
  · cases h
section
variable {H : Type} {enc : TypeId × Value → H} {w : World} {base : Nat} {held : Bool}
theorem bulk_bytes {fuel : Nat} {cs : List Value} {x : DataW H × List MemPlace} (h : DataW.trod enc Try.prog w base (fun _ => true) held fuel 22 cs = some x) :
    ∃ (A : Option Addr) (c : Nat) (xs : List Int), cs = [.slice A xs.length c] ∧ xs.length ≤ c ∧ (Kd.int .u8).C w A xs.length xs ∧ (∀ n ∈ xs, 0 ≤ n ∧ n ≤ 255) ∧ xs.length + 1 ≤ Rows.uptoBulk x.1 := by
  rcases open_ints Try.underlying22 Try.underlying5 (by kernel_rfl) h with ⟨rfl, rfl⟩ | ⟨ad, len, cap, zs, rfl, hb, hle, hm, hz, rfl, hcell, hwz⟩
  · exact ⟨none, 0, [], rfl, Nat.le_refl _, Kd.C_nil _ _, by simp, by simp [Rows.uptoBulk]⟩
  · have hzl : zs.length = cap := by simpa using hz
    have htl : (zs.take len).length = len := by simp; omega
    have hlits : ∀ l : List Int, Rows.uptoBulkAll (lits (H := H) .u8 l) = l.length := fun l => by
      induction l with
      | nil => simp [lits, Rows.uptoBulkAll]
      | cons y l ih =>
        simp only [lits, List.map_cons, Rows.uptoBulkAll, Rows.uptoBulk, List.length_cons] at ih ⊢
        omega
    refine ⟨some ad, cap, zs.take len, by rw [htl], by omega, ⟨rfl, by rw [htl]; simp only [maxLen] at hm; omega, fun hp => ⟨ad, rfl, fun j p hj => ⟨[.int .u8 p], rfl, rfl, fun i u hu => ?_⟩⟩⟩, fun n hn => byte_range (hwz n (List.mem_of_mem_take hn)), ?_⟩
    · match i with
      | 0 =>
        obtain rfl : Value.int .u8 p = u := by simpa using hu
        have hjl := (List.getElem?_eq_some_iff.1 hj).1
        rw [htl] at hjl
        have := hcell j (by omega)
        rw [List.getElem?_take_of_lt hjl] at hj
        rw [List.getD_eq_getElem?_getD, hj] at this
        show w.cell? (ad.add (j * 1 + 0)) = _
        rw [Nat.mul_one, Nat.add_zero]
        exact this
      | i + 1 => simp at hu
    · simp only [Rows.uptoBulk, hlits]
      omega
theorem sizes_bulk : ∀ (L : List S25) (ds : List (DataW H)), L.length = ds.length → (∀ (i : Nat) (x : S25) (d : DataW H), L[i]? = some x → ds[i]? = some d → tsize x ≤ Rows.uptoBulk d) → tsizes L ≤ Rows.uptoBulkAll ds
  | [], _, _, _ => by simp [tsizes]
  | x :: L, [], h, _ => by simp at h
  | x :: L, d :: ds, h, hx => by
    have h1 := hx 0 x d rfl rfl
    have h2 := sizes_bulk L ds (by simpa using h) (fun i y e h1 h2 => hx (i + 1) y e (by simpa using h1) (by simpa using h2))
    simp only [tsizes, Rows.uptoBulkAll]; omega
theorem open_node : ∀ (fuel : Nat) (cs : List Value) (x : DataW H × List MemPlace), DataW.trod enc Try.prog w base (fun _ => true) held fuel 25 cs = some x → ∃ a : S25, k25.K w a cs ∧ okT a ∧ tsize a ≤ Rows.uptoBulk x.1 := by
  intro fuel
  induction fuel using Nat.strongRecOn with
  | _ fuel ih =>
  intro cs x h
  obtain ⟨xs, n, rfl, rfl, hl, hlen, hf⟩ := DataW.trod_struct Try.underlying25 h
  have z25 : Try.prog.cellsOf 25 = 5 := by kernel_rfl
  have z3 : Try.prog.cellsOf 3 = 1 := by kernel_rfl
  have zb : Try.prog.cellsOf 22 = 1 := by kernel_rfl
  have zn : Try.prog.cellsOf 23 = 1 := by kernel_rfl
  rw [z25] at hl
  match xs, hlen, cs, hl with
  | [y0, y1, y2, y3, y4], _, [c0, c1, c2, c3, c4], _ =>
  have h0 : DataW.trod enc Try.prog w base (fun _ => true) held n 3 [c0] = some y0 := by simpa [z3] using hf 0 _ rfl
  have h1 : DataW.trod enc Try.prog w base (fun _ => true) held n 3 [c1] = some y1 := by simpa [z3] using hf 1 _ rfl
  have h2 : DataW.trod enc Try.prog w base (fun _ => true) held n 3 [c2] = some y2 := by simpa [z3] using hf 2 _ rfl
  have h3 : DataW.trod enc Try.prog w base (fun _ => true) held n 22 [c3] = some y3 := by simpa [zb] using hf 3 _ rfl
  have h4 : DataW.trod enc Try.prog w base (fun _ => true) held n 23 [c4] = some y4 := by simpa [zn] using hf 4 _ rfl
  obtain ⟨n0, e0, rfl, _⟩ := DataW.trod_int Try.underlying3 h0
  obtain ⟨n1, e1, rfl, _⟩ := DataW.trod_int Try.underlying3 h1
  obtain ⟨n2, e2, rfl, _⟩ := DataW.trod_int Try.underlying3 h2
  obtain ⟨A3, k3, zs, e3, l3, g3, hzb, hb3⟩ := bulk_bytes h3
  simp only [List.cons.injEq, and_true] at e0 e1 e2 e3
  subst e0 e1 e2 e3
  have kids : ∃ (A : Option Addr) (c : Nat) (L : List S25), c4 = .slice A L.length c ∧ L.length ≤ c ∧ k25.C w A L.length L ∧ (∀ a ∈ L, okT a) ∧ tsizes L ≤ Rows.uptoBulk y4.1 := by
    rcases DataW.trod_slice Try.underlying23 h4 with ⟨e4, rfl⟩ | ⟨ad, len, cap, elems, rest, m, rfl, e4, rfl, hb, hle, hmax, hel0, hel, _, _⟩
    · simp only [List.cons.injEq, and_true] at e4
      exact ⟨none, 0, [], e4, Nat.le_refl _, Kd.C_nil _ _, by simp, by simp [tsizes]⟩
    · simp only [List.cons.injEq, and_true] at e4
      have each : ∀ i, i < len → ∃ (cs' : List Value) (a : S25), (∀ (j : Nat) (u : Value), cs'[j]? = some u → w.cell? ((ad.add (i * 5)).add j) = some u) ∧ cs'.length = 5 ∧ k25.K w a cs' ∧ okT a ∧ ∀ d, (elems.map (·.1))[i]? = some d → tsize a ≤ Rows.uptoBulk d := fun i hi => by
        have hq := hel i hi
        rw [z25, List.getElem?_eq_getElem (by omega)] at hq
        obtain ⟨cs', hc, ht⟩ := Option.bind_eq_some_iff.1 hq
        obtain ⟨a, hK, hok, hsz⟩ := ih m (by omega) cs' _ ht
        obtain ⟨hlc, hcc⟩ := cells_each hc
        refine ⟨cs', a, hcc, hlc, hK, hok, fun d hd => ?_⟩
        rw [List.getElem?_map, List.getElem?_eq_getElem (by omega)] at hd
        obtain rfl : elems[i].1 = d := by simpa using hd
        exact hsz
      classical
      let f : Nat → S25 := fun i => if hi : i < len then (each i hi).choose_spec.choose else ⟨0, 0, 0, [], []⟩
      have hfs : ∀ i (hi : i < len), f i = (each i hi).choose_spec.choose := fun i hi => dif_pos hi
      have hL : ((List.range len).map f).length = len := by simp
      have hget : ∀ (j : Nat) (p : S25), ((List.range len).map f)[j]? = some p → ∃ hj : j < len, p = (each j hj).choose_spec.choose := fun j p hp => by
        have hj : j < len := by have := (List.getElem?_eq_some_iff.1 hp).1; rwa [hL] at this
        refine ⟨hj, ?_⟩
        rw [← hfs j hj]
        simp [hj] at hp
        exact hp.symm
      refine ⟨some ad, cap, (List.range len).map f, by rw [hL]; exact e4, by rw [hL]; exact hle, ⟨rfl, by rw [hL]; simp only [maxLen] at hmax; omega, fun hp => ⟨ad, rfl, fun j p hj => ?_⟩⟩, fun a ha => ?_, ?_⟩
      · obtain ⟨hjl, rfl⟩ := hget j p hj
        obtain ⟨hc, hlc, hK, _⟩ := (each j hjl).choose_spec.choose_spec
        refine ⟨(each j hjl).choose, hlc, hK, fun i u hu => ?_⟩
        have := hc i u hu
        rw [Addr.add_add] at this
        exact this
      · obtain ⟨j, hj⟩ := List.getElem?_of_mem ha
        obtain ⟨hjl, rfl⟩ := hget j a hj
        exact (each j hjl).choose_spec.choose_spec.2.2.2.1
      · refine Nat.le_trans (sizes_bulk _ (elems.map (·.1)) (by simp; omega) fun i x d hx hd => ?_) (by simp only [Rows.uptoBulk]; omega)
        obtain ⟨hjl, rfl⟩ := hget i x hx
        exact (each i hjl).choose_spec.choose_spec.2.2.2.2 d hd
  obtain ⟨A4, k4, L, rfl, l4, g4, hLok, hb4⟩ := kids
  refine ⟨⟨n0, n1, n2, zs, L⟩, k25_mk w ⟨n0, n1, n2, zs, L⟩ l3 g3 l4 g4, .mk hzb hLok, ?_⟩
  simp only [tsize, Rows.uptoBulk, Rows.uptoBulkAll, List.map_cons, List.map_nil]
  omega
end
end Go.Proofs.Ytmbockhcmhghlaa.Pr
end
section
namespace Go.Proofs.Ytmbockhcmhghlaa.trimIsCanonical
open Go.ChangeShapes Go.WideShapes Go.ChangeAt Go.RowKit Go.Joins Go.Proofs.Ytmbockhcmhghlaa.Pr
set_option linter.unusedVariables false
set_option linter.unusedSimpArgs false
theorem own : ownKnob Try.prog.godebug = none := by kernel_rfl
theorem laidOut : laidOutB Try.prog = true := by kernel_rfl
theorem contract (H : Type) (enc : TypeId × Value → H) (W : World) (base : Nat) (args : Array Value) (ds gs : List (DataW H)) (before : List MemPlace)
    (hval0 : ∀ (j : Nat) t v, Try.f4.params[j]? = some t → args[j]? = some v → Value.okWide Try.prog W .any base t v)
    (hW : DataW.Whole enc Try.prog Try.f4.params.toList Rows.trimIsCanonicalSpec.vars false W args.toList ds gs before) (hbulk : Rows.uptoSmall H (ds ++ gs) = true) :
    Calls Try.prog 4 args W fun e W' => ∃ v, e = .returned v ∧ Rows.trimIsCanonicalSpec.post enc Try.prog Try.f4 false true false false W args v W' := by
  have hval : ∀ (j : Nat) t v, Try.f4.params[j]? = some t → args[j]? = some v → Value.okWide Try.prog W .any base t v := hval0
  have hW' := hW
  obtain ⟨p, q, hA0, hV, rfl, hfz, hnd⟩ := hW
  have hA : DataW.TrodAll enc Try.prog W 0 (fun _ => true) true Try.f4.params.toList args.toList ds p := hA0
  rw [Try.params4] at hA hval
  obtain ⟨v0, vs0, d0, ds0, p0, q0, hargs, rfl, rfl, h0, r0⟩ := trodAll_cons hA
  obtain ⟨rfl, rfl, rfl⟩ := trodAll_nil r0
  obtain rfl : args = #[v0] := by cases args; simp_all
  obtain ⟨rfl, rfl⟩ := trodVars_none hV
  have k0 := h0
  have lt0 : ∀ x ∈ p0, x.block < W.heap.size := by obtain ⟨m, hm⟩ := k0; exact DataW.trod_lt m _ _ _ hm
  obtain ⟨cs0, rfl, hn0⟩ := okWide_struct Try.underlying25 (hval 0 25 v0 rfl rfl)
  obtain ⟨fuel0, hf0⟩ := h0
  obtain ⟨a0, K0, ok0, sz0⟩ := open_node _ _ _ hf0
  obtain ⟨A0_3, c0_3, A0_4, c0_4, e0, l0_3, g0_3, l0_4, g0_4⟩ := k25_open K0
  obtain rfl : cs0 = #[.int .i64 a0.f0, .int .i64 a0.f1, .int .i64 a0.f2, .slice A0_3 a0.f3.length c0_3, .slice A0_4 a0.f4.length c0_4] := by
    have e' : cs0.toList = _ := e0
    rw [← Array.toArray_toList (xs := cs0), e']
  clear K0 e0 hf0 hn0
  have sz0 : tsize a0 ≤ Rows.uptoBulk d0 := sz0
  have hk : Rows.uptoBulk d0 ≤ 1048576 := by have h := of_decide_eq_true hbulk; simp only [Rows.uptoBulkAll, List.nil_append, List.append_nil, List.cons_append] at h; omega
  clear hA0 hval0
  refine (let ⟨k, hk⟩ := (canonical_true a0 ok0 (by omega)).rounds; capnplaw11_TrimIsCanonical.calls k _ _ _ _ _ _ _ _ _ _ W g0_3 l0_3 g0_4 l0_4 hk).mono fun e W' ⟨he, bel⟩ => ?_
  subst he
  exact ⟨_, rfl, _, _, _, [], _, [], hW', trodAll_mk1 (shut_bool Try.underlying4 _), (trodAll_cons_mk (Below.trod laidOut (by kernel_rfl) (of_decide_eq_true (by kernel_rfl)) k0 bel lt0) trodAll_mk0), rfl, bel.frame _, fun h => by cases h⟩
set_option maxRecDepth 100000 in
theorem lifted (os : Os) (started : os.Started) (H : Type) (enc : TypeId × Value → H) (F : Stop.Interp) :
    ReturnsInHanded {} Try.checked os 4 .any ((Rows.OpenSpec.upto Rows.trimIsCanonicalSpec).pre6 enc Try.prog Try.f4 Rows.trimIsCanonicalUptoRow.domain false) (((Rows.OpenSpec.upto Rows.trimIsCanonicalSpec).at F).post enc Try.prog Try.f4 false true false false) := by
  refine returnsInHanded_of_cond (C := Try.checked) (s := (Rows.OpenSpec.upto Rows.trimIsCanonicalSpec)) (k := Rows.uptoSmall) rfl own started (by kernel_rfl) Try.func4
    (OpenSpec.witness (enc := enc) (C := Try.checked) (s := (Rows.OpenSpec.upto Rows.trimIsCanonicalSpec)) (k := Rows.uptoSmall) rfl false ⟨#[], #[.agg #[.int .i64 0, .int .i64 0, .int .i64 0, .slice none 0 0, .slice none 0 0]], []⟩ 8 (by kernel_rfl) (by kernel_rfl) (by kernel_rfl)
      (x := ([.agg [.lit (.int .i64 0), .lit (.int .i64 0), .lit (.int .i64 0), .nil, .nil]], [], [])) (by kernel_rfl) rfl (by kernel_rfl)) ?_
  intro W base args ds gs before hval hW _ hk _
  exact contract H enc W base args ds gs before hval hW hk
theorem over : Rows.trimIsCanonicalUptoRow.holds Try.pinned (Rows.OpenSpec.upto Rows.trimIsCanonicalSpec) :=
  OpenClaim.holds_of_cond 4 Try.f4 rfl rfl rfl rfl rfl rfl rfl ⟨rfl, rfl, rfl, rfl, rfl⟩ rfl rfl rfl rfl rfl (by kernel_rfl) Try.func4 (by kernel_rfl)
    (of_decide_eq_true (by kernel_rfl)) (by unfold Func.isWrapper; first | (rw [if_pos (by decide +kernel)]; kernel_rfl) | (rw [if_neg (by decide +kernel)]; exact ⟨rfl, rfl⟩))
    (fun os started H enc _ F => lifted os started H enc F)
theorem proved : Rows.TrimIsCanonicalUptoSaid := over
#print axioms proved
end Go.Proofs.Ytmbockhcmhghlaa.trimIsCanonical
namespace Go.Proofs.Ytmbockhcmhghlaa
theorem trimIsCanonical_holds : Rows.TrimIsCanonicalUptoSaid := trimIsCanonical.proved
end Go.Proofs.Ytmbockhcmhghlaa
end

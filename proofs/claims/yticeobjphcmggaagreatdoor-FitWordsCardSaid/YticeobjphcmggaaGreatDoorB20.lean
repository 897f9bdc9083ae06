/- Part of a proof. -/
import Derived.Test.YticeobjphcmggaaGreatDoorAvR
import Derived.Test.YticeobjphcmggaaGreatDoorB19
import Derived.Test.YticeobjphcmggaaGreatDoorF8
import Derived.Test.YticeobjphcmggaaGreatDoorB00
import Derived.WalkKit
import Derived.Deep.RegionLaw
import Derived.Lib.SliceRun
import Derived.Test.YticeobjphcmggaaGreatDoorB09
import Derived.Test.YticeobjphcmggaaGreatDoorB18
set_option linter.unusedVariables false
set_option linter.unusedSimpArgs false
set_option maxHeartbeats 64000000
set_option maxRecDepth 8000
namespace Go.Av
open Go Go.RowKit Go.Proofs
set_option maxHeartbeats 64000000
theorem actEq_eq {a b : Inter} (h : actEq a b = true) : a = b := by
 cases a
 cases b
 simp only [actEq, Bool.and_eq_true, beq_iff_eq] at h
 obtain ⟨⟨rfl, rfl⟩, rfl⟩ := h
 rfl
theorem ev1_rc {x : Inter} (h : x.from_ ≠ x.to) : ev1 x.to x = [⟨x.to, false, x.from_, x.label, none⟩] := by
 unfold ev1
 rw [if_neg h, if_pos rfl]
 rfl
theorem ev1_sd {x : Inter} (h : x.from_ ≠ x.to) : ev1 x.from_ x = [⟨x.from_, true, x.to, x.label, none⟩] := by
 unfold ev1
 rw [if_pos rfl, if_neg (fun e => h e.symm)]
 rfl
theorem project_mid {w : List Inter} {k : Nat} (hk : k < w.length) {r : Int} {e : Ev} (he : ev1 r w[k] = [e]) : (project (w.take k) r).length < (project w r).length /\ (project w r)[(project (w.take k) r).length]? = some e := by
 have h1 : project w r = project (w.take (k + 1)) r ++ project (w.drop (k + 1)) r := by
  unfold project
  rw [<- List.flatMap_append, List.take_append_drop]
 rw [h1, project_succ hk, he]
 refine ⟨by simp, ?_⟩
 rw [List.append_assoc, List.getElem?_append_right (Nat.le_refl _)]
 simp
theorem path_runs {g : Glob} {H : List (List Ev)} {w : List Inter} (hg : goodF g H = true) (hH : ∀ r : Nat, r < H.length -> histAt H r = project w r) : ∀ k, k <= w.length -> ∀ s, pathE g.edges (w.take k) g.start = some s -> ∃ L n, RunN g H L n /\ L.map (actAt g) = w.take k /\ n.st = s
 | 0, _, s, h => by
   rw [List.take_zero] at h ⊢
   exact ⟨[], _, .nil, rfl, Option.some.inj h⟩
 | k + 1, hk, s, h => by
   have hk' : k < w.length := hk
   have hsnoc : w.take (k + 1) = w.take k ++ [w[k]] := List.take_succ_eq_append_getElem hk'
   rw [hsnoc, path_snoc] at h
   split at h
   rotate_left
   ·cases h
   rename_i t ht
   obtain ⟨L, n, hr, hL, hn⟩ := path_runs hg hH k (by omega) t ht
   rw [next_find] at h
   cases hf : g.edges.find? (fun x => x.from_ == t && actEq x.act w[k]) with
   | none =>
     rw [hf] at h
     cases h
   | some x =>
     rw [hf] at h
     have hs : x.to = s := Option.some.inj h
     have hx := List.find?_some hf
     simp only [Bool.and_eq_true, beq_iff_eq] at hx
     have ha := actEq_eq hx.2
     obtain ⟨j, hj, hjx⟩ := List.mem_iff_getElem.1 (List.mem_of_find?_eq_some hf)
     have hjs : g.edges[(j : Int).toNat]? = some x := by
      rw [Int.toNat_natCast, List.getElem?_eq_getElem hj, hjx]
     have hmem : (j : Int) ∈ sortedE g.edges n.st := mem_sortedE.2 ⟨x, hjs, Int.natCast_nonneg j, by rw [hn]; exact hx.1⟩
     obtain ⟨hnm, hlr, h6, _⟩ := valid_roles hg
     obtain ⟨_, _, _, _, _, _, n7⟩ := numbered_facts hnm
     have hxm : x ∈ g.edges := List.mem_of_getElem? hjs
     obtain ⟨e1, e2, e3, e4, e5, e6⟩ := edges_ok hg x hxm
     have hne : x.act.from_ ≠ x.act.to := by
      have := n7 x hxm
      simp only [okEdge, Bool.and_eq_true, decide_eq_true_eq] at this
      omega
     obtain ⟨_, hfit⟩ := run_fits hg hr
     have hps : ∀ r : Int, 0 <= r -> r < H.length -> ∀ e, ev1 r w[k] = [e] -> psAt n.ps r = (project (w.take k) r).length /\ histAt H r = project w r := by
      intro r h0 h1 e he
      obtain ⟨m, rfl⟩ : ∃ m : Nat, r = m := ⟨r.toNat, by omega⟩
      have h2 := (hfit m (by omega)).1
      rw [hL, hH m (by omega)] at h2
      have := (project_mid hk' he).1
      exact ⟨by rw [h2]; omega, hH m (by omega)⟩
     rw [ha] at e3 e4 e5 e6 hne
     obtain ⟨p1, p2⟩ := hps _ e3 e4 _ (ev1_sd hne)
     obtain ⟨p3, p4⟩ := hps _ e5 e6 _ (ev1_rc hne)
     obtain ⟨q1, q2⟩ := project_mid hk' (ev1_sd hne)
     obtain ⟨q3, q4⟩ := project_mid hk' (ev1_rc hne)
     have hst : ∃ q, stepN g H 0 n j = some q /\ q.st = x.to := by
      unfold stepN
      rw [hjs]
      simp only
      rw [ha, p1, p2, p3, p4, passV_at q1 (Option.some.inj ((List.getElem?_eq_getElem q1).symm.trans q2)), passV_at q3 (Option.some.inj ((List.getElem?_eq_getElem q3).symm.trans q4))]
      simp
     obtain ⟨q, hq, hqs⟩ := hst
     refine ⟨L ++ [(j : Int)], q, .snoc hr hmem hq, ?_, hqs.trans hs⟩
     rw [List.map_append, hL, hsnoc]
     have : actAt g (j : Int) = w[k] := by
      unfold actAt
      rw [hjs]
      exact ha
     simp [this]
theorem hist_at {w : List Inter} {n : Nat} : ∀ r : Nat, r < (hists w n).length -> histAt (hists w n) r = project w r := by
 intro r hr
 rw [hists_len] at hr
 unfold histAt hists
 rw [Int.toNat_natCast, List.getElem?_map, List.getElem?_range hr]
 rfl
def okIn (n : Nat) (x : Inter) : Prop := 0 <= x.from_ /\ x.from_ < n /\ 0 <= x.to /\ x.to < n /\ x.from_ ≠ x.to
theorem next_okIn {g : Glob} (hn : numbered g = true) {s t : Int} {a : Inter} (h : nextE g.edges s a = some t) : okIn g.roles.length a := by
 rw [next_find] at h
 cases hf : g.edges.find? (fun x => x.from_ == s && actEq x.act a) with
 | none =>
   rw [hf] at h
   cases h
 | some x =>
   have hx := List.find?_some hf
   simp only [Bool.and_eq_true, beq_iff_eq] at hx
   rw [<- actEq_eq hx.2]
   obtain ⟨_, _, _, _, _, _, n7⟩ := numbered_facts hn
   have := n7 x (List.mem_of_find?_eq_some hf)
   simp only [okEdge, Bool.and_eq_true, decide_eq_true_eq] at this
   unfold okIn
   omega
theorem path_okIn {g : Glob} (hn : numbered g = true) : ∀ {w : List Inter} {s t : Int}, pathE g.edges w s = some t -> ∀ a ∈ w, okIn g.roles.length a
 | [], _, _, _, a, ha => by cases ha
 | b :: w, s, t, h, a, ha => by
   simp only [pathE] at h
   split at h
   ·rename_i u hu
    rcases List.mem_cons.1 ha with rfl | ha
    ·exact next_okIn hn hu
    ·exact path_okIn hn h a ha
   ·cases h
theorem ev_okE {n : Nat} {w : List Inter} (h : ∀ a ∈ w, okIn n a) {r : Nat} : okH n r (project w r) = true := by
 unfold okH project
 rw [List.all_eq_true]
 intro e he
 obtain ⟨a, ha, he⟩ := List.mem_flatMap.1 he
 obtain ⟨h1, h2, h3, h4, h5⟩ := h a ha
 unfold ev1 at he
 rcases List.mem_append.1 he with he | he
 ·split at he
  ·rename_i hr
   rw [List.mem_singleton.1 he]
   simp only [okE, Bool.and_eq_true, decide_eq_true_eq]
   exact ⟨⟨⟨trivial, by omega⟩, h3⟩, h4⟩
  ·cases he
 ·split at he
  ·rename_i hr
   rw [List.mem_singleton.1 he]
   simp only [okE, Bool.and_eq_true, decide_eq_true_eq]
   exact ⟨⟨⟨trivial, by omega⟩, h1⟩, h2⟩
  ·cases he
theorem words_good {g : Glob} {w : List Inter} (hv : valid29 g = true) (h : ∀ a ∈ w, okIn g.roles.length a) : goodF g (hists w g.roles.length) = true := by
 have h6 : g.roles.length <= 6 := by
  have := hv
  unfold valid29 named at this
  simp only [Bool.and_eq_true, decide_eq_true_eq] at this
  omega
 unfold goodF properH
 rw [hv, hists_len]
 simp only [decide_true, Bool.true_and, Bool.and_eq_true, List.all_eq_true, List.mem_range, decide_eq_true_eq]
 refine ⟨fun r hr => ?_, h6⟩
 unfold hists
 rw [List.getElem?_map, List.getElem?_range hr]
 exact ev_okE h
theorem full_ps {g : Glob} {C : List (List Ev)} (hg : goodF g C = true) {L : List Int} {n : Nd} (hr : RunN g C L n) (hle : ∀ r : Nat, r < C.length -> (histAt C r).length <= (project (L.map (actAt g)) r).length) : n.ps = lensH C := by
 obtain ⟨h1, h2⟩ := run_fits hg hr
 apply List.ext_getElem?
 intro r
 by_cases h : r < C.length
 ·have h3 := (h2 r h).1
  have h4 := hle r h
  unfold psAt histAt at h3
  unfold histAt at h4
  rw [Int.toNat_natCast, List.getElem?_eq_getElem (by omega), List.getElem?_eq_getElem h] at h3
  rw [Int.toNat_natCast, List.getElem?_eq_getElem h] at h4
  simp only [Option.getD_some] at h3 h4
  rw [List.getElem?_eq_getElem (by omega)]
  unfold lensH
  rw [List.getElem?_map, List.getElem?_eq_getElem h]
  simp only [Option.map_some, Option.some.injEq]
  omega
 ·rw [List.getElem?_eq_none (by omega), List.getElem?_eq_none (by unfold lensH; rw [List.length_map]; omega)]
theorem sum_le : ∀ {l m : List Nat}, l.length = m.length -> (∀ i, i < l.length -> l[i]?.getD 0 <= m[i]?.getD 0) -> l.sum <= m.sum
 | [], [], _, _ => Nat.le_refl _
 | x :: l, y :: m, hl, h => by
   have h0 := h 0 (by simp)
   simp only [List.getElem?_cons_zero, Option.getD_some] at h0
   simp only [List.sum_cons]
   have := sum_le (l := l) (m := m) (by simpa using hl) fun i hi => by
    have := h (i + 1) (by simpa using hi)
    simpa using this
   omega
 | [], _ :: _, hl, _ => by simp at hl
 | _ :: _, [], hl, _ => by simp at hl
theorem sum_le_same : ∀ {l m : List Nat}, l.length = m.length -> (∀ i, i < l.length -> l[i]?.getD 0 <= m[i]?.getD 0) -> m.sum <= l.sum -> l = m
 | [], [], _, _, _ => rfl
 | x :: l, y :: m, hl, h, hs => by
   have h0 := h 0 (by simp)
   simp only [List.getElem?_cons_zero, Option.getD_some] at h0
   simp only [List.sum_cons] at hs
   have hle : l.sum <= m.sum := sum_le (by simpa using hl) fun i hi => by
    have := h (i + 1) (by simpa using hi)
    simpa using this
   have hxy : x = y := by omega
   subst hxy
   rw [sum_le_same (l := l) (m := m) (by simpa using hl) (fun i hi => by
    have := h (i + 1) (by simpa using hi)
    simpa using this) (by omega)]
 | [], _ :: _, hl, _, _ => by simp at hl
 | _ :: _, [], hl, _, _ => by simp at hl
theorem evs_eq {a b : List Ev} (h : evsSame a b = true) (ha : ∀ e ∈ a, e.vals = none) (hb : ∀ e ∈ b, e.vals = none) : a = b := by
 unfold evsSame at h
 simp only [Bool.and_eq_true, decide_eq_true_eq, List.all_eq_true] at h
 obtain ⟨hl, h⟩ := h
 apply List.ext_getElem hl
 intro i h1 h2
 have h3 := h (a[i], b[i]) (by rw [List.mem_iff_getElem]; exact ⟨i, by simp; omega, by simp⟩)
 have v1 := ha _ (List.getElem_mem h1)
 have v2 := hb _ (List.getElem_mem h2)
 simp only [evSame, Bool.and_eq_true, decide_eq_true_eq, beq_iff_eq] at h3
 revert h3 v1 v2
 cases a[i]
 cases b[i]
 simp only
 intro v1 v2 h3
 rw [h3.1.1.1, h3.1.1.2, h3.1.2, h3.2, v1, v2]
theorem words_found {g : Glob} {w : List Inter} {t : Int} (hv : valid29 g = true) (hw : pathE g.edges w g.start = some t) (hs : g.states <= 20) (h5 : w.length <= 5) :
  (∃ l, searchF g (hists w g.roles.length) = (some l, 0) /\ decide (normal (l.map (actAt g)) = normal w) = true) /\ ∀ C, CutOf (hists w g.roles.length) C -> ∃ l, searchF g C = (some l, 0) /\ l.length <= w.length := by
 have hnm : numbered g = true := by
  have := hv
  unfold valid29 at this
  simp only [Bool.and_eq_true] at this
  exact this.1.1.1.1.1.2
 have hok := path_okIn hnm hw
 have hg := words_good hv hok
 obtain ⟨_, _, h6, _⟩ := valid_roles hg
 rw [hists_len] at h6
 have hokI : ∀ l : List Inter, (∀ a ∈ l, okIn g.roles.length a) -> ∀ a ∈ l, okI a = true := fun l hl a ha => by
  obtain ⟨h1, h2, h3, h4, h5⟩ := hl a ha
  simp only [okI, Bool.and_eq_true, decide_eq_true_eq]
  omega
 have htot := hists_total (hokI w hok)
 have hsum : ∀ C, CutOf (hists w g.roles.length) C -> (lensH C).sum <= 13 := by
  intro C hC
  have hl1 : C.length = g.roles.length := by rw [hC.len, hists_len]
  have hle : (lensH C).sum <= (lensH (hists w 6)).sum := by
   refine Nat.le_trans (sum_le (l := lensH C) (m := lensH (hists w g.roles.length)) (by simp [lensH, hl1, hists_len]) fun i hi => ?_) ?_
   ·have hi' : i < C.length := by simpa [lensH] using hi
    have hi2 : i < (hists w g.roles.length).length := by rw [hists_len]; omega
    obtain ⟨m, hm⟩ := hC.at_ i hi2
    unfold histAt at hm
    rw [Int.toNat_natCast] at hm
    unfold lensH
    rw [List.getElem?_map, List.getElem?_map, List.getElem?_eq_getElem hi', List.getElem?_eq_getElem hi2]
    rw [List.getElem?_eq_getElem hi', List.getElem?_eq_getElem hi2] at hm
    simp only [Option.map_some, Option.getD_some] at hm ⊢
    rw [hm, List.length_take]
    omega
   ·have : hists w 6 = hists w g.roles.length ++ (hists w 6).drop g.roles.length := by
     have h1 : (hists w 6).take g.roles.length = hists w g.roles.length := by
      unfold hists
      rw [<- List.map_take, List.take_range]
      congr 2
      omega
     rw [<- h1, List.take_append_drop]
    rw [this]
    unfold lensH
    rw [List.map_append, List.sum_append]
    omega
  have : (lensH (hists w 6)).sum = total (hists w 6) := rfl
  omega
 obtain ⟨L, n, hr, hL, hn⟩ := path_runs hg hist_at w.length (Nat.le_refl _) t (by rw [List.take_length]; exact hw)
 rw [List.take_length] at hL
 have hLl : L.length = w.length := by rw [<- hL, List.length_map]
 have hall : ∀ C, CutOf (hists w g.roles.length) C -> ∃ l, searchF g C = (some l, 0) /\ l.length <= w.length := by
  intro C hC
  obtain ⟨n', hr', _⟩ := run_cut hC hg hr
  have hgc := cut_good hC hg
  have hfull : n'.ps = lensH C := full_ps hgc hr' fun r hrc => by
   rw [hL]
   have hi2 : r < (hists w g.roles.length).length := by rw [<- hC.len]; exact hrc
   obtain ⟨m, hm⟩ := hC.at_ r hi2
   rw [hm, hist_at r hi2, List.length_take]
   omega
  have h0 := search_all hgc hr' hfull
  have h6 := search_small hs (hsum C hC)
  obtain ⟨⟨o, c⟩, hv⟩ : ∃ v, searchF g C = v := ⟨_, rfl⟩
  rw [hv] at h0 h6
  simp only at h0 h6
  have hc : c = 0 := by omega
  subst hc
  cases o with
  | none => exact (search_zero hv).elim
  | some l => exact ⟨l, hv, by rw [<- hLl]; exact search_short hr' hfull hv⟩
 refine ⟨?_, hall⟩
 obtain ⟨l, hl, hll⟩ := hall _ ⟨rfl, fun r hr => ⟨(histAt (hists w g.roles.length) r).length, by rw [List.take_length]⟩⟩
 refine ⟨l, hl, ?_⟩
 obtain ⟨⟨t2, h1⟩, h2, h3⟩ := found_ok hl
 obtain ⟨A, hA⟩ : ∃ A, l.map (actAt g) = A := ⟨_, rfl⟩
 rw [hA] at h1 h3 ⊢
 have hAl : A.length <= w.length := by rw [<- hA, List.length_map]; exact hll
 have hokA := path_okIn hnm h1
 have htA := hists_total (hokI A hokA)
 have hout : ∀ (v : List Inter), (∀ a ∈ v, okIn g.roles.length a) -> ∀ r : Nat, g.roles.length <= r -> project v r = [] := by
  intro v hv r hr
  unfold project
  rw [List.flatMap_eq_nil_iff]
  intro a ha
  obtain ⟨e1, e2, e3, e4, _⟩ := hv a ha
  unfold ev1
  rw [if_neg (by omega), if_neg (by omega)]
  rfl
 have hle : ∀ r : Nat, (project w r).length <= (project A r).length := by
  intro r
  by_cases hr : r < g.roles.length
  ·have hr' : r < (hists w g.roles.length).length := by rw [hists_len]; exact hr
   have := (h3 r hr').1
   rw [hist_at r hr'] at this
   exact this
  ·rw [hout w hok r (by omega)]
   exact Nat.zero_le _
 have hat : ∀ (v : List Inter) (i : Nat), i < 6 -> ((hists v 6).map List.length)[i]? = some (project v i).length := fun v i hi => by
  unfold hists
  rw [List.getElem?_map, List.getElem?_map, List.getElem?_range hi]
  rfl
 have hsame := sum_le_same (l := (hists w 6).map List.length) (m := (hists A 6).map List.length) (by simp [hists_len]) (fun i hi => by
  have hi6 : i < 6 := by simpa [hists_len] using hi
  rw [hat w i hi6, hat A i hi6]
  exact hle i) (by
  have e1 : ((hists A 6).map List.length).sum = total (hists A 6) := rfl
  have e2 : ((hists w 6).map List.length).sum = total (hists w 6) := rfl
  omega)
 have heq : ∀ r : Nat, r < 6 -> project A r = project w r := by
  intro r hr
  have hlen : (project w r).length = (project A r).length := by
   have := hat w r hr
   rw [hsame, hat A r hr] at this
   exact (Option.some.inj this).symm
  by_cases hrn : r < g.roles.length
  ·have hr' : r < (hists w g.roles.length).length := by rw [hists_len]; exact hrn
   have := (h3 r hr').2
   rw [hist_at r hr', hlen, List.take_length] at this
   exact evs_eq this (project_vals A r) (project_vals w r)
  ·rw [hout w hok r (by omega), hout A hokA r (by omega)]
 have hh : histories A 6 = histories w 6 := by
  unfold histories
  rw [if_neg (by omega), if_neg (by omega)]
  unfold hists
  refine List.map_congr_left fun r hr => heq r ?_
  have := List.mem_range.1 hr
  omega
 have m1 := merge_histories (l := A) (by rw [List.all_eq_true]; exact hokI A hokA)
 have m2 := merge_histories (l := w) (by rw [List.all_eq_true]; exact hokI w hok)
 rw [hh, m2] at m1
 rw [decide_eq_true_eq]
 exact (Option.some.inj m1).symm
theorem heap_setCells (b : Nat) (T : TypeId) (f : Nat × Nat) : ∀ (vs : List Value) (o : Nat) (w : World) (cs : Array Value), w.heap[b]? = some (.cells cs T f) -> o + vs.length <= cs.size ->
  (w.setCells b o vs).heap[b]? = some (.cells (splice cs.toList o vs).toArray T f)
 | [], o, w, cs, h, _ => by simp [World.setCells, splice, h]
 | v :: vs, o, w, cs, h, hs => by
   simp only [List.length_cons] at hs
   have h1 : (w.setCell ⟨b, o, none⟩ v).heap[b]? = some (.cells (cs.setIfInBounds o v) T f) := by
    simp [World.setCell, Array.getElem?_modify, h]
   have h2 := heap_setCells b T f vs (o + 1) _ _ h1 (by simp; omega)
   rw [World.setCells, h2]
   have : splice (cs.setIfInBounds o v).toList (o + 1) vs = splice cs.toList o (v :: vs) := by
    unfold splice
    rw [Array.toList_setIfInBounds]
    have hlt : o < cs.toList.length := by simp; omega
    have e1 : (cs.toList.set o v).take (o + 1) = cs.toList.take o ++ [v] := by
     rw [List.take_set, List.take_succ_eq_append_getElem hlt, List.set_append_right _ _ (by simp; omega)]
     have : min o cs.size = o := by simp at hlt; omega
     simp [this]
    rw [e1, List.drop_set_of_lt (by omega), List.append_assoc, List.append_assoc, List.length_cons]
    simp only [List.cons_append, List.nil_append]
    have : o + 1 + vs.length = o + (vs.length + 1) := by omega
    rw [this]
    simp
   rw [this]
theorem run_clear_cells {P : Program} (w : World) (t e ty : TypeId) (z : Value) (ht : P.underlying t = some (.slice e)) (hv : ∀ w, (zeroValue e).run P w = .ok z w) (h1 : ∀ u ∈ z.cells, u.oneCell' = true) (b o n c : Nat) (hn : 0 < n) (hz : 0 < z.cells.size)
  (hc : ∀ j, j < n * z.cells.size -> (w.cell? ⟨b, o + j, none⟩).isSome = true) (hf : ∀ j, j < n * z.cells.size -> w.frozen? ⟨b, o + j, none⟩ = false) :
  (Builtin.clear_ #[t] ty #[.slice (some ⟨b, o, none⟩) n c]).run P w = .ok (.tuple #[]) (w.setCells b o (Builtin.zeroCells z.cells n).toList) := by
 have hst := run_storeCells_cells (P := P) b o (Builtin.zeroCells z.cells n).toList 0 w (by simpa [Builtin.zeroCells] using hc) (by simpa [Builtin.zeroCells] using hf) (by
  intro v hv'
  simp only [Builtin.zeroCells, Array.toList_map, List.mem_map] at hv'
  obtain ⟨i, _, rfl⟩ := hv'
  have hi : i % z.cells.size < z.cells.size := Nat.mod_lt _ hz
  rw [getElem!_pos z.cells (i % z.cells.size) hi]
  exact h1 _ (Array.getElem_mem hi))
 simp only [Nat.add_zero] at hst
 obtain ⟨m, rfl⟩ : ∃ m, n = m + 1 := ⟨n - 1, by omega⟩
 simp [Builtin.clear_, run_underlying ht, hv, hst]
theorem heap_setCells_ne (b : Nat) : ∀ (vs : List Value) (o : Nat) (w : World) (k : Nat), k ≠ b -> (w.setCells b o vs).heap[k]? = w.heap[k]?
 | [], _, _, _, _ => rfl
 | v :: vs, o, w, k, h => by
   rw [World.setCells, heap_setCells_ne b vs _ _ k h]
   exact Below.heap_setCell w _ v k h
theorem below_setCells (b B : Nat) (hb : B <= b) : ∀ (vs : List Value) (o : Nat) (w w0 : World), Below B w0 w -> Below B w0 (w.setCells b o vs)
 | [], _, _, _, h => h
 | v :: vs, o, w, w0, h => below_setCells b B hb vs _ _ _ (h.setCell hb v)
theorem info32 : (Tryz.prog.info? 47).map (fun i => (i.zero, i.size, i.bytes)) = some (some (.agg #[.int .i64 0, .int .i64 0, .int .i64 0]), 3, 24) := by kernel_rfl
theorem zero32 (w : World) : (zeroValue 47).run Tryz.prog w = .ok (.agg #[.int .i64 0, .int .i64 0, .int .i64 0]) w := by
 obtain ⟨i, hi, hz, h1, h2⟩ := info_parts info32
 simp [zeroValue, typeInfo, hi, hz]
def zs3 (k : Nat) : List Value := (Builtin.zeroCells (Value.cells (.agg #[.int .i64 0, .int .i64 0, .int .i64 0])) k).toList
theorem zs3_len (k : Nat) : (zs3 k).length = k * 3 := by simp [zs3, Builtin.zeroCells, Value.cells]
set_option maxRecDepth 1000000 in
theorem f78raw (blk off n cap i j : Nat) (cs : Array Value) (T : TypeId) (w : World) (hb : w.heap[blk]? = some (.cells cs T (0, 0))) (hn : n <= cap) (hm : cap <= 9223372036854775807) (hsz : off + cap * 3 <= cs.size)
  (hone : ∀ v ∈ (cs.toList.drop off).take (n * 3), v.oneCell' = true) (hlt : i < j) (hj : j <= n) :
  Calls Tryz.prog 78 #[.slice (some ⟨blk, off, none⟩) n cap, .int .i64 i, .int .i64 j] w fun e w' => e = .returned (.slice (some ⟨blk, off, none⟩) (i + (n - j)) cap) /\
   w' = (w.drew.setCells blk (off + i * 3) ((cs.toList.drop (off + j * 3)).take ((n - j) * 3))).setCells blk (off + (i + (n - j)) * 3) (zs3 (n - (i + (n - j)))) := by
 obtain ⟨i0, hi0, hz0, hz1, hz2⟩ := info_parts info32
 have hcell : ∀ (w' : World) (cs' : Array Value), w'.heap[blk]? = some (.cells cs' T (0, 0)) -> ∀ k, w'.cell? ⟨blk, k, none⟩ = cs'.toList[k]? := fun w' cs' h k => by rw [cell_of_row w' blk k cs' T (0, 0) h]; simp
 have hfrz : ∀ (w' : World) (cs' : Array Value), w'.heap[blk]? = some (.cells cs' T (0, 0)) -> ∀ k, w'.frozen? ⟨blk, k, none⟩ = false := fun w' cs' h k => by simp [World.frozen?, h]
 obtain ⟨news, hnews⟩ : ∃ news, news = (cs.toList.drop (off + j * 3)).take ((n - j) * 3) := ⟨_, rfl⟩
 have hlen : news.length = (n - j) * 3 := by rw [hnews]; simp; omega
 have hsubset : ∀ u ∈ news, u.oneCell' = true := by
  intro u hu
  refine hone u ?_
  rw [hnews] at hu
  have : (cs.toList.drop (off + j * 3)).take ((n - j) * 3) = (((cs.toList.drop off).take (n * 3)).drop (j * 3)).take ((n - j) * 3) := by
   rw [seg (by omega), List.drop_drop]
  rw [this] at hu
  exact List.mem_of_mem_drop (List.mem_of_mem_take hu)
 obtain ⟨A, hA, hsrc⟩ : ∃ A : Addr, (if cap = j then some (⟨blk, off, none⟩ : Addr) else some ⟨blk, off + j * 3, none⟩) = some A /\ Hid (∀ t u, news[t]? = some u -> w.drew.cell? (A.add t) = some u) := by
  by_cases h : cap = j
  ·refine ⟨⟨blk, off, none⟩, by simp [h], fun t u hu => ?_⟩
   have h0 : news.length = 0 := by rw [hlen]; omega
   rw [List.length_eq_zero_iff.1 h0] at hu
   simp at hu
  ·refine ⟨⟨blk, off + j * 3, none⟩, by simp [h], fun t u hu => ?_⟩
   have ht : t < (n - j) * 3 := by
    have := (List.getElem?_eq_some_iff.1 hu).1
    rwa [hlen] at this
   rw [add_mk, hcell w.drew cs hb]
   rw [hnews, List.getElem?_take, if_pos ht, List.getElem?_drop] at hu
   exact hu
 have s1 : Hid (news.length = (n - j) * 3) := hlen
 have s2 : Hid (∀ u ∈ news, u.oneCell' = true) := hsubset
 have s3 : Hid (∀ t, t < news.length -> (w.drew.cell? ⟨blk, off + i * 3 + t, none⟩).isSome = true /\ w.drew.frozen? ⟨blk, off + i * 3 + t, none⟩ = false) := by
  intro t ht
  rw [hlen] at ht
  refine ⟨?_, hfrz w.drew cs hb _⟩
  rw [hcell w.drew cs hb, List.getElem?_eq_getElem (by simp; omega)]
  rfl
 obtain ⟨W1, hW1⟩ : ∃ W1, W1 = w.drew.setCells blk (off + i * 3) news := ⟨_, rfl⟩
 have hb1 : W1.heap[blk]? = some (.cells (splice cs.toList (off + i * 3) news).toArray T (0, 0)) := by
  rw [hW1]; exact heap_setCells blk T (0, 0) news _ w.drew cs hb (by rw [hlen]; omega)
 have hsz1 : (splice cs.toList (off + i * 3) news).length = cs.size := by rw [splice_length _ _ _ (by rw [hlen]; simp; omega)]; simp
 have hcl : ∀ ty, (Builtin.clear_ #[31] ty #[.slice (some ⟨blk, off + (i + (n - j)) * 3, none⟩) (n - (i + (n - j))) (cap - (i + (n - j)))]).run Tryz.prog W1 = .ok (.tuple #[]) (W1.setCells blk (off + (i + (n - j)) * 3) (zs3 (n - (i + (n - j))))) := by
  intro ty
  refine run_clear_cells W1 31 47 ty (.agg #[.int .i64 0, .int .i64 0, .int .i64 0]) Tryz.underlying31 zero32 (by simp [Value.cells, Value.oneCell']) blk _ _ _ (by omega) (by simp [Value.cells]) (fun t ht => ?_) (fun t ht => hfrz W1 _ hb1 _)
  have ht' : t < (n - (i + (n - j))) * 3 := ht
  rw [hcell W1 _ hb1, List.getElem?_eq_getElem (by simp only [List.toList_toArray, hsz1]; omega)]
  rfl
 have hW : Hid (W1 = w.drew.setCells blk (off + i * 3) news) := hW1
 have hic : i <= cap := by omega
 have hjc : j <= cap := by omega
 rw [<- hnews]
 clear hW1 hb1 hsz1 hb hnews hlen hsubset hone hcell hfrz
 go_enter Tryz.func78, Tryz.ntmps78
 go_wp2_with fail
 go_region_law (refine step_append_room rfl (.tmp 22) (.tmp 25) 31 rfl 47 i0 3 Tryz.underlying31 hi0 hz1 blk off i cap (by simp [Act.eval, Act.put]) A (n - j) (cap - j) news (by simp [Act.eval, Act.put]) s1.out hsrc.out s2.out (by omega) s3.out ?_)
 rw [<- hW.out]
 go_wp2
 go_ret
 exact ⟨rfl, by rw [hW.out]⟩
set_option maxRecDepth 1000000 in
theorem f78same (A : Option Addr) (n cap i : Nat) (w : World) (hn : n <= cap) (hi : i <= n) :
  Calls Tryz.prog 78 #[.slice A n cap, .int .i64 i, .int .i64 i] w fun e w' => e = .returned (.slice A n cap) /\ w' = w := by
 go_enter Tryz.func78, Tryz.ntmps78
 go_wp2
 all_goals (go_ret; exact ⟨rfl, rfl⟩)
theorem f78 (els : List (List DV)) (i j : Nat) (hz : ∀ e ∈ els, e.length = 3) (hij : i <= j) (hj : j <= els.length) :
  ImplC Tryz.prog 78 (.ow 3 els) [.one (.int .i64 i), .one (.int .i64 j)] (.ow 3 (els.take i ++ els.drop j)) := by
 refine ⟨⟨_, Tryz.func78, by kernel_rfl, by decide⟩, ?_⟩
 intro w S v0 vs r0 B hS hr0 hnd hB hcz hargs
 have hlen := hargs.length
 obtain ⟨v1, hv1, hc1⟩ := hargs.get0 rfl 0 _ rfl
 obtain ⟨v2, hv2, hc2⟩ := hargs.get0 rfl 1 _ rfl
 have e1 := (CzS.one_inv hc1).int_inv
 have e2 := (CzS.one_inv hc2).int_inv
 have hvs : vs = [v1, v2] := by
  match vs, hlen, hv1, hv2 with
  | [a, b], _, h1, h2 => simp at h1 h2; rw [h1, h2]
 subst hvs
 subst e1
 subst e2
 by_cases heq : i = j
 ·subst heq
  obtain ⟨A, c, hv, hc, _⟩ := hcz.slice_len rfl
  subst hv
  refine (f78same A els.length c i w hc hj).mono ?_
  rintro e w' ⟨rfl, rfl⟩
  refine ⟨_, r0, rfl, Below.refl _ _, fun _ _ _ => rfl, fun b hb => ⟨.inl hb, (hr0 b hb).2.1⟩, hnd, ?_⟩
  rw [List.take_append_drop]
  exact hcz
 ·cases hcz with
  | owNil => simp at hj; omega
  | ow b off n c z els T cs rs hb hn hc hm hsz hzz hl =>
    have hlt : i < j := by omega
    have hz3 : 3 = 3 := rfl
    subst hn
    have hone : ∀ v ∈ (cs.toList.drop off).take (els.length * 3), v.oneCell' = true := hl.allOne
    refine (f78raw b off els.length c i j cs T w hb hc (by unfold maxLen at hm; omega) hsz hone hlt hj).mono ?_
    rintro e w' ⟨rfl, hw⟩
    have hcsl : cs.toList.length = cs.size := by simp
    have hnl : ((cs.toList.drop (off + j * 3)).take ((els.length - j) * 3)).length = (els.length - j) * 3 := by simp; omega
    have h1 := heap_setCells b T (0, 0) _ (off + i * 3) w.drew cs hb (by rw [hnl]; omega)
    have hsl : (splice cs.toList (off + i * 3) ((cs.toList.drop (off + j * 3)).take ((els.length - j) * 3))).length = cs.size := by rw [splice_length _ _ _ (by rw [hnl, hcsl]; omega), hcsl]
    have h2 := heap_setCells b T (0, 0) (zs3 (els.length - (i + (els.length - j)))) (off + (i + (els.length - j)) * 3) _ _ h1 (by rw [zs3_len, List.size_toArray, hsl]; omega)
    rw [<- hw] at h2
    obtain ⟨r1, r2, er1, g1, g2⟩ := CzL.split (i * 3) hl
    obtain ⟨r5, r6, er2, _, g6⟩ := CzL.split ((j - i) * 3) g2
    have hij3 : i * 3 + (j - i) * 3 = j * 3 := by omega
    rw [List.drop_drop, List.drop_drop, hij3, flatten_drop j hzz] at g6
    rw [flatten_take i hzz] at g1
    have g := g1.append g6
    rw [<- List.flatten_append] at g
    have hfin : ((splice (splice cs.toList (off + i * 3) ((cs.toList.drop (off + j * 3)).take ((els.length - j) * 3))) (off + (i + (els.length - j)) * 3) (zs3 (els.length - (i + (els.length - j))))).drop off).take ((i + (els.length - j)) * 3) =
      ((cs.toList.drop off).take (els.length * 3)).take (i * 3) ++ ((cs.toList.drop off).take (els.length * 3)).drop (j * 3) := by
     have e1 : ∀ (l zs : List Value) (k : Nat), off + k <= l.length -> ((splice l (off + k) zs).drop off).take k = (l.drop off).take k := by
      intro l zs k hk
      have hz1 : (splice l (off + k) zs).take (off + k) = l.take (off + k) := by
       unfold splice
       rw [List.append_assoc, List.take_append_of_le_length (by simp; omega), List.take_take, Nat.min_self]
      have := congrArg (List.drop off) hz1
      rw [List.drop_take, List.drop_take, Nat.add_sub_cancel_left] at this
      exact this
     rw [e1 _ _ _ (by rw [hsl]; omega)]
     have e2 : (i + (els.length - j)) * 3 = i * 3 + ((cs.toList.drop (off + j * 3)).take ((els.length - j) * 3)).length := by rw [hnl]; omega
     rw [e2, splice_seg _ _ _ _ (by rw [hnl, hcsl]; omega), List.take_take, List.drop_take, List.drop_drop]
     congr 2
     ·omega
     ·omega
    have hsub : ∀ k ∈ b :: (r1 ++ r6), k ∈ b :: rs := by
     intro k hk
     rw [er1, er2]
     simp only [List.mem_cons, List.mem_append] at hk ⊢
     rcases hk with hk | hk | hk
     ·exact .inl hk
     ·exact .inr (.inl hk)
     ·exact .inr (.inr (.inr hk))
    have hbr : b ∉ rs := (List.nodup_cons.1 hnd).1
    have hkeep : ∀ k, k ≠ b -> w'.heap[k]? = w.heap[k]? := by
     intro k hk
     rw [hw, heap_setCells_ne _ _ _ _ _ hk, heap_setCells_ne _ _ _ _ _ hk]
     rfl
    have hBb := (hr0 b (by simp)).1
    have hbel : Below B w w' := by
     rw [hw]
     exact below_setCells b B hBb _ _ _ _ (below_setCells b B hBb _ _ _ _ (Below.refl _ _).drew)
    refine ⟨_, b :: (r1 ++ r6), rfl, hbel, fun k _ hk => hkeep k (fun e => hk (by simp [e])), fun k hk => ⟨.inl (hsub k hk), ?_⟩, ?_, ?_⟩
    ·have := (hr0 k (hsub k hk)).2.1
     have := hbel.size
     omega
    ·rw [er1, er2] at hnd
     simp only [List.nodup_cons, List.nodup_append, List.mem_append] at hnd ⊢
     refine ⟨fun h => hnd.1 (h.imp id fun h => .inr h), hnd.2.1, hnd.2.2.1.2.1, fun a ha c hc => hnd.2.2.2 a ha c (.inr hc)⟩
    ·refine .ow b off _ c 3 _ T _ (r1 ++ r6) h2 (by simp; omega) (by omega) hm (by rw [List.size_toArray, splice_length _ _ _ (by rw [zs3_len, List.toList_toArray, hsl]; omega), List.toList_toArray, hsl]; exact hsz) ?_ ?_
     ·intro e he
      rcases List.mem_append.1 he with he | he
      ·exact hzz e (List.mem_of_mem_take he)
      ·exact hzz e (List.mem_of_mem_drop he)
     ·rw [List.toList_toArray, List.toList_toArray, hfin]
      refine g.keep (fun k hk => ⟨hk, hkeep k (fun e => ?_)⟩) (fun k hk => hkeep k (fun e => ?_))
      ·subst e; exact (hr0 k (by simp)).2.2 hk
      ·subst e
       refine hbr ?_
       rw [er1, er2]
       simp only [List.mem_append] at hk ⊢
       exact hk.imp id fun h => .inr h
set_option maxHeartbeats 64000000
theorem freeAt_some {l : List Inter} {i : Nat} (h : i < l.length) : freeAt l i = (l.take i).all (indep l[i]) := by
 unfold freeAt
 rw [List.getElem?_eq_getElem h]
theorem bestStep_eq {l : List Inter} {b i : Nat} (hi : i < l.length) (hb : b < l.length) : bestStep l b i = if (l.take i).all (indep l[i]) && lt l[i] l[b] then i else b := by
 unfold bestStep
 rw [List.getElem?_eq_getElem hi, List.getElem?_eq_getElem hb, freeAt_some hi]
theorem f44 (l : List Inter) (hl : l.length <= 1000000) : Impl Tryz.prog 44 [.one (.sl (l.map encI))] (.one (.one (.ow 3 ((normal l).map encI)))) := by
 refine impl_v ?_
 refine wC (f75 l hl) ?_
 refine z_k (fun n e => ∃ (rest out : List Inter), n = rest.length /\ out.length + rest.length = l.length /\ out ++ normal rest = normal l /\ e = [(4, .sv (.one (.ow 3 (out.map encI)))), (3, .sv (.one (.ow 3 (rest.map encI))))]) _ _ ⟨l, [], rfl, by simp, by simp, rfl⟩ (by simp [go_sem]) ?_
 rintro n e ⟨rest, out, rfl, hlen, hout, rfl⟩
 by_cases hlt : 0 < rest.length
 ·have hbl := bestTo_lt hlt
  refine wX hlt ?_
  refine z_k (fun m e => ∃ i, i + m = rest.length /\ e = [(17, .sv (.one (.int .i64 (i : Nat)))), (16, .sv (.one (.int .i64 rest.length))), (15, .al 3 []), (5, .sv (.one (.int .i64 (bestTo rest i : Nat)))), (4, .sv (.one (.ow 3 (out.map encI)))), (3, .sv (.one (.ow 3 (rest.map encI))))]) _ _ ⟨0, by simp; rfl, rfl⟩ (by simp [go_sem, bestTo]) ?_
  rintro m e ⟨i, hi, rfl⟩
  by_cases hli : i < rest.length
  ·have hbi := hbl i
   repeat' first | refine St.go ?_ | ((with_reducible refine cn ?_ ?_) <;> intro h <;> (try simp at h) <;> try omega) | (refine Ru.go ?_; intro K hK; simp [go_sem, hli, encI]; (try simp (disch := omega) only [wx, z_i]); (first | apply hK | refine ⟨by first | omega | (simp [z_f, z_g, hli, encI]; first | done | omega), ?_⟩ | refine ⟨hK _ ?_, fun h => ?_⟩ | refine ⟨?_, ?_⟩); all_goals ((try apply hK); clear hK K))
   refine z_k (fun q e => ∃ j, j + q = i /\ (rest.take j).all (indep rest[i]) = true /\ e = [(26, .sv (.one (.int .i64 (j : Nat)))), (25, .sv (.one (.int .i64 i))), (24, .sub 3 [] 0 i), (7, .sv (.one (.bx (encI rest[i])))), (6, .sv (.one (.int .i64 i))), (17, .sv (.one (.int .i64 (i : Nat)))), (16, .sv (.one (.int .i64 rest.length))), (15, .al 3 []), (5, .sv (.one (.int .i64 (bestTo rest i : Nat)))), (4, .sv (.one (.ow 3 (out.map encI)))), (3, .sv (.one (.ow 3 (rest.map encI))))]) i _ ⟨0, by simp, by simp, rfl⟩ (by simp [go_sem, encI]; omega) ?_
   rintro q e ⟨j, hj, hfree, rfl⟩
   by_cases hlj : j < i
   ·have hlj' : j < rest.length := by omega
    repeat' first | refine St.go ?_ | ((with_reducible refine cn ?_ ?_) <;> intro h <;> (try simp at h) <;> try omega) | (refine Ru.go ?_; intro K hK; simp [go_sem, hlj, hlj', hli, encI]; (try simp (disch := omega) only [wx, z_i]); (first | apply hK | ((first | ((try refine .inl ?_); refine ⟨_, by (try intro hc); (repeat' first | exact f76 _ _ | exact hc | refine And.intro ?_ ?_ | simp [go_sem, hlj, hlj', hli, encI]); first | done | omega, ?_⟩) | refine .inr (.inl ⟨_, by (try intro hc); (repeat' first | exact f76 _ _ | exact hc | refine And.intro ?_ ?_ | simp [go_sem, hlj, hlj', hli, encI]); first | done | omega, ?_⟩) | refine .inr (.inr ⟨_, by (try intro hc); (repeat' first | exact f76 _ _ | exact hc | refine And.intro ?_ ?_ | simp [go_sem, hlj, hlj', hli, encI]); first | done | omega, ?_⟩)); first | apply hK | (refine ⟨by simp [go_sem, hlj, hlj', hli, encI], ?_⟩; first | apply hK | refine ⟨by simp [go_sem, hlj, hlj', hli, encI], hK _ _ ?_⟩)) | refine ⟨.one (.one (.bool false)), by simp [go_sem, hlj, hlj', hli, encI], hK _ _ ?_⟩ | refine ⟨by first | omega | (simp [z_f, z_g, hlj, hlj', hli, encI]; first | done | omega), ?_⟩ | refine ⟨hK _ ?_, fun h => ?_⟩ | refine ⟨?_, ?_⟩); all_goals ((try apply hK); clear hK K))
    ·have hf : (rest.take i).all (indep rest[i]) = false := by
      rw [List.all_eq_false]
      refine ⟨rest[j], ?_, by simp [h]⟩
      rw [List.mem_iff_getElem]
      exact ⟨j, by simp; omega, by simp⟩
     have hst : bestStep rest (bestTo rest i) i = bestTo rest i := by rw [bestStep_eq hli hbi, hf]; rfl
     refine z_j (m - 1) _ (by omega) ⟨i + 1, by omega, rfl⟩ ?_
     simp [go_sem, bestTo_succ, hst]
    ·refine z_j (q - 1) _ (by omega) ⟨j + 1, by omega, ?_, rfl⟩ ?_
     ·rw [all_succ hlj', hfree, h]; rfl
     ·simp [go_sem, encI]
   ·have hij : j = i := by omega
    subst hij
    repeat' first | refine St.go ?_ | ((with_reducible refine cn ?_ ?_) <;> intro h <;> (try simp at h) <;> try omega) | (refine Ru.go ?_; intro K hK; simp [go_sem, hlj, hli, hbi, encI]; (try simp (disch := omega) only [wx, z_i]); (first | apply hK | ((first | ((try refine .inl ?_); refine ⟨_, by (try intro hc); (repeat' first | exact f77 _ _ | exact hc | refine And.intro ?_ ?_ | simp [go_sem, hlj, hli, hbi, encI]); first | done | omega, ?_⟩) | refine .inr (.inl ⟨_, by (try intro hc); (repeat' first | exact f77 _ _ | exact hc | refine And.intro ?_ ?_ | simp [go_sem, hlj, hli, hbi, encI]); first | done | omega, ?_⟩) | refine .inr (.inr ⟨_, by (try intro hc); (repeat' first | exact f77 _ _ | exact hc | refine And.intro ?_ ?_ | simp [go_sem, hlj, hli, hbi, encI]); first | done | omega, ?_⟩)); first | apply hK | (refine ⟨by simp [go_sem, hlj, hli, hbi, encI], ?_⟩; first | apply hK | refine ⟨by simp [go_sem, hlj, hli, hbi, encI], hK _ _ ?_⟩)) | refine ⟨.one (.one (.bool false)), by simp [go_sem, hlj, hli, hbi, encI], hK _ _ ?_⟩ | refine ⟨by first | omega | (simp [z_f, z_g, hlj, hli, hbi, encI]; first | done | omega), ?_⟩ | refine ⟨hK _ ?_, fun h => ?_⟩ | refine ⟨?_, ?_⟩); all_goals ((try apply hK); clear hK K))
    ·have hst : bestStep rest (bestTo rest j) j = j := by rw [bestStep_eq hli hbi, hfree]; simp [lt, h]
     refine z_j (m - 1) _ (by omega) ⟨j + 1, by omega, rfl⟩ ?_
     simp [go_sem, bestTo_succ, hst]
    ·have hst : bestStep rest (bestTo rest j) j = bestTo rest j := by rw [bestStep_eq hli hbi, hfree]; simp [lt]; omega
     refine z_j (m - 1) _ (by omega) ⟨j + 1, by omega, rfl⟩ ?_
     simp [go_sem, bestTo_succ, hst]
  ·have hie : i = rest.length := by omega
   subst hie
   have hb := hbl rest.length
   have hdel : ImplC Tryz.prog 78 (.ow 3 (rest.map encI)) [.one (.int .i64 (bestTo rest rest.length : Nat)), .one (.int .i64 ((bestTo rest rest.length : Nat) + 1))] (.ow 3 ((rest.eraseIdx (bestTo rest rest.length)).map encI)) := by
    have := f78 (rest.map encI) (bestTo rest rest.length) (bestTo rest rest.length + 1) (by simp [encI]) (by omega) (by simp; omega)
    rw [eraseIdx_eq, List.map_append, List.map_take, List.map_drop]
    exact this
   repeat' first | refine St.go ?_ | ((with_reducible refine cn ?_ ?_) <;> intro h <;> (try simp at h) <;> try omega) | (refine Ru.go ?_; intro K hK; simp [go_sem, hb, encI]; (try simp (disch := omega) only [wx, z_i]); (first | apply hK | ((first | ((try refine .inl ?_); refine ⟨_, by (try intro hc); (repeat' first | exact hdel | exact hc | refine And.intro ?_ ?_ | simp [go_sem, hb, encI]); first | done | omega, ?_⟩) | refine .inr (.inl ⟨_, by (try intro hc); (repeat' first | exact hdel | exact hc | refine And.intro ?_ ?_ | simp [go_sem, hb, encI]); first | done | omega, ?_⟩) | refine .inr (.inr ⟨_, by (try intro hc); (repeat' first | exact hdel | exact hc | refine And.intro ?_ ?_ | simp [go_sem, hb, encI]); first | done | omega, ?_⟩)); first | apply hK | (refine ⟨by simp [go_sem, hb, encI], ?_⟩; first | apply hK | refine ⟨by simp [go_sem, hb, encI], hK _ _ ?_⟩)) | refine ⟨.one (.one (.bool false)), by simp [go_sem, hb, encI], hK _ _ ?_⟩ | refine ⟨by first | omega | (simp [z_f, z_g, hb, encI, maxLen, DV.flat]; first | done | omega), ?_⟩ | refine ⟨hK _ ?_, fun h => ?_⟩ | refine ⟨?_, ?_⟩); all_goals ((try apply hK); clear hK K))
   have hE : (rest.eraseIdx (bestTo rest rest.length)).length = rest.length - 1 := by rw [List.length_eraseIdx, if_pos hb]
   refine z_j (rest.length - 1) _ (by omega) ⟨rest.eraseIdx (bestTo rest rest.length), out ++ [rest[bestTo rest rest.length]], hE.symm, by simp [hE]; omega, ?_, rfl⟩ ?_
   ·rw [<- hout, normal_cons (l := rest) hb]
    simp [best]
   ·simp [go_sem, encI]
 ·have : rest = [] := List.eq_nil_of_length_eq_zero (by omega)
  subst this
  refine wN ?_
  rw [<- hout]
  simp [go_sem, normal_nil]
set_option maxHeartbeats 64000000
set_option maxHeartbeats 64000000
theorem f43 (a b : List Inter) (ha : a.length <= 1000000) (hb : b.length <= 1000000) : Impl Tryz.prog 43 [.one (.sl (a.map encI)), .one (.sl (b.map encI))] (.one (.one (.bool (decide (a = b))))) := by
 refine impl_v ?_
 repeat' first | refine St.go ?_ | ((with_reducible refine cn ?_ ?_) <;> intro h <;> (try simp at h) <;> try omega) | (refine Ru.go ?_; intro K hK; simp [go_sem]; (try simp (disch := omega) only [wx, z_i]); (first | apply hK | refine ⟨by first | omega | (simp [z_f, z_g]; first | done | omega), ?_⟩ | refine ⟨hK _ ?_, fun h => ?_⟩ | refine ⟨?_, ?_⟩); all_goals ((try apply hK); clear hK K))
 ·have hne : a ≠ b := fun e => h (by rw [e])
  simp [go_sem, hne]
 ·have hab : a.length = b.length := by omega
  refine z_k (fun n e => ∃ k, k + n = a.length /\ a.take k = b.take k /\ e = [(13, .sv (.one (.int .i64 (k : Nat)))), (12, .sv (.one (.int .i64 a.length))), (4, .sv (.one (.bool false))), (0, .sv (.one (.sl (a.map encI)))), (1, .sv (.one (.sl (b.map encI))))]) a.length _ ⟨0, by simp, by simp, rfl⟩ (by simp [go_sem]) ?_
  rintro n e ⟨k, hk, htk, rfl⟩
  by_cases hlt : k < a.length
  ·have hlt' : k < b.length := by omega
   repeat' first | refine St.go ?_ | ((with_reducible refine cn ?_ ?_) <;> intro h <;> (try simp at h) <;> try omega) | (refine Ru.go ?_; intro K hK; simp [go_sem, hlt, hlt', encI]; (try simp (disch := omega) only [wx, z_i]); (first | apply hK | refine ⟨by first | omega | (simp [z_f, z_g, hlt, hlt', encI]; first | done | omega), ?_⟩ | refine ⟨hK _ ?_, fun h => ?_⟩ | refine ⟨?_, ?_⟩); all_goals ((try apply hK); clear hK K))
   ·have hne : a ≠ b := fun e => by subst e; simp at h
    simp [go_sem, hne]
   ·have hkk : a[k] = b[k] := by
     cases ha' : a[k]; cases hb' : b[k]
     simp_all
    refine z_j (n - 1) _ (by omega) ⟨k + 1, by omega, ?_, rfl⟩ ?_
    ·rw [List.take_succ_eq_append_getElem hlt, List.take_succ_eq_append_getElem hlt', htk, hkk]
    ·simp [go_sem]
  ·have hkl : a.take k = a := List.take_of_length_le (by omega)
   have hkl' : b.take k = b := List.take_of_length_le (by omega)
   have : a = b := by rw [<- hkl, <- hkl', htk]
   refine wX hlt ?_
   simp [go_sem, this]
set_option maxHeartbeats 64000000
theorem f24 (a b : List Inter) (ha : a.length <= 1000000) (hb : b.length <= 1000000) : Impl Tryz.prog 24 [.one (.sl (a.map encI)), .one (.sl (b.map encI))] (.one (.one (.bool (decide (normal a = normal b))))) := by
 refine impl_v ?_
 have hna := normal_len _ a rfl
 have hnb := normal_len _ b rfl
 refine wC (aN (f44 a ha) <| aN (f44 b hb) (f43 (normal a) (normal b) (by omega) (by omega))) ?_
 all_goals simp [go_sem]
set_option maxHeartbeats 64000000
theorem frz_O (H : List (List Ev)) : frzLL (H.map encO) = H.map encH := by
 rw [frzLL_map]
 refine List.map_congr_left fun x _ => ?_
 show [DV.sl (frzLL (x.map encE))] = encH x
 rw [frzLL_map]
 have : x.map (fun x => frzL (encE x)) = x.map encE := List.map_congr_left fun x _ => frz_encE x
 rw [this]
 rfl
theorem f8 (h109 : H109) (g : Glob) (w : List Inter) (B : List Int) (hg : GlobA g) (hB : B.length = 6) (hb : ∀ b ∈ B, 0 <= b /\ b < 256) : Impl Tryz.prog 8 [.ag (encG g), .one (.sl (w.map encI)), .ag (B.map encU)] (.one (.one (.bool true))) := by
 have k9 := f9 h109
 have k10 := f10 g [] 0 hg.1 (fun d hd => (hg.2 d hd).2) (by simp) (by simp)
 simp only [encG, List.map_nil] at k10
 obtain ⟨b1, b2, b3, b4, b5, b6, hB6⟩ : ∃ a b c d e f, B = [a, b, c, d, e, f] := by
  match B, hB with
  | [a, b, c, d, e, f], _ => exact ⟨a, b, c, d, e, f, rfl⟩
 refine impl_v ?_
 rw [hB6]
 simp only [List.map_cons, List.map_nil, encU]
 cases hf : fewF g [] 0 with
 | false =>
   rw [hf] at k10
   refine wV encG.eq_1 (aN k9 k10) ?_
   simp [go_sem]
 | true =>
   rw [hf] at k10
   by_cases h5 : w.length <= 5
   rotate_left
   ·have h5' : (5 : Int) < w.length := by omega
    refine wV (aN encG.eq_1 h5') (aN k9 k10) ?_
    simp [go_sem]
   have h5' : ¬ (5 : Int) < w.length := by omega
   obtain ⟨f1, f2, f3⟩ := few_facts hf
   have hst : g.states <= 20 := by
    unfold fewF fewG at hf
    simp only [Bool.and_eq_true, decide_eq_true_eq] at hf
    omega
   have sg := few_small f1 fun d hd => (hg.2 d hd).1
   have k19 := f19 h109 g sg w (by omega)
   unfold pathG at k19
   cases hv : valid26 g with
   | false =>
     rw [hv] at k19
     simp only [nextR, Option.getD, Option.isSome, encG, Bool.false_eq_true, if_false] at k19
     refine wV (aN encG.eq_1 h5') (aN k9 <| aN k10 k19) ?_
     simp [go_sem]
   | true =>
     rw [hv, if_pos rfl] at k19
     cases hp : pathE g.edges w g.start with
     | none =>
       rw [hp] at k19
       simp only [nextR, Option.getD, Option.isSome, encG] at k19
       refine wV (aN encG.eq_1 h5') (aN k9 <| aN k10 k19) ?_
       simp [go_sem]
     | some t =>
       rw [hp] at k19
       simp only [nextR, Option.getD, Option.isSome, encG] at k19
       have hv29 : valid29 g = true := by rw [valid_eq]; exact hv
       obtain ⟨⟨l, hl, hsame⟩, hcut⟩ := words_found hv29 hp hst h5
       obtain ⟨H, hH⟩ : ∃ H, hists w g.roles.length = H := ⟨_, rfl⟩
       have h6 : g.roles.length <= 6 := by
        have := hv29
        unfold valid29 named at this
        simp only [Bool.and_eq_true, decide_eq_true_eq] at this
        omega
       have k23 := f23 w g.roles.length (by omega)
       have hhs : histories w g.roles.length = H := by
        unfold histories
        rw [if_neg (by omega), Int.toNat_natCast, hH]
       rw [hhs] at k23
       rw [hH] at hl hcut
       have hHl : H.length <= 1000000 := by rw [<- hH, hists_len]; omega
       have hHh : ∀ h ∈ H, h.length <= 1000000 := fun h hm => by
        rw [<- hH] at hm
        unfold hists at hm
        obtain ⟨i, _, rfl⟩ := List.mem_map.1 hm
        have := project_len (i : Int) w
        omega
       have k21 := f21 H B hB hb hHl hHh
       obtain ⟨C, hC⟩ : ∃ C, cutK H B H.length = C := ⟨_, rfl⟩
       have hco := cut_of H B
       rw [hC] at k21 hco
       rw [hB6] at k21
       simp only [List.map_cons, List.map_nil, encU] at k21
       obtain ⟨l', hl', hll⟩ := hcut C hco
       have hCl : C.length <= 1000000 := by rw [hco.len]; exact hHl
       have hCh : ∀ h ∈ C, h.length <= 1000000 := fun h hm => by
        obtain ⟨r, hr, rfl⟩ := List.mem_iff_getElem.1 hm
        have hr2 : r < H.length := by rw [<- hco.len]; exact hr
        obtain ⟨m, hm⟩ := hco.at_ r hr2
        unfold histAt at hm
        rw [Int.toNat_natCast, List.getElem?_eq_getElem hr, List.getElem?_eq_getElem hr2] at hm
        simp only [Option.getD_some] at hm
        rw [hm, List.length_take]
        have := hHh _ (List.getElem_mem hr2)
        omega
       have k11 := f11 h109 g H sg hHl hHh
       have j11 := f11 h109 g C sg hCl hCh
       rw [hl] at k11
       rw [hl'] at j11
       obtain ⟨A, hA⟩ : ∃ A, l.map (actAt g) = A := ⟨_, rfl⟩
       obtain ⟨A', hA'⟩ : ∃ A, l'.map (actAt g) = A := ⟨_, rfl⟩
       have hAl : A'.length <= w.length := by rw [<- hA', List.length_map]; exact hll
       have hA2 : A.length <= 1000000 := by
        have := (search_ok hl).2.1
        rw [<- hA, List.length_map]
        omega
       simp only [actsF, encG] at k11 j11
       rw [hA] at k11 hsame
       rw [hA'] at j11
       have k24 := f24 A w hA2 (by omega)
       rw [hsame] at k24
       have hfr := frz_O H
       refine z_l [(6, .sv (.one (.bool false))), (5, .sv (.one (.bx [.int .u8 b1, .int .u8 b2, .int .u8 b3, .int .u8 b4, .int .u8 b5, .int .u8 b6]))), (3, .sv (.one (.bx (encG g)))), (1, .sv (.one (.sl (w.map encI))))] ?_ ?_
       ·refine wX encG.eq_1 ?_
        refine z_m ?_
        simp [go_sem, encG]
       refine z_l [(6, .sv (.one (.bool false))), (5, .sv (.one (.bx [.int .u8 b1, .int .u8 b2, .int .u8 b3, .int .u8 b4, .int .u8 b5, .int .u8 b6]))), (3, .sv (.one (.bx (encG g)))), (1, .sv (.one (.sl (w.map encI))))] ?_ ?_
       ·refine wV (aN encG.eq_1 h5') (aN k9 k10) ?_
        refine z_m ?_
        simp [go_sem, encG]
       refine z_l [(6, .sv (.one (.bool false))), (5, .sv (.one (.bx [.int .u8 b1, .int .u8 b2, .int .u8 b3, .int .u8 b4, .int .u8 b5, .int .u8 b6]))), (3, .sv (.one (.bx (encG g)))), (1, .sv (.one (.sl (w.map encI))))] ?_ ?_
       ·refine wV (aN encG.eq_1 h5') k19 ?_
        refine z_m ?_
        simp [go_sem, encG]
       refine z_l [(9, .sv (.one (.sl (H.map encH)))), (6, .sv (.one (.bool false))), (5, .sv (.one (.bx [.int .u8 b1, .int .u8 b2, .int .u8 b3, .int .u8 b4, .int .u8 b5, .int .u8 b6]))), (3, .sv (.one (.bx (encG g)))), (1, .sv (.one (.sl (w.map encI))))] ?_ ?_
       ·refine wV encG.eq_1 k23 ?_
        refine cutQ_all 9 ?_
        simp [go_sem, encG, hfr]
       refine wV (aN encG.eq_1 <| aN h5' hAl) (aN k11 <| aN k21 <| aN j11 k24) ?_
       all_goals simp [go_sem, hAl]
end Go.Av

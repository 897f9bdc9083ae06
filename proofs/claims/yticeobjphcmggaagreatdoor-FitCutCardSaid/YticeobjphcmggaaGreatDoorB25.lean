/- Part of a proof. -/
import Derived.Test.YticeobjphcmggaaGreatDoorAvR
import Derived.Test.YticeobjphcmggaaGreatDoorB22
import Derived.Test.YticeobjphcmggaaGreatDoorB01
import Derived.Test.YticeobjphcmggaaGreatDoorB00
import Derived.Test.YticeobjphcmggaaGreatDoorB10
import Derived.Test.YticeobjphcmggaaGreatDoorB13
import Derived.Test.YticeobjphcmggaaGreatDoorB23
set_option linter.unusedVariables false
set_option linter.unusedSimpArgs false
set_option maxHeartbeats 64000000
set_option maxRecDepth 8000
namespace Go.Av
open Go Go.RowKit Go.Proofs
set_option maxHeartbeats 64000000
set_option maxHeartbeats 64000000
theorem search_good {g : Glob} {H : List (List Ev)} (h : (searchF g H).2 = 0) : goodF g H = true := by
 cases hg : goodF g H with
 | true => rfl
 | false =>
   unfold searchF at h
   rw [hg] at h
   simp at h
theorem step_like {g : Glob} {H : List (List Ev)} {i i' : Nat} {p p' q : Nd} {k : Int} (hp : p.ps = p'.ps) (h : stepN g H i p k = some q) : ∃ q', stepN g H i' p' k = some q' /\ q.st = q'.st /\ q.ps = q'.ps := by
 unfold stepN at h ⊢
 rw [<- hp]
 split at h
 ·cases h
 ·split at h
  ·rename_i hok
   injection h with h
   subst h
   exact ⟨_, if_pos hok, rfl, rfl⟩
  ·cases h
structure Seen (g : Glob) (H : List (List Ev)) (i : Nat) (all : List Nd) : Prop where
 first : ∃ m ∈ all, (firstN g H).st = m.st /\ (firstN g H).ps = m.ps
 done : ∀ (j : Nat) p, j < i -> all[j]? = some p -> p.ps ≠ lensH H
 next : ∀ (j : Nat) p, j < i -> all[j]? = some p -> ∀ k ∈ sortedE g.edges p.st, ∀ q, stepN g H 0 p k = some q -> ∃ m ∈ all, q.st = m.st /\ q.ps = m.ps
 le : i <= all.length
theorem addN_more {g : Glob} {H : List (List Ev)} {i : Nat} {p : Nd} {all : List Nd} {k : Int} : (∃ t, addN g H i p all k = all ++ t) /\ ∀ q, stepN g H i p k = some q -> ∃ m ∈ addN g H i p all k, q.st = m.st /\ q.ps = m.ps := by
 unfold addN
 split
 ·rename_i hq
  refine ⟨⟨[], by simp⟩, fun q h => ?_⟩
  rw [hq] at h
  cases h
 ·rename_i q hq
  split
  ·rename_i hs
   refine ⟨⟨[], by simp⟩, fun q' h => ?_⟩
   rw [hq] at h
   cases h
   obtain ⟨m, hm, hs⟩ := List.any_eq_true.1 hs
   simp only [sameN, Bool.and_eq_true, beq_iff_eq] at hs
   exact ⟨m, hm, hs⟩
  ·refine ⟨⟨[q], rfl⟩, fun q' h => ?_⟩
   rw [hq] at h
   cases h
   exact ⟨q, by simp, rfl, rfl⟩
theorem fold_more {g : Glob} {H : List (List Ev)} {i : Nat} {p : Nd} : ∀ (ks : List Int) (all : List Nd), (∃ t, ks.foldl (addN g H i p) all = all ++ t) /\ ∀ k ∈ ks, ∀ q, stepN g H i p k = some q -> ∃ m ∈ ks.foldl (addN g H i p) all, q.st = m.st /\ q.ps = m.ps
 | [], all => ⟨⟨[], by simp⟩, fun k hk => by cases hk⟩
 | k :: ks, all => by
   obtain ⟨⟨t, ht⟩, h1⟩ := addN_more (g := g) (H := H) (i := i) (p := p) (all := all) (k := k)
   obtain ⟨⟨u, hu⟩, h2⟩ := fold_more ks (addN g H i p all k)
   rw [List.foldl_cons]
   refine ⟨⟨t ++ u, by rw [hu, ht, List.append_assoc]⟩, fun k' hk' q hq => ?_⟩
   rcases List.mem_cons.1 hk' with rfl | hk'
   ·obtain ⟨m, hm, he⟩ := h1 q hq
    exact ⟨m, by rw [hu]; exact List.mem_append_left _ hm, he⟩
   ·exact h2 k' hk' q hq
theorem seen_step {g : Glob} {H : List (List Ev)} {i : Nat} {all : List Nd} {p : Nd} (hs : Seen g H i all) (hp : all[i]? = some p) (hd : p.ps ≠ lensH H) : Seen g H (i + 1) ((sortedE g.edges p.st).foldl (addN g H i p) all) := by
 obtain ⟨⟨t, ht⟩, h2⟩ := fold_more (g := g) (H := H) (i := i) (p := p) (sortedE g.edges p.st) all
 have hi : i < all.length := (List.getElem?_eq_some_iff.1 hp).1
 have hat : ∀ j, j < i + 1 -> ((sortedE g.edges p.st).foldl (addN g H i p) all)[j]? = all[j]? := fun j hj => by
  rw [ht, List.getElem?_append_left (by omega)]
 refine ⟨?_, fun j q hj hq => ?_, fun j q hj hq k hk z hz => ?_, ?_⟩
 ·obtain ⟨m, hm, he⟩ := hs.first
  exact ⟨m, by rw [ht]; exact List.mem_append_left _ hm, he⟩
 ·rw [hat j hj] at hq
  by_cases e : j = i
  ·subst e
   rw [hp] at hq
   cases hq
   exact hd
  ·exact hs.done j q (by omega) hq
 ·rw [hat j hj] at hq
  by_cases e : j = i
  ·subst e
   rw [hp] at hq
   cases hq
   obtain ⟨z', hz', e1, e2⟩ := step_like (i' := j) rfl hz
   obtain ⟨m, hm, e3, e4⟩ := h2 k hk z' hz'
   exact ⟨m, hm, e1.trans e3, e2.trans e4⟩
  ·obtain ⟨m, hm, he⟩ := hs.next j q (by omega) hq k hk z hz
   exact ⟨m, by rw [ht]; exact List.mem_append_left _ hm, he⟩
 ·rw [ht, List.length_append]
  omega
theorem seen_run {g : Glob} {H : List (List Ev)} {all : List Nd} (hs : Seen g H all.length all) {L : List Int} {n : Nd} (h : RunN g H L n) : ∃ m ∈ all, n.st = m.st /\ n.ps = m.ps := by
 induction h with
 | nil => exact hs.first
 | @snoc L p q k i hr hk hst ih =>
   obtain ⟨m, hm, e1, e2⟩ := ih
   obtain ⟨j, hj, rfl⟩ := List.mem_iff_getElem.1 hm
   obtain ⟨q', hq', e3, e4⟩ := step_like (i' := 0) e2 hst
   obtain ⟨z, hz, e5, e6⟩ := hs.next j _ hj (List.getElem?_eq_getElem hj) k (by rw [<- e1]; exact hk) q' hq'
   exact ⟨z, hz, e3.trans e5, e4.trans e6⟩
theorem findL_all {g : Glob} {H : List (List Ev)} {L : List Int} {n : Nd} (hr : RunN g H L n) (hd : n.ps = lensH H) : ∀ (f i : Nat) {all : List Nd}, f + i = 20001 -> i <= 20000 -> Seen g H i all -> (findL g H f i all).2 = 0 \/ (findL g H f i all).2 = 6
 | 0, i, all, hf, hi, _ => by omega
 | f + 1, i, all, hf, hi, hs => by
   simp only [findL]
   split
   ·rename_i hp
    exfalso
    have hl : i = all.length := by
     have := List.getElem?_eq_none_iff.1 hp
     have := hs.le
     omega
    subst hl
    obtain ⟨m, hm, e1, e2⟩ := seen_run hs hr
    obtain ⟨j, hj, rfl⟩ := List.mem_iff_getElem.1 hm
    exact hs.done j _ hj (List.getElem?_eq_getElem hj) (e2.symm.trans hd)
   ·rename_i p hp
    split
    ·exact .inr rfl
    ·rename_i h2
     split
     ·exact .inl rfl
     ·rename_i hnd
      exact findL_all hr hd f (i + 1) (by omega) (by omega) (seen_step hs hp hnd)
theorem search_all {g : Glob} {H : List (List Ev)} (hg : goodF g H = true) {L : List Int} {n : Nd} (hr : RunN g H L n) (hd : n.ps = lensH H) : (searchF g H).2 = 0 \/ (searchF g H).2 = 6 := by
 unfold searchF
 rw [if_pos hg]
 exact findL_all hr hd _ _ rfl (by omega) ⟨⟨_, by simp, rfl, rfl⟩, fun j p hj => by omega, fun j p hj => by omega, by simp⟩
structure CutOf (H C : List (List Ev)) : Prop where
 len : C.length = H.length
 at_ : ∀ r : Nat, r < H.length -> ∃ m, histAt C r = (histAt H r).take m
theorem cut_good {g : Glob} {H C : List (List Ev)} (hc : CutOf H C) (hg : goodF g H = true) : goodF g C = true := by
 unfold goodF at hg ⊢
 simp only [Bool.and_eq_true, decide_eq_true_eq] at hg ⊢
 refine ⟨⟨hg.1.1, by rw [hc.len]; exact hg.1.2⟩, ?_⟩
 have hp := hg.2
 unfold properH at hp ⊢
 simp only [Bool.and_eq_true, List.all_eq_true, List.mem_range, decide_eq_true_eq] at hp ⊢
 rw [hc.len]
 refine ⟨fun r hr => ?_, hp.2⟩
 have h1 := hp.1 r hr
 obtain ⟨m, hm⟩ := hc.at_ r hr
 unfold histAt at hm
 rw [Int.toNat_natCast] at hm
 rw [hm]
 unfold okH at h1 ⊢
 rw [List.all_eq_true] at h1 ⊢
 exact fun e he => h1 e (List.mem_of_mem_take he)
theorem pass_cut {h : List Ev} {m a : Nat} {s : Bool} {p l : Int} (hok : (passV h (min a h.length) s p l).2 = true) : (passV (h.take m) (min a (h.take m).length) s p l).2 = true := by
 by_cases hl : a < (h.take m).length
 ·have h1 : a < h.length := by
   rw [List.length_take] at hl
   omega
  have e1 : min a (h.take m).length = a := by omega
  have e2 : min a h.length = a := by omega
  rw [e2, passV_at h1 rfl] at hok
  rw [e1, passV_at hl rfl, List.getElem_take]
  exact hok
 ·have e1 : min a (h.take m).length = (h.take m).length := by omega
  rw [e1, passV_end rfl]
theorem run_cut {g : Glob} {H C : List (List Ev)} (hc : CutOf H C) (hg : goodF g H = true) {L : List Int} {n : Nd} (h : RunN g H L n) : ∃ n', RunN g C L n' /\ n'.st = n.st := by
 have hed := edges_ok hg
 have hgc := cut_good hc hg
 induction h with
 | nil => exact ⟨_, .nil, rfl⟩
 | @snoc L p q k i hrun hk hst ih =>
   obtain ⟨p', hr', e1⟩ := ih
   have f1 := (run_fits hg hrun).2
   have f2 := (run_fits hgc hr').2
   have hk' : k ∈ sortedE g.edges p'.st := by rw [e1]; exact hk
   have hst' := hst
   unfold stepN at hst
   split at hst
   ·cases hst
   rename_i x hx
   have hxm := List.mem_of_getElem? hx
   obtain ⟨_, _, e3, e4, e5, e6⟩ := hed x hxm
   split at hst
   rotate_left
   ·cases hst
   rename_i hok
   simp only [Bool.and_eq_true] at hok
   injection hst with hst
   obtain ⟨a, ha⟩ : ∃ a : Nat, x.act.from_ = a := ⟨x.act.from_.toNat, by omega⟩
   obtain ⟨b, hb⟩ : ∃ b : Nat, x.act.to = b := ⟨x.act.to.toNat, by omega⟩
   have hal : a < H.length := by omega
   have hbl : b < H.length := by omega
   rw [ha, hb] at hok
   obtain ⟨m1, hm1⟩ := hc.at_ a hal
   obtain ⟨m2, hm2⟩ := hc.at_ b hbl
   rw [(f1 a hal).1, (f1 b hbl).1] at hok
   have o1 := pass_cut (m := m1) hok.1
   have o2 := pass_cut (m := m2) hok.2
   rw [<- hm1, <- (f2 a (by rw [hc.len]; exact hal)).1] at o1
   rw [<- hm2, <- (f2 b (by rw [hc.len]; exact hbl)).1] at o2
   obtain ⟨q', hq'⟩ : ∃ q', stepN g C 0 p' k = some q' := by
    unfold stepN
    rw [hx]
    simp only
    rw [ha, hb, o1, o2]
    exact ⟨_, rfl⟩
   refine ⟨q', .snoc hr' hk' hq', ?_⟩
   unfold stepN at hq'
   rw [hx] at hq'
   simp only at hq'
   split at hq'
   ·injection hq' with hq'
    rw [<- hq', <- hst]
   ·cases hq'
theorem search_cut {g : Glob} {H C : List (List Ev)} (hc : CutOf H C) (hs : g.states <= 20) (h13 : (lensH C).sum <= 13) (h : (searchF g H).2 = 0) : (searchF g C).2 = 0 := by
 have hg := search_good h
 have hgc := cut_good hc hg
 obtain ⟨⟨o, c⟩, hv⟩ : ∃ v, searchF g H = v := ⟨_, rfl⟩
 rw [hv] at h
 simp only at h
 subst h
 cases o with
 | none => exact (search_zero hv).elim
 | some l =>
   obtain ⟨n, hn, hd⟩ := search_run hv
   obtain ⟨n', hn', _⟩ := run_cut hc hg hn
   have f1 := (run_fits hg hn).2
   obtain ⟨len2, f2⟩ := run_fits hgc hn'
   have hd' : n'.ps = lensH C := by
    refine List.ext_getElem (by rw [len2]; simp [lensH]) fun r h1 h2 => ?_
    have hrC : r < C.length := by rw [len2] at h1; exact h1
    have hrH : r < H.length := by rw [<- hc.len]; exact hrC
    have g2 := (f2 r hrC).1
    have g1 := (f1 r hrH).1
    obtain ⟨m, hm⟩ := hc.at_ r hrH
    have e1 : psAt n'.ps r = n'.ps[r] := by
     unfold psAt
     rw [Int.toNat_natCast, List.getElem?_eq_getElem h1]
     rfl
    have e2 : psAt n.ps r = (histAt H r).length := by
     rw [hd]
     unfold psAt histAt lensH
     rw [Int.toNat_natCast, List.getElem?_map, List.getElem?_eq_getElem hrH]
     rfl
    have e3 : (lensH C)[r] = (histAt C r).length := by
     unfold histAt lensH
     rw [Int.toNat_natCast, List.getElem?_eq_getElem hrC]
     exact List.getElem_map _
    have e4 : (histAt C r).length <= (histAt H r).length := by
     rw [hm, List.length_take]
     omega
    rw [e3, <- e1, g2]
    omega
   rcases search_all hgc hn' hd' with h | h
   ·exact h
   ·exact absurd h (search_small hs h13)
set_option maxHeartbeats 64000000
def encU (b : Int) : DV := .int .u8 b
def byAt (B : List Int) (r : Nat) : Int := B[r % 6]?.getD 0
def cutL (h : List Ev) (b : Int) : List Ev := h.take ((h.length : Int) - b.tmod (h.length + 1)).toNat
def cutK (H : List (List Ev)) (B : List Int) (k : Nat) : List (List Ev) := (List.range k).map fun r => cutL (H[r]?.getD []) (byAt B r)
theorem cutK_succ (H : List (List Ev)) (B : List Int) {k : Nat} (hk : k < H.length) : cutK H B (k + 1) = cutK H B k ++ [cutL H[k] (byAt B k)] := by
 unfold cutK
 rw [List.range_succ, List.map_append, List.map_singleton, List.getElem?_eq_getElem hk]
 rfl
theorem cutK_len (H : List (List Ev)) (B : List Int) (k : Nat) : (cutK H B k).length = k := by simp [cutK]
theorem appendOk_h1 {C : List (List Ev)} {x : List Ev} (h : C.length <= 1000000) : z_f 1 24 (C.map encH) [encH x] := by
 refine ⟨?_, ?_, by omega, ?_, ?_⟩
 ·intro e he
  rw [List.mem_singleton.1 he]
  rfl
 ·intro e he
  rw [List.mem_singleton.1 he]
  rfl
 ·simp only [List.length_map, maxLen, List.length_singleton]; omega
 ·simp only [List.length_map, List.length_singleton]; omega
theorem f21 (H : List (List Ev)) (B : List Int) (hB : B.length = 6) (hb : ∀ b ∈ B, 0 <= b /\ b < 256) (hl : H.length <= 1000000) (hh : ∀ l ∈ H, l.length <= 1000000) :
  Impl Tryz.prog 21 [.one (.sl (H.map encH)), .ag (B.map encU)] (.one (.one (.ow 1 ((cutK H B H.length).map encH)))) := by
 refine impl_v ?_
 have hf1 : (B.map encU).all DV.flat = true := by
  rw [List.all_eq_true]
  intro d hd
  obtain ⟨z, _, rfl⟩ := List.mem_map.1 hd
  rfl
 have hf2 : ∀ (b : Int), b ∈ B -> (encU b).flat = true := fun _ _ => rfl
 refine wX (aN hf1 hf2) ?_
 refine z_k (fun n e => ∃ k : Nat, k + n = H.length /\ e = [(9, .sv (.one (.int .i64 k))), (8, .sv (.one (.int .i64 H.length))), (5, .sv (.one (.ow 1 ((cutK H B k).map encH)))), (4, .sv (.one .nil)), (3, .sv (.one (.bx (B.map encU)))), (0, .sv (.one (.sl (H.map encH))))]) H.length _ ⟨0, by simp, rfl⟩ (by simp [go_sem, cutK]) ?_
 rintro n e ⟨k, hk, rfl⟩
 by_cases hlt : k < H.length
 ·obtain ⟨l, hl1⟩ : ∃ l, H[k] = l := ⟨_, rfl⟩
  have hll : l.length <= 1000000 := hh l (hl1 ▸ List.getElem_mem hlt)
  have hk6 : k % 6 < B.length := by omega
  have hr6 : 0 <= (k : Int).tmod 6 /\ ((k : Int).tmod 6).toNat = k % 6 := by
   rw [Int.tmod_eq_emod_of_nonneg (by omega)]
   omega
  have hbe : B[((k : Int).tmod 6).toNat]? = some B[k % 6] := by rw [hr6.2, List.getElem?_eq_getElem hk6]
  have hby : byAt B k = B[k % 6] := by
   unfold byAt
   rw [List.getElem?_eq_getElem hk6]
   rfl
  have hbb := hb _ (List.getElem_mem hk6)
  generalize B[k % 6] = b at hbe hby hbb
  have hcs := cutK_succ H B hlt
  rw [hl1, hby] at hcs
  unfold cutL at hcs
  have hm0 : 0 <= b.tmod (l.length + 1) /\ b.tmod (l.length + 1) <= l.length := by
   rw [Int.tmod_eq_emod_of_nonneg (by omega)]
   have := Int.emod_lt_of_pos b (show (0 : Int) < l.length + 1 by omega)
   have := Int.emod_nonneg b (show (l.length + 1 : Int) ≠ 0 by omega)
   omega
  have hbw : IntKind.i64.wrap b = b := z_h (by omega) (by omega)
  have hlw : IntKind.i64.wrap (l.length + 1) = l.length + 1 := z_h (by omega) (by omega)
  have hln : ¬ (l.length + 1 : Int) = 0 := by omega
  generalize hm : b.tmod (l.length + 1) = m at hm0 hcs
  have hr0 := hr6.1
  obtain ⟨hm0, hm1⟩ := hm0
  have hel : ∀ a : Ev, (encE a).length = 5 := fun _ => rfl
  have hap := appendOk_h1 (C := cutK H B k) (x := l.take ((l.length : Int) - m).toNat) (by rw [cutK_len]; omega)
  simp only [encH, List.map_take] at hap
  refine wX (aN hlt <| aN hl1 <| aN encH.eq_1 <| aN hbe <| aN hbw <| aN hlw <| aN hln <| aN hm <| aN hr0 <| aN encU.eq_1 <| aN hm0 <| aN hm1 <| aN hel hap) ?_
  refine z_j (n - 1) _ (by omega) ⟨k + 1, by omega, rfl⟩ ?_
  simp [go_sem, hcs, encH]
 ·have hke : k = H.length := by omega
  refine wX hlt ?_
  simp [go_sem, hke]
theorem cut_of (H : List (List Ev)) (B : List Int) : CutOf H (cutK H B H.length) where
 len := cutK_len ..
 at_ r hr := by
  refine ⟨((H[r].length : Int) - (byAt B r).tmod (H[r].length + 1)).toNat, ?_⟩
  unfold histAt cutK
  simp only [Int.toNat_natCast, List.getElem?_map, List.getElem?_range hr, Option.map_some, Option.getD_some, List.getElem?_eq_getElem hr]
  rfl
theorem cut_sum (H : List (List Ev)) (B : List Int) : ∀ k, k <= H.length -> sumH (cutK H B k) <= sumH (H.take k)
 | 0, _ => by simp [cutK, sumH]
 | k + 1, hk => by
   have ih := cut_sum H B k (by omega)
   have h1 := sumH_succ (H := H) (k := k) (by omega)
   rw [cutK_succ H B (by omega), h1]
   have h2 : sumH (cutK H B k ++ [cutL H[k] (byAt B k)]) = sumH (cutK H B k) + (cutL H[k] (byAt B k)).length := by simp [sumH]
   have h3 : (cutL H[k] (byAt B k)).length <= H[k].length := List.length_take_le' ..
   omega
end Go.Av
namespace Go.Proofs.YticeobjphcmggaaGreatDoor
open Go.ChangeShapes Go.WideShapes Go.ChangeAt Go.RowKit Go.Av
set_option maxRecDepth 100000
theorem six_ofB {n : Nat} {l : List DV} (h : TyLB Tryz.prog (n + 2) 45 l) : ∃ B : List Int, l = B.map encU /\ B.length = 6 /\ ∀ b ∈ B, 0 <= b /\ b < 256 := by
 have hu : Tryz.prog.underlying 45 = some (.array 6 5) := by kernel_rfl
 have h5 : Tryz.prog.underlying 5 = some (.int .u8) := by kernel_rfl
 unfold TyLB at h
 rw [hu] at h
 obtain ⟨els, rfl, hl, hel⟩ := h
 obtain ⟨B, hB, hb⟩ : ∃ B : List Int, els = B.map (fun b => [encU b]) /\ ∀ b ∈ B, 0 <= b /\ b < 256 := by
  clear hl
  induction els with
  | nil => exact ⟨[], rfl, by simp⟩
  | cons e els ih =>
    obtain ⟨B, rfl, hb⟩ := ih fun x hx => hel x (List.mem_cons_of_mem _ hx)
    have he := hel e List.mem_cons_self
    unfold TyLB at he
    rw [h5] at he
    obtain ⟨m, rfl, hw⟩ := he
    refine ⟨m :: B, rfl, fun b hb' => ?_⟩
    rcases List.mem_cons.1 hb' with rfl | hb'
    ·simp only [Lit.wf, decide_eq_true_eq, Bool.and_eq_true] at hw
     have h1 : IntKind.u8.min = 0 := rfl
     have h2 : IntKind.u8.max = 255 := rfl
     omega
    ·exact hb b hb'
 subst hB
 refine ⟨B, ?_, by simpa using hl, hb⟩
 clear hl hb hel
 induction B with
 | nil => rfl
 | cons b B ih => simp only [List.map_cons, List.flatten_cons, ih]; rfl
end Go.Proofs.YticeobjphcmggaaGreatDoor
namespace Go.Av
open Go Go.RowKit Go.Proofs
set_option maxHeartbeats 64000000
def lab (s : Bool) (p : Int) (e : Ev) : List Int := if e.send = s /\ e.peer = p then [e.label] else []
def labelsOf (h : List Ev) (s : Bool) (p : Int) : List Int := h.flatMap (lab s p)
theorem labels_succ {l : List Ev} {k : Nat} (h : k < l.length) (s : Bool) (p : Int) : labelsOf (l.take (k + 1)) s p = labelsOf (l.take k) s p ++ lab s p l[k] := by
 unfold labelsOf
 rw [List.take_succ_eq_append_getElem h, List.flatMap_append]
 simp only [List.flatMap_cons, List.flatMap_nil, List.append_nil]
theorem labels_len (s : Bool) (p : Int) : ∀ (l : List Ev), (labelsOf l s p).length <= l.length
 | [] => by simp [labelsOf]
 | x :: l => by
   have h2 := labels_len s p l
   have h1 : (lab s p x).length <= 1 := by unfold lab; split <;> simp
   simp only [labelsOf, List.flatMap_cons, List.length_append, List.length_cons] at *
   omega
set_option maxHeartbeats 64000000
theorem f42 (a b : List Int) (ha : a.length <= 1000000) (hb : b.length <= 1000000) : Impl Tryz.prog 42 [.one (.sl (a.map encN)), .one (.sl (b.map encN))] (.one (.one (.bool (decide (a = b))))) := by
 refine impl_v ?_
 repeat' first | refine St.go ?_ | ((with_reducible refine cn ?_ ?_) <;> intro h <;> (try simp at h) <;> try omega) | (refine Ru.go ?_; intro K hK; simp [go_sem]; (try simp (disch := omega) only [wx, z_i]); (first | apply hK | refine ⟨by first | omega | (simp [z_f, z_g]; first | done | omega), ?_⟩ | refine ⟨hK _ ?_, fun h => ?_⟩ | refine ⟨?_, ?_⟩); all_goals ((try apply hK); clear hK K))
 ·have hne : a ≠ b := fun e => h (by rw [e])
  simp [go_sem, hne]
 ·have hab : a.length = b.length := by omega
  refine z_k (fun n e => ∃ k, k + n = a.length /\ a.take k = b.take k /\ e = [(13, .sv (.one (.int .i64 (k : Nat)))), (12, .sv (.one (.int .i64 a.length))), (4, .sv (.one (.bool false))), (0, .sv (.one (.sl (a.map encN)))), (1, .sv (.one (.sl (b.map encN))))]) a.length _ ⟨0, by simp, by simp, rfl⟩ (by simp [go_sem]) ?_
  rintro n e ⟨k, hk, htk, rfl⟩
  by_cases hlt : k < a.length
  ·have hlt' : k < b.length := by omega
   repeat' first | refine St.go ?_ | ((with_reducible refine cn ?_ ?_) <;> intro h <;> (try simp at h) <;> try omega) | (refine Ru.go ?_; intro K hK; simp [go_sem, hlt, hlt', encN]; (try simp (disch := omega) only [wx, z_i]); (first | apply hK | refine ⟨by first | omega | (simp [z_f, z_g, hlt, hlt', encN]; first | done | omega), ?_⟩ | refine ⟨hK _ ?_, fun h => ?_⟩ | refine ⟨?_, ?_⟩); all_goals ((try apply hK); clear hK K))
   ·have hne : a ≠ b := fun e => by subst e; simp at h
    simp [go_sem, hne]
   ·refine z_j (n - 1) _ (by omega) ⟨k + 1, by omega, ?_, rfl⟩ ?_
    ·rw [List.take_succ_eq_append_getElem hlt, List.take_succ_eq_append_getElem hlt', htk, h]
    ·simp [go_sem]
  ·have hkl : a.take k = a := List.take_of_length_le (by omega)
   have hkl' : b.take k = b := List.take_of_length_le (by omega)
   have : a = b := by rw [<- hkl, <- hkl', htk]
   refine wX hlt ?_
   simp [go_sem, this]
theorem f40 (l : List Ev) (s : Bool) (p : Int) (hl : l.length <= 1000000) : Impl Tryz.prog 40 [.one (.sl (l.map encE)), .one (.bool s), .one (.int .i64 p)] (.one (.one (.ow 1 ((labelsOf l s p).map encN)))) := by
 refine impl_v ?_
 refine wN ?_
 refine z_k (fun n e => ∃ k, k + n = l.length /\ e = [(12, .sv (.one (.int .i64 (k : Nat)))), (11, .sv (.one (.int .i64 l.length))), (10, .sv (.one (.sl (l.map encE)))), (7, .sv (.one (.ow 1 ((labelsOf (l.take k) s p).map encN)))), (1, .sv (.one (.bool s))), (2, .sv (.one (.int .i64 p)))]) l.length _ ⟨0, by simp, rfl⟩ (by simp [go_sem, labelsOf]) ?_
 rintro n e ⟨k, hk, rfl⟩
 have hlen := labels_len s p (l.take k)
 have hlk : (l.take k).length <= k := List.length_take_le _ _
 by_cases hlt : k < l.length
 ·skip
  repeat' first | refine St.go ?_ | ((with_reducible refine cn ?_ ?_) <;> intro h <;> (try simp at h) <;> try omega) | (refine Ru.go ?_; intro K hK; simp [go_sem, hlt, encE, encN]; (try simp (disch := omega) only [wx, z_i]); (first | apply hK | refine ⟨by first | omega | (simp [z_f, z_g, hlt, encE, encN, maxLen, DV.flat]; first | done | omega), ?_⟩ | refine ⟨hK _ ?_, fun h => ?_⟩ | refine ⟨?_, ?_⟩); all_goals ((try apply hK); clear hK K))
  all_goals refine z_j (n - 1) _ (by omega) ⟨k + 1, by omega, rfl⟩ ?_
  all_goals simp_all [go_sem, labels_succ hlt, lab, encN]
 ·have hkl : l.take k = l := List.take_of_length_le (by omega)
  refine wX hlt ?_
  simp [go_sem, hkl]
def gotOf (H : List (List Ev)) (p q : Nat) : List Int := labelsOf (H[q]?.getD []) false p
def sentOf (H : List (List Ev)) (p q : Nat) : List Int := labelsOf (H[p]?.getD []) true q
def okPair (H : List (List Ev)) (p q : Nat) : Bool := decide (gotOf H p q = (sentOf H p q).take (gotOf H p q).length)
def rowGot (H : List (List Ev)) (p k : Nat) : Nat := ((List.range k).map fun q => (gotOf H p q).length).sum
def sumGot (H : List (List Ev)) (k : Nat) : Nat := ((List.range k).map fun p => rowGot H p H.length).sum
def pairsOk (H : List (List Ev)) : Bool := (List.range H.length).all fun p => (List.range H.length).all fun q => okPair H p q
def matched (H : List (List Ev)) : Option Nat := if properH H && pairsOk H then some (sumGot H H.length) else none
def nResult (o : Option Nat) : RV := .tup [.one (.int .i64 ((o.getD 0 : Nat) : Int)), .one (.bool o.isSome)]
theorem rowGot_succ (H : List (List Ev)) (p k : Nat) : rowGot H p (k + 1) = rowGot H p k + (gotOf H p k).length := by
 simp [rowGot, List.range_succ, List.sum_append]
theorem sumGot_succ (H : List (List Ev)) (k : Nat) : sumGot H (k + 1) = sumGot H k + rowGot H k H.length := by
 simp [sumGot, List.range_succ, List.sum_append]
theorem pairs_no {H : List (List Ev)} {p q : Nat} (hp : p < H.length) (hq : q < H.length) (h : okPair H p q = false) : pairsOk H = false := by
 unfold pairsOk
 rw [List.all_eq_false]
 refine ⟨p, by simp [hp], ?_⟩
 rw [Bool.not_eq_true, List.all_eq_false]
 exact ⟨q, by simp [hq], by simp [h]⟩
theorem pairs_yes {H : List (List Ev)} (h : ∀ p q, p < H.length -> q < H.length -> okPair H p q = true) : pairsOk H = true := by
 unfold pairsOk
 rw [List.all_eq_true]
 intro p hp
 rw [List.all_eq_true]
 intro q hq
 exact h p q (by simpa using hp) (by simpa using hq)
theorem matched_no {H : List (List Ev)} (h : pairsOk H = false) : matched H = none := by
 unfold matched
 rw [h]
 simp
theorem encN_len (x : Int) : (encN x).length = 1 := rfl
theorem got_len {H : List (List Ev)} (hh : ∀ l ∈ H, l.length <= 1000) (p q : Nat) : (gotOf H p q).length <= 1000 := by
 unfold gotOf
 refine Nat.le_trans (labels_len _ _ _) ?_
 by_cases hq : q < H.length
 ·simpa [hq] using hh H[q] (List.getElem_mem hq)
 ·simp [hq]
theorem row_le {H : List (List Ev)} (hh : ∀ l ∈ H, l.length <= 1000) (p : Nat) : ∀ k, rowGot H p k <= k * 1000
 | 0 => by simp [rowGot]
 | k + 1 => by
   have := row_le hh p k
   have := got_len hh p k
   rw [rowGot_succ]
   omega
theorem sumGot_le {H : List (List Ev)} (hl : H.length <= 8) (hh : ∀ l ∈ H, l.length <= 1000) : ∀ k, sumGot H k <= k * 8000
 | 0 => by simp [sumGot]
 | k + 1 => by
   have h1 := sumGot_le hl hh k
   have h2 := row_le hh k H.length
   rw [sumGot_succ]
   omega
theorem f22 (H : List (List Ev)) (hl : H.length <= 8) (hh : ∀ l ∈ H, l.length <= 1000) (f39s : Impl Tryz.prog 39 [.one (.sl (H.map encH))] (.one (.one (.bool (properH H))))) : Impl Tryz.prog 22 [.one (.sl (H.map encH))] (nResult (matched H)) := by
 refine impl_v ?_
 by_cases hp : properH H = true
 ·refine wV (aN hp encH.eq_1) f39s ?_
  refine z_k (fun n e => ∃ p, p + n = H.length /\ (∀ p' q', p' < p -> q' < H.length -> okPair H p' q' = true) /\ e = [(16, .sv (.one (.int .i64 (p : Nat)))), (15, .sv (.one (.int .i64 H.length))), (14, .sv (.one (.sl (H.map encH)))), (4, .sv (.one (.int .i64 (sumGot H p : Nat)))), (2, .sv (.one (.int .i64 0))), (3, .sv (.one (.bool false))), (0, .sv (.one (.sl (H.map encH))))]) H.length _ ⟨0, by simp, by simp, rfl⟩ (by simp [go_sem, sumGot]) ?_
  rintro n e ⟨p, hpn, hok, rfl⟩
  have hsp := sumGot_le hl hh p
  by_cases hlp : p < H.length
  ·skip
   repeat' first | refine St.go ?_ | ((with_reducible refine cn ?_ ?_) <;> intro h <;> (try simp at h) <;> try omega) | (refine Ru.go ?_; intro K hK; simp [go_sem, hlp, encH]; (try simp (disch := omega) only [wx, z_i]); (first | apply hK | refine ⟨by first | omega | (simp [z_f, z_g, hlp, encH]; first | done | omega), ?_⟩ | refine ⟨hK _ ?_, fun h => ?_⟩ | refine ⟨?_, ?_⟩); all_goals ((try apply hK); clear hK K))
   refine z_k (fun m e => ∃ q, q + m = H.length /\ (∀ q', q' < q -> okPair H p q' = true) /\ e = [(23, .sv (.one (.int .i64 (q : Nat)))), (22, .sv (.one (.int .i64 H.length))), (21, .sv (.one (.sl (H.map encH)))), (5, .sv (.one (.int .i64 p))), (6, .sv (.one (.sl (H[p].map encE)))), (16, .sv (.one (.int .i64 (p : Nat)))), (15, .sv (.one (.int .i64 H.length))), (14, .sv (.one (.sl (H.map encH)))), (4, .sv (.one (.int .i64 (sumGot H p + rowGot H p q : Nat)))), (2, .sv (.one (.int .i64 0))), (3, .sv (.one (.bool false))), (0, .sv (.one (.sl (H.map encH))))]) H.length _ ⟨0, by simp, by simp, rfl⟩ (by simp [go_sem, rowGot]) ?_
   rintro m e ⟨q, hqn, hokq, rfl⟩
   have hrp := row_le hh p q
   by_cases hlq : q < H.length
   ·have g1 : labelsOf H[q] false p = gotOf H p q := by simp [gotOf, hlq]
    have g2 : labelsOf H[p] true q = sentOf H p q := by simp [sentOf, hlp]
    have hgl := got_len hh p q
    have hp1 := hh H[p] (List.getElem_mem hlp)
    have hq1 := hh H[q] (List.getElem_mem hlq)
    have hsl : (sentOf H p q).length <= 1000 := by rw [<- g2]; exact Nat.le_trans (labels_len _ _ _) hp1
    have f40a := f40 H[p] true q (by omega)
    have f40b := f40 H[q] false p (by omega)
    rw [g2] at f40a
    rw [g1] at f40b
    have hs2 := rowGot_succ H p q
    by_cases hle : (gotOf H p q).length <= (sentOf H p q).length
    ·have hc : ¬ (0 : Int) < cmpI ((gotOf H p q).length : Int) ((sentOf H p q).length : Int) := by
      unfold cmpI
      split
      ·omega
      ·split
       ·omega
       ·omega
     have f42s := f42 (gotOf H p q) ((sentOf H p q).take (gotOf H p q).length) (by omega) (by simp; omega)
     have hd : decide (gotOf H p q = (sentOf H p q).take (gotOf H p q).length) = okPair H p q := rfl
     rw [hd, List.map_take] at f42s
     repeat' first | refine St.go ?_ | ((with_reducible refine cn ?_ ?_) <;> intro h <;> (try simp at h) <;> try omega) | (refine Ru.go ?_; intro K hK; simp [go_sem, hlp, hlq, hc, encH, encN_len, hle]; (try simp (disch := omega) only [wx, z_i]); (first | apply hK | ((first | ((try refine .inl ?_); refine ⟨_, by (try intro hc); (repeat' first | exact f40a | exact f40b | exact f41 _ _ | exact f42s | exact hc | refine And.intro ?_ ?_ | simp [go_sem, hlp, hlq, hc, encH, encN_len, hle]); first | done | omega, ?_⟩) | refine .inr (.inl ⟨_, by (try intro hc); (repeat' first | exact f40a | exact f40b | exact f41 _ _ | exact f42s | exact hc | refine And.intro ?_ ?_ | simp [go_sem, hlp, hlq, hc, encH, encN_len, hle]); first | done | omega, ?_⟩) | refine .inr (.inr ⟨_, by (try intro hc); (repeat' first | exact f40a | exact f40b | exact f41 _ _ | exact f42s | exact hc | refine And.intro ?_ ?_ | simp [go_sem, hlp, hlq, hc, encH, encN_len, hle]); first | done | omega, ?_⟩)); first | apply hK | (refine ⟨by simp [go_sem, hlp, hlq, hc, encH, encN_len, hle], ?_⟩; first | apply hK | refine ⟨by simp [go_sem, hlp, hlq, hc, encH, encN_len, hle], hK _ _ ?_⟩)) | refine ⟨.one (.one (.bool false)), by simp [go_sem, hlp, hlq, hc, encH, encN_len, hle], hK _ _ ?_⟩ | refine ⟨by first | omega | (simp [z_f, z_g, hlp, hlq, hc, encH, encN_len, hle]; first | done | omega), ?_⟩ | refine ⟨hK _ ?_, fun h => ?_⟩ | refine ⟨?_, ?_⟩); all_goals ((try apply hK); clear hK K))
     ·have : matched H = none := matched_no (pairs_no hlp hlq h)
      simp [go_sem, this, nResult]
     ·refine z_j (m - 1) _ (by omega) ⟨q + 1, by omega, ?_, rfl⟩ ?_
      ·intro q' hq'
       by_cases e : q' = q
       ·subst e; exact h
       ·exact hokq q' (by omega)
      ·simp [go_sem, hs2, Int.add_assoc]
    ·have hc : (0 : Int) < cmpI ((gotOf H p q).length : Int) ((sentOf H p q).length : Int) := by
      unfold cmpI
      split
      ·omega
      ·split
       ·omega
       ·omega
     repeat' first | refine St.go ?_ | ((with_reducible refine cn ?_ ?_) <;> intro h <;> (try simp at h) <;> try omega) | (refine Ru.go ?_; intro K hK; simp [go_sem, hlp, hlq, hc, encH, encN_len]; (try simp (disch := omega) only [wx, z_i]); (first | apply hK | ((first | ((try refine .inl ?_); refine ⟨_, by (try intro hc); (repeat' first | exact f40a | exact f40b | exact f41 _ _ | exact hc | refine And.intro ?_ ?_ | simp [go_sem, hlp, hlq, hc, encH, encN_len]); first | done | omega, ?_⟩) | refine .inr (.inl ⟨_, by (try intro hc); (repeat' first | exact f40a | exact f40b | exact f41 _ _ | exact hc | refine And.intro ?_ ?_ | simp [go_sem, hlp, hlq, hc, encH, encN_len]); first | done | omega, ?_⟩) | refine .inr (.inr ⟨_, by (try intro hc); (repeat' first | exact f40a | exact f40b | exact f41 _ _ | exact hc | refine And.intro ?_ ?_ | simp [go_sem, hlp, hlq, hc, encH, encN_len]); first | done | omega, ?_⟩)); first | apply hK | (refine ⟨by simp [go_sem, hlp, hlq, hc, encH, encN_len], ?_⟩; first | apply hK | refine ⟨by simp [go_sem, hlp, hlq, hc, encH, encN_len], hK _ _ ?_⟩)) | refine ⟨.one (.one (.bool false)), by simp [go_sem, hlp, hlq, hc, encH, encN_len], hK _ _ ?_⟩ | refine ⟨by first | omega | (simp [z_f, z_g, hlp, hlq, hc, encH, encN_len]; first | done | omega), ?_⟩ | refine ⟨hK _ ?_, fun h => ?_⟩ | refine ⟨?_, ?_⟩); all_goals ((try apply hK); clear hK K))
     have hb : okPair H p q = false := by
      unfold okPair
      rw [decide_eq_false_iff_not]
      intro e
      have := congrArg List.length e
      simp at this
      omega
     have : matched H = none := matched_no (pairs_no hlp hlq hb)
     simp [go_sem, this, nResult]
   ·refine wX hlq ?_
    have hqe : q = H.length := by omega
    subst hqe
    refine z_j (n - 1) _ (by omega) ⟨p + 1, by omega, ?_, rfl⟩ ?_
    ·intro p' q' hp' hq'
     by_cases e : p' = p
     ·subst e; exact hokq q' hq'
     ·exact hok p' q' (by omega) hq'
    ·simp [go_sem, sumGot_succ]
  ·refine wX hlp ?_
   have hpe : p = H.length := by omega
   subst hpe
   have : matched H = some (sumGot H H.length) := by
    unfold matched
    rw [hp, pairs_yes (fun p q h1 h2 => hok p q h1 h2)]
    rfl
   simp [go_sem, this, nResult]
 ·have hp : properH H = false := by simpa using hp
  refine wV (aN hp encH.eq_1) f39s ?_
  simp [go_sem, matched, hp, nResult]
set_option maxHeartbeats 64000000
def isR (p : Nat) (x : Ev) : Bool := !x.send && x.peer == (p : Int)
theorem hist_step {ds : List Dcl} {H : List (List Ev)} {h : List Ev} {r : Nat} {ag : List Bool} {k : Nat} {x : Ev} {l : List Ev} {kn : List Vl} {got : List Nat} (hz : histV ds H h r ag (x :: l) k kn got = 0) :
  (evtV ds H h r ag k x kn got).1 = 0 /\ histV ds H h r ag l (k + 1) (evtV ds H h r ag k x kn got).2.1 (evtV ds H h r ag k x kn got).2.2 = 0 := by
 rw [histV] at hz
 split at hz
 ·rename_i h0
  exact ⟨h0, hz⟩
 ·rename_i h0
  exact absurd hz h0
theorem getN_set {got : List Nat} {a v : Nat} (ha : a < got.length) (p : Nat) : getN (got.set a v) p = if p = a then v else getN got p := by
 unfold getN
 simp only [Int.toNat_natCast, List.getElem?_set]
 by_cases h : a = p
 ·subst h
  simp [ha]
 ·have h' : ¬ p = a := fun e => h e.symm
  simp [h, h']
theorem cut_hist {ds : List Dcl} {H C : List (List Ev)} {h h' : List Ev} {r : Nat} {ag ag' : List Bool} (ha : ∀ k : Nat, ag[k]?.getD false = false) (ha' : ∀ k : Nat, ag'[k]?.getD false = false)
  (hC : ∀ p : Nat, p < H.length -> ∃ j, C[p]?.getD [] = (H[p]?.getD []).take j) {cr : List Ev}
  (hm : ∀ p : Nat, p < H.length -> cr.countP (isR p) <= ((C[p]?.getD []).filter (isS r)).length) (hp : ∀ x ∈ cr, 0 <= x.peer /\ x.peer < H.length) :
  ∀ (l2 l1 l3 : List Ev) (kn : List Vl) (got : List Nat), got.length = H.length -> (∀ p : Nat, p < H.length -> getN got p = l1.countP (isR p)) -> cr = l1 ++ l2 ->
   histV ds H h r ag (l2 ++ l3) l1.length kn got = 0 -> histV ds C h' r ag' l2 l1.length kn got = 0
 | [], _, _, _, _, _, _, _, _ => rfl
 | x :: l2, l1, l3, kn, got, hgl, hgp, hcr, hz => by
   rw [List.cons_append] at hz
   obtain ⟨h1, h2⟩ := hist_step hz
   obtain ⟨p0, p1⟩ := hp x (by rw [hcr]; simp)
   obtain ⟨p, hpp⟩ : ∃ p : Nat, x.peer = p := ⟨x.peer.toNat, by omega⟩
   have hpl : p < H.length := by omega
   have hev : evtV ds C h' r ag' l1.length x kn got = evtV ds H h r ag l1.length x kn got /\ (evtV ds H h r ag l1.length x kn got).2.2.length = H.length /\ ∀ q : Nat, q < H.length -> getN (evtV ds H h r ag l1.length x kn got).2.2 q = (l1 ++ [x]).countP (isR q) := by
    cases hsd : x.send with
    | true =>
      have hno : ∀ q : Nat, (l1 ++ [x]).countP (isR q) = l1.countP (isR q) := fun q => by
       rw [List.countP_append, List.countP_singleton]
       simp [isR, hsd]
      unfold evtV at h1 ⊢
      rw [hsd] at h1 ⊢
      simp only [if_true, ha, ha', Bool.false_and, Bool.false_eq_true, if_false, hno] at h1 ⊢
      cases hl : (learnV ds x.label (evV x) kn).1 with
      | none =>
        rw [hl] at h1
        simp at h1
      | some kn' =>
        rw [hl] at h1
        simp only at h1 ⊢
        refine ⟨by first | trivial | rfl, ?_, fun q hq => ?_⟩
        ·split <;> exact hgl
        ·split <;> exact hgp q hq
    | false =>
      have hpt : x.peer.toNat = p := by rw [hpp, Int.toNat_natCast]
      have hgn : getN got x.peer = l1.countP (isR p) := by rw [hpp]; exact hgp p hpl
      obtain ⟨j, hj⟩ := hC p hpl
      have hcnt : l1.countP (isR p) < ((C[p]?.getD []).filter (isS r)).length := by
       have h3 := hm p hpl
       rw [hcr, List.countP_append, List.countP_cons] at h3
       have : isR p x = true := by simp [isR, hsd, hpp]
       rw [this] at h3
       simp only [if_true] at h3
       omega
      unfold evtV at h1 ⊢
      rw [hsd, hpt, hgn] at h1 ⊢
      simp only [Bool.false_eq_true, if_false] at h1 ⊢
      cases hy : nthE (H[p]?.getD []) r (l1.countP (isR p)) with
      | none =>
        rw [hy] at h1
        simp at h1
      | some y =>
        have hy2 : nthE (C[p]?.getD []) r (l1.countP (isR p)) = some y := by
         unfold nthE at hy ⊢
         obtain ⟨t, ht⟩ : (C[p]?.getD []).filter (isS r) <+: (H[p]?.getD []).filter (isS r) := by
          rw [hj]
          exact (List.take_prefix j _).filter _
         rw [<- ht, List.getElem?_append_left hcnt] at hy
         exact hy
        rw [hy] at h1
        rw [hy2]
        simp only at h1 ⊢
        split at h1
        ·rename_i hs
         rw [if_pos hs]
         refine ⟨by first | trivial | rfl, by simp [hgl], fun q hq => ?_⟩
         simp only
         rw [getN_set (by omega), List.countP_append, List.countP_singleton]
         by_cases hq2 : q = p
         ·subst hq2
          have : isR q x = true := by simp [isR, hsd, hpp]
          simp [this]
         ·have : isR q x = false := by
           simp [isR, hsd, hpp]
           omega
          rw [if_neg hq2, this, hgp q hq]
          simp
        ·simp at h1
   obtain ⟨e1, e2, e3⟩ := hev
   rw [histV, e1, if_pos h1]
   have ih := cut_hist (h' := h') ha ha' hC hm hp l2 (l1 ++ [x]) l3 (evtV ds H h r ag l1.length x kn got).2.1 (evtV ds H h r ag l1.length x kn got).2.2 e2 e3 (by rw [hcr]; simp) (by simpa using h2)
   simpa using ih
theorem rolesV_zero {g : Glob} {H : List (List Ev)} {l : List Int} : ∀ {rs : List Nat}, rolesV g H l rs = 0 ↔ ∀ r ∈ rs, hist0 g.decls H (histAt H r) r (againV g l r) = 0
 | [] => by simp [rolesV]
 | r :: rs => by
   have ih := rolesV_zero (g := g) (H := H) (l := l) (rs := rs)
   rw [rolesV]
   split
   ·rename_i h0
    rw [ih]
    simp [h0]
   ·rename_i h0
    constructor
    ·intro h
     exact absurd h h0
    ·intro h
     exact h r (by simp)
theorem again_none {g : Glob} (hn : ∀ x ∈ g.edges, x.again = false) (l : List Int) (r : Nat) (k : Nat) : (againV g l r)[k]?.getD false = false := by
 cases h : (againV g l r)[k]? with
 | none => rfl
 | some b =>
   have hb := List.mem_of_getElem? h
   unfold againV at hb
   obtain ⟨z, _, hz⟩ := List.mem_flatMap.1 hb
   unfold againE at hz
   split at hz
   ·rename_i x hx
    have hx0 := hn x (List.mem_of_getElem? hx)
    rcases List.mem_append.1 hz with h1 | h1
    ·split at h1
     ·rw [List.mem_singleton.1 h1, hx0]
      rfl
     ·cases h1
    ·split at h1
     ·rw [List.mem_singleton.1 h1]
      rfl
     ·cases h1
   ·cases hz
theorem lab_got (r p : Nat) : ∀ l : List Ev, (labelsOf l false p).length = l.countP (isR p)
 | [] => rfl
 | x :: l => by
   have ih := lab_got r p l
   unfold labelsOf at ih ⊢
   rw [List.flatMap_cons, List.length_append, ih, List.countP_cons]
   unfold lab isR
   cases hs : x.send <;> by_cases hp : x.peer = p <;> simp [hp] <;> omega
theorem lab_sent (p : Nat) : ∀ l : List Ev, (labelsOf l true p).length = (l.filter (isS p)).length
 | [] => rfl
 | x :: l => by
   have ih := lab_sent p l
   unfold labelsOf at ih ⊢
   rw [List.flatMap_cons, List.length_append, ih, List.filter_cons]
   unfold lab isS
   cases hs : x.send <;> by_cases hp : x.peer = p <;> simp [hp] <;> omega
theorem values_cut {g : Glob} {H C : List (List Ev)} (hv : valuesF g H = 0) (hn : ∀ x ∈ g.edges, x.again = false) (hc : CutOf H C) (hs : g.states <= 20) (h13 : (lensH C).sum <= 13) (hm : pairsOk C = true) : valuesF g C = 0 := by
 unfold valuesF at hv
 obtain ⟨⟨o, c⟩, he⟩ : ∃ q, searchF g H = q := ⟨_, rfl⟩
 rw [he] at hv
 cases o with
 | none =>
   simp only at hv
   subst hv
   exact (search_zero he).elim
 | some l =>
   simp only at hv
   obtain ⟨_, _, rfl⟩ := search_ok he
   have hro := run_ok he
   have hsc := search_cut hc hs h13 (by rw [he])
   unfold valuesF
   obtain ⟨⟨o2, c2⟩, he2⟩ : ∃ q, searchF g C = q := ⟨_, rfl⟩
   rw [he2] at hsc ⊢
   simp only at hsc
   subst hsc
   cases o2 with
   | none => exact (search_zero he2).elim
   | some l2 =>
     simp only
     rw [rolesV_zero] at hv ⊢
     intro r hr
     have hrl : r < H.length := by rw [<- hc.len]; exact List.mem_range.1 hr
     have h0 := hv r (List.mem_range.2 hrl)
     obtain ⟨m, hcm⟩ := hc.at_ r hrl
     have hCp : ∀ p : Nat, p < H.length -> ∃ j, C[p]?.getD [] = (H[p]?.getD []).take j := fun p hp => by
      obtain ⟨j, hj⟩ := hc.at_ p hp
      unfold histAt at hj
      rw [Int.toNat_natCast] at hj
      exact ⟨j, hj⟩
     have hCr : C[r]?.getD [] = histAt C r := by
      unfold histAt
      rw [Int.toNat_natCast]
     have hmm : ∀ p : Nat, p < H.length -> (histAt C r).countP (isR p) <= ((C[p]?.getD []).filter (isS r)).length := fun p hp => by
      unfold pairsOk at hm
      have h1 := List.all_eq_true.1 (List.all_eq_true.1 hm p (List.mem_range.2 (by rw [hc.len]; exact hp))) r hr
      unfold okPair gotOf sentOf at h1
      rw [decide_eq_true_eq] at h1
      have h2 := congrArg List.length h1
      rw [List.length_take, lab_got r, lab_sent, hCr] at h2
      omega
     have hpe : ∀ x ∈ histAt C r, 0 <= x.peer /\ x.peer < H.length := fun x hx => by
      rw [hcm] at hx
      exact hro.peer r hrl x (List.mem_of_mem_take hx)
     unfold hist0 at h0 ⊢
     have hsp : histAt H r = histAt C r ++ (histAt H r).drop m := by rw [hcm, List.take_append_drop]
     have key := cut_hist (ds := g.decls) (h := histAt H r) (h' := histAt C r) (r := r) (again_none hn l r) (again_none hn l2 r) hCp hmm hpe (histAt C r) [] ((histAt H r).drop m) (List.replicate (allF g.decls).length zV) (List.replicate H.length 0) (by simp)
      (fun p hp => by unfold getN; simp [hp]) rfl (by rw [<- hsp]; exact h0)
     rw [hc.len]
     exact key
set_option maxHeartbeats 64000000
theorem cut_mem {H : List (List Ev)} {B : List Int} {l : List Ev} (h : l ∈ cutK H B H.length) : ∃ k ∈ H, ∃ m, l = k.take m := by
 unfold cutK at h
 obtain ⟨r, hr, rfl⟩ := List.mem_map.1 h
 have hr := List.mem_range.1 hr
 refine ⟨H[r], List.getElem_mem hr, ((H[r].length : Int) - (byAt B r).tmod (H[r].length + 1)).toNat, ?_⟩
 rw [List.getElem?_eq_getElem hr]
 rfl
theorem f7 (h109 : H109) (g : Glob) (H : List (List Ev)) (B : List Int) (hg : GlobA g) (hH : HistA H) (hev : ∀ l ∈ H, ∀ x ∈ l, EvOk x /\ TxtOk (evV x)) (hB : B.length = 6) (hb : ∀ b ∈ B, 0 <= b /\ b < 256) : Impl Tryz.prog 7 [.ag (encG g), .one (.sl (H.map encH)), .ag (B.map encU)] (.one (.one (.bool true))) := by
 have k9 := f9 h109
 have k10 := f10 g H 12 hg.1 (fun d hd => (hg.2 d hd).2) hH.1 hH.2
 simp only [encG] at k10
 obtain ⟨b1, b2, b3, b4, b5, b6, hB6⟩ : ∃ a b c d e f, B = [a, b, c, d, e, f] := by
  match B, hB with
  | [a, b, c, d, e, f], _ => exact ⟨a, b, c, d, e, f, rfl⟩
 refine impl_v ?_
 rw [hB6]
 simp only [List.map_cons, List.map_nil, encU]
 cases hf : fewF g H 12 with
 | false =>
   rw [hf] at k10
   refine wV encG.eq_1 (aN k9 k10) ?_
   simp [go_sem]
 | true =>
   rw [hf] at k10
   obtain ⟨f1, f2, f3⟩ := few_facts hf
   have sg := few_small f1 fun d hd => (hg.2 d hd).1
   have hl : H.length <= 1000000 := by omega
   have hel := sg.edges
   have hh : ∀ l ∈ H, l.length <= 100000 := fun l hl' => by have := sumH_mem hl'; omega
   have hh1 : ∀ l ∈ H, l.length <= 1000000 := fun l hl' => by have := sumH_mem hl'; omega
   have k17 := f17 h109 f138 g H sg hl hh fun l hl x hx => (hev l hl x hx).1
   obtain ⟨v, hv⟩ : ∃ v, valuesF g H = v := ⟨_, rfl⟩
   rw [hv] at k17
   have k17a := k17
   simp only [encG] at k17a
   by_cases hv0 : v = 0
   rotate_left
   ·refine wV (aN encG.eq_1 hv0) (aN k9 <| aN k10 k17a) ?_
    simp [go_sem]
   subst hv0
   obtain ⟨C, hC⟩ : ∃ C, cutK H B H.length = C := ⟨_, rfl⟩
   have hst : g.states <= 20 := by
    unfold fewF at hf
    simp only [Bool.and_eq_true, decide_eq_true_eq] at hf
    omega
   have hcut : CutOf H C := hC ▸ cut_of H B
   have hcm : ∀ l ∈ C, ∃ k ∈ H, ∃ m, l = k.take m := fun l hl => cut_mem (hC ▸ hl)
   have hCs : (lensH C).sum <= 13 := by
    have h1 := cut_sum H B H.length (Nat.le_refl _)
    rw [hC, List.take_length] at h1
    have h2 : (lensH C).sum = sumH C := rfl
    omega
   have hCl : C.length = H.length := hcut.len
   have hCh : ∀ l ∈ C, l.length <= 1000 := fun l hl => by
    obtain ⟨k, hk, m, rfl⟩ := hcm l hl
    have := sumH_mem hk
    rw [List.length_take]
    omega
   have k21 := f21 H B hB hb hl hh1
   rw [hC, hB6] at k21
   simp only [List.map_cons, List.map_nil, encU] at k21
   have k39 := f39 C (by omega) (fun l hl => by have := hCh l hl; omega)
   have k22 := f22 C (by omega) hCh k39
   have k17c := f17 h109 f138 g C sg (by omega) (fun l hl => by have := hCh l hl; omega) fun l hl x hx => by
    obtain ⟨k, hk, m, rfl⟩ := hcm l hl
    exact (hev k hk x (List.mem_of_mem_take hx)).1
   refine z_l [(6, .sv (.one (.bool false))), (5, .sv (.one (.bx [.int .u8 b1, .int .u8 b2, .int .u8 b3, .int .u8 b4, .int .u8 b5, .int .u8 b6]))), (3, .sv (.one (.bx (encG g)))), (1, .sv (.one (.sl (H.map encH))))] ?_ ?_
   ·refine wX encG.eq_1 ?_
    refine z_m ?_
    simp [go_sem, encG]
   refine z_l [(6, .sv (.one (.bool false))), (5, .sv (.one (.bx [.int .u8 b1, .int .u8 b2, .int .u8 b3, .int .u8 b4, .int .u8 b5, .int .u8 b6]))), (3, .sv (.one (.bx (encG g)))), (1, .sv (.one (.sl (H.map encH))))] ?_ ?_
   ·refine wV encG.eq_1 (aN k9 <| aN k10 k17a) ?_
    refine z_m ?_
    simp [go_sem, encG]
   cases hany : g.edges.any (·.again) with
   | true =>
     refine wX encG.eq_1 ?_
     refine z_k (fun n e => ∃ k : Nat, k + n = g.edges.length /\ (g.edges.take k).any (·.again) = false /\ e = [(30, .sv (.one (.int .i64 k))), (29, .sv (.one (.int .i64 g.edges.length))), (28, .sv (.one (.sl (g.edges.map encEd)))), (6, .sv (.one (.bool false)))]) g.edges.length _ ⟨0, by simp, by simp, rfl⟩ (by simp [go_sem, encG]) ?_
     rintro n e ⟨k, hk, hall, rfl⟩
     by_cases hlt : k < g.edges.length
     ·obtain ⟨x, hx⟩ : ∃ x, g.edges[k] = x := ⟨_, rfl⟩
      cases ha : x.again with
      | true =>
        refine wX (aN hlt <| aN hx <| aN encEd.eq_1 ha) ?_
        simp [go_sem]
      | false =>
        refine wX (aN hlt <| aN hx <| aN encEd.eq_1 ha) ?_
        refine z_j (n - 1) _ (by omega) ⟨k + 1, by omega, ?_, rfl⟩ ?_
        ·rw [List.take_succ_eq_append_getElem hlt, hx, List.any_append, hall]
         simp [ha]
        ·simp [go_sem]
     ·rw [List.take_of_length_le (by omega), hany] at hall
      cases hall
   | false =>
     have hno : ∀ x ∈ g.edges, x.again = false := fun x hx => by
      have := List.any_eq_false.1 hany x hx
      simpa using this
     refine z_l [(6, .sv (.one (.bool false))), (5, .sv (.one (.bx [.int .u8 b1, .int .u8 b2, .int .u8 b3, .int .u8 b4, .int .u8 b5, .int .u8 b6]))), (3, .sv (.one (.bx (encG g)))), (1, .sv (.one (.sl (H.map encH))))] ?_ ?_
     ·refine wX encG.eq_1 ?_
      refine z_k (fun n e => ∃ k : Nat, k + n = g.edges.length /\ e = [(30, .sv (.one (.int .i64 k))), (29, .sv (.one (.int .i64 g.edges.length))), (28, .sv (.one (.sl (g.edges.map encEd)))), (6, .sv (.one (.bool false))), (5, .sv (.one (.bx [.int .u8 b1, .int .u8 b2, .int .u8 b3, .int .u8 b4, .int .u8 b5, .int .u8 b6]))), (3, .sv (.one (.bx (encG g)))), (1, .sv (.one (.sl (H.map encH))))]) g.edges.length _ ⟨0, by simp, rfl⟩ (by simp [go_sem, encG]) ?_
      rintro n e ⟨k, hk, rfl⟩
      by_cases hlt : k < g.edges.length
      ·obtain ⟨x, hx⟩ : ∃ x, g.edges[k] = x := ⟨_, rfl⟩
       have ha := hno x (hx ▸ List.getElem_mem hlt)
       refine wX (aN hlt <| aN hx <| aN encEd.eq_1 ha) ?_
       refine z_j (n - 1) _ (by omega) ⟨k + 1, by omega, rfl⟩ ?_
       simp [go_sem, encG]
      ·refine wX hlt ?_
       refine z_m ?_
       simp [go_sem, encG]
     refine z_l [(9, .sv (.one (.sl (C.map encH)))), (6, .sv (.one (.bool false))), (3, .sv (.one (.bx (encG g))))] ?_ ?_
     ·refine wC k21 ?_
      refine cutQ_all 9 ?_
      simp [go_sem, encG]
     cases hm : matched C with
     | none =>
       rw [hm] at k22
       unfold nResult at k22
       simp only [Option.isSome, Option.getD] at k22
       refine wV encG.eq_1 k22 ?_
       simp [go_sem]
     | some q =>
       have hpo : pairsOk C = true := by
        unfold matched at hm
        split at hm
        ·rename_i h1
         simp only [Bool.and_eq_true] at h1
         exact h1.2
        ·cases hm
       have hz := values_cut hv hno hcut hst hCs hpo
       rw [hz] at k17c
       rw [hm] at k22
       unfold nResult at k22
       simp only [Option.isSome, Option.getD] at k22
       simp only [encG] at k17c
       refine wV encG.eq_1 (aN k22 k17c) ?_
       simp [go_sem]
end Go.Av

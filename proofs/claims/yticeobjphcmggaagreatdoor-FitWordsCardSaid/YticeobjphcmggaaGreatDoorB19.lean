/- Part of a proof. -/
import Derived.Test.YticeobjphcmggaaGreatDoorAvR
import Derived.Test.YticeobjphcmggaaGreatDoorB18
import Derived.Test.YticeobjphcmggaaGreatDoorB08
import Derived.Test.YticeobjphcmggaaGreatDoorB16
import Derived.Test.YticeobjphcmggaaGreatDoorB06
set_option linter.unusedVariables false
set_option linter.unusedSimpArgs false
set_option maxHeartbeats 64000000
set_option maxRecDepth 8000
namespace Go.Av
open Go Go.RowKit Go.Proofs
set_option maxHeartbeats 64000000
structure Deep (g : Glob) (H : List (List Ev)) (i : Nat) (all : List Nd) (ds : List Nat) : Prop where
 len : ds.length = all.length
 zero : ds[0]? = some 0
 first : all[0]? = some (firstN g H)
 mono : ∀ (j k a b : Nat), j <= k -> ds[j]? = some a -> ds[k]? = some b -> a <= b
 top : ∀ (k a b : Nat), ds[k]? = some a -> ds[i]? = some b -> a <= b + 1
 back : ∀ (j : Nat) n, all[j + 1]? = some n -> ∃ d, n.fr.toNat <= j /\ ds[n.fr.toNat]? = some d /\ ds[j + 1]? = some (d + 1)
def Leads (g : Glob) (H : List (List Ev)) (all : List Nd) (ds : List Nat) (d : Nat) (q : Nd) : Prop := ∃ (z : Nat) (m : Nd) (e : Nat), all[z]? = some m /\ q.st = m.st /\ q.ps = m.ps /\ ds[z]? = some e /\ e <= d + 1
theorem Leads.more {g : Glob} {H : List (List Ev)} {all t : List Nd} {ds u : List Nat} {d : Nat} {q : Nd} (h : Leads g H all ds d q) : Leads g H (all ++ t) (ds ++ u) d q := by
 obtain ⟨z, m, e, h1, h2, h3, h4, h5⟩ := h
 exact ⟨z, m, e, by rw [List.getElem?_append_left (List.getElem?_eq_some_iff.1 h1).1]; exact h1, h2, h3, by rw [List.getElem?_append_left (List.getElem?_eq_some_iff.1 h4).1]; exact h4, h5⟩
theorem addN_deep {g : Glob} {H : List (List Ev)} {i : Nat} {p : Nd} {all : List Nd} {ds : List Nat} {d : Nat} (k : Int) (h : Deep g H i all ds) (hp : all[i]? = some p) (hd : ds[i]? = some d) :
  ∃ t u, addN g H i p all k = all ++ t /\ Deep g H i (all ++ t) (ds ++ u) /\ ∀ q, stepN g H i p k = some q -> Leads g H (all ++ t) (ds ++ u) d q := by
 have hi : i < all.length := (List.getElem?_eq_some_iff.1 hp).1
 have hl := h.len
 unfold addN
 split
 ·rename_i hq
  refine ⟨[], [], by simp, by simpa using h, fun q hq' => ?_⟩
  rw [hq] at hq'
  cases hq'
 ·rename_i q hq
  split
  ·rename_i hs
   refine ⟨[], [], by simp, by simpa using h, fun q' hq' => ?_⟩
   rw [hq] at hq'
   cases hq'
   obtain ⟨m, hm, hs⟩ := List.any_eq_true.1 hs
   simp only [sameN, Bool.and_eq_true, beq_iff_eq] at hs
   obtain ⟨z, hz, rfl⟩ := List.mem_iff_getElem.1 hm
   have hz' : z < ds.length := by omega
   refine ⟨z, all[z], ds[z], by simp [hz], hs.1, hs.2, by simp [hz'], h.top z _ d (List.getElem?_eq_getElem hz') hd⟩
  ·have hat : ∀ j, j < ds.length -> (ds ++ [d + 1])[j]? = ds[j]? := fun j hj => List.getElem?_append_left hj
   have hnew : (ds ++ [d + 1])[ds.length]? = some (d + 1) := by simp
   have hcase : ∀ (j a : Nat), (ds ++ [d + 1])[j]? = some a -> ds[j]? = some a \/ (j = ds.length /\ a = d + 1) := fun j a hj => by
    by_cases e : j < ds.length
    ·rw [hat j e] at hj; exact .inl hj
    ·have hj2 := (List.getElem?_eq_some_iff.1 hj).1
     rw [List.length_append, List.length_singleton] at hj2
     have : j = ds.length := by omega
     subst this
     rw [hnew] at hj
     injection hj with hj
     exact .inr ⟨rfl, hj.symm⟩
   refine ⟨[q], [d + 1], rfl, ⟨by simp [hl], ?_, ?_, fun j k a b hjk ha hb => ?_, fun k a b ha hb => ?_, fun j n hn => ?_⟩, fun q' hq' => ?_⟩
   ·rw [hat 0 (by omega)]
    exact h.zero
   ·rw [List.getElem?_append_left (by omega)]
    exact h.first
   ·rcases hcase j a ha with ha | ⟨hj, ha⟩ <;> rcases hcase k b hb with hb | ⟨hk, hb⟩
    ·exact h.mono j k a b hjk ha hb
    ·rw [hb]; exact h.top j a d ha hd
    ·have := (List.getElem?_eq_some_iff.1 hb).1
     omega
    ·omega
   ·rw [hat i (by omega)] at hb
    rcases hcase k a ha with ha | ⟨_, ha⟩
    ·exact h.top k a b ha hb
    ·rw [hd] at hb
     injection hb with hb
     omega
   ·by_cases e : j + 1 < all.length
    ·rw [List.getElem?_append_left e] at hn
     obtain ⟨c, h1, h2, h3⟩ := h.back j n hn
     exact ⟨c, h1, by rw [hat _ (by omega)]; exact h2, by rw [hat _ (by omega)]; exact h3⟩
    ·have hj2 := (List.getElem?_eq_some_iff.1 hn).1
     rw [List.length_append, List.length_singleton] at hj2
     have hj3 : j + 1 = all.length := by omega
     rw [hj3, List.getElem?_append_right (Nat.le_refl _)] at hn
     simp only [Nat.sub_self, List.getElem?_cons_zero, Option.some.injEq] at hn
     subst hn
     obtain ⟨h1, _⟩ := step_from hq
     rw [h1, hj3, <- hl, hnew]
     exact ⟨d, by omega, by rw [hat i (by omega)]; exact hd, rfl⟩
   ·rw [hq] at hq'
    cases hq'
    refine ⟨all.length, q, d + 1, by simp, rfl, rfl, by rw [<- hl]; exact hnew, Nat.le_refl _⟩
theorem fold_deep {g : Glob} {H : List (List Ev)} {i : Nat} {p : Nd} {d : Nat} : ∀ (ks : List Int) {all : List Nd} {ds : List Nat}, Deep g H i all ds -> all[i]? = some p -> ds[i]? = some d ->
  ∃ t u, ks.foldl (addN g H i p) all = all ++ t /\ Deep g H i (all ++ t) (ds ++ u) /\ ∀ k ∈ ks, ∀ q, stepN g H i p k = some q -> Leads g H (all ++ t) (ds ++ u) d q
 | [], all, ds, h, _, _ => ⟨[], [], by simp, by simpa using h, fun k hk => by cases hk⟩
 | k :: ks, all, ds, h, hp, hd => by
   obtain ⟨t, u, h1, h2, h3⟩ := addN_deep k h hp hd
   obtain ⟨t', u', h4, h5, h6⟩ := fold_deep ks h2 (by rw [List.getElem?_append_left (List.getElem?_eq_some_iff.1 hp).1]; exact hp) (by rw [List.getElem?_append_left (List.getElem?_eq_some_iff.1 hd).1]; exact hd)
   refine ⟨t ++ t', u ++ u', by rw [List.foldl_cons, h1, h4, List.append_assoc], by rw [<- List.append_assoc, <- List.append_assoc]; exact h5, fun k' hk' q hq => ?_⟩
   rw [<- List.append_assoc, <- List.append_assoc]
   rcases List.mem_cons.1 hk' with rfl | hk'
   ·exact (h3 q hq).more
   ·exact h6 k' hk' q hq
structure Past (g : Glob) (H : List (List Ev)) (i : Nat) (all : List Nd) (ds : List Nat) : Prop where
 next : ∀ (j : Nat) p d, j < i -> all[j]? = some p -> ds[j]? = some d -> ∀ k ∈ sortedE g.edges p.st, ∀ q, stepN g H 0 p k = some q -> Leads g H all ds d q
 done : ∀ (j : Nat) p, j < i -> all[j]? = some p -> p.ps ≠ lensH H
theorem back_len {g : Glob} {H : List (List Ev)} {i : Nat} {all : List Nd} {ds : List Nat} (h : Deep g H i all ds) : ∀ (f j d : Nat), j <= f -> ds[j]? = some d -> (backN all f j).length = d
 | f, 0, d, _, hd => by
   rw [h.zero] at hd
   injection hd with hd
   have : backN all f 0 = [] := by cases f <;> rfl
   rw [this, <- hd]
   rfl
 | 0, j + 1, _, hj, _ => by omega
 | f + 1, j + 1, d, hj, hd => by
   have hl := h.len
   have hj2 := (List.getElem?_eq_some_iff.1 hd).1
   obtain ⟨n, hn⟩ : ∃ n, all[j + 1]? = some n := ⟨_, List.getElem?_eq_getElem (by omega)⟩
   obtain ⟨c, h1, h2, h3⟩ := h.back j n hn
   simp only [backN, hn, List.length_cons]
   rw [back_len h f _ c (by omega) h2]
   rw [h3] at hd
   exact Option.some.inj hd
theorem run_deep {g : Glob} {H : List (List Ev)} {i : Nat} {all : List Nd} {ds : List Nat} (h : Deep g H i all ds) (hq : Past g H i all ds) {d : Nat} (hd : ds[i]? = some d) {L : List Int} {n : Nd} (hr : RunN g H L n) (hlt : L.length < d) : ∃ (z : Nat) (m : Nd) (e : Nat), all[z]? = some m /\ n.st = m.st /\ n.ps = m.ps /\ ds[z]? = some e /\ e <= L.length := by
 induction hr with
 | nil => exact ⟨0, firstN g H, 0, h.first, rfl, rfl, h.zero, Nat.le_refl _⟩
 | @snoc L p q k j hrun hk hst ih =>
   rw [List.length_append, List.length_singleton] at hlt ⊢
   obtain ⟨z, m, e, h1, h2, h3, h4, h5⟩ := ih (by omega)
   have hz : z < i := by
    rcases Nat.lt_or_ge z i with hz | hz
    ·exact hz
    ·have := h.mono i z d e hz hd h4
     omega
   obtain ⟨q', hq', e3, e4⟩ := step_like (i' := 0) h3 hst
   obtain ⟨z', m', e', g1, g2, g3, g4, g5⟩ := hq.next z m e hz h1 h4 k (by rw [<- h2]; exact hk) q' hq'
   exact ⟨z', m', e', g1, e3.trans g2, e4.trans g3, g4, by omega⟩
theorem findL_short {g : Glob} {H : List (List Ev)} {L : List Int} {n : Nd} (hr : RunN g H L n) (hn : n.ps = lensH H) : ∀ (f i : Nat) {all : List Nd} {ds : List Nat} {l : List Int} {c : Int}, Deep g H i all ds -> Past g H i all ds -> findL g H f i all = (some l, c) -> l.length <= L.length
 | 0, _, _, _, _, _, _, _, h => by cases h
 | f + 1, i, all, ds, l, c, hD, hP, h => by
   simp only [findL] at h
   split at h
   ·cases h
   ·rename_i p hp
    have hi := (List.getElem?_eq_some_iff.1 hp).1
    have hl := hD.len
    obtain ⟨d, hd⟩ : ∃ d, ds[i]? = some d := ⟨_, List.getElem?_eq_getElem (by omega)⟩
    split at h
    ·cases h
    ·split at h
     ·injection h with h1 h2
      injection h1 with h1
      subst h1
      rw [List.length_reverse, back_len hD i i d (Nat.le_refl _) hd]
      rcases Nat.lt_or_ge L.length d with hlt | hge
      ·exfalso
       obtain ⟨z, m, e, g1, g2, g3, g4, g5⟩ := run_deep hD hP hd hr hlt
       have hz : z < i := by
        rcases Nat.lt_or_ge z i with hz | hz
        ·exact hz
        ·have := hD.mono i z d e hz hd g4
         omega
       exact hP.done z m hz g1 (g3.symm.trans hn)
      ·exact hge
     ·rename_i hnd
      obtain ⟨t, u, h1, h2, h3⟩ := fold_deep (sortedE g.edges p.st) hD hp hd
      rw [h1] at h
      have hat : ∀ (j : Nat), j < all.length -> (all ++ t)[j]? = all[j]? := fun j hj => List.getElem?_append_left hj
      have had : ∀ (j : Nat), j < ds.length -> (ds ++ u)[j]? = ds[j]? := fun j hj => List.getElem?_append_left hj
      refine findL_short hr hn f (i + 1) (ds := ds ++ u) ⟨h2.len, h2.zero, h2.first, h2.mono, fun k a b ha hb => ?_, h2.back⟩ ⟨fun j q e hj hq he k hk z hz => ?_, fun j q hj hq => ?_⟩ h
      ·have hdi : (ds ++ u)[i]? = some d := by rw [had i (by omega)]; exact hd
       have := h2.top k a d ha hdi
       have := h2.mono i (i + 1) d b (by omega) hdi hb
       omega
      ·rw [hat j (by omega)] at hq
       rw [had j (by omega)] at he
       by_cases e' : j = i
       ·subst e'
        rw [hp] at hq
        rw [hd] at he
        cases hq
        cases he
        obtain ⟨z', hz', e1, e2⟩ := step_like (i' := j) rfl hz
        obtain ⟨y, m, e, g1, g2, g3, g4⟩ := h3 k hk z' hz'
        exact ⟨y, m, e, g1, e1.trans g2, e2.trans g3, g4⟩
       ·exact (hP.next j q e (by omega) hq he k hk z hz).more
      ·rw [hat j (by omega)] at hq
       by_cases e' : j = i
       ·subst e'
        rw [hp] at hq
        cases hq
        exact hnd
       ·exact hP.done j q (by omega) hq
theorem search_short {g : Glob} {H : List (List Ev)} {L : List Int} {n : Nd} (hr : RunN g H L n) (hn : n.ps = lensH H) {l : List Int} {c : Int} (h : searchF g H = (some l, c)) : l.length <= L.length := by
 unfold searchF at h
 split at h
 ·refine findL_short hr hn _ _ (ds := [0]) ⟨rfl, rfl, rfl, fun j k a b hjk ha hb => ?_, fun k a b ha hb => ?_, fun j n hn => by cases hn⟩ ⟨fun j p d hj => by omega, fun j p hj => by omega⟩ h
  ·have h1 := (List.getElem?_eq_some_iff.1 ha).1
   have h2 := (List.getElem?_eq_some_iff.1 hb).1
   simp only [List.length_singleton] at h1 h2
   have e1 : j = 0 := by omega
   have e2 : k = 0 := by omega
   subst e1
   subst e2
   rw [ha] at hb
   exact Nat.le_of_eq (Option.some.inj hb)
  ·have h1 := (List.getElem?_eq_some_iff.1 ha).1
   simp only [List.length_singleton] at h1
   have e1 : k = 0 := by omega
   subst e1
   simp only [List.getElem?_cons_zero, Option.some.injEq] at ha
   omega
 ·cases h
set_option maxHeartbeats 64000000
def lt (a b : Inter) : Bool := decide (cmpL (key a) (key b) < 0)
theorem lt_less (a b : Inter) : lt a b = less a b := by
 unfold lt less key
 simp only [cmpL, cmpI]
 by_cases h1 : a.from_ = b.from_
 ·by_cases h2 : a.to = b.to
  ·simp only [h1, h2]
   by_cases h3 : a.label < b.label
   ·simp [h3]
   ·by_cases h4 : b.label < a.label <;> simp [h3, h4]
  ·simp only [h1]
   by_cases h3 : a.to < b.to
   ·simp [h2, h3]
   ·have h4 : b.to < a.to := by omega
    simp [h2, h3, h4]
 ·by_cases h3 : a.from_ < b.from_
  ·simp [h1, h3]
  ·have h4 : b.from_ < a.from_ := by omega
   simp [h1, h3, h4]
def freeAt (l : List Inter) (i : Nat) : Bool :=
 match l[i]? with
 | some x => (l.take i).all (indep x)
 | none => false
def bestStep (l : List Inter) (b i : Nat) : Nat :=
 match l[i]?, l[b]? with
 | some x, some y => if freeAt l i && lt x y then i else b
 | _, _ => b
def bestTo (l : List Inter) (k : Nat) : Nat := (List.range k).foldl (bestStep l) 0
theorem bestTo_succ (l : List Inter) (k : Nat) : bestTo l (k + 1) = bestStep l (bestTo l k) k := by
 simp [bestTo, List.range_succ, List.foldl_append]
theorem bestStep_lt {l : List Inter} {b i : Nat} (hb : b < l.length) : bestStep l b i < l.length := by
 unfold bestStep
 split
 ·rename_i h1 h2
  split
  ·exact (List.getElem?_eq_some_iff.1 h1).1
  ·exact hb
 ·exact hb
theorem bestTo_lt {l : List Inter} (hl : 0 < l.length) : ∀ k, bestTo l k < l.length
 | 0 => hl
 | k + 1 => by rw [bestTo_succ]; exact bestStep_lt (bestTo_lt hl k)
def best (l : List Inter) : Nat := bestTo l l.length
def normalN : Nat -> List Inter -> List Inter
 | 0, _ => []
 | n + 1, l => match l[best l]? with
   | some x => x :: normalN n (l.eraseIdx (best l))
   | none => []
def normal (l : List Inter) : List Inter := normalN l.length l
theorem normal_nil : normal [] = [] := rfl
theorem normal_cons {l : List Inter} (hl : best l < l.length) : normal l = l[best l] :: normal (l.eraseIdx (best l)) := by
 obtain ⟨n, hn⟩ : ∃ n, l.length = n + 1 := ⟨l.length - 1, by omega⟩
 have h2 : (l.eraseIdx (best l)).length = n := by rw [List.length_eraseIdx, if_pos hl]; omega
 have h3 : l[best l]? = some l[best l] := List.getElem?_eq_getElem hl
 unfold normal
 rw [hn, h2]
 simp only [normalN, h3]
theorem normal_len : ∀ (n : Nat) (l : List Inter), l.length = n -> (normal l).length = n
 | 0, l, h => by
   have : l = [] := List.eq_nil_of_length_eq_zero h
   subst this
   rfl
 | n + 1, l, h => by
   have hb : best l < l.length := bestTo_lt (by omega) _
   rw [normal_cons hb, List.length_cons, normal_len n _ (by rw [List.length_eraseIdx, if_pos hb]; omega)]
theorem eraseIdx_eq (l : List Inter) (b : Nat) : l.eraseIdx b = l.take b ++ l.drop (b + 1) := by
 rw [List.eraseIdx_eq_take_drop_succ]
set_option maxHeartbeats 64000000
def total (H : List (List Ev)) : Nat := (H.map List.length).sum
def okI (x : Inter) : Bool := decide (0 <= x.from_) && decide (x.from_ < 6) && decide (0 <= x.to) && decide (x.to < 6) && decide (x.from_ ≠ x.to)
def hists (l : List Inter) (n : Nat) : List (List Ev) := (List.range n).map fun (i : Nat) => project l i
def encO (x : List Ev) : List DV := [.ow 5 (x.map encE)]
def histories (l : List Inter) (n : Int) : List (List Ev) := if n < 0 \/ 6 < n then [] else hists l n.toNat
theorem hists_succ (l : List Inter) (n : Nat) : hists l (n + 1) = hists l n ++ [project l n] := by
 simp [hists, List.range_succ]
theorem hists_len (l : List Inter) (n : Nat) : (hists l n).length = n := by simp [hists]
def fillH (l : List Inter) (m k : Nat) : List (List DV) := (hists l k).map encO ++ List.replicate (m - k) [DV.nil]
theorem fillH_get {l : List Inter} {m k : Nat} (h : k < m) : (fillH l m k)[k]? = some [DV.nil] := by
 unfold fillH
 rw [List.getElem?_append_right (by simp [hists_len])]
 obtain ⟨j, hj⟩ : ∃ j, m - k = j + 1 := ⟨m - k - 1, by omega⟩
 simp [hists_len, hj, List.replicate_succ]
theorem fillH_set {l : List Inter} {m k : Nat} (h : k < m) : (fillH l m k).set k [.ow 5 ((project l k).map encE)] = fillH l m (k + 1) := by
 unfold fillH
 rw [List.set_append_right _ _ (by simp [hists_len]), hists_succ]
 obtain ⟨j, hj⟩ : ∃ j, m - k = j + 1 := ⟨m - k - 1, by omega⟩
 have : m - (k + 1) = j := by omega
 rw [hj, this]
 simp [hists_len, List.replicate_succ, encO]
theorem f23 (l : List Inter) (n : Int) (hl : l.length <= 1000000) : Impl Tryz.prog 23 [.one (.sl (l.map encI)), .one (.int .i64 n)] (.one (.one (.ow 1 ((histories l n).map encO)))) := by
 refine impl_v ?_
 repeat' first | refine St.go ?_ | ((with_reducible refine cn ?_ ?_) <;> intro h <;> (try simp at h) <;> try omega) | (refine Ru.go ?_; intro K hK; simp [go_sem]; (try simp (disch := omega) only [wx, z_i]); (first | apply hK | refine ⟨by first | omega | (simp [z_f, z_g]; first | done | omega), ?_⟩ | refine ⟨hK _ ?_, fun h => ?_⟩ | refine ⟨?_, ?_⟩); all_goals ((try apply hK); clear hK K))
 ·simp [go_sem, histories, h]
 ·obtain ⟨m, rfl⟩ : ∃ m : Nat, n = m := ⟨n.toNat, by omega⟩
  refine z_k (fun q e => ∃ k, k + q = m /\ e = [(16, .sv (.one (.int .i64 (k : Nat)))), (15, .sv (.one (.int .i64 m))), (5, .sv (.one (.ow 1 (fillH l m k)))), (0, .sv (.one (.sl (l.map encI))))]) m _ ⟨0, by simp, rfl⟩ (by simp [go_sem, fillH, hists]) ?_
  rintro q e ⟨k, hk, rfl⟩
  by_cases hlt : k < m
  ·have h1 := fillH_get (l := l) hlt
   have h2 := fillH_set (l := l) hlt
   refine wV (aN hlt h1) (fun {x0_} => f20 l x0_ hl) ?_
   refine z_j (q - 1) _ (by omega) ⟨k + 1, by omega, rfl⟩ ?_
   simp [go_sem, h2]
  ·refine wX hlt ?_
   have hkm : k = m := by omega
   subst hkm
   have : histories l (k : Int) = hists l k := by
    unfold histories
    rw [if_neg (by omega)]
    simp
   simp [go_sem, this, fillH]
set_option maxHeartbeats 64000000
def cand (R : List (List Ev)) (i : Nat) : Option Inter :=
 match R[i]? with
 | some (x :: _) => if x.send then
   match R[x.peer.toNat]? with
   | some (y :: _) => if y.send = false /\ y.peer = x.role /\ y.label = x.label then some ⟨x.role, x.peer, x.label⟩ else none
   | _ => none
  else none
 | _ => none
def better (o : Option Inter) (a : Inter) : Option Inter :=
 match o with
 | none => some a
 | some b => if lt a b then some a else some b
def bestM (R : List (List Ev)) : Nat -> Option Inter
 | 0 => none
 | k + 1 => match cand R k with
   | some a => better (bestM R k) a
   | none => bestM R k
def stepM (R : List (List Ev)) (a : Inter) : List (List Ev) :=
 (R.set a.from_.toNat (R[a.from_.toNat]?.getD []).tail).set a.to.toNat (R[a.to.toNat]?.getD []).tail
def mergeN : Nat -> List (List Ev) -> Option (List Inter)
 | 0, R => if total R = 0 then some [] else none
 | n + 1, R => if total R = 0 then some [] else
   match bestM R R.length with
   | some a => (mergeN n (stepM R a)).map (a :: ·)
   | none => none
def merge (H : List (List Ev)) : Option (List Inter) := if properH H then mergeN (total H) H else none
def okR (R : List (List Ev)) : Prop := ∀ i (h : i < R.length), okH R.length i R[i] = true
theorem okR_head {R : List (List Ev)} (h : okR R) {i : Nat} (hi : i < R.length) {x : Ev} {tl : List Ev} (hx : R[i] = x :: tl) : x.role = i /\ x.peer ≠ i /\ 0 <= x.peer /\ x.peer < R.length := by
 have := h i hi
 rw [hx] at this
 simp only [okH, List.all_cons, okE, Bool.and_eq_true, decide_eq_true_eq] at this
 obtain ⟨⟨⟨⟨h1, h2⟩, h3⟩, h4⟩, _⟩ := this
 exact ⟨h1, h2, h3, h4⟩
theorem cand_some {R : List (List Ev)} (h : okR R) {i : Nat} {a : Inter} (hc : cand R i = some a) : ∃ (p : Nat) (x y : Ev) (tx ty : List Ev) (_ : i < R.length) (_ : p < R.length), i ≠ p /\ a.from_ = i /\ a.to = p /\ R[i] = x :: tx /\ R[p] = y :: ty := by
 unfold cand at hc
 split at hc
 ·rename_i x tx hx
  have hi : i < R.length := (List.getElem?_eq_some_iff.1 hx).1
  have hx' : R[i] = x :: tx := (List.getElem?_eq_some_iff.1 hx).2
  obtain ⟨h1, h2, h3, h4⟩ := okR_head h hi hx'
  split at hc
  ·split at hc
   ·rename_i y ty hy
    have hp : x.peer.toNat < R.length := (List.getElem?_eq_some_iff.1 hy).1
    have hy' : R[x.peer.toNat] = y :: ty := (List.getElem?_eq_some_iff.1 hy).2
    split at hc
    ·injection hc with hc
     subst hc
     exact ⟨x.peer.toNat, x, y, tx, ty, hi, hp, by omega, h1, by simp; omega, hx', hy'⟩
    ·cases hc
   ·cases hc
  ·cases hc
 ·cases hc
theorem bestM_some {R : List (List Ev)} : ∀ {k : Nat} {a : Inter}, bestM R k = some a -> ∃ i, i < k /\ cand R i = some a
 | 0, a, h => by simp [bestM] at h
 | k + 1, a, h => by
   simp only [bestM] at h
   split at h
   ·rename_i c hc
    unfold better at h
    split at h
    ·injection h with h
     subst h
     exact ⟨k, by omega, hc⟩
    ·rename_i b hb
     split at h
     ·injection h with h
      subst h
      exact ⟨k, by omega, hc⟩
     ·injection h with h
      subst h
      obtain ⟨i, hi, hci⟩ := bestM_some hb
      exact ⟨i, by omega, hci⟩
   ·obtain ⟨i, hi, hci⟩ := bestM_some h
    exact ⟨i, by omega, hci⟩
theorem total_set : ∀ {R : List (List Ev)} {i : Nat} {l : List Ev} (hi : i < R.length), total (R.set i l) + R[i].length = total R + l.length
 | x :: R, 0, l, _ => by simp [total]; omega
 | x :: R, i + 1, l, hi => by
   have := total_set (R := R) (i := i) (l := l) (by simpa using hi)
   simp only [total, List.set_cons_succ, List.map_cons, List.sum_cons, List.getElem_cons_succ] at *
   omega
theorem stepM_eq {R : List (List Ev)} {a : Inter} {i p : Nat} {x y : Ev} {tx ty : List Ev} (hi : i < R.length) (hp : p < R.length) (h1 : a.from_ = i) (h2 : a.to = p) (hx : R[i] = x :: tx) (hy : R[p] = y :: ty) : stepM R a = (R.set i tx).set p ty := by
 unfold stepM
 rw [h1, h2]
 simp [hi, hp, hx, hy]
theorem step_total {R : List (List Ev)} (h : okR R) {k : Nat} {a : Inter} (hb : bestM R k = some a) : total (stepM R a) + 2 = total R := by
 obtain ⟨i, _, hc⟩ := bestM_some hb
 obtain ⟨p, x, y, tx, ty, hi, hp, hne, h1, h2, hx, hy⟩ := cand_some h hc
 rw [stepM_eq hi hp h1 h2 hx hy]
 have t1 := total_set (R := R) (i := i) (l := tx) hi
 have hp' : p < (R.set i tx).length := by simpa using hp
 have t2 := total_set (R := R.set i tx) (i := p) (l := ty) hp'
 rw [List.getElem_set_ne hne, hy] at t2
 rw [hx] at t1
 simp only [List.length_cons] at t1 t2
 omega
theorem okR_step {R : List (List Ev)} (h : okR R) {k : Nat} {a : Inter} (hb : bestM R k = some a) : okR (stepM R a) := by
 obtain ⟨i, _, hc⟩ := bestM_some hb
 obtain ⟨p, x, y, tx, ty, hi, hp, hne, h1, h2, hx, hy⟩ := cand_some h hc
 rw [stepM_eq hi hp h1 h2 hx hy]
 have ht : ∀ {q : Nat} {z : Ev} {tz : List Ev} (hq : q < R.length), R[q] = z :: tz -> okH R.length q tz = true := by
  intro q z tz hq hz
  have := h q hq
  rw [hz] at this
  simp only [okH, List.all_cons, Bool.and_eq_true] at this
  exact this.2
 intro j hj
 simp only [List.length_set] at hj ⊢
 rw [List.getElem_set]
 split
 ·rename_i e
  subst e
  exact ht hp hy
 ·rw [List.getElem_set]
  split
  ·rename_i e
   subst e
   exact ht hi hx
  ·exact h j hj
theorem mergeN_zero {n : Nat} {R : List (List Ev)} (h : total R = 0) : mergeN n R = some [] := by
 cases n <;> simp [mergeN, h]
theorem mergeN_none {n : Nat} {R : List (List Ev)} (h : total R ≠ 0) (hb : bestM R R.length = none) : mergeN n R = none := by
 cases n <;> simp [mergeN, h, hb]
theorem mergeN_some {n : Nat} {R : List (List Ev)} (h : total R ≠ 0) (hn : total R <= n) {a : Inter} (hb : bestM R R.length = some a) (ho : okR R) : mergeN n R = (mergeN (n - 2) (stepM R a)).map (a :: ·) := by
 have ht := step_total ho hb
 obtain ⟨m, rfl⟩ : ∃ m, n = m + 2 := ⟨n - 2, by omega⟩
 have hmono : ∀ (n : Nat) (R : List (List Ev)), okR R -> total R <= n -> mergeN (n + 1) R = mergeN n R := by
  intro n
  induction n with
  | zero =>
    intro R _ h0
    have : total R = 0 := by omega
    rw [mergeN_zero this, mergeN_zero this]
  | succ n ih =>
    intro R ho h0
    by_cases hz : total R = 0
    ·rw [mergeN_zero hz, mergeN_zero hz]
    ·cases hb : bestM R R.length with
     | none => rw [mergeN_none hz hb, mergeN_none hz hb]
     | some a =>
       have := step_total ho hb
       rw [mergeN, mergeN, if_neg hz, if_neg hz, hb]
       simp only
       rw [ih _ (okR_step ho hb) (by omega)]
 rw [mergeN, if_neg h, hb]
 simp only
 rw [hmono m _ (okR_step ho hb) (by omega)]
 rfl
def roles (x : Inter) (r : Int) : Prop := x.from_ = r \/ x.to = r
theorem ev1_none {x : Inter} {r : Int} (h : ¬ roles x r) : ev1 r x = [] := by
 unfold roles at h
 unfold ev1
 rw [if_neg (fun e => h (.inl e)), if_neg (fun e => h (.inr e))]
 rfl
theorem indep_roles {x y : Inter} : indep x y = true ↔ ∀ r, roles x r -> ¬ roles y r := by
 unfold indep roles
 constructor
 ·intro h r hr hy
  simp at h
  rcases hr with rfl | rfl <;> rcases hy with hy | hy <;> omega
 ·intro h
  have h1 := h x.from_ (.inl rfl)
  have h2 := h x.to (.inr rfl)
  simp
  omega
theorem project_nil_of {l : List Inter} {r : Int} (h : ∀ y ∈ l, ¬ roles y r) : project l r = [] := by
 unfold project
 rw [List.flatMap_eq_nil_iff]
 exact fun y hy => ev1_none (h y hy)
theorem project_app (a b : List Inter) (r : Int) : project (a ++ b) r = project a r ++ project b r := by simp [project]
theorem project_cons (x : Inter) (l : List Inter) (r : Int) : project (x :: l) r = ev1 r x ++ project l r := by simp [project]
theorem project_free {l : List Inter} {i : Nat} (hi : i < l.length) (hf : (l.take i).all (indep l[i]) = true) (r : Int) : project l r = ev1 r l[i] ++ project (l.eraseIdx i) r := by
 have hl : l = l.take i ++ (l[i] :: l.drop (i + 1)) := by
  conv => lhs; rw [<- List.take_append_drop i l, List.drop_eq_getElem_cons hi]
 have h1 : project l r = project (l.take i) r ++ (ev1 r l[i] ++ project (l.drop (i + 1)) r) := by
  conv => lhs; rw [hl, project_app, project_cons]
 rw [h1, eraseIdx_eq, project_app]
 by_cases hr : roles l[i] r
 ·have : project (l.take i) r = [] := by
   refine project_nil_of fun y hy => ?_
   have := List.all_eq_true.1 hf y hy
   exact indep_roles.1 this r hr
  rw [this]
  simp
 ·rw [ev1_none hr]
  simp
def First (P : Int -> List Ev) (x : Inter) : Prop := ∀ r, ∃ t, P r = ev1 r x ++ t
theorem first_of_free {l : List Inter} {i : Nat} (hi : i < l.length) (hf : (l.take i).all (indep l[i]) = true) : First (project l) l[i] := fun r => ⟨_, project_free hi hf r⟩
theorem ev1_from (x : Inter) : ∃ t, ev1 x.from_ x = ⟨x.from_, true, x.to, x.label, none⟩ :: t := by
 unfold ev1
 simp
theorem head_role : ∀ (l : List Inter) (r : Int) {e : Ev} {t : List Ev}, project l r = e :: t -> ∃ (i : Nat) (h : i < l.length), roles l[i] r /\ (∀ y ∈ l.take i, ¬ roles y r) /\ ∃ u, ev1 r l[i] = e :: u
 | [], r, e, t, h => by simp [project] at h
 | x :: l, r, e, t, h => by
   by_cases hr : roles x r
   ·refine ⟨0, by simp, hr, by simp, ?_⟩
    rw [project_cons] at h
    have : ∃ e' u, ev1 r x = e' :: u := by
     unfold ev1
     rcases hr with hr | hr
     ·rw [if_pos hr]; exact ⟨_, _, rfl⟩
     ·rw [if_pos hr]
      split
      ·exact ⟨_, _, rfl⟩
      ·exact ⟨_, _, rfl⟩
    obtain ⟨e', u, hu⟩ := this
    rw [hu] at h
    simp only [List.cons_append, List.cons.injEq] at h
    exact ⟨u, by rw [List.getElem_cons_zero, hu, h.1]⟩
   ·rw [project_cons, ev1_none hr, List.nil_append] at h
    obtain ⟨i, hi, h1, h2, h3⟩ := head_role l r h
    refine ⟨i + 1, by simpa using hi, by simpa using h1, ?_, by simpa using h3⟩
    intro y hy
    rw [List.take_succ_cons, List.mem_cons] at hy
    rcases hy with rfl | hy
    ·exact hr
    ·exact h2 y hy
theorem ev1_send {x : Inter} {r p q : Int} {u : List Ev} (h : ev1 r x = ⟨r, true, p, q, none⟩ :: u) : x.from_ = r /\ x.to = p /\ x.label = q := by
 unfold ev1 at h
 by_cases h1 : x.from_ = r
 ·rw [if_pos h1] at h
  simp at h
  exact ⟨h1, h.1.1, h.1.2⟩
 ·rw [if_neg h1] at h
  split at h
  ·simp at h
  ·simp at h
theorem ev1_recv {x : Inter} {r p q : Int} {u : List Ev} (h : ev1 r x = ⟨r, false, p, q, none⟩ :: u) : x.from_ ≠ r /\ x.to = r /\ x.from_ = p /\ x.label = q := by
 unfold ev1 at h
 by_cases h1 : x.from_ = r
 ·rw [if_pos h1] at h
  simp at h
 ·rw [if_neg h1] at h
  split at h
  ·rename_i h2
   simp at h
   exact ⟨h1, h2, h.1.1, h.1.2⟩
  ·simp at h
theorem free_of_first {l : List Inter} {x : Inter} (h : First (project l) x) : ∃ (i : Nat) (hi : i < l.length), l[i] = x /\ (l.take i).all (indep l[i]) = true := by
 obtain ⟨t0, ht0⟩ := ev1_from x
 obtain ⟨t, ht⟩ := h x.from_
 rw [ht0, List.cons_append] at ht
 obtain ⟨i, hi, h1, h2, u, hu⟩ := head_role l x.from_ ht
 obtain ⟨g1, g2, g3⟩ := ev1_send hu
 have hx : l[i] = x := by cases hl : l[i]; cases x; simp_all
 refine ⟨i, hi, hx, ?_⟩
 rw [List.all_eq_true]
 intro y hy
 rw [hx, indep_roles]
 rintro r (rfl | rfl) hry
 ·exact h2 y hy hry
 ·-- the receiver
  by_cases hft : x.from_ = x.to
  ·exact h2 y hy (hft ▸ hry)
  ·obtain ⟨t2, ht2⟩ := h x.to
   have hev : ev1 x.to x = [⟨x.to, false, x.from_, x.label, none⟩] := by
    unfold ev1
    rw [if_neg hft, if_pos rfl]
    rfl
   rw [hev] at ht2
   obtain ⟨j, hj, k1, k2, u2, hu2⟩ := head_role l x.to ht2
   obtain ⟨g4, g5, g6, g7⟩ := ev1_recv hu2
   have hij : ¬ j < i := fun hlt => by
    have hm : l[j] ∈ l.take i := by
     rw [List.mem_iff_getElem]
     exact ⟨j, by simp; omega, by simp⟩
    exact h2 _ hm (.inl g6)
   have hm : y ∈ l.take j := by
    obtain ⟨k, hk, hky⟩ := List.mem_iff_getElem.1 hy
    simp only [List.length_take] at hk
    rw [List.mem_iff_getElem]
    refine ⟨k, by simp; omega, ?_⟩
    rw [<- hky]
    simp
   exact k2 y hm hry
/-! The order. -/
theorem less_irrefl (x : Inter) : less x x = false := by simp [less]
theorem less_iff (x y : Inter) : less x y = true ↔ x.from_ < y.from_ \/ (x.from_ = y.from_ /\ (x.to < y.to \/ (x.to = y.to /\ x.label < y.label))) := by
 unfold less
 split
 ·simp; omega
 ·split
  ·simp; omega
  ·simp; omega
theorem less_total {x y : Inter} (h : x ≠ y) : less x y = true \/ less y x = true := by
 rw [less_iff, less_iff]
 have : ¬ (x.from_ = y.from_ /\ x.to = y.to /\ x.label = y.label) := by
  rintro ⟨h1, h2, h3⟩
  exact h (by cases x; cases y; simp_all)
 omega
theorem less_trans {x y z : Inter} (h : less x y = true) (g : less y z = true) : less x z = true := by
 rw [less_iff] at *
 omega
/-! The best free letter. -/
theorem bestStep_eqT {l : List Inter} {b i : Nat} (hi : i < l.length) (hb : b < l.length) : bestStep l b i = if (l.take i).all (indep l[i]) && less l[i] l[b] then i else b := by
 unfold bestStep freeAt
 rw [List.getElem?_eq_getElem hi, List.getElem?_eq_getElem hb]
 simp only [lt_less]
theorem bestTo_inv {l : List Inter} (hl : 0 < l.length) : ∀ (k : Nat), k <= l.length -> (l.take (bestTo l k)).all (indep (l[bestTo l k]'(bestTo_lt hl k))) = true /\
  ∀ (j : Nat) (h : j < l.length), j < k -> (l.take j).all (indep l[j]) = true -> less l[j] (l[bestTo l k]'(bestTo_lt hl k)) = false
 | 0, _ => by
   have : bestTo l 0 = 0 := rfl
   simp [this]
 | k + 1, hk => by
   obtain ⟨h1, h2⟩ := bestTo_inv hl k (by omega)
   have hb := bestTo_lt hl k
   have hs := bestTo_succ l k
   rw [bestStep_eqT (by omega) hb] at hs
   by_cases hc : ((l.take k).all (indep (l[k]'(by omega))) && less (l[k]'(by omega)) l[bestTo l k]) = true
   ·rw [if_pos hc] at hs
    simp only [Bool.and_eq_true] at hc
    have e : l[bestTo l (k + 1)]'(bestTo_lt hl (k + 1)) = l[k]'(by omega) := by simp only [hs]
    rw [e]
    refine ⟨by rw [hs]; exact hc.1, fun j hj hjk hf => ?_⟩
    by_cases hjk' : j = k
    ·subst hjk'; exact less_irrefl _
    ·have h3 := h2 j hj (by omega) hf
     rw [Bool.eq_false_iff]
     intro h4
     have := less_trans h4 hc.2
     rw [h3] at this
     cases this
   ·rw [if_neg hc] at hs
    have e : l[bestTo l (k + 1)]'(bestTo_lt hl (k + 1)) = l[bestTo l k] := by simp only [hs]
    rw [e]
    refine ⟨by rw [hs]; exact h1, fun j hj hjk hf => ?_⟩
    by_cases hjk' : j = k
    ·subst hjk'
     rw [hf, Bool.true_and, Bool.not_eq_true] at hc
     exact hc
    ·exact h2 j hj (by omega) hf
theorem best_lt {l : List Inter} (hl : 0 < l.length) : best l < l.length := bestTo_lt hl _
theorem best_first {l : List Inter} (hl : 0 < l.length) : First (project l) (l[best l]'(best_lt hl)) /\ ∀ y, First (project l) y -> less y (l[best l]'(best_lt hl)) = false := by
 obtain ⟨h1, h2⟩ := bestTo_inv hl l.length (Nat.le_refl _)
 refine ⟨first_of_free _ h1, fun y hy => ?_⟩
 obtain ⟨i, hi, hx, hf⟩ := free_of_first hy
 have := h2 i hi hi hf
 rw [hx] at this
 exact this
theorem best_unique {P : Int -> List Ev} {x y : Inter} (hx : First P x) (hy : First P y) (h1 : ∀ z, First P z -> less z x = false) (h2 : ∀ z, First P z -> less z y = false) : x = y := by
 by_cases e : x = y
 ·exact e
 ·rcases less_total e with h | h
  ·rw [h2 x hx] at h; cases h
  ·rw [h1 y hy] at h; cases h
theorem project_best {l : List Inter} (hl : 0 < l.length) (r : Int) : project l r = ev1 r (l[best l]'(best_lt hl)) ++ project (l.eraseIdx (best l)) r :=
 project_free (best_lt hl) (bestTo_inv hl l.length (Nat.le_refl _)).1 r
theorem erase_len {l : List Inter} (hl : 0 < l.length) : (l.eraseIdx (best l)).length + 1 = l.length := by
 rw [List.length_eraseIdx, if_pos (best_lt hl)]
 omega
theorem project_role {l : List Inter} {r : Int} : ∀ e ∈ project l r, e.role = r := by
 intro e he
 unfold project at he
 obtain ⟨y, _, hy⟩ := List.mem_flatMap.1 he
 unfold ev1 at hy
 rcases List.mem_append.1 hy with hy | hy
 ·split at hy
  ·simp only [List.mem_singleton] at hy; rw [hy]
  ·cases hy
 ·split at hy
  ·simp only [List.mem_singleton] at hy; rw [hy]
  ·cases hy
theorem okI_iff (x : Inter) : okI x = true ↔ 0 <= x.from_ /\ x.from_ < 6 /\ 0 <= x.to /\ x.to < 6 /\ x.from_ ≠ x.to := by
 simp only [okI, Bool.and_eq_true, decide_eq_true_eq]
 constructor
 ·rintro ⟨⟨⟨⟨h1, h2⟩, h3⟩, h4⟩, h5⟩; exact ⟨h1, h2, h3, h4, h5⟩
 ·rintro ⟨h1, h2, h3, h4, h5⟩; exact ⟨⟨⟨⟨h1, h2⟩, h3⟩, h4⟩, h5⟩
theorem hists_get (l : List Inter) {i n : Nat} (h : i < n) : (hists l n)[i]? = some (project l i) := by
 simp [hists, h]
theorem hists_getE (l : List Inter) {i n : Nat} (h : i < (hists l n).length) : (hists l n)[i] = project l i := by
 simp [hists]
theorem hists_ok {l : List Inter} (h : ∀ x ∈ l, okI x = true) : okR (hists l 6) := by
 intro i hi
 rw [hists_getE, hists_len]
 rw [hists_len] at hi
 unfold okH
 rw [List.all_eq_true]
 intro e he
 have hr := project_role e he
 unfold project at he
 obtain ⟨y, hy, he⟩ := List.mem_flatMap.1 he
 have hok := (okI_iff y).1 (h y hy)
 unfold ev1 at he
 simp only [okE, Bool.and_eq_true, decide_eq_true_eq]
 rcases List.mem_append.1 he with he | he
 ·split at he
  ·rename_i h1
   simp only [List.mem_singleton] at he
   subst he
   simp only at *
   refine ⟨⟨⟨?_, ?_⟩, ?_⟩, ?_⟩ <;> first | trivial | omega
  ·cases he
 ·split at he
  ·rename_i h1
   simp only [List.mem_singleton] at he
   subst he
   simp only at *
   refine ⟨⟨⟨?_, ?_⟩, ?_⟩, ?_⟩ <;> first | trivial | omega
  ·cases he
theorem ev1_len2 (x : Inter) (r : Int) : (ev1 r x).length = (if x.from_ = r then 1 else 0) + (if x.to = r then 1 else 0) := by
 unfold ev1
 split <;> split <;> rfl
theorem six_m (a : Int) (h0 : 0 <= a) (h6 : a < 6) : a = 0 \/ a = 1 \/ a = 2 \/ a = 3 \/ a = 4 \/ a = 5 := by omega
theorem hists_total : ∀ {l : List Inter}, (∀ x ∈ l, okI x = true) -> total (hists l 6) = 2 * l.length
 | [], _ => by simp [hists, total, project, List.range_succ]
 | x :: l, h => by
   have ih := hists_total (l := l) fun y hy => h y (by simp [hy])
   obtain ⟨h1, h2, h3, h4, _⟩ := (okI_iff x).1 (h x (by simp))
   simp only [hists, total, List.range_succ, List.range_zero, List.nil_append, List.cons_append, List.map_cons, List.map_nil, List.sum_cons, List.sum_nil, project_cons, List.length_append, ev1_len2, List.length_cons] at ih ⊢
   have g1 := six_m _ h1 h2
   have g2 := six_m _ h3 h4
   simp only [show ((0 : Nat) : Int) = 0 from rfl, show ((1 : Nat) : Int) = 1 from rfl, show ((2 : Nat) : Int) = 2 from rfl, show ((3 : Nat) : Int) = 3 from rfl, show ((4 : Nat) : Int) = 4 from rfl, show ((5 : Nat) : Int) = 5 from rfl] at ih ⊢
   rcases g1 with g | g | g | g | g | g <;> rw [g] <;> rcases g2 with k | k | k | k | k | k <;> rw [k] <;> simp <;> omega
theorem ev1_send_eq {x : Inter} (h : x.from_ ≠ x.to) : ev1 x.from_ x = [⟨x.from_, true, x.to, x.label, none⟩] := by
 unfold ev1
 rw [if_pos rfl, if_neg (fun e => h e.symm)]
 rfl
theorem ev1_recv_eq {x : Inter} (h : x.from_ ≠ x.to) : ev1 x.to x = [⟨x.to, false, x.from_, x.label, none⟩] := by
 unfold ev1
 rw [if_neg h, if_pos rfl]
 rfl
theorem ev_eta (e : Ev) {r : Int} {s : Bool} {p q : Int} (h1 : e.role = r) (h2 : e.send = s) (h3 : e.peer = p) (h4 : e.label = q) (h5 : e.vals = none) : e = ⟨r, s, p, q, none⟩ := by
 cases e
 simp_all
theorem cand_first {l : List Inter} (h : ∀ x ∈ l, okI x = true) {i : Nat} (hi : i < 6) {a : Inter} : cand (hists l 6) i = some a ↔ First (project l) a /\ a.from_ = i := by
 have hR := hists_ok h
 constructor
 ·intro hc
  unfold cand at hc
  rw [hists_get l hi] at hc
  split at hc
  ·rename_i x tx hx
   injection hx with hx
   have hxm : x ∈ project l i := by rw [hx]; simp
   have hxr := project_role x hxm
   have hxv := project_vals l i x hxm
   have hiR : i < (hists l 6).length := by rw [hists_len]; exact hi
   have hxe : (hists l 6)[i] = x :: tx := by rw [hists_getE]; exact hx
   obtain ⟨k1, k2, k3, k4⟩ := okR_head hR hiR hxe
   rw [hists_len] at k4
   split at hc
   ·rename_i hs
    have hp6 : x.peer.toNat < 6 := by omega
    rw [hists_get l hp6] at hc
    split at hc
    ·rename_i y ty hy
     injection hy with hy
     have hpp : ((x.peer.toNat : Nat) : Int) = x.peer := by omega
     rw [hpp] at hy
     have hym : y ∈ project l x.peer := by rw [hy]; simp
     have hyr := project_role y hym
     have hyv := project_vals l x.peer y hym
     split at hc
     ·rename_i hcond
      injection hc with hc
      subst hc
      have hne : x.role ≠ x.peer := by omega
      have ex : x = ⟨x.role, true, x.peer, x.label, none⟩ := ev_eta x rfl hs rfl rfl hxv
      have ey : y = ⟨x.peer, false, x.role, x.label, none⟩ := ev_eta y hyr hcond.1 hcond.2.1 hcond.2.2 hyv
      refine ⟨fun r => ?_, by simp only; omega⟩
      by_cases h1 : r = x.role
      ·subst h1
       have := ev1_send_eq (x := ⟨x.role, x.peer, x.label⟩) hne
       simp only at this
       rw [this]
       refine ⟨tx, ?_⟩
       rw [<- ex, hxr]
       exact hx
      ·by_cases h2 : r = x.peer
       ·subst h2
        have := ev1_recv_eq (x := ⟨x.role, x.peer, x.label⟩) hne
        simp only at this
        rw [this]
        refine ⟨ty, ?_⟩
        rw [<- ey]
        exact hy
       ·rw [ev1_none (fun hr => hr.elim (fun e => h1 e.symm) (fun e => h2 e.symm))]
        exact ⟨_, rfl⟩
     ·cases hc
    ·cases hc
   ·cases hc
  ·cases hc
 ·rintro ⟨hf, ha⟩
  obtain ⟨j, hj, hjx, _⟩ := free_of_first hf
  have hok := (okI_iff a).1 (h a (by rw [<- hjx]; exact List.getElem_mem hj))
  obtain ⟨tx, hx⟩ := hf a.from_
  obtain ⟨ty, hy⟩ := hf a.to
  rw [ev1_send_eq hok.2.2.2.2] at hx
  rw [ev1_recv_eq hok.2.2.2.2] at hy
  have hp6 : a.to.toNat < 6 := by omega
  have hpp : ((a.to.toNat : Nat) : Int) = a.to := by omega
  unfold cand
  rw [hists_get l hi, <- ha, hx]
  simp only [List.cons_append, List.nil_append, if_true]
  rw [hists_get l hp6, hpp, hy]
  simp
theorem bestM_inv {R : List (List Ev)} : ∀ (k : Nat), (∀ a, bestM R k = some a -> (∃ i, i < k /\ cand R i = some a) /\ ∀ j b, j < k -> cand R j = some b -> less b a = false) /\ (bestM R k = none -> ∀ j, j < k -> cand R j = none)
 | 0 => ⟨fun a h => by simp [bestM] at h, fun _ j hj => by omega⟩
 | k + 1 => by
   obtain ⟨h1, h2⟩ := bestM_inv (R := R) k
   cases hc : cand R k with
   | none =>
     have e : bestM R (k + 1) = bestM R k := by simp [bestM, hc]
     rw [e]
     refine ⟨fun a ha => ?_, fun hn j hj => ?_⟩
     ·obtain ⟨⟨i, hi, hci⟩, g⟩ := h1 a ha
      refine ⟨⟨i, by omega, hci⟩, fun j b hj hb => ?_⟩
      by_cases hjk : j = k
      ·subst hjk; rw [hc] at hb; cases hb
      ·exact g j b (by omega) hb
     ·by_cases hjk : j = k
      ·subst hjk; exact hc
      ·exact h2 hn j (by omega)
   | some c =>
     have e : bestM R (k + 1) = better (bestM R k) c := by simp [bestM, hc]
     rw [e]
     cases hb : bestM R k with
     | none =>
       simp only [better]
       refine ⟨fun a ha => ?_, fun hn => by cases hn⟩
       injection ha with ha
       subst ha
       refine ⟨⟨k, by omega, hc⟩, fun j b hj hcb => ?_⟩
       by_cases hjk : j = k
       ·subst hjk; rw [hc] at hcb; injection hcb with hcb; rw [hcb]; exact less_irrefl _
       ·rw [h2 hb j (by omega)] at hcb; cases hcb
     | some b0 =>
       obtain ⟨⟨i, hi, hci⟩, g⟩ := h1 b0 hb
       simp only [better, lt_less]
       by_cases hl : less c b0 = true
       ·rw [if_pos hl]
        refine ⟨fun a ha => ?_, fun hn => by cases hn⟩
        injection ha with ha
        subst ha
        refine ⟨⟨k, by omega, hc⟩, fun j b hj hcb => ?_⟩
        by_cases hjk : j = k
        ·subst hjk; rw [hc] at hcb; injection hcb with hcb; rw [hcb]; exact less_irrefl _
        ·rw [Bool.eq_false_iff]
         intro h3
         have := less_trans h3 hl
         rw [g j b (by omega) hcb] at this
         cases this
       ·rw [if_neg hl]
        refine ⟨fun a ha => ?_, fun hn => by cases hn⟩
        injection ha with ha
        subst ha
        refine ⟨⟨i, by omega, hci⟩, fun j b hj hcb => ?_⟩
        by_cases hjk : j = k
        ·subst hjk; rw [hc] at hcb; injection hcb with hcb; rw [<- hcb]; simpa using hl
        ·exact g j b (by omega) hcb
theorem bestM_best {l : List Inter} (h : ∀ x ∈ l, okI x = true) (hl : 0 < l.length) : bestM (hists l 6) 6 = some (l[best l]'(best_lt hl)) := by
 obtain ⟨b1, b2⟩ := best_first hl
 have hok := (okI_iff _).1 (h _ (List.getElem_mem (best_lt hl)))
 obtain ⟨g1, g2⟩ := bestM_inv (R := hists l 6) 6
 have hi : (l[best l]'(best_lt hl)).from_.toNat < 6 := by omega
 have hc : cand (hists l 6) (l[best l]'(best_lt hl)).from_.toNat = some (l[best l]'(best_lt hl)) := (cand_first h hi).2 ⟨b1, by omega⟩
 cases hb : bestM (hists l 6) 6 with
 | none => rw [g2 hb _ hi] at hc; cases hc
 | some a =>
   obtain ⟨⟨i, hi', hci⟩, g⟩ := g1 a hb
   obtain ⟨a1, _⟩ := (cand_first h hi').1 hci
   congr 1
   refine best_unique a1 b1 (fun z hz => ?_) b2
   obtain ⟨j, hj, hjz, _⟩ := free_of_first hz
   have hzok := (okI_iff z).1 (h z (by rw [<- hjz]; exact List.getElem_mem hj))
   have hzi : z.from_.toNat < 6 := by omega
   exact g z.from_.toNat z hzi ((cand_first h hzi).2 ⟨hz, by omega⟩)
theorem stepM_hists {l : List Inter} (h : ∀ x ∈ l, okI x = true) (hl : 0 < l.length) : stepM (hists l 6) (l[best l]'(best_lt hl)) = hists (l.eraseIdx (best l)) 6 := by
 have hok := (okI_iff _).1 (h _ (List.getElem_mem (best_lt hl)))
 have hpb := project_best hl
 generalize l[best l]'(best_lt hl) = x at *
 obtain ⟨h1, h2, h3, h4, h5⟩ := hok
 have hf : ((x.from_.toNat : Nat) : Int) = x.from_ := by omega
 have ht : ((x.to.toNat : Nat) : Int) = x.to := by omega
 unfold stepM
 rw [hists_get l (by omega : x.from_.toNat < 6), hists_get l (by omega : x.to.toNat < 6), hf, ht]
 apply List.ext_getElem
 ·simp [hists]
 ·intro i g1 g2
  rw [hists_len] at g2
  rw [hists_getE, List.getElem_set, List.getElem_set]
  split
  ·rename_i e
   subst e
   rw [ht, Option.getD_some, hpb x.to, ev1_recv_eq h5]
   rfl
  ·rename_i e
   split
   ·rename_i e2
    subst e2
    rw [hf, Option.getD_some, hpb x.from_, ev1_send_eq h5]
    rfl
   ·rename_i e2
    rw [hists_getE, hpb i, ev1_none]
    ·rfl
    ·rintro (e3 | e3)
     ·exact e2 (by omega)
     ·exact e (by omega)
theorem merge_hists : ∀ (n : Nat) (l : List Inter), (∀ x ∈ l, okI x = true) -> l.length = n -> ∀ m, 2 * n <= m -> mergeN m (hists l 6) = some (normal l)
 | 0, l, h, hn, m, _ => by
   have : l = [] := List.eq_nil_of_length_eq_zero hn
   subst this
   have := hists_total h
   rw [mergeN_zero (by simpa using this)]
   rfl
 | n + 1, l, h, hn, m, hm => by
   have hl : 0 < l.length := by omega
   have ht := hists_total h
   have he := erase_len hl
   have hb := bestM_best h hl
   have hlen : (hists l 6).length = 6 := hists_len _ _
   have hb' : bestM (hists l 6) (hists l 6).length = some (l[best l]'(best_lt hl)) := by rw [hlen]; exact hb
   rw [mergeN_some (by omega) (by omega) hb' (hists_ok h), stepM_hists h hl, merge_hists n _ (fun x hx => h x (List.mem_of_mem_eraseIdx hx)) (by omega) _ (by omega), normal_cons (best_lt hl)]
   rfl
theorem merge_histories {l : List Inter} (h : l.all okI = true) : merge (histories l 6) = some (normal l) := by
 have h' : ∀ x ∈ l, okI x = true := List.all_eq_true.1 h
 have e : histories l 6 = hists l 6 := by
  unfold histories
  rw [if_neg (by omega)]
  rfl
 rw [e]
 unfold merge
 have hp : properH (hists l 6) = true := by
  rw [properH_yes (hists_ok h'), hists_len]
  rfl
 rw [if_pos hp, merge_hists _ l h' rfl _ (by rw [hists_total h']; exact Nat.le_refl _)]
end Go.Av

/- Part of a proof. -/
import Derived.Test.YticeobjphcmggaaGreatDoorAvR
import Derived.Test.YticeobjphcmggaaGreatDoorB14
import Derived.Test.YticeobjphcmggaaGreatDoorB11
import Derived.Test.YticeobjphcmggaaGreatDoorB18
import Derived.Test.YticeobjphcmggaaGreatDoorB16
set_option linter.unusedVariables false
set_option linter.unusedSimpArgs false
set_option maxHeartbeats 64000000
set_option maxRecDepth 8000
namespace Go.Av
open Go Go.RowKit Go.Proofs
set_option maxHeartbeats 64000000
def pathE (es : List Edg) : List Inter -> Int -> Option Int
 | [], s => some s
 | a :: ws, s => match nextE es s a with
   | some t => pathE es ws t
   | none => none
def pathG (g : Glob) (ws : List Inter) : RV := nextR (if valid26 g then pathE g.edges ws g.start else none)
theorem pathE_at {es : List Edg} {ws : List Inter} {s : Int} {k : Nat} (h : k < ws.length) : pathE es (ws.drop k) s = match nextE es s ws[k] with | some t => pathE es (ws.drop (k + 1)) t | none => none := by
 rw [List.drop_eq_getElem_cons h]
 rfl
theorem f19 (h109 : H109) (g : Glob) (hs : Small g) (ws : List Inter) (hl : ws.length <= 1000000000000000) : Impl Tryz.prog 19 [.ag (encG g), .one (.sl (ws.map encI))] (pathG g ws) := by
 have c1 := f37 h109 g hs
 have c2 := fun s a => f38 g s a hs
 refine impl_v ?_
 rw [valid_eq] at c1
 simp only [encG] at c1 c2
 unfold pathG
 cases hv : valid26 g with
 | false =>
   rw [hv] at c1
   refine wV encG.eq_1 c1 ?_
   simp [go_sem, nextR]
 | true =>
   rw [hv] at c1
   refine wV encG.eq_1 c1 ?_
   refine z_k (fun n e => ∃ (i : Nat) (s : Int), i + n = ws.length /\ pathE g.edges (ws.drop i) s = pathE g.edges ws g.start /\ e = [(18, .sv (.one (.int .i64 i))), (17, .sv (.one (.int .i64 ws.length))), (16, .sv (.one (.sl (ws.map encI)))), (6, .sv (.one (.int .i64 s))), (2, .sv (.one (.bx (encG g)))), (1, .sv (.one (.sl (ws.map encI))))]) ws.length _ ⟨0, g.start, by simp, by simp, rfl⟩ (by simp [go_sem, encG]) ?_
   rintro n e ⟨i, s, hi, hp, rfl⟩
   by_cases hlt : i < ws.length
   ·obtain ⟨a, ha⟩ : ∃ a, ws[i] = a := ⟨_, rfl⟩
    have hpa := pathE_at (es := g.edges) (s := s) hlt
    rw [ha] at hpa
    have c3 := c2 s a
    simp only [encI] at c3
    cases hnx : nextE g.edges s a with
    | none =>
      rw [hnx] at hpa c3
      have hf : pathE g.edges ws g.start = none := by rw [<- hp, hpa]
      rw [hf]
      simp only [nextR] at c3
      refine wV (aN hlt <| aN ha <| aN encG.eq_1 encI.eq_1) c3 ?_
      simp [go_sem, nextR]
    | some t =>
      rw [hnx] at hpa c3
      simp only [nextR] at c3
      refine wV (aN hlt <| aN ha <| aN encG.eq_1 encI.eq_1) c3 ?_
      refine z_j (n - 1) _ (by omega) ⟨i + 1, t, by omega, by rw [<- hp, hpa], rfl⟩ ?_
      simp [go_sem, encG]
   ·have hie : i = ws.length := by omega
    have hf : pathE g.edges ws g.start = some s := by
     rw [<- hp, hie, List.drop_length]
     rfl
    rw [hf]
    refine wX (aN hlt encG.eq_1) ?_
    simp [go_sem, nextR]
set_option maxHeartbeats 64000000
def Traced (g : Glob) (H : List (List Ev)) (all : List Nd) : Prop := ∀ (j : Nat) n, all[j]? = some n -> (j = 0 /\ n = firstN g H) \/ (∃ p, n.fr.toNat < j /\ all[n.fr.toNat]? = some p /\ stepN g H n.fr.toNat p n.ed = some n /\ n.ed ∈ sortedE g.edges p.st)
theorem step_from {g : Glob} {H : List (List Ev)} {i : Nat} {p q : Nd} {k : Int} (h : stepN g H i p k = some q) : q.fr.toNat = i /\ q.ed = k := by
 unfold stepN at h
 split at h
 ·cases h
 ·split at h
  ·injection h with h
   subst h
   exact ⟨Int.toNat_natCast i, rfl⟩
  ·cases h
theorem addN_traced {g : Glob} {H : List (List Ev)} {i : Nat} {p : Nd} {all : List Nd} {k : Int} (ha : Traced g H all) (hp : all[i]? = some p) (hk : k ∈ sortedE g.edges p.st) : Traced g H (addN g H i p all k) /\ (addN g H i p all k)[i]? = some p := by
 have hi : i < all.length := (List.getElem?_eq_some_iff.1 hp).1
 unfold addN
 split
 ·exact ⟨ha, hp⟩
 ·rename_i q hq
  split
  ·exact ⟨ha, hp⟩
  ·refine ⟨fun j n hj => ?_, by rw [List.getElem?_append_left hi]; exact hp⟩
   rw [List.getElem?_append] at hj
   split at hj
   ·rename_i hjl
    rcases ha j n hj with h | ⟨p', h1, h2, h3, h4⟩
    ·exact .inl h
    ·exact .inr ⟨p', h1, by rw [List.getElem?_append_left (by omega)]; exact h2, h3, h4⟩
   ·rename_i hjl
    have hjz : j - all.length = 0 := by
     cases h : j - all.length with
     | zero => rfl
     | succ z => rw [h] at hj; cases hj
    rw [hjz] at hj
    simp only [List.getElem?_cons_zero, Option.some.injEq] at hj
    subst hj
    obtain ⟨e1, e2⟩ := step_from hq
    refine .inr ⟨p, by omega, ?_, ?_, ?_⟩
    ·rw [e1, List.getElem?_append_left hi]
     exact hp
    ·rw [e1, e2]
     exact hq
    ·rw [e2]
     exact hk
theorem fold_traced {g : Glob} {H : List (List Ev)} {i : Nat} {p : Nd} : ∀ (ks : List Int) {all : List Nd}, (∀ k ∈ ks, k ∈ sortedE g.edges p.st) -> Traced g H all -> all[i]? = some p -> Traced g H (ks.foldl (addN g H i p) all)
 | [], _, _, ha, _ => ha
 | k :: ks, all, hk, ha, hp => by
   obtain ⟨h1, h2⟩ := addN_traced ha hp (hk k (by simp))
   exact fold_traced ks (fun k' h' => hk k' (List.mem_cons_of_mem _ h')) h1 h2
inductive RunN (g : Glob) (H : List (List Ev)) : List Int -> Nd -> Prop
 | nil : RunN g H [] (firstN g H)
 | snoc {L : List Int} {p q : Nd} {k : Int} {i : Nat} : RunN g H L p -> k ∈ sortedE g.edges p.st -> stepN g H i p k = some q -> RunN g H (L ++ [k]) q
theorem back_run {g : Glob} {H : List (List Ev)} {all : List Nd} (ha : Traced g H all) : ∀ (f j : Nat) {n : Nd}, j <= f -> all[j]? = some n -> RunN g H (backN all f j).reverse n
 | f, 0, n, _, hn => by
   rcases ha 0 n hn with h | ⟨p, h1, _⟩
   ·have : backN all f 0 = [] := by cases f <;> rfl
    rw [this, h.2]
    exact .nil
   ·omega
 | 0, j + 1, _, hj, _ => by omega
 | f + 1, j + 1, n, hj, hn => by
   rcases ha (j + 1) n hn with h | ⟨p, h1, h2, h3, h4⟩
   ·omega
   ·simp only [backN, hn, List.reverse_cons]
    exact .snoc (back_run ha f n.fr.toNat (by omega) h2) h4 h3
theorem findL_run {g : Glob} {H : List (List Ev)} : ∀ (f i : Nat) {all : List Nd} {l : List Int} {c : Int}, Traced g H all -> findL g H f i all = (some l, c) -> ∃ n, RunN g H l n /\ n.ps = lensH H
 | 0, _, _, _, _, _, h => by cases h
 | f + 1, i, all, l, c, ha, h => by
   simp only [findL] at h
   split at h
   ·cases h
   ·rename_i p hp
    split at h
    ·cases h
    ·split at h
     ·rename_i hd
      injection h with h1 h2
      injection h1 with h1
      subst h1
      exact ⟨p, back_run ha i i (Nat.le_refl i) hp, hd⟩
     ·exact findL_run f (i + 1) (fold_traced _ (fun _ h => h) ha hp) h
theorem search_run {g : Glob} {H : List (List Ev)} {l : List Int} {c : Int} (h : searchF g H = (some l, c)) : ∃ n, RunN g H l n /\ n.ps = lensH H := by
 unfold searchF at h
 split at h
 ·refine findL_run _ _ (fun j n hj => ?_) h
  cases j with
  | zero =>
    simp only [List.getElem?_cons_zero, Option.some.injEq] at hj
    exact .inl ⟨rfl, hj.symm⟩
  | succ j => cases hj
 ·cases h
theorem next_find (es : List Edg) (s : Int) (a : Inter) : nextE es s a = (es.find? fun x => x.from_ == s && actEq x.act a).map (·.to) := by
 induction es with
 | nil => rfl
 | cons x es ih =>
   simp only [nextE, List.find?_cons]
   by_cases h : x.from_ = s /\ actEq x.act a = true
   ·rw [if_pos h]
    simp [h.1, h.2]
   ·rw [if_neg h, ih]
    have : (x.from_ == s && actEq x.act a) = false := by
     rw [Bool.eq_false_iff]
     intro hc
     simp only [Bool.and_eq_true, beq_iff_eq] at hc
     exact h hc
    rw [this]
theorem next_det {g : Glob} {e : Bool} (ho : orderedB g e = true) {k : Nat} {x : Edg} (hx : g.edges[k]? = some x) : nextE g.edges x.from_ x.act = some x.to := by
 rw [next_find]
 have hself : (x.from_ == x.from_ && actEq x.act x.act) = true := by simp [actEq]
 cases hf : g.edges.find? (fun y => y.from_ == x.from_ && actEq y.act x.act) with
 | none =>
   have := List.find?_eq_none.1 hf x (List.mem_of_getElem? hx)
   simp only [hself, not_true_eq_false] at this
 | some y =>
   have hy := List.find?_some hf
   have hym := List.mem_of_find?_eq_some hf
   obtain ⟨j, hj, hjy⟩ := List.mem_iff_getElem.1 hym
   by_cases hjk : j = k
   ·subst hjk
    rw [List.getElem?_eq_getElem hj] at hx
    have : y = x := by rw [<- hjy]; exact Option.some.inj hx
    rw [this]
    rfl
   ·exfalso
    have hk : k < g.edges.length := (List.getElem?_eq_some_iff.1 hx).1
    unfold orderedB at ho
    have h1 := List.all_eq_true.1 ho j (List.mem_range.2 hj)
    rw [ordAt_get hj, hjy] at h1
    simp only [Bool.and_eq_true] at h1
    have h2 := List.all_eq_true.1 h1.2 k (List.mem_range.2 hk)
    unfold okPr at h2
    rw [hx] at h2
    simp only [Bool.and_eq_true, bad1] at h2 hy
    have : (j == k) = false := by simpa using hjk
    rw [this] at h2
    simp [hy.1, hy.2] at h2
theorem path_snoc (es : List Edg) : ∀ (ws : List Inter) (w : Inter) (s : Int), pathE es (ws ++ [w]) s = match pathE es ws s with | some t => nextE es t w | none => none
 | [], w, s => by
   simp only [List.nil_append, pathE]
   cases nextE es s w <;> rfl
 | v :: ws, w, s => by
   simp only [List.cons_append, pathE]
   cases nextE es s v with
   | none => rfl
   | some t => exact path_snoc es ws w t
theorem run_path {g : Glob} {H : List (List Ev)} {e : Bool} (ho : orderedB g e = true) {L : List Int} {n : Nd} (h : RunN g H L n) : pathE g.edges (L.map (actAt g)) g.start = some n.st := by
 induction h with
 | nil => rfl
 | @snoc L p q k i hr hk hst ih =>
   rw [List.map_append, List.map_cons, List.map_nil, path_snoc, ih]
   obtain ⟨x, hx, h0, hs⟩ := mem_sortedE.1 hk
   have ha : actAt g k = x.act := by
    unfold actAt
    rw [hx]
   have hto : q.st = x.to := by
    unfold stepN at hst
    rw [hx] at hst
    simp only at hst
    split at hst
    ·injection hst with hst
     subst hst
     rfl
    ·cases hst
   rw [ha, hto, <- hs]
   exact next_det ho hx
def fits (h P : List Ev) : Prop := ∀ (j : Nat) a b, P[j]? = some a -> h[j]? = some b -> evSame a b = true
theorem fits_snoc {h P : List Ev} {e : Ev} (hf : fits h P) (he : ∀ b, h[P.length]? = some b -> evSame e b = true) : fits h (P ++ [e]) := by
 intro j a b ha hb
 rw [List.getElem?_append] at ha
 split at ha
 ·exact hf j a b ha hb
 ·rename_i hj
  have hz : j - P.length = 0 := by
   cases hz : j - P.length with
   | zero => rfl
   | succ z => rw [hz] at ha; cases ha
  rw [hz] at ha
  simp only [List.getElem?_cons_zero, Option.some.injEq] at ha
  subst ha
  have : j = P.length := by omega
  subst this
  exact he b hb
theorem pass_fits {h P : List Ev} {r : Int} (hr : ∀ b ∈ h, b.role = r) (hf : fits h P) {s : Bool} {p l : Int} (hok : (passV h (min P.length h.length) s p l).2 = true) : (passV h (min P.length h.length) s p l).1 = min (P.length + 1) h.length /\ fits h (P ++ [⟨r, s, p, l, none⟩]) := by
 by_cases hl : P.length < h.length
 ·have hm : min P.length h.length = P.length := by omega
  rw [hm] at hok ⊢
  rw [passV_at hl rfl] at hok ⊢
  simp only [Bool.and_eq_true, beq_iff_eq] at hok
  refine ⟨by simp only; omega, fits_snoc hf fun b hb => ?_⟩
  rw [List.getElem?_eq_getElem hl] at hb
  injection hb with hb
  subst hb
  have := hr _ (List.getElem_mem hl)
  simp [evSame, this, hok.1, hok.2.1, hok.2.2]
 ·have hm : min P.length h.length = h.length := by omega
  rw [hm, passV_end rfl]
  refine ⟨by simp only; omega, fits_snoc hf fun b hb => ?_⟩
  have := (List.getElem?_eq_some_iff.1 hb).1
  omega
theorem project_snoc (ws : List Inter) (w : Inter) (r : Int) : project (ws ++ [w]) r = project ws r ++ ev1 r w := by
 unfold project
 rw [List.flatMap_append]
 simp
theorem run_fits {g : Glob} {H : List (List Ev)} (hg : goodF g H = true) {L : List Int} {n : Nd} (h : RunN g H L n) : n.ps.length = H.length /\ ∀ r : Nat, r < H.length -> psAt n.ps r = min (project (L.map (actAt g)) r).length (histAt H r).length /\ fits (histAt H r) (project (L.map (actAt g)) r) := by
 have hed := edges_ok hg
 obtain ⟨hn, hlr, h6, hpp⟩ := valid_roles hg
 obtain ⟨_, _, _, _, _, _, n7⟩ := numbered_facts hn
 have hroles : ∀ r : Nat, r < H.length -> ∀ b ∈ histAt H r, b.role = (r : Int) := by
  intro r hr b hb
  unfold properH at hpp
  simp only [Bool.and_eq_true, List.all_eq_true, List.mem_range] at hpp
  have := hpp.1 r hr
  unfold okH at this
  have h1 := List.all_eq_true.1 this b (by unfold histAt at hb; rw [Int.toNat_natCast] at hb; exact hb)
  simp only [okE, Bool.and_eq_true, decide_eq_true_eq] at h1
  exact h1.1.1.1
 induction h with
 | nil =>
   refine ⟨by simp [firstN], fun r hr => ⟨?_, fun j a b ha => by cases ha⟩⟩
   unfold psAt firstN
   simp only [Int.toNat_natCast, List.map_nil]
   rw [List.getElem?_replicate, if_pos hr]
   simp [project]
 | @snoc L p q k i hrun hk hst ih =>
   obtain ⟨hpl, ihr⟩ := ih
   obtain ⟨x, hx, h0, hs⟩ := mem_sortedE.1 hk
   have hxm := List.mem_of_getElem? hx
   obtain ⟨e1, e2, e3, e4, e5, e6⟩ := hed x hxm
   have hne : x.act.from_ ≠ x.act.to := by
    have := n7 x hxm
    simp only [okEdge, Bool.and_eq_true, decide_eq_true_eq] at this
    omega
   have ha : actAt g k = x.act := by
    unfold actAt
    rw [hx]
   unfold stepN at hst
   rw [hx] at hst
   simp only at hst
   split at hst
   rotate_left
   ·cases hst
   rename_i hok
   simp only [Bool.and_eq_true] at hok
   injection hst with hst
   subst hst
   refine ⟨by simp [hpl], fun r hr => ?_⟩
   obtain ⟨i1, i2⟩ := ihr r hr
   rw [List.map_append, List.map_cons, List.map_nil, project_snoc, ha]
   rw [psAt_set (Int.natCast_nonneg r) e5 (by rw [List.length_set]; omega)]
   by_cases h1 : (r : Int) = x.act.to
   ·rw [if_pos h1]
    have hev : ev1 (r : Int) x.act = [⟨r, false, x.act.from_, x.act.label, none⟩] := by
     unfold ev1
     rw [if_neg (by omega), if_pos h1.symm]
     rfl
    have hok2 := hok.2
    rw [<- h1] at hok2 ⊢
    rw [i1] at hok2 ⊢
    obtain ⟨j1, j2⟩ := pass_fits (hroles r hr) i2 hok2
    rw [hev]
    refine ⟨?_, j2⟩
    rw [j1]
    simp
   ·rw [if_neg h1, psAt_set (Int.natCast_nonneg r) e3 (by omega)]
    by_cases h2 : (r : Int) = x.act.from_
    ·rw [if_pos h2]
     have hev : ev1 (r : Int) x.act = [⟨r, true, x.act.to, x.act.label, none⟩] := by
      unfold ev1
      rw [if_pos h2.symm, if_neg (by omega)]
      rfl
     have hok1 := hok.1
     rw [<- h2] at hok1 ⊢
     rw [i1] at hok1 ⊢
     obtain ⟨j1, j2⟩ := pass_fits (hroles r hr) i2 hok1
     rw [hev]
     refine ⟨?_, j2⟩
     rw [j1]
     simp
    ·rw [if_neg h2]
     have hev : ev1 (r : Int) x.act = [] := by
      unfold ev1
      rw [if_neg (fun h => h2 h.symm), if_neg (fun h => h1 h.symm)]
      rfl
     rw [hev, List.append_nil]
     exact ⟨i1, i2⟩
theorem fits_same {h P : List Ev} (hf : fits h P) (hl : h.length <= P.length) : evsSame (P.take h.length) h = true := by
 unfold evsSame
 simp only [Bool.and_eq_true, decide_eq_true_eq, List.all_eq_true]
 refine ⟨by simp; omega, fun x hx => ?_⟩
 obtain ⟨j, hj, rfl⟩ := List.mem_iff_getElem.1 hx
 simp only [List.length_zip, List.length_take] at hj
 have h1 : j < P.length := by omega
 have h2 : j < h.length := by omega
 simp only [List.getElem_zip, List.getElem_take]
 exact hf j _ _ (List.getElem?_eq_getElem h1) (List.getElem?_eq_getElem h2)
theorem findL_zero {g : Glob} {H : List (List Ev)} : ∀ (f i : Nat) (all : List Nd), findL g H f i all ≠ (none, 0)
 | 0, _, _ => by simp [findL]
 | f + 1, i, all => by
   simp only [findL]
   split
   ·simp
   ·split
    ·simp
    ·split
     ·simp
     ·exact findL_zero f (i + 1) _
theorem search_zero {g : Glob} {H : List (List Ev)} (h : searchF g H = (none, 0)) : False := by
 unfold searchF at h
 split at h
 ·exact findL_zero _ _ _ h
 ·simp at h
theorem found_ok {g : Glob} {H : List (List Ev)} {l : List Int} {c : Int} (h : searchF g H = (some l, c)) : (∃ t, pathE g.edges (l.map (actAt g)) g.start = some t) /\ valid26 g = true /\ ∀ r : Nat, r < H.length -> (histAt H r).length <= (project (l.map (actAt g)) r).length /\ evsSame ((project (l.map (actAt g)) r).take (histAt H r).length) (histAt H r) = true := by
 have hg : goodF g H = true := by
  cases hg : goodF g H with
  | true => rfl
  | false =>
    unfold searchF at h
    rw [hg] at h
    simp at h
 have hv : valid29 g = true := by
  unfold goodF at hg
  simp only [Bool.and_eq_true] at hg
  exact hg.1.1
 obtain ⟨n, hn, hd⟩ := search_run h
 have ho : orderedB g true = true := by
  have := hv
  unfold valid29 at this
  simp only [Bool.and_eq_true] at this
  exact this.1.1.1.2
 refine ⟨⟨n.st, run_path ho hn⟩, by rw [<- valid_eq]; exact hv, fun r hr => ?_⟩
 obtain ⟨i1, i2⟩ := (run_fits hg hn).2 r hr
 have hps : psAt n.ps r = (histAt H r).length := by
  rw [hd]
  unfold psAt histAt lensH
  rw [Int.toNat_natCast, List.getElem?_map, List.getElem?_eq_getElem hr]
  rfl
 have hle : (histAt H r).length <= (project (l.map (actAt g)) r).length := by omega
 exact ⟨hle, fits_same i2 hle⟩
set_option maxHeartbeats 64000000
theorem f6 (h109 : H109) (g : Glob) (H : List (List Ev)) (hg : GlobA g) (hH : HistA H) : Impl Tryz.prog 6 [.ag (encG g), .one (.sl (H.map encH))] (.one (.one (.bool true))) := by
 have k9 := f9 h109
 have k10 := f10 g H 12 hg.1 (fun d hd => (hg.2 d hd).2) hH.1 hH.2
 simp only [encG] at k10
 refine impl_v ?_
 cases hf : fewF g H 12 with
 | false =>
   rw [hf] at k10
   refine wV encG.eq_1 (aN k9 k10) ?_
   simp [go_sem]
 | true =>
   rw [hf] at k10
   obtain ⟨f1, f2, f3⟩ := few_facts hf
   have sg := few_small f1 fun d hd => (hg.2 d hd).1
   have hl : H.length <= 1000000 := by omega
   have hh : ∀ l ∈ H, l.length <= 1000000 := fun l hl' => by have := sumH_mem hl'; omega
   have k11 := f11 h109 g H sg hl hh
   obtain ⟨⟨o, c⟩, hv⟩ : ∃ v, searchF g H = v := ⟨_, rfl⟩
   cases o with
   | none =>
     have hc : c ≠ 0 := by
      intro h
      subst h
      exact search_zero hv
     rw [hv] at k11
     simp only [actsF, List.map_nil, encG] at k11
     refine wV (aN encG.eq_1 hc) (aN k9 <| aN k10 k11) ?_
     all_goals simp [go_sem]
   | some l =>
     obtain ⟨s1, s2, s3⟩ := search_ok hv
     obtain ⟨⟨t, g1⟩, g2, g3⟩ := found_ok hv
     obtain ⟨W, hW⟩ : ∃ W, l.map (actAt g) = W := ⟨_, rfl⟩
     have hWl : W.length <= 20000 := by
      rw [<- hW]
      simp
      omega
     rw [hv] at k11
     simp only [actsF] at k11
     rw [hW] at k11 g1 g3
     have k19 := f19 h109 g sg W (by omega)
     unfold pathG at k19
     rw [if_pos g2, g1] at k19
     have k20 := fun r => f20 W r (by omega)
     subst s3
     simp only [nextR, Option.getD, Option.isSome, encG] at k11 k19
     refine wV encG.eq_1 (aN k9 <| aN k10 <| aN k11 k19) ?_
     refine z_k (fun n e => ∃ k : Nat, k + n = H.length /\ e = [(41, .sv (.one (.int .i64 k))), (40, .sv (.one (.int .i64 H.length))), (5, .sv (.one (.ow 3 (W.map encI)))), (4, .sv (.one (.bool false))), (1, .sv (.one (.sl (H.map encH))))]) H.length _ ⟨0, by simp, rfl⟩ (by simp [go_sem]) ?_
     rintro n e ⟨k, hk, rfl⟩
     by_cases hlt : k < H.length
     ·obtain ⟨g4, g5⟩ := g3 k hlt
      have hat : histAt H (k : Nat) = H[k] := by
       unfold histAt
       rw [Int.toNat_natCast, List.getElem?_eq_getElem hlt]
       rfl
      rw [hat] at g4 g5
      have hkl := hh _ (List.getElem_mem hlt)
      have k20k := k20 (k : Int)
      obtain ⟨P, hP⟩ : ∃ P, project W (k : Int) = P := ⟨_, rfl⟩
      rw [hP] at k20k g4 g5
      have k16 := f16 (P.take H[k].length) H[k] (by simp; omega) hkl
      rw [g5, List.map_take] at k16
      have hclo : clo (P.map encE) ↔ True := by rw [<- hP, clo_project]
      have hel : ∀ a : Ev, (encE a).length = 5 := fun _ => rfl
      have hpl : P.length <= 1000000 := by
       have := project_len (k : Int) W
       rw [hP] at this
       omega
      repeat' first | refine St.go ?_ | ((with_reducible refine cn ?_ ?_) <;> intro h <;> (try simp at h) <;> try omega) | (refine Ru.go ?_; intro K hK; simp [go_sem, hlt, encH, g4, hclo, hel]; (try simp (disch := omega) only [wx, z_i]); (first | apply hK | ((first | ((try refine .inl ?_); refine ⟨_, by (try intro hc); (repeat' first | exact k20k | exact k16 | exact hc | refine And.intro ?_ ?_ | simp [go_sem, hlt, encH, g4, hclo, hel]); first | done | omega, ?_⟩) | refine .inr (.inl ⟨_, by (try intro hc); (repeat' first | exact k20k | exact k16 | exact hc | refine And.intro ?_ ?_ | simp [go_sem, hlt, encH, g4, hclo, hel]); first | done | omega, ?_⟩) | refine .inr (.inr ⟨_, by (try intro hc); (repeat' first | exact k20k | exact k16 | exact hc | refine And.intro ?_ ?_ | simp [go_sem, hlt, encH, g4, hclo, hel]); first | done | omega, ?_⟩)); first | apply hK | (refine ⟨by simp [go_sem, hlt, encH, g4, hclo, hel], ?_⟩; first | apply hK | refine ⟨by simp [go_sem, hlt, encH, g4, hclo, hel], hK _ _ ?_⟩)) | refine ⟨.one (.one (.bool false)), by simp [go_sem, hlt, encH, g4, hclo, hel], hK _ _ ?_⟩ | refine ⟨by first | omega | (simp [z_f, z_g, hlt, encH, g4, hclo, hel]; first | done | omega), ?_⟩ | refine ⟨hK _ ?_, fun h => ?_⟩ | refine ⟨?_, ?_⟩); all_goals ((try apply hK); clear hK K))
      refine z_j (n - 1) _ (by omega) ⟨k + 1, by omega, rfl⟩ ?_
      simp [go_sem]
     ·refine wX hlt ?_
      simp [go_sem]
end Go.Av

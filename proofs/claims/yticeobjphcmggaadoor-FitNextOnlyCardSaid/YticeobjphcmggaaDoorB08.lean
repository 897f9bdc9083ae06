/- Part of a proof. -/
import Derived.Test.YticeobjphcmggaaDoorAvR
import Derived.Test.YticeobjphcmggaaDoorB07
import Derived.Test.YticeobjphcmggaaDoorB02
import Derived.Test.YticeobjphcmggaaDoorB04
import Derived.Test.YticeobjphcmggaaDoorB01
set_option linter.unusedVariables false
set_option linter.unusedSimpArgs false
set_option maxHeartbeats 64000000
set_option maxRecDepth 8000
namespace Go.Av
open Go Go.RowKit Go.Proofs
set_option maxHeartbeats 64000000
def edgeOk (g : Glob) (k : Int) : Prop := 0 <= k /\ k.toNat < g.edges.length
theorem backN_ok {g : Glob} {H : List (List Ev)} {all : List Nd} (h : AllOk g H all) : ∀ (f i : Nat), ∀ k ∈ backN all f i, edgeOk g k
 | 0, _, k, hk => by cases hk
 | f + 1, 0, k, hk => by cases hk
 | f + 1, i + 1, k, hk => by
   simp only [backN] at hk
   split at hk
   ·rename_i n hn
    have ho := (h (i + 1) n hn).fr1 (by omega)
    rcases List.mem_cons.1 hk with rfl | hk
    ·exact ⟨ho.2.2.1, ho.2.2.2⟩
    ·exact backN_ok h f _ k hk
   ·cases hk
theorem backN_len {all : List Nd} : ∀ (f i : Nat), (backN all f i).length <= f
 | 0, _ => Nat.le_refl _
 | f + 1, 0 => Nat.zero_le _
 | f + 1, i + 1 => by
   simp only [backN]
   split
   ·rw [List.length_cons]
    have := backN_len (all := all) f
    exact Nat.succ_le_succ (this _)
   ·exact Nat.zero_le _
theorem fold_ok {g : Glob} {H : List (List Ev)} (he : EdOk g H) {i : Nat} {p : Nd} (hp : NdOk g H i p) : ∀ (ks : List Int) {all : List Nd}, (∀ k ∈ ks, 0 <= k) -> AllOk g H all -> i < all.length -> AllOk g H (ks.foldl (addN g H i p) all)
 | [], all, _, ha, _ => ha
 | k :: ks, all, hk, ha, hi => by
   obtain ⟨h1, h2, _⟩ := addN_ok he ha hp hi (hk k (by simp))
   exact fold_ok he hp ks (fun k hk' => hk k (List.mem_cons_of_mem _ hk')) h1 (by omega)
theorem sorted_pos {g : Glob} {s : Int} : ∀ k ∈ sortedE g.edges s, 0 <= k := fun k hk => by
 obtain ⟨x, _, h0, _⟩ := mem_sortedE.1 hk
 exact h0
theorem findL_ok {g : Glob} {H : List (List Ev)} (he : EdOk g H) : ∀ (f i : Nat) {all : List Nd} {l : List Int} {c : Int}, f + i = 20001 -> AllOk g H all -> findL g H f i all = (some l, c) -> (∀ k ∈ l, edgeOk g k) /\ l.length <= 20000 /\ c = 0
 | 0, i, all, l, c, _, ha, h => by cases h
 | f + 1, i, all, l, c, hfi, ha, h => by
   simp only [findL] at h
   split at h
   ·cases h
   ·rename_i p hp
    split at h
    ·cases h
    ·split at h
     ·simp only [Prod.mk.injEq, Option.some.injEq] at h
      obtain ⟨rfl, rfl⟩ := h
      refine ⟨fun k hk => backN_ok ha i i k (List.mem_reverse.1 hk), ?_, rfl⟩
      rw [List.length_reverse]
      have := backN_len (all := all) i i
      omega
     ·exact findL_ok he f (i + 1) (by omega) (fold_ok he (ha i p hp) _ sorted_pos ha (List.getElem?_eq_some_iff.1 hp).1) h
theorem search_ok {g : Glob} {H : List (List Ev)} {l : List Int} {c : Int} (h : searchF g H = (some l, c)) : (∀ k ∈ l, edgeOk g k) /\ l.length <= 20000 /\ c = 0 := by
 unfold searchF at h
 split at h
 ·rename_i hg
  exact findL_ok (edges_ok hg) _ _ rfl (first_ok hg) h
 ·cases h
def actAt (g : Glob) (k : Int) : Inter := match g.edges[k.toNat]? with
 | some x => x.act
 | none => ⟨0, 0, 0⟩
def actsF (g : Glob) : Option (List Int) -> List Inter
 | none => []
 | some l => l.map (actAt g)
theorem actAt_eq {g : Glob} {k : Int} (h : k.toNat < g.edges.length) {x : Edg} (hx : g.edges[k.toNat] = x) : actAt g k = x.act := by
 unfold actAt
 rw [List.getElem?_eq_getElem h, hx]
theorem f7 (h109 : H109) (g : Glob) (H : List (List Ev)) (hs : Small g) (hl : H.length <= 1000000) (hh : ∀ l ∈ H, l.length <= 1000000) :
  Impl Tryd.prog 7 [.ag (encG g), .one (.sl (H.map encH))] (.tup [.one (.ow 3 ((actsF g (searchF g H).1).map encI)), .one (.int .i64 (searchF g H).2)]) := by
 have k26 := f12 h109 g H hs hl hh
 simp only [encG] at k26
 have hso : ∀ l c, searchF g H = (some l, c) -> _ := fun l c => search_ok
 refine impl_v ?_
 generalize searchF g H = r at *
 obtain ⟨o, c⟩ := r
 cases o with
 | none =>
   simp only [resS] at k26
   refine wV encG.eq_1 k26 ?_
   refine z_k (fun n e => n = 0 /\ e = [(19, .sv (.one (.int .i64 0))), (18, .sv (.one (.int .i64 0))), (8, .sv (.one (.ow 3 []))), (7, .sv (.one (.int .i64 c)))]) 0 _ ⟨rfl, rfl⟩ (by simp [go_sem]) ?_
   rintro n e ⟨_, rfl⟩
   refine wN ?_
   simp [go_sem, actsF]
 | some l =>
   obtain ⟨hok, hll, rfl⟩ := hso l c rfl
   simp only [resS] at k26
   refine wV encG.eq_1 k26 ?_
   refine z_k (fun n e => ∃ (j : Nat) (A : List Inter), j + n = l.length /\ A = (l.take j).map (actAt g) /\ e = [(19, .sv (.one (.int .i64 j))), (18, .sv (.one (.int .i64 l.length))), (17, .al 6 []), (8, .sv (.one (.ow 3 (A.map encI)))), (7, .sv (.one (.int .i64 0))), (6, .sv (.one (.ow 1 (l.map encN)))), (2, .sv (.one (.bx (encG g))))]) l.length _ ⟨0, [], by simp, by simp, rfl⟩ (by simp [go_sem, encG]) ?_
   rintro n e ⟨j, A, hj, hA, rfl⟩
   by_cases hlt : j < l.length
   ·obtain ⟨k, hk⟩ : ∃ k, l[j] = k := ⟨_, rfl⟩
    obtain ⟨hk0, hk1⟩ := hok k (hk ▸ List.getElem_mem hlt)
    obtain ⟨x, hx⟩ : ∃ x, g.edges[k.toNat] = x := ⟨_, rfl⟩
    have hAl : A.length <= 20000 := by rw [hA]; simp; omega
    have hap := okI_of (els := A.map encI) (news := [encI x.act]) (fun e he => ⟨x.act, List.mem_singleton.1 he⟩) (by simp; omega)
    simp only [encI] at hap
    refine wX (aN hlt <| aN hk <| aN hk0 <| aN hk1 <| aN hx <| aN encN.eq_1 <| aN encEd.eq_1 <| aN encG.eq_1 hap) ?_
    refine z_j (n - 1) _ (by omega) ⟨j + 1, A ++ [x.act], by omega, by rw [List.take_succ_eq_append_getElem hlt, hk, List.map_append, hA, <- actAt_eq hk1 hx]; rfl, rfl⟩ ?_
    simp [go_sem, encG, encI]
   ·have hkj : l.take j = l := List.take_of_length_le (by omega)
    rw [hkj] at hA
    subst hA
    refine wX hlt ?_
    simp [go_sem, actsF]
inductive Reach (R : Nat -> Nat -> Prop) (s : Nat) : Nat -> Prop
 | refl : Reach R s s
 | step (u v : Nat) (h : Reach R s u) (e : R u v) : Reach R s v
def cnt (N : Nat) (P : Nat -> Bool) : Nat := ((List.range N).filter P).length
def vD (D : List Int) (v : Nat) : Int := D[v]?.getD 0
def backR (es : List Edg) (u v : Nat) : Prop := ∃ x ∈ es, x.to.toNat = u /\ x.from_.toNat = v
structure InvE (es : List Edg) (N E r : Nat) (D : List Int) : Prop where
 len : D.length = N
 top : ∀ v, v < N -> vD D v <= r
 reach : ∀ v, v < N -> 0 <= vD D v -> Reach (backR es) E v
 done : ∀ x ∈ es, 0 <= vD D x.to.toNat -> vD D x.to.toNat < r -> 0 <= vD D x.from_.toNat
 many : (∃ v, v < N /\ vD D v = r) -> r + 1 <= cnt N fun v => decide (0 <= vD D v)
 endZ : vD D E = 0
def stepR (back : Bool) (es : List Edg) (u v : Nat) : Prop := ∃ x ∈ es, eA back x = u /\ eB back x = v
structure InvT (back : Bool) (es : List Edg) (N s : Nat) (st : List Int × List Nat) : Prop where
 len : st.1.length = N
 ge : ∀ v, v < N -> -1 <= vD st.1 v
 sound : ∀ v, v < N -> 0 <= vD st.1 v -> Reach (stepR back es) s v
 closed : ∀ u, u < N -> 0 <= vD st.1 u -> u ∉ st.2 -> ∀ x ∈ es, eA back x = u -> 0 <= vD st.1 (eB back x)
 start : 0 <= vD st.1 s
set_option maxHeartbeats 64000000
def encRP (n : Nd) : List DV := [.int .i64 n.st, .sl (n.ps.map encK), .int .i64 n.fr, .int .i64 n.ed]
set_option maxHeartbeats 64000000
@[go_sem ↓ high] theorem frz_encK (k : Nat) : frzL (encK k) = encK k := rfl
end Go.Av

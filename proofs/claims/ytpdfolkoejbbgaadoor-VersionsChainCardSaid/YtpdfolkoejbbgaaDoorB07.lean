/- Part of a proof by symbolic walks on plain data. -/
import Derived.Test.YtpdfolkoejbbgaaDoorB06
import Derived.Test.YtpdfolkoejbbgaaDoorB01
import Derived.Test.YtpdfolkoejbbgaaDoorF1
set_option linter.unusedVariables false
set_option linter.unusedSimpArgs false
set_option maxHeartbeats 4000000
namespace Go.Av
open Go Go.RowKit Go.Proofs
set_option maxRecDepth 8000
def agreeB (x y : List Vr) (a b : Dcl) : Bool := decide (a.fields = b.fields) && (eqF (sameD x y) a.diffs b.diffs && eqF (sameE x y) a.equals b.equals)
set_option maxHeartbeats 8000000 in
theorem f17 (a b : Dcl) (x y : List Vr) (hf1 : a.fields.length ≤ 1000000) (hf2 : b.fields.length ≤ 1000000) (hd1 : a.diffs.length ≤ 1000000) (hd2 : b.diffs.length ≤ 1000000) (he1 : a.equals.length ≤ 1000000) (he2 : b.equals.length ≤ 1000000)
  (ha1 : ∀ d ∈ a.diffs, d.x < x.length ∧ d.y < x.length) (hb1 : ∀ d ∈ b.diffs, d.x < y.length ∧ d.y < y.length) (ha2 : ∀ d ∈ a.equals, d.1 < x.length ∧ d.2 < x.length) (hb2 : ∀ d ∈ b.equals, d.1 < y.length ∧ d.2 < y.length) :
  Impl Tryd.prog 17 [.ag (encD a), .ag (encD b), .one (.sl (x.map encV)), .one (.sl (y.map encV))] (.one (.one (.bool (agreeB x y a b)))) := by
 have k1 := f39 a.fields b.fields hf1 hf2
 have k2 := f40 a.diffs b.diffs 41 [.rf [.sl (x.map encV)], .rf [.sl (y.map encV)]] (sameD x y) hd1 hd2 (fun d hd e he => f41 x y d e (ha1 d hd).1 (ha1 d hd).2 (hb1 e he).1 (hb1 e he).2)
 have k3 := f43 a.equals b.equals 44 [.rf [.sl (x.map encV)], .rf [.sl (y.map encV)]] (sameE x y) he1 he2 (fun d hd e he => f44 x y d e (ha2 d hd).1 (ha2 d hd).2 (hb2 e he).1 (hb2 e he).2)
 obtain ⟨u, hu⟩ : ∃ u, u = decide (a.fields = b.fields) := ⟨_, rfl⟩
 obtain ⟨v, hv⟩ : ∃ v, v = eqF (sameD x y) a.diffs b.diffs := ⟨_, rfl⟩
 obtain ⟨w, hw⟩ : ∃ w, w = eqF (sameE x y) a.equals b.equals := ⟨_, rfl⟩
 have hA : agreeB x y a b = (u && (v && w)) := by unfold agreeB; rw [hu, hv, hw]
 rw [hA]
 rw [← hu] at k1
 rw [← hv] at k2
 rw [← hw] at k3
 clear hu hv hw hA
 refine impl_z Tryd.func17 z17 Tryd.ntmps17 (by simp) ?_
 simp only [c17, slotsOf]
 cases u with
 | false =>
   repeat' first | refine St.go ?_ | (refine Ru.go ?_; intro K hK; simp [go_sem, encD, frzL, DV.frz]; (first | apply hK | ((try refine .inl ?_); refine ⟨_, by (try intro hc); (repeat' first | exact k1 | exact k2 | exact k3 | exact hc | refine And.intro ?_ ?_ | simp [go_sem, encD, frzL, DV.frz]); first | done | omega, ?_⟩; first | apply hK | (refine ⟨by simp [go_sem, encD, frzL, DV.frz], ?_⟩; first | apply hK | refine ⟨by simp [go_sem, encD, frzL, DV.frz], hK _ _ ?_⟩)) | refine ⟨.one (.one (.bool false)), by simp [go_sem, encD, frzL, DV.frz], hK _ _ ?_⟩ | refine ⟨by first | omega | (simp [zf, zg, encD, frzL, DV.frz]; first | done | omega), ?_⟩ | refine ⟨hK _ ?_, fun h => ?_⟩ | refine ⟨?_, ?_⟩); all_goals ((try apply hK); clear hK K))
   simp [go_sem]
 | true =>
   cases v with
   | false =>
     repeat' first | refine St.go ?_ | (refine Ru.go ?_; intro K hK; simp [go_sem, encD, frzL, DV.frz]; (first | apply hK | ((try refine .inl ?_); refine ⟨_, by (try intro hc); (repeat' first | exact k1 | exact k2 | exact k3 | exact hc | refine And.intro ?_ ?_ | simp [go_sem, encD, frzL, DV.frz]); first | done | omega, ?_⟩; first | apply hK | (refine ⟨by simp [go_sem, encD, frzL, DV.frz], ?_⟩; first | apply hK | refine ⟨by simp [go_sem, encD, frzL, DV.frz], hK _ _ ?_⟩)) | refine ⟨.one (.one (.bool false)), by simp [go_sem, encD, frzL, DV.frz], hK _ _ ?_⟩ | refine ⟨by first | omega | (simp [zf, zg, encD, frzL, DV.frz]; first | done | omega), ?_⟩ | refine ⟨hK _ ?_, fun h => ?_⟩ | refine ⟨?_, ?_⟩); all_goals ((try apply hK); clear hK K))
     simp [go_sem]
   | true =>
     repeat' first | refine St.go ?_ | (refine Ru.go ?_; intro K hK; simp [go_sem, encD, frzL, DV.frz]; (first | apply hK | ((try refine .inl ?_); refine ⟨_, by (try intro hc); (repeat' first | exact k1 | exact k2 | exact k3 | exact hc | refine And.intro ?_ ?_ | simp [go_sem, encD, frzL, DV.frz]); first | done | omega, ?_⟩; first | apply hK | (refine ⟨by simp [go_sem, encD, frzL, DV.frz], ?_⟩; first | apply hK | refine ⟨by simp [go_sem, encD, frzL, DV.frz], hK _ _ ?_⟩)) | refine ⟨.one (.one (.bool false)), by simp [go_sem, encD, frzL, DV.frz], hK _ _ ?_⟩ | refine ⟨by first | omega | (simp [zf, zg, encD, frzL, DV.frz]; first | done | omega), ?_⟩ | refine ⟨hK _ ?_, fun h => ?_⟩ | refine ⟨?_, ?_⟩); all_goals ((try apply hK); clear hK K))
     simp [go_sem]
theorem find_at {α : Type} {p : α → Bool} {l : List α} {k : Nat} (hk : k < l.length) (h0 : (l.take k).any p = false) (h1 : p l[k] = true) : l.find? p = some l[k] := by
 rw [List.find?_eq_some_iff_getElem]
 refine ⟨h1, k, hk, rfl, fun j hj => ?_⟩
 rw [List.any_eq_false] at h0
 have := h0 (l[j]'(by omega)) (List.mem_iff_getElem.2 ⟨j, by rw [List.length_take]; omega, by simp⟩)
 simpa using this
theorem find_none {α : Type} {p : α → Bool} {l : List α} (h : l.any p = false) : l.find? p = none := by
 rw [List.find?_eq_none]
 intro x hx
 rw [List.any_eq_false] at h
 simpa using h x hx
end Go.Av
namespace Go.Av
open Go Go.RowKit Go.Proofs
set_option maxRecDepth 8000
structure Tab where
 old : Glob
 new : Glob
 labels : List Int
 pairs : List (Int × Int)
 good : List Bool
def encTab (t : Tab) : List DV := encG t.old ++ (encG t.new ++ [.sl (t.labels.map encN), .sl (t.pairs.map encEq), .sl (t.good.map encBl)])
def renB (l : List Int) (a : Inter) : Inter × Bool := if 0 ≤ a.label ∧ a.label < l.length ∧ 0 ≤ l.getD a.label.toNat 0 then (⟨a.from_, a.to, l.getD a.label.toNat 0⟩, true) else (⟨0, 0, 0⟩, false)
def folE : List Edg → Int → Inter → Bool → Int
 | [], _, _, _ => -1
 | x :: es, s, a, b => if x.from_ = s ∧ actEq x.act a = true ∧ x.again = b then x.to else folE es s a b
def folB (t : Tab) (s : Int) (x : Edg) : Int := if 0 ≤ s ∧ (renB t.labels x.act).2 = true then folE t.new.edges s (renB t.labels x.act).1 x.again else -1
theorem folE_at {es : List Edg} {s : Int} {a : Inter} {b : Bool} {k : Nat} (hk : k < es.length) : folE (es.drop k) s a b = if es[k].from_ = s ∧ actEq es[k].act a = true ∧ es[k].again = b then es[k].to else folE (es.drop (k + 1)) s a b := by
 rw [List.drop_eq_getElem_cons hk]
 rfl
theorem f22 (l : List (Int × Int)) (p : Int × Int) (hl : l.length ≤ 1000000) : Impl Tryd.prog 22 [.one (.sl (l.map encEq)), .ag (encEq p)] (.one (.one (.int .i64 (firstB (fun x => p.1 == x.1 && p.2 == x.2) l)))) := by
 refine impl_z Tryd.func22 z22 Tryd.ntmps22 (by simp) ?_
 simp only [c22, slotsOf]
 repeat' first | refine St.go ?_ | ((with_reducible refine zY (t := ?_) ?hc (fun h => ?_) (fun h => ?_)); (case hc => rfl); all_goals (try simp [go_sem, encEq] at h); all_goals try omega) | (refine Ru.go ?_; intro K hK; simp [go_sem, encEq]; (try simp (disch := omega) only [zh, zi, eq_self, true_and]); (first | apply hK | refine ⟨by first | omega | (simp [zf, zg, encEq]; first | done | omega), ?_⟩ | refine ⟨hK _ ?_, fun h => ?_⟩ | refine ⟨?_, ?_⟩); all_goals ((try apply hK); clear hK K))
 refine zk (fun n e => ∃ k : Nat, k + n = l.length ∧ (l.take k).any (fun x => p.1 == x.1 && p.2 == x.2) = false ∧ e = [(8, .sv (.one (.int .i64 k))), (7, .sv (.one (.int .i64 l.length))), (3, .sv (.one (.bx (encEq p)))), (0, .sv (.one (.sl (l.map encEq))))]) l.length _ ⟨0, by simp, by simp, rfl⟩ (by simp [go_sem, encEq]) ?_
 rintro n e ⟨k, hk, h0, rfl⟩
 by_cases hlt : k < l.length
 ·obtain ⟨⟨x1, x2⟩, hx⟩ : ∃ x, l[k] = x := ⟨_, rfl⟩
  cases hp : (p.1 == x1 && p.2 == x2) with
  | true =>
    have hf := firstB_at (p := fun x : Int × Int => p.1 == x.1 && p.2 == x.2) hlt h0 (by rw [hx]; exact hp)
    simp only [Bool.and_eq_true] at hp
    repeat' first | refine St.go ?_ | ((with_reducible refine zY (t := ?_) ?hc (fun h => ?_) (fun h => ?_)); (case hc => rfl); all_goals (try simp [go_sem, hlt, hx, encEq, hp.1, hp.2] at h); all_goals try omega) | (refine Ru.go ?_; intro K hK; simp [go_sem, hlt, hx, encEq, hp.1, hp.2]; (try simp (disch := omega) only [zh, zi, eq_self, true_and]); (first | apply hK | refine ⟨by first | omega | (simp [zf, zg, hlt, hx, encEq, hp.1, hp.2]; first | done | omega), ?_⟩ | refine ⟨hK _ ?_, fun h => ?_⟩ | refine ⟨?_, ?_⟩); all_goals ((try apply hK); clear hK K))
    simp [go_sem, hf]
  | false =>
    repeat' first | refine St.go ?_ | ((with_reducible refine zY (t := ?_) ?hc (fun h => ?_) (fun h => ?_)); (case hc => rfl); all_goals (try simp [go_sem, hlt, hx, encEq, hp] at h); all_goals try omega) | (refine Ru.go ?_; intro K hK; simp [go_sem, hlt, hx, encEq, hp]; (try simp (disch := omega) only [zh, zi, eq_self, true_and]); (first | apply hK | refine ⟨by first | omega | (simp [zf, zg, hlt, hx, encEq, hp]; first | done | omega), ?_⟩ | refine ⟨hK _ ?_, fun h => ?_⟩ | refine ⟨?_, ?_⟩); all_goals ((try apply hK); clear hK K))
    refine zj (n - 1) _ (by omega) ⟨k + 1, by omega, ?_, rfl⟩ ?_
    ·rw [any_succ hlt, h0, hx]; simp only; rw [hp]; rfl
    ·simp [go_sem, encEq]
 ·have hkl : l.take k = l := List.take_of_length_le (by omega)
  rw [hkl] at h0
  have hf := firstB_none h0
  repeat' first | refine St.go ?_ | ((with_reducible refine zY (t := ?_) ?hc (fun h => ?_) (fun h => ?_)); (case hc => rfl); all_goals (try simp [go_sem, hlt] at h); all_goals try omega) | (refine Ru.go ?_; intro K hK; simp [go_sem, hlt]; (try simp (disch := omega) only [zh, zi, eq_self, true_and]); (first | apply hK | refine ⟨by first | omega | (simp [zf, zg, hlt]; first | done | omega), ?_⟩ | refine ⟨hK _ ?_, fun h => ?_⟩ | refine ⟨?_, ?_⟩); all_goals ((try apply hK); clear hK K))
  simp [go_sem, hf]
theorem f49 (t : Tab) (a : Inter) : Impl Tryd.prog 49 [.ag (encTab t), .ag (encI a)] (.tup [.ag (encI (renB t.labels a).1), .one (.bool (renB t.labels a).2)]) := by
 refine impl_z Tryd.func49 z49 Tryd.ntmps49 (by simp) ?_
 simp only [c49, slotsOf]
 by_cases h1 : 0 ≤ a.label
 ·by_cases h2 : a.label < t.labels.length
  ·have hlt : a.label.toNat < t.labels.length := by omega
   obtain ⟨v, hv⟩ : ∃ v, t.labels[a.label.toNat] = v := ⟨_, rfl⟩
   have hg : t.labels.getD a.label.toNat 0 = v := by rw [List.getD_eq_getElem?_getD, List.getElem?_eq_getElem hlt, hv]; rfl
   have n1 : ¬ a.label < 0 := by omega
   have n2 : ¬ (t.labels.length : Int) ≤ a.label := by omega
   by_cases h3 : 0 ≤ v
   ·have hr : renB t.labels a = (⟨a.from_, a.to, v⟩, true) := by unfold renB; rw [hg, if_pos ⟨h1, h2, h3⟩]
    have n3 : ¬ v < 0 := by omega
    rw [hr]
    repeat' first | refine St.go ?_ | ((with_reducible refine zY (t := ?_) ?hc (fun h => ?_) (fun h => ?_)); (case hc => rfl); all_goals (try simp [go_sem, encTab, encG, encI, encN, n1, n2, n3, h1, hlt, hv] at h); all_goals try omega) | (refine Ru.go ?_; intro K hK; simp [go_sem, encTab, encG, encI, encN, n1, n2, n3, h1, hlt, hv]; (first | apply hK | refine ⟨by first | omega | (simp [zf, zg, encTab, encG, encI, encN, n1, n2, n3, h1, hlt, hv]; first | done | omega), ?_⟩ | refine ⟨hK _ ?_, fun h => ?_⟩ | refine ⟨?_, ?_⟩); all_goals ((try apply hK); clear hK K))
    simp [go_sem, encI]
   ·have hr : renB t.labels a = (⟨0, 0, 0⟩, false) := by unfold renB; rw [hg, if_neg (fun h => h3 h.2.2)]
    have n3 : v < 0 := by omega
    rw [hr]
    repeat' first | refine St.go ?_ | ((with_reducible refine zY (t := ?_) ?hc (fun h => ?_) (fun h => ?_)); (case hc => rfl); all_goals (try simp [go_sem, encTab, encG, encI, encN, n1, n2, n3, h1, hlt, hv] at h); all_goals try omega) | (refine Ru.go ?_; intro K hK; simp [go_sem, encTab, encG, encI, encN, n1, n2, n3, h1, hlt, hv]; (first | apply hK | refine ⟨by first | omega | (simp [zf, zg, encTab, encG, encI, encN, n1, n2, n3, h1, hlt, hv]; first | done | omega), ?_⟩ | refine ⟨hK _ ?_, fun h => ?_⟩ | refine ⟨?_, ?_⟩); all_goals ((try apply hK); clear hK K))
    simp [go_sem, encI]
  ·have hr : renB t.labels a = (⟨0, 0, 0⟩, false) := by unfold renB; rw [if_neg (fun h => h2 h.2.1)]
   have n1 : ¬ a.label < 0 := by omega
   have n2 : (t.labels.length : Int) ≤ a.label := by omega
   have n3 : t.labels[a.label.toNat]? = none := List.getElem?_eq_none (by omega)
   rw [hr]
   repeat' first | refine St.go ?_ | ((with_reducible refine zY (t := ?_) ?hc (fun h => ?_) (fun h => ?_)); (case hc => rfl); all_goals (try simp [go_sem, encTab, encG, encI, encN, n1, n2, n3] at h); all_goals try omega) | (refine Ru.go ?_; intro K hK; simp [go_sem, encTab, encG, encI, encN, n1, n2, n3]; (first | apply hK | refine ⟨by first | omega | (simp [zf, zg, encTab, encG, encI, encN, n1, n2, n3]; first | done | omega), ?_⟩ | refine ⟨hK _ ?_, fun h => ?_⟩ | refine ⟨?_, ?_⟩); all_goals ((try apply hK); clear hK K))
   simp [go_sem, encI]
 ·have hr : renB t.labels a = (⟨0, 0, 0⟩, false) := by unfold renB; rw [if_neg (fun h => h1 h.1)]
  have n1 : a.label < 0 := by omega
  rw [hr]
  cases hv : t.labels[a.label.toNat]? with
  | none =>
    repeat' first | refine St.go ?_ | ((with_reducible refine zY (t := ?_) ?hc (fun h => ?_) (fun h => ?_)); (case hc => rfl); all_goals (try simp [go_sem, encTab, encG, encI, encN, n1, hv] at h); all_goals try omega) | (refine Ru.go ?_; intro K hK; simp [go_sem, encTab, encG, encI, encN, n1, hv]; (first | apply hK | refine ⟨by first | omega | (simp [zf, zg, encTab, encG, encI, encN, n1, hv]; first | done | omega), ?_⟩ | refine ⟨hK _ ?_, fun h => ?_⟩ | refine ⟨?_, ?_⟩); all_goals ((try apply hK); clear hK K))
    simp [go_sem, encI]
  | some v =>
    repeat' first | refine St.go ?_ | ((with_reducible refine zY (t := ?_) ?hc (fun h => ?_) (fun h => ?_)); (case hc => rfl); all_goals (try simp [go_sem, encTab, encG, encI, encN, n1, hv] at h); all_goals try omega) | (refine Ru.go ?_; intro K hK; simp [go_sem, encTab, encG, encI, encN, n1, hv]; (first | apply hK | refine ⟨by first | omega | (simp [zf, zg, encTab, encG, encI, encN, n1, hv]; first | done | omega), ?_⟩ | refine ⟨hK _ ?_, fun h => ?_⟩ | refine ⟨?_, ?_⟩); all_goals ((try apply hK); clear hK K))
    simp [go_sem, encI]
end Go.Av
namespace Go.Av
open Go Go.RowKit Go.Proofs
set_option maxRecDepth 8000
theorem f19 (t : Tab) (s : Int) (x : Edg) (hl : t.new.edges.length ≤ 1000000) : Impl Tryd.prog 19 [.ag (encTab t), .one (.int .i64 s), .ag (encEd x)] (.one (.one (.int .i64 (folB t s x)))) := by
 have k1 := f49 t x.act
 obtain ⟨⟨⟨r1, r2, r3⟩, b⟩, hr⟩ : ∃ v, renB t.labels x.act = v := ⟨_, rfl⟩
 rw [hr] at k1
 simp only [encTab, encG, encI, List.cons_append, List.nil_append] at k1
 have hfo : folB t s x = if 0 ≤ s ∧ b = true then folE t.new.edges s ⟨r1, r2, r3⟩ x.again else -1 := by unfold folB; rw [hr]
 rw [hfo]
 clear hr hfo
 refine impl_z Tryd.func19 z19 Tryd.ntmps19 (by simp) ?_
 simp only [c19, slotsOf]
 cases b with
 | false =>
   repeat' first | refine St.go ?_ | ((with_reducible refine zY (t := ?_) ?hc (fun h => ?_) (fun h => ?_)); (case hc => rfl); all_goals (try simp [go_sem, encTab, encG, encI, encEd] at h); all_goals try omega) | (refine Ru.go ?_; intro K hK; simp [go_sem, encTab, encG, encI, encEd]; (try simp (disch := omega) only [zh, zi, eq_self, true_and]); (first | apply hK | ((try refine .inl ?_); refine ⟨_, by (try intro hc); (repeat' first | exact k1 | exact hc | refine And.intro ?_ ?_ | simp [go_sem, encTab, encG, encI, encEd]); first | done | omega, ?_⟩; first | apply hK | (refine ⟨by simp [go_sem, encTab, encG, encI, encEd], ?_⟩; first | apply hK | refine ⟨by simp [go_sem, encTab, encG, encI, encEd], hK _ _ ?_⟩)) | refine ⟨by first | omega | (simp [zf, zg, encTab, encG, encI, encEd]; first | done | omega), ?_⟩ | refine ⟨hK _ ?_, fun h => ?_⟩ | refine ⟨?_, ?_⟩); all_goals ((try apply hK); clear hK K))
   simp [go_sem]
 | true =>
   by_cases hh : s < 0
   ·rw [if_neg (fun q => by omega)]
    repeat' first | refine St.go ?_ | ((with_reducible refine zY (t := ?_) ?hc (fun h => ?_) (fun h => ?_)); (case hc => rfl); all_goals (try simp [go_sem, encTab, encG, encI, encEd, hh] at h); all_goals try omega) | (refine Ru.go ?_; intro K hK; simp [go_sem, encTab, encG, encI, encEd, hh]; (try simp (disch := omega) only [zh, zi, eq_self, true_and]); (first | apply hK | ((try refine .inl ?_); refine ⟨_, by (try intro hc); (repeat' first | exact k1 | exact hc | refine And.intro ?_ ?_ | simp [go_sem, encTab, encG, encI, encEd, hh]); first | done | omega, ?_⟩; first | apply hK | (refine ⟨by simp [go_sem, encTab, encG, encI, encEd, hh], ?_⟩; first | apply hK | refine ⟨by simp [go_sem, encTab, encG, encI, encEd, hh], hK _ _ ?_⟩)) | refine ⟨by first | omega | (simp [zf, zg, encTab, encG, encI, encEd, hh]; first | done | omega), ?_⟩ | refine ⟨hK _ ?_, fun h => ?_⟩ | refine ⟨?_, ?_⟩); all_goals ((try apply hK); clear hK K))
    simp [go_sem]
   ·have hh2 : 0 ≤ s := by omega
    rw [if_pos ⟨hh2, rfl⟩]
    repeat' first | refine St.go ?_ | ((with_reducible refine zY (t := ?_) ?hc (fun h => ?_) (fun h => ?_)); (case hc => rfl); all_goals (try simp [go_sem, encTab, encG, encI, encEd, hh, hh2] at h); all_goals try omega) | (refine Ru.go ?_; intro K hK; simp [go_sem, encTab, encG, encI, encEd, hh, hh2]; (try simp (disch := omega) only [zh, zi, eq_self, true_and]); (first | apply hK | ((try refine .inl ?_); refine ⟨_, by (try intro hc); (repeat' first | exact k1 | exact hc | refine And.intro ?_ ?_ | simp [go_sem, encTab, encG, encI, encEd, hh, hh2]); first | done | omega, ?_⟩; first | apply hK | (refine ⟨by simp [go_sem, encTab, encG, encI, encEd, hh, hh2], ?_⟩; first | apply hK | refine ⟨by simp [go_sem, encTab, encG, encI, encEd, hh, hh2], hK _ _ ?_⟩)) | refine ⟨by first | omega | (simp [zf, zg, encTab, encG, encI, encEd, hh, hh2]; first | done | omega), ?_⟩ | refine ⟨hK _ ?_, fun h => ?_⟩ | refine ⟨?_, ?_⟩); all_goals ((try apply hK); clear hK K))
    refine zk (fun n e => ∃ k : Nat, k + n = t.new.edges.length ∧ folE t.new.edges s ⟨r1, r2, r3⟩ x.again = folE (t.new.edges.drop k) s ⟨r1, r2, r3⟩ x.again ∧ e = [(28, .sv (.one (.int .i64 k))), (27, .sv (.one (.int .i64 t.new.edges.length))), (26, .sv (.one (.sl (t.new.edges.map encEd)))), (7, .sv (.one (.bx (encI ⟨r1, r2, r3⟩)))), (5, .sv (.one (.bx (encEd x)))), (1, .sv (.one (.int .i64 s)))]) t.new.edges.length _ ⟨0, by simp, by simp, rfl⟩ (by simp [go_sem, encI, encEd]) ?_
    rintro n e ⟨k, hk, h0, rfl⟩
    by_cases hlt : k < t.new.edges.length
    ·obtain ⟨y, hy⟩ : ∃ y, t.new.edges[k] = y := ⟨_, rfl⟩
     have hq := folE_at (s := s) (a := ⟨r1, r2, r3⟩) (b := x.again) hlt
     rw [hy] at hq
     repeat' first | refine St.go ?_ | ((with_reducible refine zY (t := ?_) ?hc (fun h => ?_) (fun h => ?_)); (case hc => rfl); all_goals (try simp [go_sem, hlt, hy, encEd, encI] at h); all_goals try omega) | (refine Ru.go ?_; intro K hK; simp [go_sem, hlt, hy, encEd, encI]; (try simp (disch := omega) only [zh, zi, eq_self, true_and]); (first | apply hK | refine ⟨by first | omega | (simp [zf, zg, hlt, hy, encEd, encI]; first | done | omega), ?_⟩ | refine ⟨hK _ ?_, fun h => ?_⟩ | refine ⟨?_, ?_⟩); all_goals ((try apply hK); clear hK K))
     ·obtain ⟨⟨q1, q2, q3, q4⟩, q5⟩ := h
      rw [if_pos ⟨q1, by simp [actEq, q2, q3, q4], q5⟩] at hq
      simp [go_sem, h0, hq]
     ·rw [if_neg (fun q => by have q2 := q.2.1; simp only [actEq, Bool.and_eq_true, beq_iff_eq] at q2; exact h q.1 q2.1.1 q2.1.2 q2.2 q.2.2)] at hq
      refine zj (n - 1) _ (by omega) ⟨k + 1, by omega, h0.trans hq, rfl⟩ ?_
      simp [go_sem, encI, encEd]
    ·have hd : t.new.edges.drop k = [] := List.drop_eq_nil_of_le (by omega)
     rw [hd] at h0
     repeat' first | refine St.go ?_ | ((with_reducible refine zY (t := ?_) ?hc (fun h => ?_) (fun h => ?_)); (case hc => rfl); all_goals (try simp [go_sem, hlt] at h); all_goals try omega) | (refine Ru.go ?_; intro K hK; simp [go_sem, hlt]; (try simp (disch := omega) only [zh, zi, eq_self, true_and]); (first | apply hK | refine ⟨by first | omega | (simp [zf, zg, hlt]; first | done | omega), ?_⟩ | refine ⟨hK _ ?_, fun h => ?_⟩ | refine ⟨?_, ?_⟩); all_goals ((try apply hK); clear hK K))
     simp [go_sem, folE, h0]
end Go.Av
namespace Go.Av
open Go Go.RowKit Go.Proofs
set_option maxRecDepth 8000
end Go.Av
namespace Go.Av
open Go Go.RowKit Go.Proofs
set_option maxRecDepth 8000
def isP (p x : Int × Int) : Bool := x.1 == p.1 && x.2 == p.2
def placeB (t : Tab) (p : Int × Int) : Int := firstB (isP p) t.pairs
end Go.Av
namespace Go.Av
open Go Go.RowKit Go.Proofs
set_option maxRecDepth 8000
def atE (s : Int) (a : Inter) (x : Edg) : Bool := x.from_ == s && actEq x.act a
def afterP (t : Tab) (i : Int) (a : Inter) : Option Int := if 0 ≤ i then match t.pairs[i.toNat]? with
 | some p => (t.old.edges.find? (atE p.1 a)).map fun x => placeB t (x.to, folB t p.2 x)
 | none => none else none
def afterV (t : Tab) (i : Int) (a : Inter) : Int × Bool := match afterP t i a with
 | some k => (max k 0, decide (0 ≤ k))
 | none => (0, false)
theorem g57 (t : Tab) (hp : t.pairs.length ≤ 1000000) (q : Int × Int) : Impl Tryd.prog 22 [.one (.sl (t.pairs.map encEq)), .ag (encEq q)] (.one (.one (.int .i64 (placeB t q)))) := by
 have h := f22 t.pairs q hp
 have e : (fun x : Int × Int => q.1 == x.1 && q.2 == x.2) = isP q := by
  funext x
  simp only [isP, Bool.beq_comm]
 rw [e] at h
 exact h
set_option maxHeartbeats 8000000 in
theorem f8 (t : Tab) (i : Int) (a : Inter) (ho : t.old.edges.length ≤ 1000000) (hn : t.new.edges.length ≤ 1000000) (hp : t.pairs.length ≤ 1000000) :
  Impl Tryd.prog 8 [.ag (encTab t), .one (.int .i64 i), .ag (encI a)] (.tup [.one (.int .i64 (afterV t i a).1), .one (.bool (afterV t i a).2)]) := by
 have j1 : ∀ s x, Impl Tryd.prog 19 [.ag (encTab t), .one (.int .i64 s), .ag (encEd x)] (.one (.one (.int .i64 (folB t s x)))) := fun s x => f19 t s x hn
 have j2 := g57 t hp
 simp only [encTab, encG, encEd, encEq, List.cons_append, List.nil_append] at j1
 simp only [encEq] at j2
 refine impl_z Tryd.func8 z8 Tryd.ntmps8 (by simp) ?_
 simp only [c8, slotsOf]
 by_cases h1 : i < 0
 ·have hF : afterV t i a = (0, false) := by
   have : ¬ 0 ≤ i := by omega
   simp [afterV, afterP, this]
  rw [hF]
  repeat' first | refine St.go ?_ | ((with_reducible refine zY (t := ?_) ?hc (fun h => ?_) (fun h => ?_)); (case hc => rfl); all_goals (try simp [go_sem, encTab, encG, encI, h1] at h); all_goals try omega) | (refine Ru.go ?_; intro K hK; simp [go_sem, encTab, encG, encI, h1]; (try simp (disch := omega) only [zh, zi, eq_self, true_and]); (first | apply hK | refine ⟨by first | omega | (simp [zf, zg, encTab, encG, encI, h1]; first | done | omega), ?_⟩ | refine ⟨hK _ ?_, fun h => ?_⟩ | refine ⟨?_, ?_⟩); all_goals ((try apply hK); clear hK K))
  simp [go_sem]
 ·have h1' : 0 ≤ i := by omega
  by_cases h2 : i < t.pairs.length
  ·have hl : i.toNat < t.pairs.length := by omega
   obtain ⟨⟨p1, p2⟩, hpi⟩ : ∃ p, t.pairs[i.toNat] = p := ⟨_, rfl⟩
   have hA : afterP t i a = (t.old.edges.find? (atE p1 a)).map fun x => placeB t (x.to, folB t p2 x) := by
    unfold afterP
    rw [if_pos h1', List.getElem?_eq_getElem hl, hpi]
   have n2 : ¬ (t.pairs.length : Int) ≤ i := by omega
   repeat' first | refine St.go ?_ | ((with_reducible refine zY (t := ?_) ?hc (fun h => ?_) (fun h => ?_)); (case hc => rfl); all_goals (try simp [go_sem, encTab, encG, encI, encEq, h1, n2, hl, hpi] at h); all_goals try omega) | (refine Ru.go ?_; intro K hK; simp [go_sem, encTab, encG, encI, encEq, h1, n2, hl, hpi]; (try simp (disch := omega) only [zh, zi, eq_self, true_and]); (first | apply hK | refine ⟨by first | omega | (simp [zf, zg, encTab, encG, encI, encEq, h1, n2, hl, hpi]; first | done | omega), ?_⟩ | refine ⟨hK _ ?_, fun h => ?_⟩ | refine ⟨?_, ?_⟩); all_goals ((try apply hK); clear hK K))
   refine zk (fun n e => ∃ k : Nat, k + n = t.old.edges.length ∧ (t.old.edges.take k).any (atE p1 a) = false ∧ e = [(30, .sv (.one (.int .i64 k))), (29, .sv (.one (.int .i64 t.old.edges.length))), (28, .sv (.one (.sl (t.old.edges.map encEd)))), (8, .sv (.one (.bx (encEq (p1, p2))))), (5, .sv (.one (.bx (encI a)))), (3, .sv (.one (.bx (encTab t))))]) t.old.edges.length _ ⟨0, by simp, by simp, rfl⟩ (by simp [go_sem, encTab, encG, encEq, encI]) ?_
   rintro n e ⟨k, hk, h0, rfl⟩
   by_cases hlt : k < t.old.edges.length
   ·obtain ⟨x, hx⟩ : ∃ x, t.old.edges[k] = x := ⟨_, rfl⟩
    have k1 := j1 p2 x
    have k2 := j2 (x.to, folB t p2 x)
    obtain ⟨v, hv⟩ : ∃ v, folB t p2 x = v := ⟨_, rfl⟩
    obtain ⟨w, hw⟩ : ∃ w, placeB t (x.to, v) = w := ⟨_, rfl⟩
    rw [hv] at k1 k2
    simp only [hw] at k2
    cases c1 : atE p1 a x with
    | true =>
      have hf := find_at (p := atE p1 a) hlt h0 (by rw [hx]; exact c1)
      rw [hx] at hf
      have hR : afterV t i a = (max w 0, decide (0 ≤ w)) := by
       unfold afterV
       rw [hA, hf]
       simp [hv, hw]
      simp only [atE, actEq, Bool.and_eq_true, beq_iff_eq] at c1
      obtain ⟨u1, ⟨u2, u3⟩, u4⟩ := c1
      rw [hR]
      rw [u1, u2, u3, u4] at k1
      repeat' first | refine St.go ?_ | ((with_reducible refine zY (t := ?_) ?hc (fun h => ?_) (fun h => ?_)); (case hc => rfl); all_goals (try simp [go_sem, hlt, hx, encTab, encG, encEq, encEd, encI, u1, u2, u3, u4] at h); all_goals try omega) | (refine Ru.go ?_; intro K hK; simp [go_sem, hlt, hx, encTab, encG, encEq, encEd, encI, u1, u2, u3, u4]; (try simp (disch := omega) only [zh, zi, eq_self, true_and]); (first | apply hK | ((try refine .inl ?_); refine ⟨_, by (try intro hc); (repeat' first | exact k1 | exact k2 | exact hc | refine And.intro ?_ ?_ | simp [go_sem, hlt, hx, encTab, encG, encEq, encEd, encI, u1, u2, u3, u4]); first | done | omega, ?_⟩; first | apply hK | (refine ⟨by simp [go_sem, hlt, hx, encTab, encG, encEq, encEd, encI, u1, u2, u3, u4], ?_⟩; first | apply hK | refine ⟨by simp [go_sem, hlt, hx, encTab, encG, encEq, encEd, encI, u1, u2, u3, u4], hK _ _ ?_⟩)) | refine ⟨by first | omega | (simp [zf, zg, hlt, hx, encTab, encG, encEq, encEd, encI, u1, u2, u3, u4]; first | done | omega), ?_⟩ | refine ⟨hK _ ?_, fun h => ?_⟩ | refine ⟨?_, ?_⟩); all_goals ((try apply hK); clear hK K))
      simp [go_sem]
    | false =>
      have c2 : (x.from_ == p1 && (x.act.from_ == a.from_ && (x.act.to == a.to && x.act.label == a.label))) = false := by
       rw [← c1]
       simp only [atE, actEq, Bool.and_assoc]
      repeat' first | refine St.go ?_ | ((with_reducible refine zY (t := ?_) ?hc (fun h => ?_) (fun h => ?_)); (case hc => rfl); all_goals (try simp [go_sem, hlt, hx, encTab, encG, encEq, encEd, encI, c2] at h); all_goals try omega) | (refine Ru.go ?_; intro K hK; simp [go_sem, hlt, hx, encTab, encG, encEq, encEd, encI, c2]; (try simp (disch := omega) only [zh, zi, eq_self, true_and]); (first | apply hK | ((try refine .inl ?_); refine ⟨_, by (try intro hc); (repeat' first | exact k1 | exact k2 | exact hc | refine And.intro ?_ ?_ | simp [go_sem, hlt, hx, encTab, encG, encEq, encEd, encI, c2]); first | done | omega, ?_⟩; first | apply hK | (refine ⟨by simp [go_sem, hlt, hx, encTab, encG, encEq, encEd, encI, c2], ?_⟩; first | apply hK | refine ⟨by simp [go_sem, hlt, hx, encTab, encG, encEq, encEd, encI, c2], hK _ _ ?_⟩)) | refine ⟨by first | omega | (simp [zf, zg, hlt, hx, encTab, encG, encEq, encEd, encI, c2]; first | done | omega), ?_⟩ | refine ⟨hK _ ?_, fun h => ?_⟩ | refine ⟨?_, ?_⟩); all_goals ((try apply hK); clear hK K))
      refine zj (n - 1) _ (by omega) ⟨k + 1, by omega, ?_, rfl⟩ ?_
      ·rw [any_succ hlt, h0, hx, c1]; rfl
      ·simp [go_sem, encTab, encG, encEq, encI]
   ·have hkl : t.old.edges.take k = t.old.edges := List.take_of_length_le (by omega)
    rw [hkl] at h0
    have hf := find_none h0
    have hR : afterV t i a = (0, false) := by
     unfold afterV
     rw [hA, hf]
     rfl
    rw [hR]
    repeat' first | refine St.go ?_ | ((with_reducible refine zY (t := ?_) ?hc (fun h => ?_) (fun h => ?_)); (case hc => rfl); all_goals (try simp [go_sem, hlt] at h); all_goals try omega) | (refine Ru.go ?_; intro K hK; simp [go_sem, hlt]; (try simp (disch := omega) only [zh, zi, eq_self, true_and]); (first | apply hK | refine ⟨by first | omega | (simp [zf, zg, hlt]; first | done | omega), ?_⟩ | refine ⟨hK _ ?_, fun h => ?_⟩ | refine ⟨?_, ?_⟩); all_goals ((try apply hK); clear hK K))
    simp [go_sem]
  ·have hF : afterV t i a = (0, false) := by
    have : t.pairs[i.toNat]? = none := List.getElem?_eq_none (by omega)
    simp [afterV, afterP, this]
   have n2 : (t.pairs.length : Int) ≤ i := by omega
   rw [hF]
   repeat' first | refine St.go ?_ | ((with_reducible refine zY (t := ?_) ?hc (fun h => ?_) (fun h => ?_)); (case hc => rfl); all_goals (try simp [go_sem, encTab, encG, encI, h1, n2] at h); all_goals try omega) | (refine Ru.go ?_; intro K hK; simp [go_sem, encTab, encG, encI, h1, n2]; (try simp (disch := omega) only [zh, zi, eq_self, true_and]); (first | apply hK | refine ⟨by first | omega | (simp [zf, zg, encTab, encG, encI, h1, n2]; first | done | omega), ?_⟩ | refine ⟨hK _ ?_, fun h => ?_⟩ | refine ⟨?_, ?_⟩); all_goals ((try apply hK); clear hK K))
   simp [go_sem]
end Go.Av
namespace Go.Av
open Go Go.RowKit Go.Proofs
set_option maxRecDepth 8000
deriving instance DecidableEq for Dcl
def few31 (g : Glob) : Bool := fewG g && (decide (g.states ≤ 15) && decide ((allF g.decls).length ≤ 24))
theorem few_flds {g : Glob} (h : fewG g = true) : g.decls.length ≤ 60 ∧ ∀ d ∈ g.decls, d.fields.length ≤ 100 ∧ d.diffs.length ≤ 100 ∧ d.equals.length ≤ 100 := by
 simp only [fewG, fewD, Bool.and_eq_true, decide_eq_true_eq] at h
 obtain ⟨_, h1, h2⟩ := h
 refine ⟨h1, fun d hd => ?_⟩
 obtain ⟨k, hk, he⟩ := List.mem_iff_getElem.1 hd
 have h3 := units_succ hk
 rw [he] at h3
 have h4 : units g.decls (k + 1) ≤ units g.decls g.decls.length := by
  have : ∀ n, k + 1 + n ≤ g.decls.length → units g.decls (k + 1) ≤ units g.decls (k + 1 + n) := by
   intro n
   induction n with
   | zero => intro _; exact Nat.le_refl _
   | succ n ih =>
     intro hn
     have a1 := ih (by omega)
     have a2 := units_succ (l := g.decls) (k := k + 1 + n) (by omega)
     rw [← Nat.add_assoc] 
     omega
  have h5 := this (g.decls.length - (k + 1)) (by omega)
  rwa [show k + 1 + (g.decls.length - (k + 1)) = g.decls.length by omega] at h5
 omega
theorem f6 (g : Glob) (hl : g.decls.length ≤ 1000000000000000) (hp : ∀ d ∈ g.decls, d.fields.length ≤ 1000000000000000 ∧ d.diffs.length ≤ 1000000000000000 ∧ d.equals.length ≤ 1000000000000000) : Impl Tryd.prog 6 [.ag (encG g)] (.one (.one (.bool (few31 g)))) := by
 have k1 := f10 g hl hp
 simp only [encG] at k1
 refine impl_z Tryd.func6 z6 Tryd.ntmps6 (by simp) ?_
 simp only [c6, slotsOf]
 cases hf : fewG g with
 | false =>
   have hF : few31 g = false := by simp [few31, hf]
   rw [hF]
   rw [hf] at k1
   repeat' first | refine St.go ?_ | (refine Ru.go ?_; intro K hK; simp [go_sem, encG]; (first | apply hK | ((try refine .inl ?_); refine ⟨_, by (try intro hc); (repeat' first | exact k1 | exact hc | refine And.intro ?_ ?_ | simp [go_sem, encG]); first | done | omega, ?_⟩; first | apply hK | (refine ⟨by simp [go_sem, encG], ?_⟩; first | apply hK | refine ⟨by simp [go_sem, encG], hK _ _ ?_⟩)) | refine ⟨.one (.one (.bool false)), by simp [go_sem, encG], hK _ _ ?_⟩ | refine ⟨by first | omega | (simp [zf, zg, encG]; first | done | omega), ?_⟩ | refine ⟨hK _ ?_, fun h => ?_⟩ | refine ⟨?_, ?_⟩); all_goals ((try apply hK); clear hK K))
   simp [go_sem]
 | true =>
   obtain ⟨q1, q2⟩ := few_flds hf
   have k2 := f11 g.decls (by omega) fun d hd => by have := (q2 d hd).1; omega
   rw [hf] at k1
   obtain ⟨n, hn⟩ : ∃ n, (allF g.decls).length = n := ⟨_, rfl⟩
   have hF : few31 g = (decide (g.states ≤ 15) && decide ((n : Int) ≤ 24)) := by
    simp only [few31, hf, hn, Bool.true_and]
    congr 1
    rw [Bool.eq_iff_iff]
    simp
    omega
   rw [hF]
   rw [hn] at k2
   clear hF hn
   by_cases h1 : g.states ≤ 15
   ·skip
    repeat' first | refine St.go ?_ | (refine Ru.go ?_; intro K hK; simp [go_sem, encG, h1]; (first | apply hK | ((try refine .inl ?_); refine ⟨_, by (try intro hc); (repeat' first | exact k1 | exact k2 | exact hc | refine And.intro ?_ ?_ | simp [go_sem, encG, h1]); first | done | omega, ?_⟩; first | apply hK | (refine ⟨by simp [go_sem, encG, h1], ?_⟩; first | apply hK | refine ⟨by simp [go_sem, encG, h1], hK _ _ ?_⟩)) | refine ⟨.one (.one (.bool false)), by simp [go_sem, encG, h1], hK _ _ ?_⟩ | refine ⟨by first | omega | (simp [zf, zg, encG, h1]; first | done | omega), ?_⟩ | refine ⟨hK _ ?_, fun h => ?_⟩ | refine ⟨?_, ?_⟩); all_goals ((try apply hK); clear hK K))
    simp [go_sem, h1]
   ·skip
    repeat' first | refine St.go ?_ | (refine Ru.go ?_; intro K hK; simp [go_sem, encG, h1]; (first | apply hK | ((try refine .inl ?_); refine ⟨_, by (try intro hc); (repeat' first | exact k1 | exact k2 | exact hc | refine And.intro ?_ ?_ | simp [go_sem, encG, h1]); first | done | omega, ?_⟩; first | apply hK | (refine ⟨by simp [go_sem, encG, h1], ?_⟩; first | apply hK | refine ⟨by simp [go_sem, encG, h1], hK _ _ ?_⟩)) | refine ⟨.one (.one (.bool false)), by simp [go_sem, encG, h1], hK _ _ ?_⟩ | refine ⟨by first | omega | (simp [zf, zg, encG, h1]; first | done | omega), ?_⟩ | refine ⟨hK _ ?_, fun h => ?_⟩ | refine ⟨?_, ?_⟩); all_goals ((try apply hK); clear hK K))
    simp [go_sem, h1]
end Go.Av
namespace Go.Av
open Go Go.RowKit Go.Proofs
set_option maxRecDepth 8000
end Go.Av
namespace Go.Av
open Go Go.RowKit Go.Proofs
set_option maxRecDepth 8000
deriving instance DecidableEq for Glob
end Go.Av
namespace Go.Av
open Go Go.RowKit Go.Proofs
set_option maxRecDepth 8000
deriving instance DecidableEq for Tab
def MedG (g : Glob) : Prop := g.decls.length ≤ 1000000 ∧ (∀ d ∈ g.decls, d.fields.length ≤ 1000000 ∧ d.diffs.length ≤ 1000000 ∧ d.equals.length ≤ 1000000) ∧ g.roles.length ≤ 1000000 ∧ g.edges.length ≤ 1000000 ∧ g.timeouts.length ≤ 1000000
end Go.Av
namespace Go.Av
open Go Go.RowKit Go.Proofs
set_option maxRecDepth 8000
theorem frz_encD (x : Dcl) : frzL (encD x) = encD x := by simp [encD, frzL, DV.frz]
def isOw : DV → Bool
 | .ow _ _ => true
 | .bx _ => true
 | _ => false
theorem hasOw_cons (x : DV) (l : List DV) : hasOw (x :: l) = (isOw x || hasOw l) := by
 cases x <;> simp [hasOw, isOw]
set_option maxHeartbeats 8000000 in
theorem f14 (g : Glob) (h : MedG g) : Impl Tryd.prog 14 [.ag (encG g)] (.one (.ag (encG g))) := by
 obtain ⟨hd, hd2, hr, he, ht⟩ := h
 have k1 := f31 g.roles hr
 have k2 := f32 g.edges he
 have k3 := f33 g.timeouts ht
 refine impl_z Tryd.func14 z14 Tryd.ntmps14 (by simp) ?_
 simp only [c14, slotsOf]
 repeat' first | refine St.go ?_ | ((with_reducible refine zY (t := ?_) ?hc (fun h => ?_) (fun h => ?_)); (case hc => rfl); all_goals (try simp [go_sem, encG] at h); all_goals try omega) | (refine Ru.go ?_; intro K hK; simp [go_sem, encG]; (try simp (disch := omega) only [zh, zi, eq_self, true_and]); (first | apply hK | ((try refine .inl ?_); refine ⟨_, by (try intro hc); (repeat' first | exact k1 | exact k2 | exact k3 | exact hc | refine And.intro ?_ ?_ | simp [go_sem, encG]); first | done | omega, ?_⟩; first | apply hK | (refine ⟨by simp [go_sem, encG], ?_⟩; first | apply hK | refine ⟨by simp [go_sem, encG], hK _ _ ?_⟩)) | refine ⟨by first | omega | (simp [zf, zg, encG]; first | done | omega), ?_⟩ | refine ⟨hK _ ?_, fun h => ?_⟩ | refine ⟨?_, ?_⟩); all_goals ((try apply hK); clear hK K))
 refine zk (fun n e => ∃ (k : Nat) (D : DV), k + n = g.decls.length ∧ ((k = 0 ∧ D = .nil) ∨ (0 < k ∧ D = .ow 5 ((g.decls.take k).map encD))) ∧ e = [(23, .sv (.one (.int .i64 k))), (22, .sv (.one (.int .i64 g.decls.length))), (21, .sv (.one (.sl (g.decls.map encD)))), (3, .sv (.one (.bx [.str g.name, .sl (g.roles.map encS), D, .int .i64 g.states, .int .i64 g.start, .int .i64 g.end_, .sl (g.edges.map encEd), .sl (g.timeouts.map encT)]))), (2, .sv (.one (.bx [.str ⟨#[]⟩, .nil, .nil, .int .i64 0, .int .i64 0, .int .i64 0, .nil, .nil])))]) g.decls.length _ ⟨0, .nil, by simp, .inl ⟨rfl, rfl⟩, rfl⟩ (by simp [go_sem]) ?_
 rintro n e ⟨k, D, hk, hD, rfl⟩
 by_cases hlt : k < g.decls.length
 ·obtain ⟨d, hdk⟩ : ∃ d, g.decls[k] = d := ⟨_, rfl⟩
  obtain ⟨q1, q2, q3⟩ := hd2 d (hdk ▸ List.getElem_mem hlt)
  have j1 := f34 d.fields q1
  have j2 := f35 d.diffs q2
  have j3 := f36 d.equals q3
  have hap : ∀ l : List Dcl, l.length ≤ 1000000 → zf 5 96 (l.map encD) [encD d] := by
   intro l hl
   refine ⟨?_, ?_, by omega, ?_, ?_⟩
   ·intro e he; rw [List.mem_singleton.1 he]; rfl
   ·intro e he; rw [List.mem_singleton.1 he]; rfl
   ·simp only [List.length_map, List.length_singleton, maxLen]; omega
   ·simp only [List.length_map, List.length_singleton]; omega
  have hap0 := hap [] (by simp)
  have hap1 := hap (g.decls.take k) (by simp; omega)
  have hz : encD d = [.str d.name, .sl (d.fields.map encF), .int .i64 d.first, .sl (d.diffs.map encDf), .sl (d.equals.map encEq)] := rfl
  rw [hz] at hap0 hap1
  rw [List.map_take] at hap1
  simp only [List.map_nil] at hap0
  have hsucc : (g.decls.take (k + 1)).map encD = (g.decls.take k).map encD ++ [encD d] := by
   rw [List.take_succ_eq_append_getElem hlt, hdk, List.map_append]; rfl
  rcases hD with ⟨hk0, rfl⟩ | ⟨hk0, rfl⟩
  ·skip
   repeat' first | refine St.go ?_ | ((with_reducible refine zY (t := ?_) ?hc (fun h => ?_) (fun h => ?_)); (case hc => rfl); all_goals (try simp [go_sem, hlt, hdk, encD, hap0] at h); all_goals try omega) | (refine Ru.go ?_; intro K hK; simp [go_sem, hlt, hdk, encD, hap0]; (try simp (disch := omega) only [zh, zi, eq_self, true_and]); (first | apply hK | ((try refine .inl ?_); refine ⟨_, by (try intro hc); (repeat' first | exact j1 | exact j2 | exact j3 | exact hc | refine And.intro ?_ ?_ | simp [go_sem, hlt, hdk, encD, hap0]); first | done | omega, ?_⟩; first | apply hK | (refine ⟨by simp [go_sem, hlt, hdk, encD, hap0], ?_⟩; first | apply hK | refine ⟨by simp [go_sem, hlt, hdk, encD, hap0], hK _ _ ?_⟩)) | refine ⟨by first | omega | (simp [zf, zg, hlt, hdk, encD, hap0]; first | done | omega), ?_⟩ | refine ⟨hK _ ?_, fun h => ?_⟩ | refine ⟨?_, ?_⟩); all_goals ((try apply hK); clear hK K))
   subst hk0
   refine zj (n - 1) _ (by omega) ⟨1, _, by omega, .inr ⟨by omega, rfl⟩, rfl⟩ ?_
   simp [go_sem, hsucc, encD]
  ·skip
   repeat' first | refine St.go ?_ | ((with_reducible refine zY (t := ?_) ?hc (fun h => ?_) (fun h => ?_)); (case hc => rfl); all_goals (try simp [go_sem, hlt, hdk, encD, hap1] at h); all_goals try omega) | (refine Ru.go ?_; intro K hK; simp [go_sem, hlt, hdk, encD, hap1]; (try simp (disch := omega) only [zh, zi, eq_self, true_and]); (first | apply hK | ((try refine .inl ?_); refine ⟨_, by (try intro hc); (repeat' first | exact j1 | exact j2 | exact j3 | exact hc | refine And.intro ?_ ?_ | simp [go_sem, hlt, hdk, encD, hap1]); first | done | omega, ?_⟩; first | apply hK | (refine ⟨by simp [go_sem, hlt, hdk, encD, hap1], ?_⟩; first | apply hK | refine ⟨by simp [go_sem, hlt, hdk, encD, hap1], hK _ _ ?_⟩)) | refine ⟨by first | omega | (simp [zf, zg, hlt, hdk, encD, hap1]; first | done | omega), ?_⟩ | refine ⟨hK _ ?_, fun h => ?_⟩ | refine ⟨?_, ?_⟩); all_goals ((try apply hK); clear hK K))
   refine zj (n - 1) _ (by omega) ⟨k + 1, _, by omega, .inr ⟨by omega, rfl⟩, rfl⟩ ?_
   simp [go_sem, hsucc, encD]
 ·have hkl : g.decls.take k = g.decls := List.take_of_length_le (by omega)
  rw [hkl] at hD
  rcases hD with ⟨hk0, rfl⟩ | ⟨hk0, rfl⟩
  ·have hnil : g.decls = [] := List.eq_nil_of_length_eq_zero (by omega)
   repeat' first | refine St.go ?_ | ((with_reducible refine zY (t := ?_) ?hc (fun h => ?_) (fun h => ?_)); (case hc => rfl); all_goals (try simp [go_sem, hlt, hasOw_cons, isOw, Bool.or_true, Bool.true_or, Bool.or_false] at h); all_goals try omega) | (refine Ru.go ?_; intro K hK; simp [go_sem, hlt, hasOw_cons, isOw, Bool.or_true, Bool.true_or, Bool.or_false]; (try simp (disch := omega) only [zh, zi, eq_self, true_and]); (first | apply hK | refine ⟨by first | omega | (simp [zf, zg, hlt, hasOw_cons, isOw, Bool.or_true, Bool.true_or, Bool.or_false, DV.flat]; first | done | omega), ?_⟩ | refine ⟨hK _ ?_, fun h => ?_⟩ | refine ⟨?_, ?_⟩); all_goals ((try apply hK); clear hK K))
   simp [go_sem, encG, hnil]
  ·skip
   repeat' first | refine St.go ?_ | ((with_reducible refine zY (t := ?_) ?hc (fun h => ?_) (fun h => ?_)); (case hc => rfl); all_goals (try simp [go_sem, hlt, hasOw_cons, isOw, Bool.or_true, Bool.true_or] at h); all_goals try omega) | (refine Ru.go ?_; intro K hK; simp [go_sem, hlt, hasOw_cons, isOw, Bool.or_true, Bool.true_or]; (try simp (disch := omega) only [zh, zi, eq_self, true_and]); (first | apply hK | refine ⟨by first | omega | (simp [zf, zg, hlt, hasOw_cons, isOw, Bool.or_true, Bool.true_or, DV.flat]; first | done | omega), ?_⟩ | refine ⟨hK _ ?_, fun h => ?_⟩ | refine ⟨?_, ?_⟩); all_goals ((try apply hK); clear hK K))
   simp [go_sem, encG, frz_encD]
end Go.Av
namespace Go.Av
open Go Go.RowKit Go.Proofs
theorem und61 : Tryd.prog.underlying 38 = some (.array 2 3) := by kernel_rfl
theorem und3 : Tryd.prog.underlying 3 = some (.int .i64) := by kernel_rfl
theorem size3 : sizeT Tryd.prog 3 = some 1 := by kernel_rfl
theorem kind3 : kindT Tryd.prog 3 = some false := by kernel_rfl
theorem key61 (a b : Int) : KeyT Tryd.prog 38 [.ki .i64 a, .ki .i64 b] := by
 intro em w
 have h1 : ∀ (n : Nat) (x : Int), (Instr.checkKey em (n + 1) 3 (.int .i64 x)).run Tryd.prog w = .ok () w := by
  intro n x
  simp [Instr.checkKey, run_underlying und3]
 show (Instr.checkKey em (9998 + 1 + 1) 38 _).run Tryd.prog w = _
 rw [Instr.checkKey]
 simp only [KV.key, List.map_cons, List.map_nil, KV.val, Sem.run_bind, run_underlying und61, Result.andThen_ok, Std.Legacy.Range.forIn_eq_forIn_range', Std.Legacy.Range.size, Nat.sub_zero, Nat.add_sub_cancel, Nat.div_one, List.range'_succ, List.range'_zero, List.forIn_cons, List.forIn_nil, run_sizeOf size3, part, run_isAgg kind3, Bool.false_eq_true, if_false]
 simp [h1]
end Go.Av
namespace Go.Av
abbrev Pr := Int × Int
def addP (ps : List Pr) (q : Pr) : List Pr := if q ∈ ps then ps else ps ++ [q]
def addAll : List Pr → List Pr → List Pr
 | ps, [] => ps
 | ps, q :: qs => addAll (addP ps q) qs
def bfs (succ : Pr → List Pr) : Nat → Nat → List Pr → List Pr
 | 0, _, ps => ps
 | n + 1, i, ps => match ps[i]? with
   | none => ps
   | some p => bfs succ n (i + 1) (addAll ps (succ p))
theorem mem_addP {ps : List Pr} {q x : Pr} : x ∈ addP ps q ↔ x ∈ ps ∨ x = q := by
 unfold addP
 split
 ·rename_i h
  constructor
  ·exact .inl
  ·rintro (h' | rfl)
   ·exact h'
   ·exact h
 ·simp
theorem nodup_addP {ps : List Pr} {q : Pr} (h : ps.Nodup) : (addP ps q).Nodup := by
 unfold addP
 split
 ·exact h
 ·rename_i hq
  rw [List.nodup_append]
  refine ⟨h, by simp, ?_⟩
  intro a ha b hb
  simp only [List.mem_singleton] at hb
  subst hb
  rintro rfl
  exact hq ha
theorem addP_pre (ps : List Pr) (q : Pr) : ∃ l, addP ps q = ps ++ l := by
 unfold addP
 split
 ·exact ⟨[], by simp⟩
 ·exact ⟨[q], rfl⟩
theorem addAll_pre : ∀ (ps qs : List Pr), ∃ l, addAll ps qs = ps ++ l
 | ps, [] => ⟨[], by simp [addAll]⟩
 | ps, q :: qs => by
   obtain ⟨l1, h1⟩ := addP_pre ps q
   obtain ⟨l2, h2⟩ := addAll_pre (addP ps q) qs
   exact ⟨l1 ++ l2, by rw [addAll, h2, h1, List.append_assoc]⟩
theorem mem_addAll {x : Pr} : ∀ {ps qs : List Pr}, x ∈ addAll ps qs ↔ x ∈ ps ∨ x ∈ qs
 | ps, [] => by simp [addAll]
 | ps, q :: qs => by
   rw [addAll, mem_addAll, mem_addP]
   simp [or_assoc]
theorem nodup_addAll : ∀ {ps qs : List Pr}, ps.Nodup → (addAll ps qs).Nodup
 | _, [], h => h
 | _, _ :: _, h => nodup_addAll (ps := addP _ _) (nodup_addP h)
theorem addAll_append : ∀ (ps qs rs : List Pr), addAll ps (qs ++ rs) = addAll (addAll ps qs) rs
 | _, [], _ => rfl
 | ps, q :: qs, rs => by simp [addAll, addAll_append]
theorem nodup_lt : ∀ (n : Nat) (l : List Nat), l.Nodup → (∀ x ∈ l, x < n) → l.length ≤ n
 | 0, l, _, h => by
   cases l with
   | nil => simp
   | cons x l => exact absurd (h x (by simp)) (by omega)
 | n + 1, l, hn, h => by
   by_cases hm : n ∈ l
   ·have h1 := List.length_erase_of_mem hm
    have h2 := nodup_lt n (l.erase n) (hn.erase n) (fun x hx => by
     have := h x (List.mem_of_mem_erase hx)
     have hne : x ≠ n := by rintro rfl; exact (List.Nodup.not_mem_erase hn) hx
     omega)
    omega
   ·have := nodup_lt n l hn (fun x hx => by
     have := h x hx
     have hne : x ≠ n := by rintro rfl; exact hm hx
     omega)
    omega
def inBox (a b : Nat) (p : Pr) : Prop := 0 ≤ p.1 ∧ p.1 < a ∧ -1 ≤ p.2 ∧ p.2 < b
theorem box_len {a b : Nat} {l : List Pr} (hn : l.Nodup) (h : ∀ p ∈ l, inBox a b p) : l.length ≤ a * (b + 1) := by
 have hinj : (l.map fun p => p.1.toNat * (b + 1) + (p.2 + 1).toNat).Nodup := by
  rw [List.Nodup, List.pairwise_map]
  refine List.Pairwise.imp_of_mem ?_ hn
  intro x y hx hy hne he
  obtain ⟨x1, x2, x3, x4⟩ := h x hx
  obtain ⟨y1, y2, y3, y4⟩ := h y hy
  apply hne
  have e1 : x.1.toNat = y.1.toNat := by
   have q1 : (x.1.toNat * (b + 1) + (x.2 + 1).toNat) / (b + 1) = x.1.toNat := by
    rw [Nat.mul_comm, Nat.mul_add_div (by omega), Nat.div_eq_of_lt (by omega)]; rfl
   have q2 : (y.1.toNat * (b + 1) + (y.2 + 1).toNat) / (b + 1) = y.1.toNat := by
    rw [Nat.mul_comm, Nat.mul_add_div (by omega), Nat.div_eq_of_lt (by omega)]; rfl
   rw [← q1, ← q2, he]
  rw [e1] at he
  have e2 : (x.2 + 1).toNat = (y.2 + 1).toNat := by omega
  exact Prod.ext (by omega) (by omega)
 have := nodup_lt (a * (b + 1)) _ hinj (fun x hx => by
  obtain ⟨p, hp, rfl⟩ := List.mem_map.1 hx
  obtain ⟨p1, p2, p3, p4⟩ := h p hp
  have h1 : p.1.toNat + 1 ≤ a := by omega
  have h2 := Nat.mul_le_mul_right (b + 1) h1
  rw [Nat.add_mul] at h2
  omega)
 simpa using this
def closedTo (succ : Pr → List Pr) (i : Nat) (ps : List Pr) : Prop := ∀ p ∈ ps.take i, ∀ q ∈ succ p, q ∈ ps
theorem closed_step {succ : Pr → List Pr} {i : Nat} {ps : List Pr} {p : Pr} (h : closedTo succ i ps) (hp : ps[i]? = some p) : closedTo succ (i + 1) (addAll ps (succ p)) := by
 obtain ⟨l, hl⟩ := addAll_pre ps (succ p)
 obtain ⟨hi, rfl⟩ := List.getElem?_eq_some_iff.1 hp
 have ht : (addAll ps (succ ps[i])).take (i + 1) = ps.take i ++ [ps[i]] := by
  rw [hl, List.take_append_of_le_length (by omega), List.take_succ_eq_append_getElem hi]
 intro x hx q hq
 rw [ht] at hx
 rw [mem_addAll]
 simp only [List.mem_append, List.mem_singleton] at hx
 rcases hx with hx | rfl
 ·exact .inl (h x hx q hq)
 ·exact .inr hq
theorem bfs_keeps {succ : Pr → List Pr} {C : Pr → Prop} (hC : ∀ p, C p → ∀ q ∈ succ p, C q) : ∀ (n i : Nat) (ps : List Pr), (∀ p ∈ ps, C p) → ∀ p ∈ bfs succ n i ps, C p
 | 0, _, _, h => h
 | n + 1, i, ps, h => by
   simp only [bfs]
   split
   ·exact h
   ·rename_i p hp
    refine bfs_keeps hC n (i + 1) _ ?_
    intro q hq
    rcases mem_addAll.1 hq with hq | hq
    ·exact h q hq
    ·exact hC p (h p (List.mem_of_getElem? hp)) q hq
theorem bfs_nodup {succ : Pr → List Pr} : ∀ (n i : Nat) (ps : List Pr), ps.Nodup → (bfs succ n i ps).Nodup
 | 0, _, _, h => h
 | n + 1, i, ps, h => by
   simp only [bfs]
   split
   ·exact h
   ·exact bfs_nodup n (i + 1) _ (nodup_addAll h)
theorem bfs_pre {succ : Pr → List Pr} : ∀ (n i : Nat) (ps : List Pr), ∃ l, bfs succ n i ps = ps ++ l
 | 0, _, _ => ⟨[], by simp [bfs]⟩
 | n + 1, i, ps => by
   simp only [bfs]
   split
   ·exact ⟨[], by simp⟩
   ·rename_i p hp
    obtain ⟨l1, h1⟩ := addAll_pre ps (succ p)
    obtain ⟨l2, h2⟩ := bfs_pre (succ := succ) n (i + 1) (addAll ps (succ p))
    exact ⟨l1 ++ l2, by rw [h2, h1, List.append_assoc]⟩
theorem bfs_closed {succ : Pr → List Pr} {a b : Nat} (hb : ∀ p, inBox a b p → ∀ q ∈ succ p, inBox a b q) : ∀ (n i : Nat) (ps : List Pr), ps.Nodup → (∀ p ∈ ps, inBox a b p) → closedTo succ i ps → i ≤ ps.length → a * (b + 1) ≤ i + n →
  ∀ p ∈ bfs succ n i ps, ∀ q ∈ succ p, q ∈ bfs succ n i ps
 | 0, i, ps, h1, h2, h3, h4, h5 => by
   have := box_len h1 h2
   intro p hp q hq
   simp only [bfs] at hp ⊢
   refine h3 p ?_ q hq
   rw [List.take_of_length_le (by omega)]
   exact hp
 | n + 1, i, ps, h1, h2, h3, h4, h5 => by
   simp only [bfs]
   split
   ·rename_i hp
    have hle := List.getElem?_eq_none_iff.1 hp
    intro p hp q hq
    refine h3 p ?_ q hq
    rw [List.take_of_length_le (by omega)]
    exact hp
   ·rename_i p hp
    obtain ⟨hi, hpe⟩ := List.getElem?_eq_some_iff.1 hp
    obtain ⟨l, hl⟩ := addAll_pre ps (succ p)
    refine bfs_closed hb n (i + 1) _ (nodup_addAll h1) ?_ (closed_step h3 hp) ?_ (by omega)
    ·intro q hq
     rcases mem_addAll.1 hq with hq | hq
     ·exact h2 q hq
     ·exact hb p (h2 p (List.mem_of_getElem? hp)) q hq
    ·rw [hl, List.length_append]; omega
def idxP (ps : List Pr) (q : Pr) : Int := (ps.idxOf q : Nat)
def rowOf (succ : Pr → List Pr) (ps : List Pr) (p : Pr) : List Int := (succ p).map (idxP ps)
theorem idxP_pre {ps l : List Pr} {q : Pr} (h : q ∈ ps) : idxP (ps ++ l) q = idxP ps q := by
 unfold idxP
 rw [List.idxOf_append, if_pos h]
theorem idxP_get {ps : List Pr} {q : Pr} (h : q ∈ ps) : 0 ≤ idxP ps q ∧ (idxP ps q).toNat < ps.length ∧ ps[(idxP ps q).toNat]? = some q := by
 unfold idxP
 have hlt := List.idxOf_lt_length_of_mem h
 refine ⟨by omega, by simpa using hlt, ?_⟩
 rw [Int.toNat_natCast, List.getElem?_eq_getElem hlt, List.getElem_idxOf]
def badRow (good : List Bool) (l : List Int) : Bool := l.any fun k => !(good[k.toNat]?.getD false)
def firstBad (good : List Bool) (bh : List (List Int)) : Option Nat := bh.zipIdx.findSome? fun x => if (good[x.2]?.getD false) && badRow good x.1 then some x.2 else none
def del (bh : List (List Int)) : Nat → List Bool → List Bool
 | 0, g => g
 | n + 1, g => match firstBad g bh with
   | none => g
   | some i => del bh n (g.set i false)
theorem firstBad_some {good : List Bool} {bh : List (List Int)} {i : Nat} (h : firstBad good bh = some i) : good[i]? = some true ∧ ∃ l, bh[i]? = some l ∧ badRow good l = true := by
 unfold firstBad at h
 obtain ⟨x, hx, he⟩ := List.exists_of_findSome?_eq_some h
 split at he
 ·rename_i hc
  injection he with he
  subst he
  simp only [Bool.and_eq_true] at hc
  have := List.mem_zipIdx_iff_getElem?.1 hx
  refine ⟨?_, x.1, this, hc.2⟩
  cases hg : good[x.2]? with
  | none => rw [hg] at hc; simp at hc
  | some b => rw [hg] at hc; simp at hc; rw [hc.1]
 ·cases he
theorem firstBad_none {good : List Bool} {bh : List (List Int)} (h : firstBad good bh = none) {i : Nat} {l : List Int} (hl : bh[i]? = some l) (hg : good[i]? = some true) : badRow good l = false := by
 unfold firstBad at h
 rw [List.findSome?_eq_none_iff] at h
 have := h (l, i) (List.mem_zipIdx_iff_getElem?.2 hl)
 rw [hg] at this
 simp only [Option.getD_some, Bool.true_and] at this
 cases hb : badRow good l
 ·rfl
 ·rw [hb] at this; simp at this
def trues (g : List Bool) : Nat := g.countP id
theorem trues_set : ∀ {g : List Bool} {i : Nat}, g[i]? = some true → trues (g.set i false) + 1 = trues g
 | [], _, h => by simp at h
 | b :: g, 0, h => by
   simp at h
   subst h
   simp [trues]
 | b :: g, i + 1, h => by
   have := trues_set (g := g) (i := i) (by simpa using h)
   unfold trues at this ⊢
   rw [List.set_cons_succ, List.countP_cons, List.countP_cons]
   omega
theorem del_len (bh : List (List Int)) : ∀ (n : Nat) (g : List Bool), (del bh n g).length = g.length
 | 0, _ => rfl
 | n + 1, g => by
   simp only [del]
   split
   ·rfl
   ·rw [del_len bh n]; simp
theorem del_fix (bh : List (List Int)) : ∀ (n : Nat) (g : List Bool), trues g ≤ n → firstBad (del bh n g) bh = none
 | 0, g, h => by
   simp only [del]
   cases hf : firstBad g bh with
   | none => rfl
   | some i =>
     have := trues_set (firstBad_some hf).1
     omega
 | n + 1, g, h => by
   simp only [del]
   split
   ·assumption
   ·rename_i i hf
    have := trues_set (firstBad_some hf).1
    exact del_fix bh n _ (by omega)
theorem del_sub (bh : List (List Int)) : ∀ (n : Nat) (g : List Bool) (i : Nat), (del bh n g)[i]? = some true → g[i]? = some true
 | 0, _, _, h => h
 | n + 1, g, i, h => by
   simp only [del] at h
   split at h
   ·exact h
   ·rename_i k hf
    have := del_sub bh n _ i h
    rw [List.getElem?_set] at this
    split at this
    ·split at this <;> simp at this
    ·exact this
theorem del_keep (bh : List (List Int)) (C : Nat → Prop) (hC : ∀ i, C i → ∀ l, bh[i]? = some l → ∀ k ∈ l, C k.toNat) : ∀ (n : Nat) (g : List Bool), (∀ i, C i → g[i]? = some true) → ∀ i, C i → (del bh n g)[i]? = some true
 | 0, _, h => h
 | n + 1, g, h => by
   simp only [del]
   split
   ·exact h
   ·rename_i k hf
    obtain ⟨hk, l, hl, hbad⟩ := firstBad_some hf
    refine del_keep bh C hC n _ ?_
    intro i hi
    have hne : k ≠ i := by
     rintro rfl
     unfold badRow at hbad
     rw [List.any_eq_true] at hbad
     obtain ⟨z, hz, hz2⟩ := hbad
     rw [h _ (hC k hi l hl z hz)] at hz2
     simp at hz2
    rw [List.getElem?_set, if_neg hne]
    exact h i hi
theorem del_false (bh : List (List Int)) : ∀ (n : Nat) (g : List Bool) (i : Nat), g[i]? = some true → (del bh n g)[i]? = some false → ∃ l, bh[i]? = some l ∧ badRow (del bh n g) l = true
 | 0, g, i, h1, h2 => by
   simp only [del] at h2
   rw [h1] at h2
   cases h2
 | n + 1, g, i, h1, h2 => by
   simp only [del] at h2 ⊢
   split at h2
   ·rw [h1] at h2; cases h2
   ·rename_i k hf
    obtain ⟨hk, l, hl, hbad⟩ := firstBad_some hf
    by_cases e : k = i
    ·subst e
     refine ⟨l, hl, ?_⟩
     unfold badRow at hbad ⊢
     rw [List.any_eq_true] at hbad ⊢
     obtain ⟨z, hz, hz2⟩ := hbad
     refine ⟨z, hz, ?_⟩
     cases hd : (del bh n (g.set k false))[z.toNat]? with
     | none => rfl
     | some b =>
       cases b with
       | false => rfl
       | true =>
         have := del_sub bh n _ _ hd
         rw [List.getElem?_set] at this
         split at this
         ·split at this <;> simp at this
         ·rw [this] at hz2
          simp at hz2
    ·exact del_false bh n _ i (by rw [List.getElem?_set, if_neg e]; exact h1) h2
end Go.Av

/- Part of a proof by symbolic walks on plain data. -/
import Derived.Test.YtpdfolkoejbbgaaGreatDoorB06
set_option linter.unusedVariables false
set_option linter.unusedSimpArgs false
set_option maxHeartbeats 4000000
namespace Go.Av
open Go Go.RowKit Go.Proofs
set_option maxRecDepth 8000
def agreeB (x y : List Vr) (a b : Dcl) : Bool := decide (a.fields = b.fields) && (eqF (sameD x y) a.diffs b.diffs && eqF (sameE x y) a.equals b.equals)
set_option maxHeartbeats 8000000 in
theorem f46 (a b : Dcl) (x y : List Vr) (hf1 : a.fields.length ≤ 1000000) (hf2 : b.fields.length ≤ 1000000) (hd1 : a.diffs.length ≤ 1000000) (hd2 : b.diffs.length ≤ 1000000) (he1 : a.equals.length ≤ 1000000) (he2 : b.equals.length ≤ 1000000)
  (ha1 : ∀ d ∈ a.diffs, d.x < x.length ∧ d.y < x.length) (hb1 : ∀ d ∈ b.diffs, d.x < y.length ∧ d.y < y.length) (ha2 : ∀ d ∈ a.equals, d.1 < x.length ∧ d.2 < x.length) (hb2 : ∀ d ∈ b.equals, d.1 < y.length ∧ d.2 < y.length) :
  Impl Tryz.prog 46 [.ag (encD a), .ag (encD b), .one (.sl (x.map encV)), .one (.sl (y.map encV))] (.one (.one (.bool (agreeB x y a b)))) := by
 have k1 := f88 a.fields b.fields hf1 hf2
 have k2 := f89 a.diffs b.diffs 90 [.rf [.sl (x.map encV)], .rf [.sl (y.map encV)]] (sameD x y) hd1 hd2 (fun d hd e he => f90 x y d e (ha1 d hd).1 (ha1 d hd).2 (hb1 e he).1 (hb1 e he).2)
 have k3 := f92 a.equals b.equals 93 [.rf [.sl (x.map encV)], .rf [.sl (y.map encV)]] (sameE x y) he1 he2 (fun d hd e he => f93 x y d e (ha2 d hd).1 (ha2 d hd).2 (hb2 e he).1 (hb2 e he).2)
 obtain ⟨u, hu⟩ : ∃ u, u = decide (a.fields = b.fields) := ⟨_, rfl⟩
 obtain ⟨v, hv⟩ : ∃ v, v = eqF (sameD x y) a.diffs b.diffs := ⟨_, rfl⟩
 obtain ⟨w, hw⟩ : ∃ w, w = eqF (sameE x y) a.equals b.equals := ⟨_, rfl⟩
 have hA : agreeB x y a b = (u && (v && w)) := by unfold agreeB; rw [hu, hv, hw]
 rw [hA]
 rw [← hu] at k1
 rw [← hv] at k2
 rw [← hw] at k3
 clear hu hv hw hA
 refine impl_z Tryz.func46 z46 Tryz.ntmps46 (by simp) ?_
 simp only [c46, slotsOf]
 cases u with
 | false =>
   repeat' first | refine St.go ?_ | (refine Ru.go ?_; intro K hK; simp [go_sem, encD, frzL, DV.frz]; (first | apply hK | ((try refine .inl ?_); refine ⟨_, by (try intro hc); (repeat' first | exact k1 | exact k2 | exact k3 | exact hc | refine And.intro ?_ ?_ | simp [go_sem, encD, frzL, DV.frz]); first | done | omega, ?_⟩; first | apply hK | (refine ⟨by simp [go_sem, encD, frzL, DV.frz], ?_⟩; first | apply hK | refine ⟨by simp [go_sem, encD, frzL, DV.frz], hK _ _ ?_⟩)) | refine ⟨.one (.one (.bool false)), by simp [go_sem, encD, frzL, DV.frz], hK _ _ ?_⟩ | refine ⟨by first | omega | (simp [zf, zg, encD, frzL, DV.frz]; first | done | omega), ?_⟩ | refine ⟨hK _ ?_, fun h => ?_⟩ | refine ⟨?_, ?_⟩); all_goals ((try apply hK); clear hK K))
   simp [go_sem]
 | true =>
   cases v with
   | false =>
     repeat' first | refine St.go ?_ | (refine Ru.go ?_; intro K hK; simp [go_sem, encD, frzL, DV.frz]; (first | apply hK | ((try refine .inl ?_); refine ⟨_, by (try intro hc); (repeat' first | exact k1 | exact k2 | exact k3 | exact hc | refine And.intro ?_ ?_ | simp [go_sem, encD, frzL, DV.frz]); first | done | omega, ?_⟩; first | apply hK | (refine ⟨by simp [go_sem, encD, frzL, DV.frz], ?_⟩; first | apply hK | refine ⟨by simp [go_sem, encD, frzL, DV.frz], hK _ _ ?_⟩)) | refine ⟨.one (.one (.bool false)), by simp [go_sem, encD, frzL, DV.frz], hK _ _ ?_⟩ | refine ⟨by first | omega | (simp [zf, zg, encD, frzL, DV.frz]; first | done | omega), ?_⟩ | refine ⟨hK _ ?_, fun h => ?_⟩ | refine ⟨?_, ?_⟩); all_goals ((try apply hK); clear hK K))
     simp [go_sem]
   | true =>
     repeat' first | refine St.go ?_ | (refine Ru.go ?_; intro K hK; simp [go_sem, encD, frzL, DV.frz]; (first | apply hK | ((try refine .inl ?_); refine ⟨_, by (try intro hc); (repeat' first | exact k1 | exact k2 | exact k3 | exact hc | refine And.intro ?_ ?_ | simp [go_sem, encD, frzL, DV.frz]); first | done | omega, ?_⟩; first | apply hK | (refine ⟨by simp [go_sem, encD, frzL, DV.frz], ?_⟩; first | apply hK | refine ⟨by simp [go_sem, encD, frzL, DV.frz], hK _ _ ?_⟩)) | refine ⟨.one (.one (.bool false)), by simp [go_sem, encD, frzL, DV.frz], hK _ _ ?_⟩ | refine ⟨by first | omega | (simp [zf, zg, encD, frzL, DV.frz]; first | done | omega), ?_⟩ | refine ⟨hK _ ?_, fun h => ?_⟩ | refine ⟨?_, ?_⟩); all_goals ((try apply hK); clear hK K))
     simp [go_sem]
theorem find_at {α : Type} {p : α → Bool} {l : List α} {k : Nat} (hk : k < l.length) (h0 : (l.take k).any p = false) (h1 : p l[k] = true) : l.find? p = some l[k] := by
 rw [List.find?_eq_some_iff_getElem]
 refine ⟨h1, k, hk, rfl, fun j hj => ?_⟩
 rw [List.any_eq_false] at h0
 have := h0 (l[j]'(by omega)) (List.mem_iff_getElem.2 ⟨j, by rw [List.length_take]; omega, by simp⟩)
 simpa using this
theorem find_none {α : Type} {p : α → Bool} {l : List α} (h : l.any p = false) : l.find? p = none := by
 rw [List.find?_eq_none]
 intro x hx
 rw [List.any_eq_false] at h
 simpa using h x hx
end Go.Av
namespace Go.Av
open Go Go.RowKit Go.Proofs
set_option maxRecDepth 8000
structure Tab where
 old : Glob
 new : Glob
 labels : List Int
 pairs : List (Int × Int)
 good : List Bool
def encTab (t : Tab) : List DV := encG t.old ++ (encG t.new ++ [.sl (t.labels.map encN), .sl (t.pairs.map encEq), .sl (t.good.map encBl)])
def renB (l : List Int) (a : Inter) : Inter × Bool := if 0 ≤ a.label ∧ a.label < l.length ∧ 0 ≤ l.getD a.label.toNat 0 then (⟨a.from_, a.to, l.getD a.label.toNat 0⟩, true) else (⟨0, 0, 0⟩, false)
def folE : List Edg → Int → Inter → Bool → Int
 | [], _, _, _ => -1
 | x :: es, s, a, b => if x.from_ = s ∧ actEq x.act a = true ∧ x.again = b then x.to else folE es s a b
def folB (t : Tab) (s : Int) (x : Edg) : Int := if 0 ≤ s ∧ (renB t.labels x.act).2 = true then folE t.new.edges s (renB t.labels x.act).1 x.again else -1
theorem folE_at {es : List Edg} {s : Int} {a : Inter} {b : Bool} {k : Nat} (hk : k < es.length) : folE (es.drop k) s a b = if es[k].from_ = s ∧ actEq es[k].act a = true ∧ es[k].again = b then es[k].to else folE (es.drop (k + 1)) s a b := by
 rw [List.drop_eq_getElem_cons hk]
 rfl
theorem f54 (l : List (Int × Int)) (p : Int × Int) (hl : l.length ≤ 1000000) : Impl Tryz.prog 54 [.one (.sl (l.map encEq)), .ag (encEq p)] (.one (.one (.int .i64 (firstB (fun x => x.1 == p.1 && x.2 == p.2) l)))) := by
 refine impl_z Tryz.func54 z54 Tryz.ntmps54 (by simp) ?_
 simp only [c54, slotsOf]
 repeat' first | refine St.go ?_ | ((with_reducible refine zY (t := ?_) ?hc (fun h => ?_) (fun h => ?_)); (case hc => rfl); all_goals (try simp [go_sem, encEq] at h); all_goals try omega) | (refine Ru.go ?_; intro K hK; simp [go_sem, encEq]; (try simp (disch := omega) only [zh, zi, eq_self, true_and]); (first | apply hK | refine ⟨by first | omega | (simp [zf, zg, encEq]; first | done | omega), ?_⟩ | refine ⟨hK _ ?_, fun h => ?_⟩ | refine ⟨?_, ?_⟩); all_goals ((try apply hK); clear hK K))
 refine zk (fun n e => ∃ k : Nat, k + n = l.length ∧ (l.take k).any (fun x => x.1 == p.1 && x.2 == p.2) = false ∧ e = [(5, .sv (.one (.int .i64 k))), (3, .sv (.one (.bx (encEq p)))), (0, .sv (.one (.sl (l.map encEq))))]) l.length _ ⟨0, by simp, by simp, rfl⟩ (by simp [go_sem, encEq]) ?_
 rintro n e ⟨k, hk, h0, rfl⟩
 by_cases hlt : k < l.length
 ·obtain ⟨⟨x1, x2⟩, hx⟩ : ∃ x, l[k] = x := ⟨_, rfl⟩
  cases hp : (x1 == p.1 && x2 == p.2) with
  | true =>
    have hf := firstB_at (p := fun x : Int × Int => x.1 == p.1 && x.2 == p.2) hlt h0 (by rw [hx]; exact hp)
    simp only [Bool.and_eq_true] at hp
    repeat' first | refine St.go ?_ | ((with_reducible refine zY (t := ?_) ?hc (fun h => ?_) (fun h => ?_)); (case hc => rfl); all_goals (try simp [go_sem, hlt, hx, encEq, hp.1, hp.2] at h); all_goals try omega) | (refine Ru.go ?_; intro K hK; simp [go_sem, hlt, hx, encEq, hp.1, hp.2]; (try simp (disch := omega) only [zh, zi, eq_self, true_and]); (first | apply hK | refine ⟨by first | omega | (simp [zf, zg, hlt, hx, encEq, hp.1, hp.2]; first | done | omega), ?_⟩ | refine ⟨hK _ ?_, fun h => ?_⟩ | refine ⟨?_, ?_⟩); all_goals ((try apply hK); clear hK K))
    simp [go_sem, hf]
  | false =>
    repeat' first | refine St.go ?_ | ((with_reducible refine zY (t := ?_) ?hc (fun h => ?_) (fun h => ?_)); (case hc => rfl); all_goals (try simp [go_sem, hlt, hx, encEq, hp] at h); all_goals try omega) | (refine Ru.go ?_; intro K hK; simp [go_sem, hlt, hx, encEq, hp]; (try simp (disch := omega) only [zh, zi, eq_self, true_and]); (first | apply hK | refine ⟨by first | omega | (simp [zf, zg, hlt, hx, encEq, hp]; first | done | omega), ?_⟩ | refine ⟨hK _ ?_, fun h => ?_⟩ | refine ⟨?_, ?_⟩); all_goals ((try apply hK); clear hK K))
    refine zj (n - 1) _ (by omega) ⟨k + 1, by omega, ?_, rfl⟩ ?_
    ·rw [any_succ hlt, h0, hx]; simp only; rw [hp]; rfl
    ·simp [go_sem, encEq]
 ·have hkl : l.take k = l := List.take_of_length_le (by omega)
  rw [hkl] at h0
  have hf := firstB_none h0
  repeat' first | refine St.go ?_ | ((with_reducible refine zY (t := ?_) ?hc (fun h => ?_) (fun h => ?_)); (case hc => rfl); all_goals (try simp [go_sem, hlt] at h); all_goals try omega) | (refine Ru.go ?_; intro K hK; simp [go_sem, hlt]; (try simp (disch := omega) only [zh, zi, eq_self, true_and]); (first | apply hK | refine ⟨by first | omega | (simp [zf, zg, hlt]; first | done | omega), ?_⟩ | refine ⟨hK _ ?_, fun h => ?_⟩ | refine ⟨?_, ?_⟩); all_goals ((try apply hK); clear hK K))
  simp [go_sem, hf]
theorem f57 (l : List (Int × Int)) (p : Int × Int) (hl : l.length ≤ 1000000) : Impl Tryz.prog 57 [.one (.sl (l.map encEq)), .ag (encEq p)] (.one (.one (.int .i64 (firstB (fun x => p.1 == x.1 && p.2 == x.2) l)))) := by
 refine impl_z Tryz.func57 z57 Tryz.ntmps57 (by simp) ?_
 simp only [c57, slotsOf]
 repeat' first | refine St.go ?_ | ((with_reducible refine zY (t := ?_) ?hc (fun h => ?_) (fun h => ?_)); (case hc => rfl); all_goals (try simp [go_sem, encEq] at h); all_goals try omega) | (refine Ru.go ?_; intro K hK; simp [go_sem, encEq]; (try simp (disch := omega) only [zh, zi, eq_self, true_and]); (first | apply hK | refine ⟨by first | omega | (simp [zf, zg, encEq]; first | done | omega), ?_⟩ | refine ⟨hK _ ?_, fun h => ?_⟩ | refine ⟨?_, ?_⟩); all_goals ((try apply hK); clear hK K))
 refine zk (fun n e => ∃ k : Nat, k + n = l.length ∧ (l.take k).any (fun x => p.1 == x.1 && p.2 == x.2) = false ∧ e = [(8, .sv (.one (.int .i64 k))), (7, .sv (.one (.int .i64 l.length))), (3, .sv (.one (.bx (encEq p)))), (0, .sv (.one (.sl (l.map encEq))))]) l.length _ ⟨0, by simp, by simp, rfl⟩ (by simp [go_sem, encEq]) ?_
 rintro n e ⟨k, hk, h0, rfl⟩
 by_cases hlt : k < l.length
 ·obtain ⟨⟨x1, x2⟩, hx⟩ : ∃ x, l[k] = x := ⟨_, rfl⟩
  cases hp : (p.1 == x1 && p.2 == x2) with
  | true =>
    have hf := firstB_at (p := fun x : Int × Int => p.1 == x.1 && p.2 == x.2) hlt h0 (by rw [hx]; exact hp)
    simp only [Bool.and_eq_true] at hp
    repeat' first | refine St.go ?_ | ((with_reducible refine zY (t := ?_) ?hc (fun h => ?_) (fun h => ?_)); (case hc => rfl); all_goals (try simp [go_sem, hlt, hx, encEq, hp.1, hp.2] at h); all_goals try omega) | (refine Ru.go ?_; intro K hK; simp [go_sem, hlt, hx, encEq, hp.1, hp.2]; (try simp (disch := omega) only [zh, zi, eq_self, true_and]); (first | apply hK | refine ⟨by first | omega | (simp [zf, zg, hlt, hx, encEq, hp.1, hp.2]; first | done | omega), ?_⟩ | refine ⟨hK _ ?_, fun h => ?_⟩ | refine ⟨?_, ?_⟩); all_goals ((try apply hK); clear hK K))
    simp [go_sem, hf]
  | false =>
    repeat' first | refine St.go ?_ | ((with_reducible refine zY (t := ?_) ?hc (fun h => ?_) (fun h => ?_)); (case hc => rfl); all_goals (try simp [go_sem, hlt, hx, encEq, hp] at h); all_goals try omega) | (refine Ru.go ?_; intro K hK; simp [go_sem, hlt, hx, encEq, hp]; (try simp (disch := omega) only [zh, zi, eq_self, true_and]); (first | apply hK | refine ⟨by first | omega | (simp [zf, zg, hlt, hx, encEq, hp]; first | done | omega), ?_⟩ | refine ⟨hK _ ?_, fun h => ?_⟩ | refine ⟨?_, ?_⟩); all_goals ((try apply hK); clear hK K))
    refine zj (n - 1) _ (by omega) ⟨k + 1, by omega, ?_, rfl⟩ ?_
    ·rw [any_succ hlt, h0, hx]; simp only; rw [hp]; rfl
    ·simp [go_sem, encEq]
 ·have hkl : l.take k = l := List.take_of_length_le (by omega)
  rw [hkl] at h0
  have hf := firstB_none h0
  repeat' first | refine St.go ?_ | ((with_reducible refine zY (t := ?_) ?hc (fun h => ?_) (fun h => ?_)); (case hc => rfl); all_goals (try simp [go_sem, hlt] at h); all_goals try omega) | (refine Ru.go ?_; intro K hK; simp [go_sem, hlt]; (try simp (disch := omega) only [zh, zi, eq_self, true_and]); (first | apply hK | refine ⟨by first | omega | (simp [zf, zg, hlt]; first | done | omega), ?_⟩ | refine ⟨hK _ ?_, fun h => ?_⟩ | refine ⟨?_, ?_⟩); all_goals ((try apply hK); clear hK K))
  simp [go_sem, hf]
theorem f24 (t : Tab) (a : Inter) : Impl Tryz.prog 24 [.ag (encTab t), .ag (encI a)] (.tup [.ag (encI (renB t.labels a).1), .one (.bool (renB t.labels a).2)]) := by
 refine impl_z Tryz.func24 z24 Tryz.ntmps24 (by simp) ?_
 simp only [c24, slotsOf]
 by_cases h1 : 0 ≤ a.label
 ·by_cases h2 : a.label < t.labels.length
  ·have hlt : a.label.toNat < t.labels.length := by omega
   obtain ⟨v, hv⟩ : ∃ v, t.labels[a.label.toNat] = v := ⟨_, rfl⟩
   have hg : t.labels.getD a.label.toNat 0 = v := by rw [List.getD_eq_getElem?_getD, List.getElem?_eq_getElem hlt, hv]; rfl
   have n1 : ¬ a.label < 0 := by omega
   have n2 : ¬ (t.labels.length : Int) ≤ a.label := by omega
   by_cases h3 : 0 ≤ v
   ·have hr : renB t.labels a = (⟨a.from_, a.to, v⟩, true) := by unfold renB; rw [hg, if_pos ⟨h1, h2, h3⟩]
    have n3 : ¬ v < 0 := by omega
    rw [hr]
    repeat' first | refine St.go ?_ | ((with_reducible refine zY (t := ?_) ?hc (fun h => ?_) (fun h => ?_)); (case hc => rfl); all_goals (try simp [go_sem, encTab, encG, encI, encN, n1, n2, n3, h1, hlt, hv] at h); all_goals try omega) | (refine Ru.go ?_; intro K hK; simp [go_sem, encTab, encG, encI, encN, n1, n2, n3, h1, hlt, hv]; (first | apply hK | refine ⟨by first | omega | (simp [zf, zg, encTab, encG, encI, encN, n1, n2, n3, h1, hlt, hv]; first | done | omega), ?_⟩ | refine ⟨hK _ ?_, fun h => ?_⟩ | refine ⟨?_, ?_⟩); all_goals ((try apply hK); clear hK K))
    simp [go_sem, encI]
   ·have hr : renB t.labels a = (⟨0, 0, 0⟩, false) := by unfold renB; rw [hg, if_neg (fun h => h3 h.2.2)]
    have n3 : v < 0 := by omega
    rw [hr]
    repeat' first | refine St.go ?_ | ((with_reducible refine zY (t := ?_) ?hc (fun h => ?_) (fun h => ?_)); (case hc => rfl); all_goals (try simp [go_sem, encTab, encG, encI, encN, n1, n2, n3, h1, hlt, hv] at h); all_goals try omega) | (refine Ru.go ?_; intro K hK; simp [go_sem, encTab, encG, encI, encN, n1, n2, n3, h1, hlt, hv]; (first | apply hK | refine ⟨by first | omega | (simp [zf, zg, encTab, encG, encI, encN, n1, n2, n3, h1, hlt, hv]; first | done | omega), ?_⟩ | refine ⟨hK _ ?_, fun h => ?_⟩ | refine ⟨?_, ?_⟩); all_goals ((try apply hK); clear hK K))
    simp [go_sem, encI]
  ·have hr : renB t.labels a = (⟨0, 0, 0⟩, false) := by unfold renB; rw [if_neg (fun h => h2 h.2.1)]
   have n1 : ¬ a.label < 0 := by omega
   have n2 : (t.labels.length : Int) ≤ a.label := by omega
   have n3 : t.labels[a.label.toNat]? = none := List.getElem?_eq_none (by omega)
   rw [hr]
   repeat' first | refine St.go ?_ | ((with_reducible refine zY (t := ?_) ?hc (fun h => ?_) (fun h => ?_)); (case hc => rfl); all_goals (try simp [go_sem, encTab, encG, encI, encN, n1, n2, n3] at h); all_goals try omega) | (refine Ru.go ?_; intro K hK; simp [go_sem, encTab, encG, encI, encN, n1, n2, n3]; (first | apply hK | refine ⟨by first | omega | (simp [zf, zg, encTab, encG, encI, encN, n1, n2, n3]; first | done | omega), ?_⟩ | refine ⟨hK _ ?_, fun h => ?_⟩ | refine ⟨?_, ?_⟩); all_goals ((try apply hK); clear hK K))
   simp [go_sem, encI]
 ·have hr : renB t.labels a = (⟨0, 0, 0⟩, false) := by unfold renB; rw [if_neg (fun h => h1 h.1)]
  have n1 : a.label < 0 := by omega
  rw [hr]
  cases hv : t.labels[a.label.toNat]? with
  | none =>
    repeat' first | refine St.go ?_ | ((with_reducible refine zY (t := ?_) ?hc (fun h => ?_) (fun h => ?_)); (case hc => rfl); all_goals (try simp [go_sem, encTab, encG, encI, encN, n1, hv] at h); all_goals try omega) | (refine Ru.go ?_; intro K hK; simp [go_sem, encTab, encG, encI, encN, n1, hv]; (first | apply hK | refine ⟨by first | omega | (simp [zf, zg, encTab, encG, encI, encN, n1, hv]; first | done | omega), ?_⟩ | refine ⟨hK _ ?_, fun h => ?_⟩ | refine ⟨?_, ?_⟩); all_goals ((try apply hK); clear hK K))
    simp [go_sem, encI]
  | some v =>
    repeat' first | refine St.go ?_ | ((with_reducible refine zY (t := ?_) ?hc (fun h => ?_) (fun h => ?_)); (case hc => rfl); all_goals (try simp [go_sem, encTab, encG, encI, encN, n1, hv] at h); all_goals try omega) | (refine Ru.go ?_; intro K hK; simp [go_sem, encTab, encG, encI, encN, n1, hv]; (first | apply hK | refine ⟨by first | omega | (simp [zf, zg, encTab, encG, encI, encN, n1, hv]; first | done | omega), ?_⟩ | refine ⟨hK _ ?_, fun h => ?_⟩ | refine ⟨?_, ?_⟩); all_goals ((try apply hK); clear hK K))
    simp [go_sem, encI]
end Go.Av
namespace Go.Av
open Go Go.RowKit Go.Proofs
set_option maxRecDepth 8000
theorem f25 (t : Tab) (a : Inter) : Impl Tryz.prog 25 [.ag (encTab t), .ag (encI a)] (.tup [.ag (encI (renB t.labels a).1), .one (.bool (renB t.labels a).2)]) := by
 refine impl_z Tryz.func25 z25 Tryz.ntmps25 (by simp) ?_
 simp only [c25, slotsOf]
 by_cases h1 : 0 ≤ a.label
 ·by_cases h2 : a.label < t.labels.length
  ·have hlt : a.label.toNat < t.labels.length := by omega
   obtain ⟨v, hv⟩ : ∃ v, t.labels[a.label.toNat] = v := ⟨_, rfl⟩
   have hg : t.labels.getD a.label.toNat 0 = v := by rw [List.getD_eq_getElem?_getD, List.getElem?_eq_getElem hlt, hv]; rfl
   have n1 : ¬ a.label < 0 := by omega
   have n2 : ¬ (t.labels.length : Int) ≤ a.label := by omega
   by_cases h3 : 0 ≤ v
   ·have hr : renB t.labels a = (⟨a.from_, a.to, v⟩, true) := by unfold renB; rw [hg, if_pos ⟨h1, h2, h3⟩]
    have n3 : ¬ v < 0 := by omega
    rw [hr]
    repeat' first | refine St.go ?_ | ((with_reducible refine zY (t := ?_) ?hc (fun h => ?_) (fun h => ?_)); (case hc => rfl); all_goals (try simp [go_sem, encTab, encG, encI, encN, n1, n2, n3, h1, hlt, hv] at h); all_goals try omega) | (refine Ru.go ?_; intro K hK; simp [go_sem, encTab, encG, encI, encN, n1, n2, n3, h1, hlt, hv]; (first | apply hK | refine ⟨by first | omega | (simp [zf, zg, encTab, encG, encI, encN, n1, n2, n3, h1, hlt, hv]; first | done | omega), ?_⟩ | refine ⟨hK _ ?_, fun h => ?_⟩ | refine ⟨?_, ?_⟩); all_goals ((try apply hK); clear hK K))
    simp [go_sem, encI]
   ·have hr : renB t.labels a = (⟨0, 0, 0⟩, false) := by unfold renB; rw [hg, if_neg (fun h => h3 h.2.2)]
    have n3 : v < 0 := by omega
    rw [hr]
    repeat' first | refine St.go ?_ | ((with_reducible refine zY (t := ?_) ?hc (fun h => ?_) (fun h => ?_)); (case hc => rfl); all_goals (try simp [go_sem, encTab, encG, encI, encN, n1, n2, n3, h1, hlt, hv] at h); all_goals try omega) | (refine Ru.go ?_; intro K hK; simp [go_sem, encTab, encG, encI, encN, n1, n2, n3, h1, hlt, hv]; (first | apply hK | refine ⟨by first | omega | (simp [zf, zg, encTab, encG, encI, encN, n1, n2, n3, h1, hlt, hv]; first | done | omega), ?_⟩ | refine ⟨hK _ ?_, fun h => ?_⟩ | refine ⟨?_, ?_⟩); all_goals ((try apply hK); clear hK K))
    simp [go_sem, encI]
  ·have hr : renB t.labels a = (⟨0, 0, 0⟩, false) := by unfold renB; rw [if_neg (fun h => h2 h.2.1)]
   have n1 : ¬ a.label < 0 := by omega
   have n2 : (t.labels.length : Int) ≤ a.label := by omega
   have n3 : t.labels[a.label.toNat]? = none := List.getElem?_eq_none (by omega)
   rw [hr]
   repeat' first | refine St.go ?_ | ((with_reducible refine zY (t := ?_) ?hc (fun h => ?_) (fun h => ?_)); (case hc => rfl); all_goals (try simp [go_sem, encTab, encG, encI, encN, n1, n2, n3] at h); all_goals try omega) | (refine Ru.go ?_; intro K hK; simp [go_sem, encTab, encG, encI, encN, n1, n2, n3]; (first | apply hK | refine ⟨by first | omega | (simp [zf, zg, encTab, encG, encI, encN, n1, n2, n3]; first | done | omega), ?_⟩ | refine ⟨hK _ ?_, fun h => ?_⟩ | refine ⟨?_, ?_⟩); all_goals ((try apply hK); clear hK K))
   simp [go_sem, encI]
 ·have hr : renB t.labels a = (⟨0, 0, 0⟩, false) := by unfold renB; rw [if_neg (fun h => h1 h.1)]
  have n1 : a.label < 0 := by omega
  rw [hr]
  cases hv : t.labels[a.label.toNat]? with
  | none =>
    repeat' first | refine St.go ?_ | ((with_reducible refine zY (t := ?_) ?hc (fun h => ?_) (fun h => ?_)); (case hc => rfl); all_goals (try simp [go_sem, encTab, encG, encI, encN, n1, hv] at h); all_goals try omega) | (refine Ru.go ?_; intro K hK; simp [go_sem, encTab, encG, encI, encN, n1, hv]; (first | apply hK | refine ⟨by first | omega | (simp [zf, zg, encTab, encG, encI, encN, n1, hv]; first | done | omega), ?_⟩ | refine ⟨hK _ ?_, fun h => ?_⟩ | refine ⟨?_, ?_⟩); all_goals ((try apply hK); clear hK K))
    simp [go_sem, encI]
  | some v =>
    repeat' first | refine St.go ?_ | ((with_reducible refine zY (t := ?_) ?hc (fun h => ?_) (fun h => ?_)); (case hc => rfl); all_goals (try simp [go_sem, encTab, encG, encI, encN, n1, hv] at h); all_goals try omega) | (refine Ru.go ?_; intro K hK; simp [go_sem, encTab, encG, encI, encN, n1, hv]; (first | apply hK | refine ⟨by first | omega | (simp [zf, zg, encTab, encG, encI, encN, n1, hv]; first | done | omega), ?_⟩ | refine ⟨hK _ ?_, fun h => ?_⟩ | refine ⟨?_, ?_⟩); all_goals ((try apply hK); clear hK K))
    simp [go_sem, encI]
theorem f47 (t : Tab) (s : Int) (x : Edg) (hl : t.new.edges.length ≤ 1000000) : Impl Tryz.prog 47 [.ag (encTab t), .one (.int .i64 s), .ag (encEd x)] (.one (.one (.int .i64 (folB t s x)))) := by
 have k1 := f24 t x.act
 obtain ⟨⟨⟨r1, r2, r3⟩, b⟩, hr⟩ : ∃ v, renB t.labels x.act = v := ⟨_, rfl⟩
 rw [hr] at k1
 simp only [encTab, encG, encI, List.cons_append, List.nil_append] at k1
 have hfo : folB t s x = if 0 ≤ s ∧ b = true then folE t.new.edges s ⟨r1, r2, r3⟩ x.again else -1 := by unfold folB; rw [hr]
 rw [hfo]
 clear hr hfo
 refine impl_z Tryz.func47 z47 Tryz.ntmps47 (by simp) ?_
 simp only [c47, slotsOf]
 cases b with
 | false =>
   repeat' first | refine St.go ?_ | ((with_reducible refine zY (t := ?_) ?hc (fun h => ?_) (fun h => ?_)); (case hc => rfl); all_goals (try simp [go_sem, encTab, encG, encI, encEd] at h); all_goals try omega) | (refine Ru.go ?_; intro K hK; simp [go_sem, encTab, encG, encI, encEd]; (try simp (disch := omega) only [zh, zi, eq_self, true_and]); (first | apply hK | ((try refine .inl ?_); refine ⟨_, by (try intro hc); (repeat' first | exact k1 | exact hc | refine And.intro ?_ ?_ | simp [go_sem, encTab, encG, encI, encEd]); first | done | omega, ?_⟩; first | apply hK | (refine ⟨by simp [go_sem, encTab, encG, encI, encEd], ?_⟩; first | apply hK | refine ⟨by simp [go_sem, encTab, encG, encI, encEd], hK _ _ ?_⟩)) | refine ⟨by first | omega | (simp [zf, zg, encTab, encG, encI, encEd]; first | done | omega), ?_⟩ | refine ⟨hK _ ?_, fun h => ?_⟩ | refine ⟨?_, ?_⟩); all_goals ((try apply hK); clear hK K))
   simp [go_sem]
 | true =>
   by_cases hh : s < 0
   ·rw [if_neg (fun q => by omega)]
    repeat' first | refine St.go ?_ | ((with_reducible refine zY (t := ?_) ?hc (fun h => ?_) (fun h => ?_)); (case hc => rfl); all_goals (try simp [go_sem, encTab, encG, encI, encEd, hh] at h); all_goals try omega) | (refine Ru.go ?_; intro K hK; simp [go_sem, encTab, encG, encI, encEd, hh]; (try simp (disch := omega) only [zh, zi, eq_self, true_and]); (first | apply hK | ((try refine .inl ?_); refine ⟨_, by (try intro hc); (repeat' first | exact k1 | exact hc | refine And.intro ?_ ?_ | simp [go_sem, encTab, encG, encI, encEd, hh]); first | done | omega, ?_⟩; first | apply hK | (refine ⟨by simp [go_sem, encTab, encG, encI, encEd, hh], ?_⟩; first | apply hK | refine ⟨by simp [go_sem, encTab, encG, encI, encEd, hh], hK _ _ ?_⟩)) | refine ⟨by first | omega | (simp [zf, zg, encTab, encG, encI, encEd, hh]; first | done | omega), ?_⟩ | refine ⟨hK _ ?_, fun h => ?_⟩ | refine ⟨?_, ?_⟩); all_goals ((try apply hK); clear hK K))
    simp [go_sem]
   ·have hh2 : 0 ≤ s := by omega
    rw [if_pos ⟨hh2, rfl⟩]
    repeat' first | refine St.go ?_ | ((with_reducible refine zY (t := ?_) ?hc (fun h => ?_) (fun h => ?_)); (case hc => rfl); all_goals (try simp [go_sem, encTab, encG, encI, encEd, hh, hh2] at h); all_goals try omega) | (refine Ru.go ?_; intro K hK; simp [go_sem, encTab, encG, encI, encEd, hh, hh2]; (try simp (disch := omega) only [zh, zi, eq_self, true_and]); (first | apply hK | ((try refine .inl ?_); refine ⟨_, by (try intro hc); (repeat' first | exact k1 | exact hc | refine And.intro ?_ ?_ | simp [go_sem, encTab, encG, encI, encEd, hh, hh2]); first | done | omega, ?_⟩; first | apply hK | (refine ⟨by simp [go_sem, encTab, encG, encI, encEd, hh, hh2], ?_⟩; first | apply hK | refine ⟨by simp [go_sem, encTab, encG, encI, encEd, hh, hh2], hK _ _ ?_⟩)) | refine ⟨by first | omega | (simp [zf, zg, encTab, encG, encI, encEd, hh, hh2]; first | done | omega), ?_⟩ | refine ⟨hK _ ?_, fun h => ?_⟩ | refine ⟨?_, ?_⟩); all_goals ((try apply hK); clear hK K))
    refine zk (fun n e => ∃ k : Nat, k + n = t.new.edges.length ∧ folE t.new.edges s ⟨r1, r2, r3⟩ x.again = folE (t.new.edges.drop k) s ⟨r1, r2, r3⟩ x.again ∧ e = [(28, .sv (.one (.int .i64 k))), (27, .sv (.one (.int .i64 t.new.edges.length))), (26, .sv (.one (.sl (t.new.edges.map encEd)))), (7, .sv (.one (.bx (encI ⟨r1, r2, r3⟩)))), (5, .sv (.one (.bx (encEd x)))), (1, .sv (.one (.int .i64 s)))]) t.new.edges.length _ ⟨0, by simp, by simp, rfl⟩ (by simp [go_sem, encI, encEd]) ?_
    rintro n e ⟨k, hk, h0, rfl⟩
    by_cases hlt : k < t.new.edges.length
    ·obtain ⟨y, hy⟩ : ∃ y, t.new.edges[k] = y := ⟨_, rfl⟩
     have hq := folE_at (s := s) (a := ⟨r1, r2, r3⟩) (b := x.again) hlt
     rw [hy] at hq
     repeat' first | refine St.go ?_ | ((with_reducible refine zY (t := ?_) ?hc (fun h => ?_) (fun h => ?_)); (case hc => rfl); all_goals (try simp [go_sem, hlt, hy, encEd, encI] at h); all_goals try omega) | (refine Ru.go ?_; intro K hK; simp [go_sem, hlt, hy, encEd, encI]; (try simp (disch := omega) only [zh, zi, eq_self, true_and]); (first | apply hK | refine ⟨by first | omega | (simp [zf, zg, hlt, hy, encEd, encI]; first | done | omega), ?_⟩ | refine ⟨hK _ ?_, fun h => ?_⟩ | refine ⟨?_, ?_⟩); all_goals ((try apply hK); clear hK K))
     ·obtain ⟨⟨q1, q2, q3, q4⟩, q5⟩ := h
      rw [if_pos ⟨q1, by simp [actEq, q2, q3, q4], q5⟩] at hq
      simp [go_sem, h0, hq]
     ·rw [if_neg (fun q => by have q2 := q.2.1; simp only [actEq, Bool.and_eq_true, beq_iff_eq] at q2; exact h q.1 q2.1.1 q2.1.2 q2.2 q.2.2)] at hq
      refine zj (n - 1) _ (by omega) ⟨k + 1, by omega, h0.trans hq, rfl⟩ ?_
      simp [go_sem, encI, encEd]
    ·have hd : t.new.edges.drop k = [] := List.drop_eq_nil_of_le (by omega)
     rw [hd] at h0
     repeat' first | refine St.go ?_ | ((with_reducible refine zY (t := ?_) ?hc (fun h => ?_) (fun h => ?_)); (case hc => rfl); all_goals (try simp [go_sem, hlt] at h); all_goals try omega) | (refine Ru.go ?_; intro K hK; simp [go_sem, hlt]; (try simp (disch := omega) only [zh, zi, eq_self, true_and]); (first | apply hK | refine ⟨by first | omega | (simp [zf, zg, hlt]; first | done | omega), ?_⟩ | refine ⟨hK _ ?_, fun h => ?_⟩ | refine ⟨?_, ?_⟩); all_goals ((try apply hK); clear hK K))
     simp [go_sem, folE, h0]
theorem f53 (t : Tab) (s : Int) (x : Edg) (hl : t.new.edges.length ≤ 1000000) (h1 : 0 ≤ x.act.label) (h2 : x.act.label < t.labels.length) : Impl Tryz.prog 53 [.ag (encTab t), .one (.int .i64 s), .ag (encEd x)] (.one (.one (.int .i64 (folB t s x)))) := by
 have hlt : x.act.label.toNat < t.labels.length := by omega
 obtain ⟨v, hv⟩ : ∃ v, t.labels[x.act.label.toNat] = v := ⟨_, rfl⟩
 have hg : t.labels.getD x.act.label.toNat 0 = v := by rw [List.getD_eq_getElem?_getD, List.getElem?_eq_getElem hlt, hv]; rfl
 have hfo : folB t s x = if 0 ≤ s ∧ 0 ≤ v then folE t.new.edges s ⟨x.act.from_, x.act.to, v⟩ x.again else -1 := by
  unfold folB renB
  rw [hg]
  by_cases h3 : 0 ≤ v <;> simp [h1, h2, h3]
 rw [hfo]
 clear hfo hg
 refine impl_z Tryz.func53 z53 Tryz.ntmps53 (by simp) ?_
 simp only [c53, slotsOf]
 by_cases hh : s < 0
 ·rw [if_neg (fun q => by omega)]
  repeat' first | refine St.go ?_ | ((with_reducible refine zY (t := ?_) ?hc (fun h => ?_) (fun h => ?_)); (case hc => rfl); all_goals (try simp [go_sem, encTab, encG, encI, encN, encEd, hh, h1, hlt, hv] at h); all_goals try omega) | (refine Ru.go ?_; intro K hK; simp [go_sem, encTab, encG, encI, encN, encEd, hh, h1, hlt, hv]; (try simp (disch := omega) only [zh, zi, eq_self, true_and]); (first | apply hK | refine ⟨by first | omega | (simp [zf, zg, encTab, encG, encI, encN, encEd, hh, h1, hlt, hv]; first | done | omega), ?_⟩ | refine ⟨hK _ ?_, fun h => ?_⟩ | refine ⟨?_, ?_⟩); all_goals ((try apply hK); clear hK K))
  simp [go_sem]
 ·have hh2 : 0 ≤ s := by omega
  by_cases h3 : v < 0
  ·rw [if_neg (fun q => by omega)]
   repeat' first | refine St.go ?_ | ((with_reducible refine zY (t := ?_) ?hc (fun h => ?_) (fun h => ?_)); (case hc => rfl); all_goals (try simp [go_sem, encTab, encG, encI, encN, encEd, hh, h1, hlt, hv, h3] at h); all_goals try omega) | (refine Ru.go ?_; intro K hK; simp [go_sem, encTab, encG, encI, encN, encEd, hh, h1, hlt, hv, h3]; (try simp (disch := omega) only [zh, zi, eq_self, true_and]); (first | apply hK | refine ⟨by first | omega | (simp [zf, zg, encTab, encG, encI, encN, encEd, hh, h1, hlt, hv, h3]; first | done | omega), ?_⟩ | refine ⟨hK _ ?_, fun h => ?_⟩ | refine ⟨?_, ?_⟩); all_goals ((try apply hK); clear hK K))
   simp [go_sem]
  ·have h4 : 0 ≤ v := by omega
   rw [if_pos ⟨hh2, h4⟩]
   repeat' first | refine St.go ?_ | ((with_reducible refine zY (t := ?_) ?hc (fun h => ?_) (fun h => ?_)); (case hc => rfl); all_goals (try simp [go_sem, encTab, encG, encI, encN, encEd, hh, h1, hlt, hv, h3] at h); all_goals try omega) | (refine Ru.go ?_; intro K hK; simp [go_sem, encTab, encG, encI, encN, encEd, hh, h1, hlt, hv, h3]; (try simp (disch := omega) only [zh, zi, eq_self, true_and]); (first | apply hK | refine ⟨by first | omega | (simp [zf, zg, encTab, encG, encI, encN, encEd, hh, h1, hlt, hv, h3]; first | done | omega), ?_⟩ | refine ⟨hK _ ?_, fun h => ?_⟩ | refine ⟨?_, ?_⟩); all_goals ((try apply hK); clear hK K))
   refine zk (fun n e => ∃ k : Nat, k + n = t.new.edges.length ∧ folE t.new.edges s ⟨x.act.from_, x.act.to, v⟩ x.again = folE (t.new.edges.drop k) s ⟨x.act.from_, x.act.to, v⟩ x.again ∧ e = [(8, .sv (.one (.int .i64 k))), (7, .sv (.one (.bx (encI ⟨x.act.from_, x.act.to, v⟩)))), (5, .sv (.one (.bx (encEd x)))), (3, .sv (.one (.bx (encTab t)))), (1, .sv (.one (.int .i64 s)))]) t.new.edges.length _ ⟨0, by simp, by simp, rfl⟩ (by simp [go_sem, encI, encEd, encTab, encG]) ?_
   rintro n e ⟨k, hk, h0, rfl⟩
   by_cases hkl : k < t.new.edges.length
   ·obtain ⟨y, hy⟩ : ∃ y, t.new.edges[k] = y := ⟨_, rfl⟩
    have hq := folE_at (s := s) (a := ⟨x.act.from_, x.act.to, v⟩) (b := x.again) hkl
    rw [hy] at hq
    repeat' first | refine St.go ?_ | ((with_reducible refine zY (t := ?_) ?hc (fun h => ?_) (fun h => ?_)); (case hc => rfl); all_goals (try simp [go_sem, hkl, hy, encTab, encG, encEd, encI] at h); all_goals try omega) | (refine Ru.go ?_; intro K hK; simp [go_sem, hkl, hy, encTab, encG, encEd, encI]; (try simp (disch := omega) only [zh, zi, eq_self, true_and]); (first | apply hK | refine ⟨by first | omega | (simp [zf, zg, hkl, hy, encTab, encG, encEd, encI]; first | done | omega), ?_⟩ | refine ⟨hK _ ?_, fun h => ?_⟩ | refine ⟨?_, ?_⟩); all_goals ((try apply hK); clear hK K))
    ·obtain ⟨⟨q1, q2, q3, q4⟩, q5⟩ := h
     rw [if_pos ⟨q1, by simp [actEq, q2, q3, q4], q5⟩] at hq
     simp [go_sem, h0, hq]
    ·rw [if_neg (fun q => by have q2 := q.2.1; simp only [actEq, Bool.and_eq_true, beq_iff_eq] at q2; exact h q.1 q2.1.1 q2.1.2 q2.2 q.2.2)] at hq
     refine zj (n - 1) _ (by omega) ⟨k + 1, by omega, h0.trans hq, rfl⟩ ?_
     simp [go_sem, encI, encEd, encTab, encG]
   ·have hd : t.new.edges.drop k = [] := List.drop_eq_nil_of_le (by omega)
    rw [hd] at h0
    repeat' first | refine St.go ?_ | ((with_reducible refine zY (t := ?_) ?hc (fun h => ?_) (fun h => ?_)); (case hc => rfl); all_goals (try simp [go_sem, hkl, encTab, encG] at h); all_goals try omega) | (refine Ru.go ?_; intro K hK; simp [go_sem, hkl, encTab, encG]; (try simp (disch := omega) only [zh, zi, eq_self, true_and]); (first | apply hK | refine ⟨by first | omega | (simp [zf, zg, hkl, encTab, encG]; first | done | omega), ?_⟩ | refine ⟨hK _ ?_, fun h => ?_⟩ | refine ⟨?_, ?_⟩); all_goals ((try apply hK); clear hK K))
    simp [go_sem, folE, h0]
end Go.Av
namespace Go.Av
open Go Go.RowKit Go.Proofs
set_option maxRecDepth 8000
end Go.Av
namespace Go.Av
open Go Go.RowKit Go.Proofs
set_option maxRecDepth 8000
def isP (p x : Int × Int) : Bool := x.1 == p.1 && x.2 == p.2
def placeB (t : Tab) (p : Int × Int) : Int := firstB (isP p) t.pairs
end Go.Av
namespace Go.Av
open Go Go.RowKit Go.Proofs
set_option maxRecDepth 8000
def atE (s : Int) (a : Inter) (x : Edg) : Bool := x.from_ == s && actEq x.act a
def afterP (t : Tab) (i : Int) (a : Inter) : Option Int := if 0 ≤ i then match t.pairs[i.toNat]? with
 | some p => (t.old.edges.find? (atE p.1 a)).map fun x => placeB t (x.to, folB t p.2 x)
 | none => none else none
def afterV (t : Tab) (i : Int) (a : Inter) : Int × Bool := match afterP t i a with
 | some k => (max k 0, decide (0 ≤ k))
 | none => (0, false)
def afterR (t : Tab) (i : Int) (a : Inter) : Int × Bool := match afterP t i a with
 | some k => (max 0 k, true)
 | none => (0, false)
theorem g57 (t : Tab) (hp : t.pairs.length ≤ 1000000) (q : Int × Int) : Impl Tryz.prog 57 [.one (.sl (t.pairs.map encEq)), .ag (encEq q)] (.one (.one (.int .i64 (placeB t q)))) := by
 have h := f57 t.pairs q hp
 have e : (fun x : Int × Int => q.1 == x.1 && q.2 == x.2) = isP q := by
  funext x
  simp only [isP, Bool.beq_comm]
 rw [e] at h
 exact h
set_option maxHeartbeats 8000000 in
theorem f22 (t : Tab) (i : Int) (a : Inter) (ho : t.old.edges.length ≤ 1000000) (hn : t.new.edges.length ≤ 1000000) (hp : t.pairs.length ≤ 1000000) :
  Impl Tryz.prog 22 [.ag (encTab t), .one (.int .i64 i), .ag (encI a)] (.tup [.one (.int .i64 (afterV t i a).1), .one (.bool (afterV t i a).2)]) := by
 have j1 : ∀ s x, Impl Tryz.prog 47 [.ag (encTab t), .one (.int .i64 s), .ag (encEd x)] (.one (.one (.int .i64 (folB t s x)))) := fun s x => f47 t s x hn
 have j2 := g57 t hp
 simp only [encTab, encG, encEd, encEq, List.cons_append, List.nil_append] at j1
 simp only [encEq] at j2
 refine impl_z Tryz.func22 z22 Tryz.ntmps22 (by simp) ?_
 simp only [c22, slotsOf]
 by_cases h1 : i < 0
 ·have hF : afterV t i a = (0, false) := by
   have : ¬ 0 ≤ i := by omega
   simp [afterV, afterP, this]
  rw [hF]
  repeat' first | refine St.go ?_ | ((with_reducible refine zY (t := ?_) ?hc (fun h => ?_) (fun h => ?_)); (case hc => rfl); all_goals (try simp [go_sem, encTab, encG, encI, h1] at h); all_goals try omega) | (refine Ru.go ?_; intro K hK; simp [go_sem, encTab, encG, encI, h1]; (try simp (disch := omega) only [zh, zi, eq_self, true_and]); (first | apply hK | refine ⟨by first | omega | (simp [zf, zg, encTab, encG, encI, h1]; first | done | omega), ?_⟩ | refine ⟨hK _ ?_, fun h => ?_⟩ | refine ⟨?_, ?_⟩); all_goals ((try apply hK); clear hK K))
  simp [go_sem]
 ·have h1' : 0 ≤ i := by omega
  by_cases h2 : i < t.pairs.length
  ·have hl : i.toNat < t.pairs.length := by omega
   obtain ⟨⟨p1, p2⟩, hpi⟩ : ∃ p, t.pairs[i.toNat] = p := ⟨_, rfl⟩
   have hA : afterP t i a = (t.old.edges.find? (atE p1 a)).map fun x => placeB t (x.to, folB t p2 x) := by
    unfold afterP
    rw [if_pos h1', List.getElem?_eq_getElem hl, hpi]
   have n2 : ¬ (t.pairs.length : Int) ≤ i := by omega
   repeat' first | refine St.go ?_ | ((with_reducible refine zY (t := ?_) ?hc (fun h => ?_) (fun h => ?_)); (case hc => rfl); all_goals (try simp [go_sem, encTab, encG, encI, encEq, h1, n2, hl, hpi] at h); all_goals try omega) | (refine Ru.go ?_; intro K hK; simp [go_sem, encTab, encG, encI, encEq, h1, n2, hl, hpi]; (try simp (disch := omega) only [zh, zi, eq_self, true_and]); (first | apply hK | refine ⟨by first | omega | (simp [zf, zg, encTab, encG, encI, encEq, h1, n2, hl, hpi]; first | done | omega), ?_⟩ | refine ⟨hK _ ?_, fun h => ?_⟩ | refine ⟨?_, ?_⟩); all_goals ((try apply hK); clear hK K))
   refine zk (fun n e => ∃ k : Nat, k + n = t.old.edges.length ∧ (t.old.edges.take k).any (atE p1 a) = false ∧ e = [(30, .sv (.one (.int .i64 k))), (29, .sv (.one (.int .i64 t.old.edges.length))), (28, .sv (.one (.sl (t.old.edges.map encEd)))), (8, .sv (.one (.bx (encEq (p1, p2))))), (5, .sv (.one (.bx (encI a)))), (3, .sv (.one (.bx (encTab t))))]) t.old.edges.length _ ⟨0, by simp, by simp, rfl⟩ (by simp [go_sem, encTab, encG, encEq, encI]) ?_
   rintro n e ⟨k, hk, h0, rfl⟩
   by_cases hlt : k < t.old.edges.length
   ·obtain ⟨x, hx⟩ : ∃ x, t.old.edges[k] = x := ⟨_, rfl⟩
    have k1 := j1 p2 x
    have k2 := j2 (x.to, folB t p2 x)
    obtain ⟨v, hv⟩ : ∃ v, folB t p2 x = v := ⟨_, rfl⟩
    obtain ⟨w, hw⟩ : ∃ w, placeB t (x.to, v) = w := ⟨_, rfl⟩
    rw [hv] at k1 k2
    simp only [hw] at k2
    cases c1 : atE p1 a x with
    | true =>
      have hf := find_at (p := atE p1 a) hlt h0 (by rw [hx]; exact c1)
      rw [hx] at hf
      have hR : afterV t i a = (max w 0, decide (0 ≤ w)) := by
       unfold afterV
       rw [hA, hf]
       simp [hv, hw]
      simp only [atE, actEq, Bool.and_eq_true, beq_iff_eq] at c1
      obtain ⟨u1, ⟨u2, u3⟩, u4⟩ := c1
      rw [hR]
      rw [u1, u2, u3, u4] at k1
      repeat' first | refine St.go ?_ | ((with_reducible refine zY (t := ?_) ?hc (fun h => ?_) (fun h => ?_)); (case hc => rfl); all_goals (try simp [go_sem, hlt, hx, encTab, encG, encEq, encEd, encI, u1, u2, u3, u4] at h); all_goals try omega) | (refine Ru.go ?_; intro K hK; simp [go_sem, hlt, hx, encTab, encG, encEq, encEd, encI, u1, u2, u3, u4]; (try simp (disch := omega) only [zh, zi, eq_self, true_and]); (first | apply hK | ((try refine .inl ?_); refine ⟨_, by (try intro hc); (repeat' first | exact k1 | exact k2 | exact hc | refine And.intro ?_ ?_ | simp [go_sem, hlt, hx, encTab, encG, encEq, encEd, encI, u1, u2, u3, u4]); first | done | omega, ?_⟩; first | apply hK | (refine ⟨by simp [go_sem, hlt, hx, encTab, encG, encEq, encEd, encI, u1, u2, u3, u4], ?_⟩; first | apply hK | refine ⟨by simp [go_sem, hlt, hx, encTab, encG, encEq, encEd, encI, u1, u2, u3, u4], hK _ _ ?_⟩)) | refine ⟨by first | omega | (simp [zf, zg, hlt, hx, encTab, encG, encEq, encEd, encI, u1, u2, u3, u4]; first | done | omega), ?_⟩ | refine ⟨hK _ ?_, fun h => ?_⟩ | refine ⟨?_, ?_⟩); all_goals ((try apply hK); clear hK K))
      simp [go_sem]
    | false =>
      have c2 : (x.from_ == p1 && (x.act.from_ == a.from_ && (x.act.to == a.to && x.act.label == a.label))) = false := by
       rw [← c1]
       simp only [atE, actEq, Bool.and_assoc]
      repeat' first | refine St.go ?_ | ((with_reducible refine zY (t := ?_) ?hc (fun h => ?_) (fun h => ?_)); (case hc => rfl); all_goals (try simp [go_sem, hlt, hx, encTab, encG, encEq, encEd, encI, c2] at h); all_goals try omega) | (refine Ru.go ?_; intro K hK; simp [go_sem, hlt, hx, encTab, encG, encEq, encEd, encI, c2]; (try simp (disch := omega) only [zh, zi, eq_self, true_and]); (first | apply hK | ((try refine .inl ?_); refine ⟨_, by (try intro hc); (repeat' first | exact k1 | exact k2 | exact hc | refine And.intro ?_ ?_ | simp [go_sem, hlt, hx, encTab, encG, encEq, encEd, encI, c2]); first | done | omega, ?_⟩; first | apply hK | (refine ⟨by simp [go_sem, hlt, hx, encTab, encG, encEq, encEd, encI, c2], ?_⟩; first | apply hK | refine ⟨by simp [go_sem, hlt, hx, encTab, encG, encEq, encEd, encI, c2], hK _ _ ?_⟩)) | refine ⟨by first | omega | (simp [zf, zg, hlt, hx, encTab, encG, encEq, encEd, encI, c2]; first | done | omega), ?_⟩ | refine ⟨hK _ ?_, fun h => ?_⟩ | refine ⟨?_, ?_⟩); all_goals ((try apply hK); clear hK K))
      refine zj (n - 1) _ (by omega) ⟨k + 1, by omega, ?_, rfl⟩ ?_
      ·rw [any_succ hlt, h0, hx, c1]; rfl
      ·simp [go_sem, encTab, encG, encEq, encI]
   ·have hkl : t.old.edges.take k = t.old.edges := List.take_of_length_le (by omega)
    rw [hkl] at h0
    have hf := find_none h0
    have hR : afterV t i a = (0, false) := by
     unfold afterV
     rw [hA, hf]
     rfl
    rw [hR]
    repeat' first | refine St.go ?_ | ((with_reducible refine zY (t := ?_) ?hc (fun h => ?_) (fun h => ?_)); (case hc => rfl); all_goals (try simp [go_sem, hlt] at h); all_goals try omega) | (refine Ru.go ?_; intro K hK; simp [go_sem, hlt]; (try simp (disch := omega) only [zh, zi, eq_self, true_and]); (first | apply hK | refine ⟨by first | omega | (simp [zf, zg, hlt]; first | done | omega), ?_⟩ | refine ⟨hK _ ?_, fun h => ?_⟩ | refine ⟨?_, ?_⟩); all_goals ((try apply hK); clear hK K))
    simp [go_sem]
  ·have hF : afterV t i a = (0, false) := by
    have : t.pairs[i.toNat]? = none := List.getElem?_eq_none (by omega)
    simp [afterV, afterP, this]
   have n2 : (t.pairs.length : Int) ≤ i := by omega
   rw [hF]
   repeat' first | refine St.go ?_ | ((with_reducible refine zY (t := ?_) ?hc (fun h => ?_) (fun h => ?_)); (case hc => rfl); all_goals (try simp [go_sem, encTab, encG, encI, h1, n2] at h); all_goals try omega) | (refine Ru.go ?_; intro K hK; simp [go_sem, encTab, encG, encI, h1, n2]; (try simp (disch := omega) only [zh, zi, eq_self, true_and]); (first | apply hK | refine ⟨by first | omega | (simp [zf, zg, encTab, encG, encI, h1, n2]; first | done | omega), ?_⟩ | refine ⟨hK _ ?_, fun h => ?_⟩ | refine ⟨?_, ?_⟩); all_goals ((try apply hK); clear hK K))
   simp [go_sem]
set_option maxHeartbeats 8000000 in
theorem f23 (t : Tab) (i : Int) (a : Inter) (ho : t.old.edges.length ≤ 1000000) (hn : t.new.edges.length ≤ 1000000) (hp : t.pairs.length ≤ 1000000) (hlab : ∀ x ∈ t.old.edges, 0 ≤ x.act.label ∧ x.act.label < t.labels.length) :
  Impl Tryz.prog 23 [.ag (encTab t), .one (.int .i64 i), .ag (encI a)] (.tup [.one (.int .i64 (afterR t i a).1), .one (.bool (afterR t i a).2)]) := by
 have j1 : ∀ s, ∀ x ∈ t.old.edges, Impl Tryz.prog 53 [.ag (encTab t), .one (.int .i64 s), .ag (encEd x)] (.one (.one (.int .i64 (folB t s x)))) := fun s x hx => f53 t s x hn (hlab x hx).1 (hlab x hx).2
 have j2 : ∀ q : Int × Int, Impl Tryz.prog 54 [.one (.sl (t.pairs.map encEq)), .ag (encEq q)] (.one (.one (.int .i64 (placeB t q)))) := fun q => f54 t.pairs q hp
 simp only [encTab, encG, encEd, encEq, List.cons_append, List.nil_append] at j1
 simp only [encEq] at j2
 refine impl_z Tryz.func23 z23 Tryz.ntmps23 (by simp) ?_
 simp only [c23, slotsOf]
 by_cases h1 : i < 0
 ·have hF : afterR t i a = (0, false) := by
   have : ¬ 0 ≤ i := by omega
   simp [afterR, afterP, this]
  rw [hF]
  repeat' first | refine St.go ?_ | ((with_reducible refine zY (t := ?_) ?hc (fun h => ?_) (fun h => ?_)); (case hc => rfl); all_goals (try simp [go_sem, encTab, encG, encI, h1] at h); all_goals try omega) | (refine Ru.go ?_; intro K hK; simp [go_sem, encTab, encG, encI, h1]; (try simp (disch := omega) only [zh, zi, eq_self, true_and]); (first | apply hK | refine ⟨by first | omega | (simp [zf, zg, encTab, encG, encI, h1]; first | done | omega), ?_⟩ | refine ⟨hK _ ?_, fun h => ?_⟩ | refine ⟨?_, ?_⟩); all_goals ((try apply hK); clear hK K))
  simp [go_sem]
 ·have h1' : 0 ≤ i := by omega
  by_cases h2 : i < t.pairs.length
  ·have hl : i.toNat < t.pairs.length := by omega
   obtain ⟨⟨p1, p2⟩, hpi⟩ : ∃ p, t.pairs[i.toNat] = p := ⟨_, rfl⟩
   have hA : afterP t i a = (t.old.edges.find? (atE p1 a)).map fun x => placeB t (x.to, folB t p2 x) := by
    unfold afterP
    rw [if_pos h1', List.getElem?_eq_getElem hl, hpi]
   have n2 : ¬ (t.pairs.length : Int) ≤ i := by omega
   repeat' first | refine St.go ?_ | ((with_reducible refine zY (t := ?_) ?hc (fun h => ?_) (fun h => ?_)); (case hc => rfl); all_goals (try simp [go_sem, encTab, encG, encI, encEq, h1, n2, hl, hpi] at h); all_goals try omega) | (refine Ru.go ?_; intro K hK; simp [go_sem, encTab, encG, encI, encEq, h1, n2, hl, hpi]; (try simp (disch := omega) only [zh, zi, eq_self, true_and]); (first | apply hK | refine ⟨by first | omega | (simp [zf, zg, encTab, encG, encI, encEq, h1, n2, hl, hpi]; first | done | omega), ?_⟩ | refine ⟨hK _ ?_, fun h => ?_⟩ | refine ⟨?_, ?_⟩); all_goals ((try apply hK); clear hK K))
   refine zk (fun n e => ∃ k : Nat, k + n = t.old.edges.length ∧ (t.old.edges.take k).any (atE p1 a) = false ∧ e = [(9, .sv (.one (.int .i64 k))), (8, .sv (.one (.bx (encEq (p1, p2))))), (5, .sv (.one (.bx (encI a)))), (3, .sv (.one (.bx (encTab t))))]) t.old.edges.length _ ⟨0, by simp, by simp, rfl⟩ (by simp [go_sem, encTab, encG, encEq, encI]) ?_
   rintro n e ⟨k, hk, h0, rfl⟩
   by_cases hlt : k < t.old.edges.length
   ·obtain ⟨x, hx⟩ : ∃ x, t.old.edges[k] = x := ⟨_, rfl⟩
    have k1 := j1 p2 x (hx ▸ List.getElem_mem hlt)
    have k2 := j2 (x.to, folB t p2 x)
    obtain ⟨v, hv⟩ : ∃ v, folB t p2 x = v := ⟨_, rfl⟩
    obtain ⟨w, hw⟩ : ∃ w, placeB t (x.to, v) = w := ⟨_, rfl⟩
    rw [hv] at k1 k2
    simp only [hw] at k2
    cases c1 : atE p1 a x with
    | true =>
      have hf := find_at (p := atE p1 a) hlt h0 (by rw [hx]; exact c1)
      rw [hx] at hf
      have hR : afterR t i a = (max 0 w, true) := by
       unfold afterR
       rw [hA, hf]
       simp [hv, hw]
      simp only [atE, actEq, Bool.and_eq_true, beq_iff_eq] at c1
      obtain ⟨u1, ⟨u2, u3⟩, u4⟩ := c1
      rw [hR]
      rw [u1, u2, u3, u4] at k1
      repeat' first | refine St.go ?_ | ((with_reducible refine zY (t := ?_) ?hc (fun h => ?_) (fun h => ?_)); (case hc => rfl); all_goals (try simp [go_sem, hlt, hx, encTab, encG, encEq, encEd, encI, u1, u2, u3, u4] at h); all_goals try omega) | (refine Ru.go ?_; intro K hK; simp [go_sem, hlt, hx, encTab, encG, encEq, encEd, encI, u1, u2, u3, u4]; (try simp (disch := omega) only [zh, zi, eq_self, true_and]); (first | apply hK | ((try refine .inl ?_); refine ⟨_, by (try intro hc); (repeat' first | exact k1 | exact k2 | exact hc | refine And.intro ?_ ?_ | simp [go_sem, hlt, hx, encTab, encG, encEq, encEd, encI, u1, u2, u3, u4]); first | done | omega, ?_⟩; first | apply hK | (refine ⟨by simp [go_sem, hlt, hx, encTab, encG, encEq, encEd, encI, u1, u2, u3, u4], ?_⟩; first | apply hK | refine ⟨by simp [go_sem, hlt, hx, encTab, encG, encEq, encEd, encI, u1, u2, u3, u4], hK _ _ ?_⟩)) | refine ⟨by first | omega | (simp [zf, zg, hlt, hx, encTab, encG, encEq, encEd, encI, u1, u2, u3, u4]; first | done | omega), ?_⟩ | refine ⟨hK _ ?_, fun h => ?_⟩ | refine ⟨?_, ?_⟩); all_goals ((try apply hK); clear hK K))
      simp [go_sem]
    | false =>
      have c2 : (x.from_ == p1 && (x.act.from_ == a.from_ && (x.act.to == a.to && x.act.label == a.label))) = false := by
       rw [← c1]
       simp only [atE, actEq, Bool.and_assoc]
      repeat' first | refine St.go ?_ | ((with_reducible refine zY (t := ?_) ?hc (fun h => ?_) (fun h => ?_)); (case hc => rfl); all_goals (try simp [go_sem, hlt, hx, encTab, encG, encEq, encEd, encI, c2] at h); all_goals try omega) | (refine Ru.go ?_; intro K hK; simp [go_sem, hlt, hx, encTab, encG, encEq, encEd, encI, c2]; (try simp (disch := omega) only [zh, zi, eq_self, true_and]); (first | apply hK | ((try refine .inl ?_); refine ⟨_, by (try intro hc); (repeat' first | exact k1 | exact k2 | exact hc | refine And.intro ?_ ?_ | simp [go_sem, hlt, hx, encTab, encG, encEq, encEd, encI, c2]); first | done | omega, ?_⟩; first | apply hK | (refine ⟨by simp [go_sem, hlt, hx, encTab, encG, encEq, encEd, encI, c2], ?_⟩; first | apply hK | refine ⟨by simp [go_sem, hlt, hx, encTab, encG, encEq, encEd, encI, c2], hK _ _ ?_⟩)) | refine ⟨by first | omega | (simp [zf, zg, hlt, hx, encTab, encG, encEq, encEd, encI, c2]; first | done | omega), ?_⟩ | refine ⟨hK _ ?_, fun h => ?_⟩ | refine ⟨?_, ?_⟩); all_goals ((try apply hK); clear hK K))
      refine zj (n - 1) _ (by omega) ⟨k + 1, by omega, ?_, rfl⟩ ?_
      ·rw [any_succ hlt, h0, hx, c1]; rfl
      ·simp [go_sem, encTab, encG, encEq, encI]
   ·have hkl : t.old.edges.take k = t.old.edges := List.take_of_length_le (by omega)
    rw [hkl] at h0
    have hf := find_none h0
    have hR : afterR t i a = (0, false) := by
     unfold afterR
     rw [hA, hf]
     rfl
    rw [hR]
    repeat' first | refine St.go ?_ | ((with_reducible refine zY (t := ?_) ?hc (fun h => ?_) (fun h => ?_)); (case hc => rfl); all_goals (try simp [go_sem, hlt, encTab, encG] at h); all_goals try omega) | (refine Ru.go ?_; intro K hK; simp [go_sem, hlt, encTab, encG]; (try simp (disch := omega) only [zh, zi, eq_self, true_and]); (first | apply hK | refine ⟨by first | omega | (simp [zf, zg, hlt, encTab, encG]; first | done | omega), ?_⟩ | refine ⟨hK _ ?_, fun h => ?_⟩ | refine ⟨?_, ?_⟩); all_goals ((try apply hK); clear hK K))
    simp [go_sem]
  ·have hF : afterR t i a = (0, false) := by
    have : t.pairs[i.toNat]? = none := List.getElem?_eq_none (by omega)
    simp [afterR, afterP, this]
   have n2 : (t.pairs.length : Int) ≤ i := by omega
   rw [hF]
   repeat' first | refine St.go ?_ | ((with_reducible refine zY (t := ?_) ?hc (fun h => ?_) (fun h => ?_)); (case hc => rfl); all_goals (try simp [go_sem, encTab, encG, encI, h1, n2] at h); all_goals try omega) | (refine Ru.go ?_; intro K hK; simp [go_sem, encTab, encG, encI, h1, n2]; (try simp (disch := omega) only [zh, zi, eq_self, true_and]); (first | apply hK | refine ⟨by first | omega | (simp [zf, zg, encTab, encG, encI, h1, n2]; first | done | omega), ?_⟩ | refine ⟨hK _ ?_, fun h => ?_⟩ | refine ⟨?_, ?_⟩); all_goals ((try apply hK); clear hK K))
   simp [go_sem]
end Go.Av
namespace Go.Av
open Go Go.RowKit Go.Proofs
set_option maxRecDepth 8000
deriving instance DecidableEq for Dcl
theorem f21 (t : Tab) : Impl Tryz.prog 21 [.ag (encTab t)] (.one (.ag (encTab t))) := by
 refine impl_z Tryz.func21 z21 Tryz.ntmps21 (by simp) ?_
 simp only [c21, slotsOf]
 repeat' first | refine St.go ?_ | (refine Ru.go ?_; intro K hK; simp [go_sem, encTab, encG]; (first | apply hK | refine ⟨by first | omega | (simp [zf, zg, encTab, encG]; first | done | omega), ?_⟩ | refine ⟨hK _ ?_, fun h => ?_⟩ | refine ⟨?_, ?_⟩); all_goals ((try apply hK); clear hK K))
 simp [go_sem, encTab, encG]
def few31 (g : Glob) : Bool := fewG g && (decide (g.states ≤ 15) && decide ((allF g.decls).length ≤ 24))
theorem few_flds {g : Glob} (h : fewG g = true) : g.decls.length ≤ 60 ∧ ∀ d ∈ g.decls, d.fields.length ≤ 100 ∧ d.diffs.length ≤ 100 ∧ d.equals.length ≤ 100 := by
 simp only [fewG, fewD, Bool.and_eq_true, decide_eq_true_eq] at h
 obtain ⟨_, h1, h2⟩ := h
 refine ⟨h1, fun d hd => ?_⟩
 obtain ⟨k, hk, he⟩ := List.mem_iff_getElem.1 hd
 have h3 := units_succ hk
 rw [he] at h3
 have h4 : units g.decls (k + 1) ≤ units g.decls g.decls.length := by
  have : ∀ n, k + 1 + n ≤ g.decls.length → units g.decls (k + 1) ≤ units g.decls (k + 1 + n) := by
   intro n
   induction n with
   | zero => intro _; exact Nat.le_refl _
   | succ n ih =>
     intro hn
     have a1 := ih (by omega)
     have a2 := units_succ (l := g.decls) (k := k + 1 + n) (by omega)
     rw [← Nat.add_assoc] 
     omega
  have h5 := this (g.decls.length - (k + 1)) (by omega)
  rwa [show k + 1 + (g.decls.length - (k + 1)) = g.decls.length by omega] at h5
 omega
theorem f17 (g : Glob) (hl : g.decls.length ≤ 1000000000000000) (hp : ∀ d ∈ g.decls, d.fields.length ≤ 1000000000000000 ∧ d.diffs.length ≤ 1000000000000000 ∧ d.equals.length ≤ 1000000000000000) : Impl Tryz.prog 17 [.ag (encG g)] (.one (.one (.bool (few31 g)))) := by
 have k1 := f10 g hl hp
 simp only [encG] at k1
 refine impl_z Tryz.func17 z17 Tryz.ntmps17 (by simp) ?_
 simp only [c17, slotsOf]
 cases hf : fewG g with
 | false =>
   have hF : few31 g = false := by simp [few31, hf]
   rw [hF]
   rw [hf] at k1
   repeat' first | refine St.go ?_ | (refine Ru.go ?_; intro K hK; simp [go_sem, encG]; (first | apply hK | ((try refine .inl ?_); refine ⟨_, by (try intro hc); (repeat' first | exact k1 | exact hc | refine And.intro ?_ ?_ | simp [go_sem, encG]); first | done | omega, ?_⟩; first | apply hK | (refine ⟨by simp [go_sem, encG], ?_⟩; first | apply hK | refine ⟨by simp [go_sem, encG], hK _ _ ?_⟩)) | refine ⟨.one (.one (.bool false)), by simp [go_sem, encG], hK _ _ ?_⟩ | refine ⟨by first | omega | (simp [zf, zg, encG]; first | done | omega), ?_⟩ | refine ⟨hK _ ?_, fun h => ?_⟩ | refine ⟨?_, ?_⟩); all_goals ((try apply hK); clear hK K))
   simp [go_sem]
 | true =>
   obtain ⟨q1, q2⟩ := few_flds hf
   have k2 := f41 g.decls (by omega) fun d hd => by have := (q2 d hd).1; omega
   rw [hf] at k1
   obtain ⟨n, hn⟩ : ∃ n, (allF g.decls).length = n := ⟨_, rfl⟩
   have hF : few31 g = (decide (g.states ≤ 15) && decide ((n : Int) ≤ 24)) := by
    simp only [few31, hf, hn, Bool.true_and]
    congr 1
    rw [Bool.eq_iff_iff]
    simp
    omega
   rw [hF]
   rw [hn] at k2
   clear hF hn
   by_cases h1 : g.states ≤ 15
   ·skip
    repeat' first | refine St.go ?_ | (refine Ru.go ?_; intro K hK; simp [go_sem, encG, h1]; (first | apply hK | ((try refine .inl ?_); refine ⟨_, by (try intro hc); (repeat' first | exact k1 | exact k2 | exact hc | refine And.intro ?_ ?_ | simp [go_sem, encG, h1]); first | done | omega, ?_⟩; first | apply hK | (refine ⟨by simp [go_sem, encG, h1], ?_⟩; first | apply hK | refine ⟨by simp [go_sem, encG, h1], hK _ _ ?_⟩)) | refine ⟨.one (.one (.bool false)), by simp [go_sem, encG, h1], hK _ _ ?_⟩ | refine ⟨by first | omega | (simp [zf, zg, encG, h1]; first | done | omega), ?_⟩ | refine ⟨hK _ ?_, fun h => ?_⟩ | refine ⟨?_, ?_⟩); all_goals ((try apply hK); clear hK K))
    simp [go_sem, h1]
   ·skip
    repeat' first | refine St.go ?_ | (refine Ru.go ?_; intro K hK; simp [go_sem, encG, h1]; (first | apply hK | ((try refine .inl ?_); refine ⟨_, by (try intro hc); (repeat' first | exact k1 | exact k2 | exact hc | refine And.intro ?_ ?_ | simp [go_sem, encG, h1]); first | done | omega, ?_⟩; first | apply hK | (refine ⟨by simp [go_sem, encG, h1], ?_⟩; first | apply hK | refine ⟨by simp [go_sem, encG, h1], hK _ _ ?_⟩)) | refine ⟨.one (.one (.bool false)), by simp [go_sem, encG, h1], hK _ _ ?_⟩ | refine ⟨by first | omega | (simp [zf, zg, encG, h1]; first | done | omega), ?_⟩ | refine ⟨hK _ ?_, fun h => ?_⟩ | refine ⟨?_, ?_⟩); all_goals ((try apply hK); clear hK K))
    simp [go_sem, h1]
end Go.Av
namespace Go.Av
open Go Go.RowKit Go.Proofs
set_option maxRecDepth 8000
end Go.Av
namespace Go.Av
open Go Go.RowKit Go.Proofs
set_option maxRecDepth 8000
deriving instance DecidableEq for Glob
end Go.Av
namespace Go.Av
open Go Go.RowKit Go.Proofs
set_option maxRecDepth 8000
deriving instance DecidableEq for Tab
def MedG (g : Glob) : Prop := g.decls.length ≤ 1000000 ∧ (∀ d ∈ g.decls, d.fields.length ≤ 1000000 ∧ d.diffs.length ≤ 1000000 ∧ d.equals.length ≤ 1000000) ∧ g.roles.length ≤ 1000000 ∧ g.edges.length ≤ 1000000 ∧ g.timeouts.length ≤ 1000000
end Go.Av

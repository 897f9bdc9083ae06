/- fit.Next. -/
import Derived.Test.YticeobjphcmggaaGreatDoorAvR
import Derived.Test.YticeobjphcmggaaGreatDoorB18
set_option linter.unusedVariables false
set_option linter.unusedSimpArgs false
set_option maxHeartbeats 64000000
set_option maxRecDepth 8000
namespace Go.Av
open Go Go.RowKit Go.Proofs
set_option maxHeartbeats 64000000
def actT (r : Nat) (s : Bool) (p l : Nat) : Inter := if s then ⟨r, p, l⟩ else ⟨p, r, l⟩
def evT (r : Nat) (s : Bool) (p l : Nat) : Ev := ⟨r, s, p, l, none⟩
def moreT (H : List (List Ev)) (r : Nat) (e : Ev) : List (List Ev) := H.set r ((H[r]?.getD []) ++ [e])
def stepT (g : Glob) (H : List (List Ev)) (r : Nat) (s : Bool) (p : Nat) (o : Option (List Ev)) (l : Nat) : Option (List Ev) := match o with
 | none => none
 | some out => if g.edges.any (hasA (actT r s p l)) then (if (searchF g (moreT H r (evT r s p l))).2 = 0 then some (out ++ [evT r s p l]) else if (searchF g (moreT H r (evT r s p l))).2 = 6 then none else some out) else some out
def foldLb (g : Glob) (H : List (List Ev)) (r : Nat) (s : Bool) (o : Option (List Ev)) (p : Nat) : Option (List Ev) := (List.range g.decls.length).foldl (stepT g H r s p) o
def foldPr (g : Glob) (H : List (List Ev)) (r : Nat) (o : Option (List Ev)) (s : Bool) : Option (List Ev) := (List.range g.roles.length).foldl (foldLb g H r s) o
def sendsL : List Bool := [true, false]
def nextO (g : Glob) (H : List (List Ev)) (r : Nat) : Option (List Ev) := sendsL.foldl (foldPr g H r) (some [])
def nextV (g : Glob) (H : List (List Ev)) (r : Int) : Option (List Ev) × Int :=
 if (searchF g H).2 = 0 then (if 0 <= r /\ r < g.roles.length then (match nextO g H r.toNat with
  | some out => (some out, 0)
  | none => (none, 6)) else (none, 12)) else (none, (searchF g H).2)
def resE : Option (List Ev) -> DV
 | none => .nil
 | some l => .ow 5 (l.map encE)
theorem foldl_none {α β : Type} {f : Option β -> α -> Option β} (h : ∀ x, f none x = none) : ∀ l : List α, l.foldl f none = none
 | [] => rfl
 | x :: l => by
   rw [List.foldl_cons, h]
   exact foldl_none h l
theorem foldl_range1 {β : Type} (f : β -> Nat -> β) (a : β) (k : Nat) : (List.range (k + 1)).foldl f a = f ((List.range k).foldl f a) k := by
 rw [List.range_succ, List.foldl_append]
 rfl
theorem foldl_range_none {β : Type} {f : Option β -> Nat -> Option β} (h : ∀ x, f none x = none) {a : Option β} {k : Nat} (hk : (List.range k).foldl f a = none) : ∀ n, k <= n -> (List.range n).foldl f a = none
 | 0, hn => by
   have : k = 0 := by omega
   subst this
   exact hk
 | n + 1, hn => by
   by_cases e : k = n + 1
   ·rw [<- e]; exact hk
   ·rw [foldl_range1, foldl_range_none h hk n (by omega), h]
theorem stepT_none (g : Glob) (H : List (List Ev)) (r : Nat) (s : Bool) (p : Nat) : ∀ x, stepT g H r s p none x = none := fun _ => rfl
theorem foldLb_none (g : Glob) (H : List (List Ev)) (r : Nat) (s : Bool) : ∀ x, foldLb g H r s none x = none := fun x => foldl_none (stepT_none g H r s x) _
theorem foldPr_none (g : Glob) (H : List (List Ev)) (r : Nat) : ∀ x, foldPr g H r none x = none := fun x => foldl_none (foldLb_none g H r x) _
theorem frzLL_set : ∀ (l : List (List DV)) (i : Nat) (x : List DV), frzLL (l.set i x) = (frzLL l).set i (frzL x)
 | [], _, _ => rfl
 | y :: l, 0, x => rfl
 | y :: l, i + 1, x => by
   rw [List.set_cons_succ, frzLL, frzLL_set l i x, frzLL, List.set_cons_succ]
theorem frz_more (H : List (List Ev)) (r : Nat) (m : List Ev) : frzLL ((H.map encH).set r [.ow 5 (m.map encE)]) = (H.set r m).map encH := by
 rw [frzLL_set, List.map_set, frzLL_map]
 have h1 : H.map (fun x => frzL (encH x)) = H.map encH := List.map_congr_left fun x _ => frz_encH x
 have h2 : frzL [DV.ow 5 (m.map encE)] = encH m := by
  show [DV.sl (frzLL (m.map encE))] = encH m
  rw [frzLL_map]
  have : m.map (fun x => frzL (encE x)) = m.map encE := List.map_congr_left fun x _ => frz_encE x
  rw [this]
  rfl
 rw [h1, h2]
@[go_sem] theorem closed_resS (o : Option (List Int)) : Closed (resS o) ↔ True := by
 simp only [iff_true]
 cases o with
 | none => exact .nil
 | some l => exact closed_ints l
theorem f14 (h109 : H109) (g : Glob) (H : List (List Ev)) (r : Int) (hs : Small g) (hl : H.length <= 1000000) (hh : ∀ l ∈ H, l.length <= 100000) :
  Impl Tryz.prog 14 [.ag (encG g), .one (.sl (H.map encH)), .one (.int .i64 r)] (.tup [.one (resE (nextV g H r).1), .one (.int .i64 (nextV g H r).2)]) := by
 have hh2 : ∀ l ∈ H, l.length <= 1000000 := fun l h => by have := hh l h; omega
 have k26 := f26 h109 g H hs hl hh2
 have hel := hs.edges
 have hdl := hs.decls
 have k26m : ∀ (rn : Nat) (e : Ev), Impl Tryz.prog 26 [.ag (encG g), .one (.sl ((moreT H rn e).map encH))] (.tup [.one (resS (searchF g (moreT H rn e)).1), .one (.int .i64 (searchF g (moreT H rn e)).2)]) := fun rn e => by
  refine f26 h109 g _ hs (by simp only [moreT, List.length_set]; exact hl) fun l hl' => ?_
  rcases List.mem_or_eq_of_mem_set hl' with h | h
  ·exact hh2 l h
  ·subst h
   cases hq : H[rn]? with
   | none => simp
   | some z =>
     have := hh z (List.mem_of_getElem? hq)
     simp
     omega
 have k31 := f31 H hl
 have k29 := fun a : Inter => f29 g.edges 30 [.rf (encI a)] (hasA a) (by omega) (fun x _ => f30 x a)
 simp only [encG] at k26 k26m
 obtain ⟨V, hV⟩ : ∃ V, nextV g H r = V := ⟨_, rfl⟩
 rw [hV]
 have hV' := hV
 unfold nextV at hV'
 refine impl_v ?_
 by_cases hc : (searchF g H).2 = 0
 rotate_left
 ·rw [if_neg hc] at hV'
  rw [<- hV']
  obtain ⟨⟨o, c⟩, he⟩ : ∃ v, searchF g H = v := ⟨_, rfl⟩
  rw [he] at hc k26 ⊢
  simp only at hc k26
  cases o with
  | none =>
    simp only [resS] at k26
    refine wV (aN encG.eq_1 hc) k26 ?_
    simp [go_sem, resE]
  | some lo =>
    simp only [resS] at k26
    refine wV (aN encG.eq_1 hc) k26 ?_
    simp [go_sem, resE]
 rw [if_pos hc] at hV'
 obtain ⟨⟨o, c⟩, he⟩ : ∃ v, searchF g H = v := ⟨_, rfl⟩
 have hgo : goodF g H = true := by
  cases hg : goodF g H with
  | true => rfl
  | false =>
    unfold searchF at hc
    rw [hg] at hc
    simp at hc
 obtain ⟨hn, hlr, h6, _⟩ := valid_roles hgo
 rw [he] at hc k26
 simp only at hc
 subst hc
 by_cases hr : 0 <= r /\ r < g.roles.length
 rotate_left
 ·rw [if_neg hr] at hV'
  rw [<- hV']
  refine z_l [(7, .sv (.one (.int .i64 0))), (6, .sv (.one .nil)), (3, .sv (.one (.bx (encG g)))), (2, .sv (.one (.int .i64 r))), (1, .sv (.one (.sl (H.map encH))))] ?_ ?_
  ·refine wX encG.eq_1 ?_
   refine z_m ?_
   simp [go_sem, encG]
  refine z_l [(7, .sv (.one (.int .i64 0))), (6, .sv (.one .nil)), (3, .sv (.one (.bx (encG g)))), (2, .sv (.one (.int .i64 r)))] ?_ ?_
  ·cases o with
   | none =>
     simp only [resS] at k26
     refine wV encG.eq_1 k26 ?_
     refine z_m ?_
     simp [go_sem, encG]
   | some lo =>
     simp only [resS] at k26
     refine wV encG.eq_1 k26 ?_
     refine z_m ?_
     simp [go_sem, encG]
  by_cases hr0 : r < 0
  ·refine wX (aN encG.eq_1 hr0) ?_
   simp [go_sem, resE]
  ·have hr1 : (g.roles.length : Int) <= r := by omega
   refine wX (aN encG.eq_1 <| aN hr0 hr1) ?_
   simp [go_sem, resE]
 rw [if_pos hr] at hV'
 obtain ⟨rn, rfl⟩ : ∃ rn : Nat, r = rn := ⟨r.toNat, by omega⟩
 rw [Int.toNat_natCast] at hV'
 have hrn : rn < H.length := by omega
 obtain ⟨hr0', hr1'⟩ := hr
 have hr2 : ¬ (g.roles.length : Int) <= rn := by omega
 have hr3 : ¬ g.roles.length <= rn := by omega
 refine z_l [(7, .sv (.one (.int .i64 0))), (6, .sv (.one .nil)), (3, .sv (.one (.bx (encG g)))), (2, .sv (.one (.int .i64 rn))), (1, .sv (.one (.sl (H.map encH))))] ?_ ?_
 ·refine wX encG.eq_1 ?_
  refine z_m ?_
  simp [go_sem, encG]
 refine z_l [(7, .sv (.one (.int .i64 0))), (6, .sv (.one .nil)), (3, .sv (.one (.bx (encG g)))), (2, .sv (.one (.int .i64 rn))), (1, .sv (.one (.sl (H.map encH))))] ?_ ?_
 ·cases o with
  | none =>
    simp only [resS] at k26
    refine wV encG.eq_1 k26 ?_
    refine z_m ?_
    simp [go_sem, encG]
  | some lo =>
    simp only [resS] at k26
    refine wV encG.eq_1 k26 ?_
    refine z_m ?_
    simp [go_sem, encG]
 refine z_l [(7, .sv (.one (.int .i64 0))), (6, .sv (.one .nil)), (3, .sv (.one (.bx (encG g)))), (2, .sv (.one (.int .i64 rn))), (1, .sv (.one (.sl (H.map encH))))] ?_ ?_
 ·refine wX (aN encG.eq_1 <| aN hr2 hr3) ?_
  refine z_m ?_
  simp [go_sem, encG]
 refine wX encG.eq_1 ?_
 refine z_k (fun n e => ∃ (i : Nat) (out : List Ev), i + n = 2 /\ (sendsL.take i).foldl (foldPr g H rn) (some []) = some out /\ out.length <= 6000 * i /\ e = [(38, .sv (.one (.int .i64 i))), (37, .sv (.ag [.bool true, .bool false])), (10, .sv (.one (.ow 5 (out.map encE)))), (7, .sv (.one (.int .i64 0))), (6, .sv (.one .nil)), (3, .sv (.one (.bx (encG g)))), (2, .sv (.one (.int .i64 rn))), (1, .sv (.one (.sl (H.map encH))))]) 2 _ ⟨0, [], by simp, rfl, by simp, rfl⟩ (by simp [go_sem, encG]) ?_
 rintro n e ⟨i, out, hi, hfo, hol, rfl⟩
 by_cases hlt : i < 2
 rotate_left
 ·have hi2 : i = 2 := by omega
  subst hi2
  have hno : nextO g H rn = some out := hfo
  rw [hno] at hV'
  rw [<- hV']
  refine wX encG.eq_1 ?_
  simp [go_sem, resE]
 have hlt' : (i : Int) < 2 := by omega
 obtain ⟨s, hs⟩ : ∃ s, sendsL[i]? = some s := by
  rcases Nat.lt_or_ge i 1 with h | h
  ·have : i = 0 := by omega
   subst this
   exact ⟨true, rfl⟩
  ·have : i = 1 := by omega
   subst this
   exact ⟨false, rfl⟩
 have hsn : (sendsL.take (i + 1)).foldl (foldPr g H rn) (some []) = foldPr g H rn (some out) s := by
  have hi' : i < sendsL.length := hlt
  have : sendsL[i] = s := by
   rw [List.getElem?_eq_getElem hi'] at hs
   exact Option.some.inj hs
  rw [foldl_take1 _ _ hi', hfo, this]
 have hend : foldPr g H rn (some out) s = none -> nextO g H rn = none := by
  intro h
  rw [h] at hsn
  unfold nextO
  rcases Nat.lt_or_ge i 1 with h1 | h1
  ·have : i = 0 := by omega
   subst this
   have e1 : sendsL.foldl (foldPr g H rn) (some []) = foldPr g H rn ((sendsL.take 1).foldl (foldPr g H rn) (some [])) false := rfl
   rw [e1, hsn]
   exact foldPr_none g H rn false
  ·have : i = 1 := by omega
   subst this
   exact hsn
 refine z_l [(39, .sv (.one (.bool true))), (38, .sv (.one (.int .i64 i))), (37, .sv (.ag [.bool true, .bool false])), (10, .sv (.one (.ow 5 (out.map encE)))), (7, .sv (.one (.int .i64 0))), (6, .sv (.one .nil)), (3, .sv (.one (.bx (encG g)))), (2, .sv (.one (.int .i64 rn))), (1, .sv (.one (.sl (H.map encH))))] ?_ ?_
 ·refine wX (aN hlt <| aN hlt' encG.eq_1) ?_
  refine z_m ?_
  simp [go_sem, encG]
 refine z_l [(38, .sv (.one (.int .i64 i))), (37, .sv (.ag [.bool true, .bool false])), (10, .sv (.one (.ow 5 (out.map encE)))), (7, .sv (.one (.int .i64 0))), (6, .sv (.one .nil)), (3, .sv (.one (.bx (encG g)))), (2, .sv (.one (.int .i64 rn))), (1, .sv (.one (.sl (H.map encH))))] ?_ ?_
 ·refine wX encG.eq_1 ?_
  refine z_m ?_
  simp [go_sem, encG]
 refine z_A ?_
 refine z_C ?_
 refine z_l [(12, .sv (.one (.bool s))), (38, .sv (.one (.int .i64 i))), (37, .sv (.ag [.bool true, .bool false])), (10, .sv (.one (.ow 5 (out.map encE)))), (7, .sv (.one (.int .i64 0))), (6, .sv (.one .nil)), (3, .sv (.one (.bx (encG g)))), (2, .sv (.one (.int .i64 rn))), (1, .sv (.one (.sl (H.map encH))))] ?_ ?_
 ·rcases Nat.lt_or_ge i 1 with h1 | h1
  ·have : i = 0 := by omega
   subst this
   cases Option.some.inj hs
   refine wX encG.eq_1 ?_
   refine z_m ?_
   simp [go_sem, encG]
  ·have : i = 1 := by omega
   subst this
   cases Option.some.inj hs
   refine wX encG.eq_1 ?_
   refine z_m ?_
   simp [go_sem, encG]
 refine wX encG.eq_1 ?_
 refine z_k (fun m e => ∃ (p : Nat) (out' : List Ev), p + m = g.roles.length /\ (List.range p).foldl (foldLb g H rn s) (some out) = some out' /\ out'.length <= 6000 * i + 1000 * p /\ e = [(44, .sv (.one (.int .i64 p))), (43, .sv (.one (.int .i64 g.roles.length))), (12, .sv (.one (.bool s))), (38, .sv (.one (.int .i64 i))), (37, .sv (.ag [.bool true, .bool false])), (10, .sv (.one (.ow 5 (out'.map encE)))), (7, .sv (.one (.int .i64 0))), (6, .sv (.one .nil)), (3, .sv (.one (.bx (encG g)))), (2, .sv (.one (.int .i64 rn))), (1, .sv (.one (.sl (H.map encH))))]) g.roles.length _ ⟨0, out, by simp, rfl, by simpa using hol, rfl⟩ (by simp [go_sem, encG]) ?_
 rintro m e ⟨p, out', hp, hfp, hol', rfl⟩
 by_cases hpl : p < g.roles.length
 rotate_left
 ·have hpe : p = g.roles.length := by omega
  subst hpe
  have hfe : foldPr g H rn (some out) s = some out' := hfp
  refine wX (aN hpl encG.eq_1) ?_
  refine z_j (n - 1) _ (by omega) ⟨i + 1, out', by omega, by rw [hsn, hfe], by omega, rfl⟩ ?_
  simp [go_sem, encG]
 have hend2 : foldLb g H rn s (some out') p = none -> nextO g H rn = none := fun h => hend (foldl_range_none (foldLb_none g H rn s) (k := p + 1) (by rw [foldl_range1, hfp, h]) _ (by omega))
 refine z_l [(45, .sv (.one (.bool true))), (44, .sv (.one (.int .i64 p))), (43, .sv (.one (.int .i64 g.roles.length))), (12, .sv (.one (.bool s))), (38, .sv (.one (.int .i64 i))), (37, .sv (.ag [.bool true, .bool false])), (10, .sv (.one (.ow 5 (out'.map encE)))), (7, .sv (.one (.int .i64 0))), (6, .sv (.one .nil)), (3, .sv (.one (.bx (encG g)))), (2, .sv (.one (.int .i64 rn))), (1, .sv (.one (.sl (H.map encH))))] ?_ ?_
 ·refine wX (aN hpl encG.eq_1) ?_
  refine z_m ?_
  simp [go_sem, encG]
 refine z_l [(44, .sv (.one (.int .i64 p))), (43, .sv (.one (.int .i64 g.roles.length))), (12, .sv (.one (.bool s))), (38, .sv (.one (.int .i64 i))), (37, .sv (.ag [.bool true, .bool false])), (10, .sv (.one (.ow 5 (out'.map encE)))), (7, .sv (.one (.int .i64 0))), (6, .sv (.one .nil)), (3, .sv (.one (.bx (encG g)))), (2, .sv (.one (.int .i64 rn))), (1, .sv (.one (.sl (H.map encH))))] ?_ ?_
 ·refine wX encG.eq_1 ?_
  refine z_m ?_
  simp [go_sem, encG]
 refine z_A ?_
 refine z_C ?_
 refine wX encG.eq_1 ?_
 refine z_k (fun q e => ∃ (l : Nat) (o3 : List Ev), l + q = g.decls.length /\ (List.range l).foldl (stepT g H rn s p) (some out') = some o3 /\ o3.length <= 6000 * i + 1000 * p + l /\ e = [(50, .sv (.one (.int .i64 l))), (49, .sv (.one (.int .i64 g.decls.length))), (13, .sv (.one (.int .i64 p))), (44, .sv (.one (.int .i64 p))), (43, .sv (.one (.int .i64 g.roles.length))), (12, .sv (.one (.bool s))), (38, .sv (.one (.int .i64 i))), (37, .sv (.ag [.bool true, .bool false])), (10, .sv (.one (.ow 5 (o3.map encE)))), (7, .sv (.one (.int .i64 0))), (6, .sv (.one .nil)), (3, .sv (.one (.bx (encG g)))), (2, .sv (.one (.int .i64 rn))), (1, .sv (.one (.sl (H.map encH))))]) g.decls.length _ ⟨0, out', by simp, rfl, by simpa using hol', rfl⟩ (by simp [go_sem, encG]) ?_
 rintro q e ⟨l, o3, hlq, hfl, hol3, rfl⟩
 by_cases hll : l < g.decls.length
 rotate_left
 ·have hle : l = g.decls.length := by omega
  subst hle
  have hfe : foldLb g H rn s (some out') p = some o3 := hfl
  refine wX (aN hll encG.eq_1) ?_
  refine z_j (m - 1) _ (by omega) ⟨p + 1, o3, by omega, by rw [foldl_range1, hfp, hfe], by omega, rfl⟩ ?_
  simp [go_sem, encG]
 have hst : (List.range (l + 1)).foldl (stepT g H rn s p) (some out') = stepT g H rn s p (some o3) l := by rw [foldl_range1, hfl]
 have hend3 : stepT g H rn s p (some o3) l = none -> nextO g H rn = none := fun h => hend2 (foldl_range_none (stepT_none g H rn s p) (k := l + 1) (by rw [hst, h]) _ (by omega))
 refine z_l [(51, .sv (.one (.bool true))), (50, .sv (.one (.int .i64 l))), (49, .sv (.one (.int .i64 g.decls.length))), (13, .sv (.one (.int .i64 p))), (44, .sv (.one (.int .i64 p))), (43, .sv (.one (.int .i64 g.roles.length))), (12, .sv (.one (.bool s))), (38, .sv (.one (.int .i64 i))), (37, .sv (.ag [.bool true, .bool false])), (10, .sv (.one (.ow 5 (o3.map encE)))), (7, .sv (.one (.int .i64 0))), (6, .sv (.one .nil)), (3, .sv (.one (.bx (encG g)))), (2, .sv (.one (.int .i64 rn))), (1, .sv (.one (.sl (H.map encH))))] ?_ ?_
 ·refine wX (aN hll encG.eq_1) ?_
  refine z_m ?_
  simp [go_sem, encG]
 refine z_l [(50, .sv (.one (.int .i64 l))), (49, .sv (.one (.int .i64 g.decls.length))), (13, .sv (.one (.int .i64 p))), (44, .sv (.one (.int .i64 p))), (43, .sv (.one (.int .i64 g.roles.length))), (12, .sv (.one (.bool s))), (38, .sv (.one (.int .i64 i))), (37, .sv (.ag [.bool true, .bool false])), (10, .sv (.one (.ow 5 (o3.map encE)))), (7, .sv (.one (.int .i64 0))), (6, .sv (.one .nil)), (3, .sv (.one (.bx (encG g)))), (2, .sv (.one (.int .i64 rn))), (1, .sv (.one (.sl (H.map encH))))] ?_ ?_
 ·refine wX encG.eq_1 ?_
  refine z_m ?_
  simp [go_sem, encG]
 refine z_A ?_
 refine z_C ?_
 refine z_l [(14, .sv (.one (.int .i64 l))), (50, .sv (.one (.int .i64 l))), (49, .sv (.one (.int .i64 g.decls.length))), (13, .sv (.one (.int .i64 p))), (44, .sv (.one (.int .i64 p))), (43, .sv (.one (.int .i64 g.roles.length))), (12, .sv (.one (.bool s))), (38, .sv (.one (.int .i64 i))), (37, .sv (.ag [.bool true, .bool false])), (10, .sv (.one (.ow 5 (o3.map encE)))), (7, .sv (.one (.int .i64 0))), (6, .sv (.one .nil)), (3, .sv (.one (.bx (encG g)))), (2, .sv (.one (.int .i64 rn))), (1, .sv (.one (.sl (H.map encH))))] ?_ ?_
 ·refine wX encG.eq_1 ?_
  refine z_m ?_
  simp [go_sem, encG]
 refine z_l [(15, .sv (.one (.bx [.int .i64 rn, .int .i64 p, .int .i64 l]))), (14, .sv (.one (.int .i64 l))), (50, .sv (.one (.int .i64 l))), (49, .sv (.one (.int .i64 g.decls.length))), (13, .sv (.one (.int .i64 p))), (44, .sv (.one (.int .i64 p))), (43, .sv (.one (.int .i64 g.roles.length))), (12, .sv (.one (.bool s))), (38, .sv (.one (.int .i64 i))), (37, .sv (.ag [.bool true, .bool false])), (10, .sv (.one (.ow 5 (o3.map encE)))), (7, .sv (.one (.int .i64 0))), (6, .sv (.one .nil)), (3, .sv (.one (.bx (encG g)))), (2, .sv (.one (.int .i64 rn))), (1, .sv (.one (.sl (H.map encH))))] ?_ ?_
 ·refine wX encG.eq_1 ?_
  refine z_m ?_
  simp [go_sem, encG]
 refine z_l [(15, .sv (.one (.bx (encI (actT rn s p l))))), (14, .sv (.one (.int .i64 l))), (50, .sv (.one (.int .i64 l))), (49, .sv (.one (.int .i64 g.decls.length))), (13, .sv (.one (.int .i64 p))), (44, .sv (.one (.int .i64 p))), (43, .sv (.one (.int .i64 g.roles.length))), (12, .sv (.one (.bool s))), (38, .sv (.one (.int .i64 i))), (37, .sv (.ag [.bool true, .bool false])), (10, .sv (.one (.ow 5 (o3.map encE)))), (7, .sv (.one (.int .i64 0))), (6, .sv (.one .nil)), (3, .sv (.one (.bx (encG g)))), (2, .sv (.one (.int .i64 rn))), (1, .sv (.one (.sl (H.map encH))))] ?_ ?_
 ·cases s with
  | true =>
    refine wX encG.eq_1 ?_
    refine z_m ?_
    simp [go_sem, encG, actT, encI]
  | false =>
    refine wX encG.eq_1 ?_
    refine z_m ?_
    simp [go_sem, encG, actT, encI]
 have j29 := k29 (actT rn s p l)
 obtain ⟨a, ha⟩ : ∃ a, actT rn s p l = a := ⟨_, rfl⟩
 rw [ha] at j29
 have hstep : stepT g H rn s p (some o3) l = if g.edges.any (hasA a) then (if (searchF g (moreT H rn (evT rn s p l))).2 = 0 then some (o3 ++ [evT rn s p l]) else if (searchF g (moreT H rn (evT rn s p l))).2 = 6 then none else some o3) else some o3 := by
  rw [<- ha]
  rfl
 rw [ha]
 cases hA : g.edges.any (hasA a) with
 | false =>
   rw [hA] at j29
   have hst2 : stepT g H rn s p (some o3) l = some o3 := by rw [hstep, hA]; rfl
   refine wV encG.eq_1 j29 ?_
   refine z_j (q - 1) _ (by omega) ⟨l + 1, o3, by omega, by rw [hst, hst2], by omega, rfl⟩ ?_
   simp [go_sem, encG]
 | true =>
   rw [hA] at j29
   refine z_l [(14, .sv (.one (.int .i64 l))), (50, .sv (.one (.int .i64 l))), (49, .sv (.one (.int .i64 g.decls.length))), (13, .sv (.one (.int .i64 p))), (44, .sv (.one (.int .i64 p))), (43, .sv (.one (.int .i64 g.roles.length))), (12, .sv (.one (.bool s))), (38, .sv (.one (.int .i64 i))), (37, .sv (.ag [.bool true, .bool false])), (10, .sv (.one (.ow 5 (o3.map encE)))), (7, .sv (.one (.int .i64 0))), (6, .sv (.one .nil)), (3, .sv (.one (.bx (encG g)))), (2, .sv (.one (.int .i64 rn))), (1, .sv (.one (.sl (H.map encH))))] ?_ ?_
   ·refine wV encG.eq_1 j29 ?_
    refine z_m ?_
    simp [go_sem, encG]
   refine z_l [(16, .sv (.one (.ow 1 (H.map encH)))), (14, .sv (.one (.int .i64 l))), (50, .sv (.one (.int .i64 l))), (49, .sv (.one (.int .i64 g.decls.length))), (13, .sv (.one (.int .i64 p))), (44, .sv (.one (.int .i64 p))), (43, .sv (.one (.int .i64 g.roles.length))), (12, .sv (.one (.bool s))), (38, .sv (.one (.int .i64 i))), (37, .sv (.ag [.bool true, .bool false])), (10, .sv (.one (.ow 5 (o3.map encE)))), (7, .sv (.one (.int .i64 0))), (6, .sv (.one .nil)), (3, .sv (.one (.bx (encG g)))), (2, .sv (.one (.int .i64 rn))), (1, .sv (.one (.sl (H.map encH))))] ?_ ?_
   ·refine wV encG.eq_1 k31 ?_
    refine z_m ?_
    simp [go_sem, encG]
   obtain ⟨h0, hh0⟩ : ∃ h, H[rn] = h := ⟨_, rfl⟩
   have hl0 : h0.length <= 100000 := hh _ (hh0 ▸ List.getElem_mem hrn)
   have j32 := f32 h0 (by omega)
   have hap : z_f 5 56 (h0.map encE) [[.int .i64 rn, .bool s, .int .i64 p, .int .i64 l, .nil]] := appendOk_e (l := h0) (m := [evT rn s p l]) (by simp; omega)
   have hap3 : z_f 5 56 (o3.map encE) [[.int .i64 rn, .bool s, .int .i64 p, .int .i64 l, .nil]] := appendOk_e (l := o3) (m := [evT rn s p l]) (by simp; omega)
   have ho3 : o3.map encE ++ [[.int .i64 rn, .bool s, .int .i64 p, .int .i64 l, .nil]] = (o3 ++ [evT rn s p l]).map encE := by
    rw [List.map_append]
    rfl
   obtain ⟨mm, hmm⟩ : ∃ mm, h0 ++ [evT rn s p l] = mm := ⟨_, rfl⟩
   have hm2 : h0.map encE ++ [[.int .i64 rn, .bool s, .int .i64 p, .int .i64 l, .nil]] = mm.map encE := by
    rw [<- hmm, List.map_append]
    rfl
   have hmo : moreT H rn (evT rn s p l) = H.set rn mm := by
    unfold moreT
    rw [List.getElem?_eq_getElem hrn, hh0, <- hmm]
    rfl
   refine z_l [(16, .sv (.one (.ow 1 ((H.map encH).set rn [.ow 5 (mm.map encE)])))), (14, .sv (.one (.int .i64 l))), (50, .sv (.one (.int .i64 l))), (49, .sv (.one (.int .i64 g.decls.length))), (13, .sv (.one (.int .i64 p))), (44, .sv (.one (.int .i64 p))), (43, .sv (.one (.int .i64 g.roles.length))), (12, .sv (.one (.bool s))), (38, .sv (.one (.int .i64 i))), (37, .sv (.ag [.bool true, .bool false])), (10, .sv (.one (.ow 5 (o3.map encE)))), (7, .sv (.one (.int .i64 0))), (6, .sv (.one .nil)), (3, .sv (.one (.bx (encG g)))), (2, .sv (.one (.int .i64 rn))), (1, .sv (.one (.sl (H.map encH))))] ?_ ?_
   ·refine wV (aN hrn <| aN hh0 <| aN hap <| aN hm2 encH.eq_1) j32 ?_
    refine z_m ?_
    simp [go_sem, encG, hm2]
   have j26 := k26m rn (evT rn s p l)
   rw [hmo] at j26 hstep
   have hfr := frz_more H rn mm
   obtain ⟨⟨o, c⟩, hc⟩ : ∃ v, searchF g (H.set rn mm) = v := ⟨_, rfl⟩
   rw [hc, hA] at hstep
   rw [hc] at j26
   simp only [if_true] at hstep
   simp only [List.map_set] at j26
   refine z_l [(18, .sv (.one (.int .i64 c))), (14, .sv (.one (.int .i64 l))), (50, .sv (.one (.int .i64 l))), (49, .sv (.one (.int .i64 g.decls.length))), (13, .sv (.one (.int .i64 p))), (44, .sv (.one (.int .i64 p))), (43, .sv (.one (.int .i64 g.roles.length))), (12, .sv (.one (.bool s))), (38, .sv (.one (.int .i64 i))), (37, .sv (.ag [.bool true, .bool false])), (10, .sv (.one (.ow 5 (o3.map encE)))), (7, .sv (.one (.int .i64 0))), (6, .sv (.one .nil)), (3, .sv (.one (.bx (encG g)))), (2, .sv (.one (.int .i64 rn))), (1, .sv (.one (.sl (H.map encH))))] ?_ ?_
   ·cases o with
    | none =>
      simp only [resS] at j26
      refine wV (aN hfr encG.eq_1) j26 ?_
      refine z_m ?_
      simp [go_sem, encG]
    | some lo =>
      simp only [resS] at j26
      refine wV (aN hfr encG.eq_1) j26 ?_
      refine z_m ?_
      simp [go_sem, encG]
   by_cases h0c : c = 0
   ·rw [if_pos h0c] at hstep
    refine wX (aN h0c hap3) ?_
    refine z_j (q - 1) _ (by omega) ⟨l + 1, o3 ++ [evT rn s p l], by omega, by rw [hst, hstep], by simp; omega, rfl⟩ ?_
    simp [go_sem, encG, ho3]
   ·rw [if_neg h0c] at hstep
    by_cases h6c : c = 6
    ·rw [if_pos h6c] at hstep
     rw [hend3 hstep] at hV'
     rw [<- hV']
     refine wX (aN h0c h6c) ?_
     simp [go_sem, resE]
    ·rw [if_neg h6c] at hstep
     refine wX (aN h0c h6c) ?_
     refine z_j (q - 1) _ (by omega) ⟨l + 1, o3, by omega, by rw [hst, hstep], by omega, rfl⟩ ?_
     simp [go_sem, encG]
end Go.Av

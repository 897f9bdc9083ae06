/- Part of a proof. -/
import Derived.Test.YticeobjphcmggaaDoorAvR
import Derived.Test.YticeobjphcmggaaDoorB01
set_option linter.unusedVariables false
set_option linter.unusedSimpArgs false
set_option maxHeartbeats 64000000
set_option maxRecDepth 8000
namespace Go.Av
open Go Go.RowKit Go.Proofs
set_option maxHeartbeats 64000000
theorem validD_decl {l : List Dcl} (hv : validD l = true) {i : Nat} (hi : i < l.length) : isPath l[i].name = true /\ l[i].fields.length <= 4 /\ l[i].first = ((allF (l.take i)).length : Int) /\ okFields l[i].fields = true /\ okGuard (allF l) l[i] = true := by
 simp only [validD, Bool.and_eq_true, List.all_eq_true, List.mem_range] at hv
 have h := hv.2 i hi
 rw [okDeclAt_get hi] at h
 simp only [Bool.and_eq_true, decide_eq_true_eq] at h
 exact ⟨h.1.1.1.1.1, h.1.1.1.1.2, h.1.1.1.2, h.1.2, h.2⟩
theorem validD_24 {l : List Dcl} (hv : validD l = true) : (allF l).length <= 24 := by
 simp only [validD, Bool.and_eq_true, decide_eq_true_eq] at hv
 exact hv.1.2
theorem okFields_sort {fs : List Fld} (h : okFields fs = true) : ∀ f ∈ fs, goodSort f = true := by
 intro f hf
 obtain ⟨k, hk, rfl⟩ := List.mem_iff_getElem.1 hf
 simp only [okFields, List.all_eq_true, List.mem_range] at h
 have := h k hk
 rw [okFieldAt_get hk] at this
 simp only [Bool.and_eq_true] at this
 exact this.1.2
theorem goodSort_lo {f : Fld} (h : goodSort f = true) : -1000 <= f.lo /\ f.lo <= 1000 /\ f.hi <= 1000 /\ f.lo <= f.hi := by
 unfold goodSort at h
 split at h
 ·simp at h; omega
 ·split at h
  ·simp at h; omega
  ·cases h
def boundsR (l : List Dcl) (i : Int) : RV := if 0 <= i /\ i < l.length /\ validD l = true then .tup [.one (.ow 3 (((l[i.toNat]?.map boundsOf).getD []).map encDf)), .one (.int .i64 0)] else .tup [.one (.ow 3 []), .one (.int .i64 1)]
theorem f54 (l : List Dcl) (i : Int) (hl : l.length <= 1000) (hf : ∀ d ∈ l, d.fields.length <= 100000) : Impl Tryd.prog 54 [.one (.sl (l.map encD)), .one (.int .i64 i)] (boundsR l i) := by
 refine impl_v ?_
 have f47s := f47 l hl hf
 by_cases h0 : i < 0
 ·have hr : boundsR l i = .tup [.one (.ow 3 []), .one (.int .i64 1)] := by
   unfold boundsR
   rw [if_neg (by omega)]
  refine wX h0 ?_
  simp [go_sem, hr]
 ·by_cases hin : i < l.length
  ·have hin' : ¬ (l.length : Int) <= i := by omega
   cases hv : validD l with
   | false =>
     have hr : boundsR l i = .tup [.one (.ow 3 []), .one (.int .i64 1)] := by
      unfold boundsR
      rw [if_neg (by rw [hv]; simp)]
     rw [hv] at f47s
     refine wV (aN h0 hin') f47s ?_
     simp [go_sem, hr]
   | true =>
     obtain ⟨k, rfl⟩ : ∃ k : Nat, i = k := ⟨i.toNat, by omega⟩
     have hk : k < l.length := by omega
     obtain ⟨h1, h2, h3, h4, h5⟩ := validD_decl hv hk
     have h24 := validD_24 hv
     have hle : (allF (l.take k)).length <= (allF l).length := by
      rw [allF_split l k, List.length_append]; omega
     simp only [okGuard, Bool.and_eq_true, decide_eq_true_eq] at h5
     have f70s := f70 l[k] (by omega) (by omega) (by omega) (by omega) (fun f hf => by have := goodSort_lo (okFields_sort h4 f hf); omega)
     have hr : boundsR l k = .tup [.one (.ow 3 ((boundsOf l[k]).map encDf)), .one (.int .i64 0)] := by
      unfold boundsR
      rw [if_pos ⟨by omega, by omega, hv⟩]
      simp [hk]
     rw [hv] at f47s
     refine wV (aN h0 <| aN hin' <| aN hk encD.eq_1) (aN f47s f70s) ?_
     simp [go_sem, hr]
  ·have hin' : (l.length : Int) <= i := by omega
   have hr : boundsR l i = .tup [.one (.ow 3 []), .one (.int .i64 1)] := by
    unfold boundsR
    rw [if_neg (by omega)]
   refine wX (aN h0 hin') ?_
   simp [go_sem, hr]
theorem f40 (l : List Dcl) (hl : l.length <= 1000) (hf : ∀ d ∈ l, d.fields.length <= 100000) : Impl Tryd.prog 40 [.one (.sl (l.map encD))] (.one (.one (.bool (validD l)))) := by
 refine impl_v ?_
 by_cases h0 : l.length = 0
 ·have hnil : l = [] := List.eq_nil_of_length_eq_zero h0
  have hv : validD l = true := by rw [hnil]; rfl
  refine wX h0 ?_
  simp [go_sem, hv]
 ·have f54s := f54 l 0 hl hf
  unfold boundsR at f54s
  cases hv : validD l with
  | true =>
    rw [if_pos ⟨by omega, by omega, hv⟩] at f54s
    refine wV h0 f54s ?_
    simp [go_sem]
  | false =>
    rw [if_neg (by rw [hv]; simp)] at f54s
    refine wV h0 f54s ?_
    simp [go_sem]
def okRoleAt (rs : List ByteArray) (k : Nat) : Bool := match rs[k]? with
 | some s => isWord s && !hasS (rs.take k) s
 | none => true
def okRoles (rs : List ByteArray) : Bool := (List.range rs.length).all (okRoleAt rs)
theorem okRoleAt_get {rs : List ByteArray} {k : Nat} (h : k < rs.length) : okRoleAt rs k = (isWord rs[k] && !hasS (rs.take k) rs[k]) := by
 unfold okRoleAt
 rw [List.getElem?_eq_getElem h]
def named (g : Glob) : Bool := isWord g.name && decide (1 <= g.roles.length) && decide (g.roles.length <= 6) && okRoles g.roles
theorem f38 (g : Glob) (hr : g.roles.length <= 1000000) : Impl Tryd.prog 38 [.ag (encG g)] (.one (.one (.bool (named g)))) := by
 refine impl_v ?_
 have f52s := f52 g.name
 cases hw : isWord g.name with
 | false =>
   have hv : named g = false := by simp [named, hw]
   rw [hw] at f52s
   refine wV encG.eq_1 f52s ?_
   simp [go_sem, hv]
 | true =>
   rw [hw] at f52s
   by_cases h1 : 1 <= g.roles.length
   ·have h1' : ¬ (g.roles.length : Int) < 1 := by omega
    by_cases h6 : g.roles.length <= 6
    ·have h6' : ¬ (6 : Int) < (g.roles.length : Int) := by omega
     refine wV (aN encG.eq_1 <| aN h1' h6') f52s ?_
     refine z_k (fun n e => ∃ k : Nat, k + n = g.roles.length /\ (List.range k).all (okRoleAt g.roles) = true /\ e = [(24, .sv (.one (.int .i64 k))), (23, .sv (.one (.int .i64 g.roles.length))), (22, .sv (.one (.sl (g.roles.map encS)))), (1, .sv (.one (.bx (encG g))))]) g.roles.length _ ⟨0, by simp, by simp, rfl⟩ (by simp [go_sem, encG]) ?_
     rintro n e ⟨k, hk, hall, rfl⟩
     by_cases hlt : k < g.roles.length
     ·have hok := okRoleAt_get hlt
      have hbad : okRoleAt g.roles k = false -> named g = false := fun h => by simp [named, okRoles, range_all_no hlt h]
      obtain ⟨s, hs⟩ : ∃ s, g.roles[k] = s := ⟨_, rfl⟩
      rw [hs] at hok
      have c1 := f52 s
      have c2 := f53 (g.roles.take k) s (Nat.le_trans (List.length_take_le _ _) (by omega))
      rw [List.map_take] at c2
      cases hws : isWord s with
      | false =>
        have hv := hbad (by rw [hok, hws]; rfl)
        rw [hws] at c1
        refine wV (aN hlt <| aN hs <| aN encG.eq_1 encS.eq_1) c1 ?_
        simp [go_sem, hv]
      | true =>
        rw [hws] at c1
        cases hh : hasS (g.roles.take k) s with
        | true =>
          have hv := hbad (by rw [hok, hh]; simp)
          rw [hh] at c2
          refine wV (aN hlt <| aN hs <| aN encG.eq_1 encS.eq_1) (aN c1 c2) ?_
          simp [go_sem, hv]
        | false =>
          have ho : okRoleAt g.roles k = true := by rw [hok, hws, hh]; rfl
          rw [hh] at c2
          refine wV (aN hlt <| aN hs <| aN encG.eq_1 encS.eq_1) (aN c1 c2) ?_
          refine z_j (n - 1) _ (by omega) ⟨k + 1, by omega, ?_, rfl⟩ ?_
          ·rw [range_succ_all, hall, ho]; rfl
          ·simp [go_sem, encG]
     ·have hke : k = g.roles.length := by omega
      rw [hke] at hall
      have hv : named g = true := by simp [named, hw, h1, h6, okRoles, hall]
      refine wX hlt ?_
      simp [go_sem, hv]
    ·have h6' : (6 : Int) < (g.roles.length : Int) := by omega
     have hv : named g = false := by simp [named, h6]
     refine wV (aN encG.eq_1 <| aN h1' h6') f52s ?_
     simp [go_sem, hv]
   ·have h1' : (g.roles.length : Int) < 1 := by omega
    have hv : named g = false := by simp [named, h1]
    refine wV (aN encG.eq_1 h1') f52s ?_
    simp [go_sem, hv]
set_option maxHeartbeats 64000000
structure Small (g : Glob) : Prop where
 roles : g.roles.length <= 1000
 decls : g.decls.length <= 1000
 fields : ∀ d ∈ g.decls, d.fields.length <= 100000
 parts : ∀ d ∈ g.decls, d.diffs.length <= 1000000 /\ d.equals.length <= 1000000 /\ d.name.size <= 1000000000000000
 edges : g.edges.length <= 1000
 timeouts : g.timeouts.length <= 1000
def stateB (g : Glob) (s : Int) : Bool := decide (0 <= s) && decide (s < g.states)
def okEdge (g : Glob) (x : Edg) : Bool := stateB g x.from_ && stateB g x.to && decide (0 <= x.act.from_) && decide (x.act.from_ < g.roles.length) && decide (0 <= x.act.to) && decide (x.act.to < g.roles.length) && decide (x.act.from_ ≠ x.act.to) && decide (0 <= x.act.label) && decide (x.act.label < g.decls.length)
def numbered (g : Glob) : Bool := decide (1 <= g.states) && decide (g.states <= 200) && stateB g g.start && stateB g g.end_ && decide (g.edges.length <= 400) && g.edges.all (okEdge g)
theorem numbered_edge {g : Glob} {k : Nat} (h : k < g.edges.length) (hb : okEdge g g.edges[k] = false) : numbered g = false := by simp [numbered, all_no h hb]
theorem f39 (g : Glob) (hs : Small g) : Impl Tryd.prog 39 [.ag (encG g)] (.one (.one (.bool (numbered g)))) := by
 obtain ⟨s1, s2, s3, s4, s5, s6⟩ := hs
 refine impl_intro z39.f z39.b rfl z39.r z39.n z39.t z39.d (by simp) fun hs => ?_
 clear hs s3 s4
 simp only [slotsOf]
 conv => arg 2; reduce
 repeat' first | refine St.go ?_ | ((with_reducible refine cn ?_ ?_) <;> intro h <;> (try simp at h) <;> try omega) | (refine Ru.go ?_; intro K hK; simp [go_sem, encG]; (try simp (disch := omega) only [wx, z_i]); (first | apply hK | refine ⟨by first | omega | (simp [z_f, z_g, encG]; first | done | omega), ?_⟩ | refine ⟨hK _ ?_, fun h => ?_⟩ | refine ⟨?_, ?_⟩); all_goals ((try apply hK); clear hK K))
 ·have hv : numbered g = false := by
   cases hb : numbered g with
   | false => rfl
   | true =>
     simp only [numbered, stateB, Bool.and_eq_true, decide_eq_true_eq] at hb
     omega
  simp [go_sem, hv]
 ·refine z_k (fun n e => ∃ k : Nat, k + n = g.edges.length /\ (g.edges.take k).all (okEdge g) = true /\ e = [(41, .sv (.one (.int .i64 k))), (40, .sv (.one (.int .i64 g.edges.length))), (39, .sv (.one (.sl (g.edges.map encEd)))), (1, .sv (.one (.bx (encG g))))]) g.edges.length _ ⟨0, by simp, by simp, rfl⟩ (by simp [go_sem, encG]) ?_
  rintro n e ⟨k, hk, hall, rfl⟩
  by_cases hlt : k < g.edges.length
  ·obtain ⟨x, hx⟩ : ∃ x, g.edges[k] = x := ⟨_, rfl⟩
   have hbad := numbered_edge hlt
   rw [hx] at hbad
   repeat' first | refine St.go ?_ | ((with_reducible refine cn ?_ ?_) <;> intro h <;> (try simp at h) <;> try omega) | (refine Ru.go ?_; intro K hK; simp [go_sem, hlt, hx, encG, encEd]; (try simp (disch := omega) only [wx, z_i]); (first | apply hK | refine ⟨by first | omega | (simp [z_f, z_g, hlt, hx, encG, encEd]; first | done | omega), ?_⟩ | refine ⟨hK _ ?_, fun h => ?_⟩ | refine ⟨?_, ?_⟩); all_goals ((try apply hK); clear hK K))
   ·have hb : okEdge g x = false := by
     cases hb : okEdge g x with
     | false => rfl
     | true =>
       simp only [okEdge, stateB, Bool.and_eq_true, decide_eq_true_eq] at hb
       omega
    have hv := hbad hb
    simp [go_sem, hv]
   ·have hb : okEdge g x = true := by
     simp only [okEdge, stateB, Bool.and_eq_true, decide_eq_true_eq]
     omega
    refine z_j (n - 1) _ (by omega) ⟨k + 1, by omega, ?_, rfl⟩ ?_
    ·rw [all_succ hlt, hall, hx, hb]; rfl
    ·simp [go_sem, encG]
  ·have hkl : g.edges.take k = g.edges := List.take_of_length_le (by omega)
   rw [hkl] at hall
   have hv : numbered g = true := by
    simp only [numbered, stateB, Bool.and_eq_true, decide_eq_true_eq]
    refine ⟨⟨⟨⟨⟨?_, ?_⟩, ?_⟩, ?_⟩, ?_⟩, hall⟩ <;> omega
   refine wX hlt ?_
   simp [go_sem, hv]
set_option maxHeartbeats 64000000
def actEq (a b : Inter) : Bool := a.from_ == b.from_ && a.to == b.to && a.label == b.label
def bad1 (same : Bool) (x y : Edg) : Bool := !same && x.from_ == y.from_ && (actEq x.act y.act || x.act.from_ != y.act.from_ || x.again)
def bad2 (x y : Edg) : Bool := x.again && y.to == x.from_ && (x.act.from_ != y.act.from_ || x.act.label != y.act.label)
def okPr (es : List Edg) (i : Nat) (x : Edg) (k : Nat) : Bool := match es[k]? with
 | some y => !bad1 (i == k) x y && !bad2 x y
 | none => true
def okRow (es : List Edg) (i : Nat) (x : Edg) : Bool := (List.range es.length).all (okPr es i x)
def ordAt (g : Glob) (e : Bool) (i : Nat) : Bool := match g.edges[i]? with
 | some x => !(e && x.from_ == g.end_) && !(x.again && x.from_ == g.start) && okRow g.edges i x
 | none => true
def orderedB (g : Glob) (e : Bool) : Bool := (List.range g.edges.length).all (ordAt g e)
theorem ordAt_get {g : Glob} {e : Bool} {i : Nat} (h : i < g.edges.length) : ordAt g e i = (!(e && g.edges[i].from_ == g.end_) && !(g.edges[i].again && g.edges[i].from_ == g.start) && okRow g.edges i g.edges[i]) := by
 unfold ordAt
 rw [List.getElem?_eq_getElem h]
theorem f41 (g : Glob) (hs : Small g) : Impl Tryd.prog 41 [.ag (encG g)] (.one (.one (.bool (orderedB g true)))) := by
 obtain ⟨s1, s2, s3, s4, s5, s6⟩ := hs
 refine impl_intro z41.f z41.b rfl z41.r z41.n z41.t z41.d (by simp) fun hs => ?_
 clear hs s3 s4
 simp only [slotsOf]
 conv => arg 2; reduce
 refine wX encG.eq_1 ?_
 refine z_k (fun n e => ∃ i : Nat, i + n = g.edges.length /\ (List.range i).all (ordAt g true) = true /\ e = [(10, .sv (.one (.int .i64 i))), (9, .sv (.one (.int .i64 g.edges.length))), (8, .sv (.one (.sl (g.edges.map encEd)))), (1, .sv (.one (.bx (encG g))))]) g.edges.length _ ⟨0, by simp, by simp, rfl⟩ (by simp [go_sem, encG]) ?_
 rintro n e ⟨i, hi, hall, rfl⟩
 by_cases hlt : i < g.edges.length
 ·have hok := ordAt_get (e := true) hlt
  have hbad : ordAt g true i = false -> orderedB g true = false := fun h => range_all_no hlt h
  obtain ⟨x, hx⟩ : ∃ x, g.edges[i] = x := ⟨_, rfl⟩
  rw [hx] at hok
  cases hc : (x.from_ == g.end_) || (x.again && x.from_ == g.start) with
  | true =>
    have hv := hbad (by rw [hok]; cases h1 : (x.from_ == g.end_) <;> cases h2 : (x.again && x.from_ == g.start) <;> simp_all)
    repeat' first | refine St.go ?_ | ((with_reducible refine cn ?_ ?_) <;> intro h <;> (try simp at h) <;> try omega) | (refine Ru.go ?_; intro K hK; simp [go_sem, hlt, hx, encG, encEd, hc]; (try simp (disch := omega) only [wx, z_i]); (first | apply hK | refine ⟨by first | omega | (simp [z_f, z_g, hlt, hx, encG, encEd, hc]; first | done | omega), ?_⟩ | refine ⟨hK _ ?_, fun h => ?_⟩ | refine ⟨?_, ?_⟩); all_goals ((try apply hK); clear hK K))
    ·intro a; simp [a]
    ·simp [go_sem, hv]
  | false =>
    repeat' first | refine St.go ?_ | ((with_reducible refine cn ?_ ?_) <;> intro h <;> (try simp at h) <;> try omega) | (refine Ru.go ?_; intro K hK; simp [go_sem, hlt, hx, encG, encEd, hc]; (try simp (disch := omega) only [wx, z_i]); (first | apply hK | refine ⟨by first | omega | (simp [z_f, z_g, hlt, hx, encG, encEd, hc]; first | done | omega), ?_⟩ | refine ⟨hK _ ?_, fun h => ?_⟩ | refine ⟨?_, ?_⟩); all_goals ((try apply hK); clear hK K))
    ·intro a; simp [a]
    ·refine z_k (fun q e => ∃ k : Nat, k + q = g.edges.length /\ (List.range k).all (okPr g.edges i x) = true /\ e = [(34, .sv (.one (.int .i64 k))), (33, .sv (.one (.int .i64 g.edges.length))), (32, .sv (.one (.sl (g.edges.map encEd)))), (4, .sv (.one (.bx (encEd x)))), (3, .sv (.one (.int .i64 i))), (10, .sv (.one (.int .i64 i))), (9, .sv (.one (.int .i64 g.edges.length))), (8, .sv (.one (.sl (g.edges.map encEd)))), (1, .sv (.one (.bx (encG g))))]) g.edges.length _ ⟨0, by simp, by simp, rfl⟩ (by simp [go_sem, encG, encEd]) ?_
     rintro q e ⟨k, hk, hrow, rfl⟩
     by_cases hkl : k < g.edges.length
     ·obtain ⟨y, hy⟩ : ∃ y, g.edges[k] = y := ⟨_, rfl⟩
      have hpr : okPr g.edges i x k = (!bad1 (i == k) x y && !bad2 x y) := by
       unfold okPr
       rw [List.getElem?_eq_getElem hkl, hy]
      have hpbad : okPr g.edges i x k = false -> orderedB g true = false := fun h => hbad (by rw [hok]; simp [okRow, range_all_no hkl h])
      have hik : ((i : Int) = (k : Int)) ↔ i = k := by omega
      repeat' first | refine St.go ?_ | ((with_reducible refine cn ?_ ?_) <;> intro h <;> (try simp at h) <;> try omega) | (refine Ru.go ?_; intro K hK; simp [go_sem, hkl, hy, encG, encEd]; (try simp (disch := omega) only [wx, z_i]); (first | apply hK | refine ⟨by first | omega | (simp [z_f, z_g, hkl, hy, encG, encEd]; first | done | omega), ?_⟩ | refine ⟨hK _ ?_, fun h => ?_⟩ | refine ⟨?_, ?_⟩); all_goals ((try apply hK); clear hK K))
      ·have hb : bad1 (i == k) x y = true := by
        simp only [hik] at h
        simp [bad1, actEq]
        grind
       have hv := hpbad (by rw [hpr, hb]; rfl)
       simp [go_sem, hv]
      ·grind
      ·have hb : bad2 x y = true := by
        simp [bad2]
        grind
       have hv := hpbad (by rw [hpr, hb]; simp)
       simp [go_sem, hv]
      ·rename_i h'
       have hb1 : bad1 (i == k) x y = false := by
        simp only [hik] at h'
        simp [bad1, actEq]
        grind
       have hb2 : bad2 x y = false := by
        simp [bad2]
        grind
       refine z_j (q - 1) _ (by omega) ⟨k + 1, by omega, ?_, rfl⟩ ?_
       ·rw [range_succ_all, hrow, hpr, hb1, hb2]; rfl
       ·simp [go_sem, encG, encEd]
     ·have hke : k = g.edges.length := by omega
      rw [hke] at hrow
      have ho : ordAt g true i = true := by
       rw [hok]
       have : okRow g.edges i x = true := hrow
       rw [this]
       simp at hc ⊢
       grind
      refine wX hkl ?_
      refine z_j (n - 1) _ (by omega) ⟨i + 1, by omega, ?_, rfl⟩ ?_
      ·rw [range_succ_all, hall, ho]; rfl
      ·simp [go_sem, encG]
 ·have hie : i = g.edges.length := by omega
  rw [hie] at hall
  have hv : orderedB g true = true := hall
  refine wX hlt ?_
  simp [go_sem, hv]
set_option maxHeartbeats 64000000
theorem f55 (l : List Int) (x : Int) (hl : l.length <= 1000000) : Impl Tryd.prog 55 [.one (.sl (l.map encN)), .one (.int .i64 x)] (.one (.one (.int .i64 (firstB (fun y => x == y) l)))) := by
 refine impl_v ?_
 refine wN ?_
 refine z_k (fun n e => ∃ k : Nat, k + n = l.length /\ (l.take k).any (fun y => x == y) = false /\ e = [(8, .sv (.one (.int .i64 k))), (7, .sv (.one (.int .i64 l.length))), (1, .sv (.one (.int .i64 x))), (0, .sv (.one (.sl (l.map encN))))]) l.length _ ⟨0, by simp, by simp, rfl⟩ (by simp [go_sem]) ?_
 rintro n e ⟨k, hk, h0, rfl⟩
 by_cases hlt : k < l.length
 ·cases hx : (x == l[k]) with
  | true =>
    have hf := firstB_at (p := fun y => x == y) hlt h0 hx
    refine wX (aN hlt <| aN encN.eq_1 hx) ?_
    simp [go_sem, hf]
  | false =>
    refine wX (aN hlt <| aN encN.eq_1 hx) ?_
    refine z_j (n - 1) _ (by omega) ⟨k + 1, by omega, ?_, rfl⟩ ?_
    ·rw [any_succ hlt, h0, hx]; rfl
    ·simp [go_sem]
 ·have hkl : l.take k = l := List.take_of_length_le (by omega)
  rw [hkl] at h0
  have hf := firstB_none h0
  refine wX hlt ?_
  simp [go_sem, hf]
theorem f43 (l : List Int) (x : Int) (hl : l.length <= 1000000) : Impl Tryd.prog 43 [.one (.sl (l.map encN)), .one (.int .i64 x)] (.one (.one (.bool (l.any (fun y => x == y))))) := by
 refine impl_v ?_
 have hf := firstB_any (fun y => x == y) l
 refine wC (f55 l x hl) ?_
 simp [go_sem, hf]
set_option maxHeartbeats 64000000
theorem numbered_facts {g : Glob} (h : numbered g = true) : 1 <= g.states /\ g.states <= 200 /\ 0 <= g.start /\ g.start < g.states /\ 0 <= g.end_ /\ g.end_ < g.states /\ ∀ x ∈ g.edges, okEdge g x = true := by
 simp only [numbered, stateB, Bool.and_eq_true, decide_eq_true_eq, List.all_eq_true] at h
 obtain ⟨⟨⟨⟨⟨h1, h2⟩, h3⟩, h4⟩, h5⟩, h6⟩ := h
 exact ⟨h1, h2, h3.1, h3.2, h4.1, h4.2, h6⟩
theorem okEdge_facts {g : Glob} {x : Edg} (h : okEdge g x = true) : 0 <= x.from_ /\ x.from_ < g.states /\ 0 <= x.to /\ x.to < g.states := by
 simp only [okEdge, stateB, Bool.and_eq_true, decide_eq_true_eq] at h
 omega
theorem foldl_take {α β : Type} (f : β -> α -> β) (b : β) {l : List α} {k : Nat} (h : k < l.length) : (l.take (k + 1)).foldl f b = f ((l.take k).foldl f b) l[k] := by
 rw [List.take_succ_eq_append_getElem h, List.foldl_append]
 rfl
set_option maxHeartbeats 64000000
def beforeE (es : List Edg) (i k : Nat) : Bool := match es[i]?, es[k]? with
 | some x, some y => if x.act.to ≠ y.act.to then decide (x.act.to < y.act.to) else if x.act.label ≠ y.act.label then decide (x.act.label < y.act.label) else decide (i < k)
 | _, _ => false
def encK (k : Nat) : List DV := [.int .i64 (k : Int)]
set_option maxHeartbeats 64000000
theorem appendOk_kk {a b : List (List DV)} (ha : ∀ e ∈ a, ∃ k : Nat, e = [.int .i64 (k : Int)]) (hb : ∀ e ∈ b, ∃ k : Nat, e = [.int .i64 (k : Int)]) (h : a.length + b.length <= 100000) : z_f 1 8 a b := by
 refine ⟨?_, ?_, by omega, by simp only [maxLen]; omega, by omega⟩
 ·intro e he
  obtain ⟨k, rfl⟩ := hb e he
  simp [DV.flat]
 ·intro e he
  obtain ⟨k, rfl⟩ := hb e he
  simp
set_option maxHeartbeats 64000000
set_option maxHeartbeats 64000000
def eA (back : Bool) (x : Edg) : Nat := if back then x.to.toNat else x.from_.toNat
def eB (back : Bool) (x : Edg) : Nat := if back then x.from_.toNat else x.to.toNat
def sprEdge (back : Bool) (h : Nat) (st : List Int × List Nat) (x : Edg) : List Int × List Nat :=
 if eA back x = h /\ st.1[eB back x]?.getD 0 < 0 then (st.1.set (eB back x) (st.1[h]?.getD 0 + 1), st.2 ++ [eB back x]) else st
def sprRound (back : Bool) (es : List Edg) (st : List Int × List Nat) : List Int × List Nat :=
 match st.2 with
 | [] => st
 | h :: _ => ((es.foldl (sprEdge back h) st).1, (es.foldl (sprEdge back h) st).2.drop 1)
def sprN (back : Bool) (es : List Edg) : Nat -> List Int × List Nat -> List Int × List Nat
 | 0, st => st
 | n + 1, st => sprN back es n (sprRound back es st)
def spread (g : Glob) (s : Nat) (back : Bool) : List Int := (sprN back g.edges g.states.toNat ((List.replicate g.states.toNat (-1)).set s 0, [s])).1
def unset (D : List Int) : Nat := D.countP fun d => decide (d < 0)
structure SprOk (N m : Nat) (st : List Int × List Nat) : Prop where
 len : st.1.length = N
 cnt : unset st.1 + st.2.length = m
 top : ∀ v (h : v < st.1.length), st.1[v] + unset st.1 <= N
 mem : ∀ v ∈ st.2, v < N /\ 0 <= st.1[v]?.getD 0
theorem sprEdge_ok {N m : Nat} {back : Bool} {h : Nat} {st : List Int × List Nat} {x : Edg} (hst : SprOk N m st) (hm : h ∈ st.2) (hb : eB back x < N) : SprOk N m (sprEdge back h st x) := by
 unfold sprEdge
 split
 ·rename_i hc
  have hl := hst.len
  have hh := (hst.mem h hm).1
  have hb' : eB back x < st.1.length := by omega
  have hh' : h < st.1.length := by omega
  have hneg : st.1[eB back x] < 0 := by simpa [hb'] using hc.2
  have ht := hst.top h hh'
  rw [List.getElem?_eq_getElem hh', Option.getD_some]
  have h0' : 0 <= st.1[h] := by simpa [hh'] using (hst.mem h hm).2
  have h0 : ¬ st.1[h] + 1 < 0 := by omega
  have hpos : 0 < unset st.1 := by
   unfold unset
   rw [List.countP_pos_iff]
   exact ⟨_, List.getElem_mem hb', by simpa using hneg⟩
  have hu : unset (st.1.set (eB back x) (st.1[h] + 1)) = unset st.1 - 1 := by
   unfold unset
   rw [List.countP_set hb']
   simp [hneg, h0]
  refine ⟨by simp [hl], ?_, ?_, ?_⟩
  ·have := hst.cnt
   simp only [hu, List.length_append, List.length_singleton]
   omega
  ·intro v hv
   rw [List.getElem_set]
   simp only [hu]
   split
   ·omega
   ·have := hst.top v (by simpa using hv)
    omega
  ·intro v hv
   rcases List.mem_append.1 hv with hv | hv
   ·obtain ⟨h1, h2⟩ := hst.mem v hv
    refine ⟨h1, ?_⟩
    rw [List.getElem?_set]
    split
    ·simp [hb']; omega
    ·exact h2
   ·simp only [List.mem_singleton] at hv
    subst hv
    refine ⟨hb, ?_⟩
    simp [hb']
    omega
 ·exact hst
theorem sprFold {N m : Nat} {back : Bool} {h : Nat} : ∀ (es : List Edg) {st : List Int × List Nat}, (∀ x ∈ es, eB back x < N) -> SprOk N m st -> (∃ t, st.2 = h :: t) -> SprOk N m (es.foldl (sprEdge back h) st) /\ ∃ t, (es.foldl (sprEdge back h) st).2 = h :: t
 | [], st, _, h1, h2 => ⟨h1, h2⟩
 | x :: es, st, h0, h1, ⟨t, h2⟩ => by
   rw [List.foldl_cons]
   refine sprFold es (fun x hx => h0 x (List.mem_cons_of_mem _ hx)) (sprEdge_ok h1 (by rw [h2]; simp) (h0 x (by simp))) ?_
   unfold sprEdge
   split
   ·exact ⟨t ++ [eB back x], by simp [h2]⟩
   ·exact ⟨t, h2⟩
theorem sprRound_ok {N m : Nat} {back : Bool} {h : Nat} {t : List Nat} {es : List Edg} {st : List Int × List Nat} (hb : ∀ x ∈ es, eB back x < N) (hst : SprOk N (m + 1) st) (ht : st.2 = h :: t) : SprOk N m (sprRound back es st) := by
 obtain ⟨h1, t', h2⟩ := sprFold (back := back) es hb hst ⟨t, ht⟩
 unfold sprRound
 rw [ht]
 refine ⟨h1.len, ?_, h1.top, fun v hv => h1.mem v ?_⟩
 ·have := h1.cnt
  simp only [h2, List.length_cons, List.drop_one, List.tail_cons] at this ⊢
  omega
 ·exact List.mem_of_mem_drop hv
theorem sprN_nil {back : Bool} {es : List Edg} : ∀ (n : Nat) {st : List Int × List Nat}, st.2 = [] -> sprN back es n st = st
 | 0, _, _ => rfl
 | n + 1, st, h => by
   have : sprRound back es st = st := by unfold sprRound; rw [h]
   rw [sprN, this]
   exact sprN_nil n h
theorem spr_start {N s : Nat} (hs : s < N) : SprOk N N ((List.replicate N (-1)).set s 0, [s]) := by
 have hu : unset ((List.replicate N (-1)).set s 0) = N - 1 := by
  unfold unset
  rw [List.countP_set (by simpa using hs)]
  simp [List.countP_replicate]
 refine ⟨by simp, ?_, ?_, ?_⟩
 ·simp only [hu, List.length_singleton]; omega
 ·intro v hv
  simp only [hu]
  rw [List.getElem_set]
  split
  ·omega
  ·simp; omega
 ·intro v hv
  simp only [List.mem_singleton] at hv
  subst hv
  exact ⟨hs, by simp [hs]⟩
theorem f44 (g : Glob) (hs : Small g) (hn : numbered g = true) (h109 : ∀ n : Nat, n <= 200 -> Impl Tryd.prog 56 [.one (.sl [[.int .i64 (-1)]]), .one (.int .i64 n)] (.one (.one (.ow 1 ((List.replicate n (-1)).map encN))))) (s : Nat) (hsN : s < g.states.toNat) (back : Bool) : Impl Tryd.prog 44 [.ag (encG g), .one (.int .i64 s), .one (.bool back)] (.one (.one (.ow 1 ((spread g s back).map encN)))) := by
 obtain ⟨s1, s2, s3, s4, s5, s6⟩ := hs
 obtain ⟨n1, n2, n3, n4, n5, n6, n7⟩ := numbered_facts hn
 refine impl_intro z44.f z44.b rfl z44.r z44.n z44.t z44.d (by simp) fun hs => ?_
 clear hs s3 s4
 simp only [slotsOf]
 conv => arg 2; reduce
 obtain ⟨N, hN⟩ : ∃ N : Nat, g.states = N := ⟨g.states.toNat, by omega⟩
 have hN2 : g.states.toNat = N := by omega
 have c1 := h109 N (by omega)
 rw [hN2] at hsN
 obtain ⟨D0, hD0⟩ : ∃ D0, D0 = (List.replicate N (-1)).set s 0 := ⟨_, rfl⟩
 obtain ⟨D00, hD00⟩ : ∃ D00, D00 = List.replicate N (-1 : Int) := ⟨_, rfl⟩
 have hD00l : s < D00.length := by rw [hD00]; simpa using hsN
 have hset : (D00.map encN).set s [.int .i64 0] = D0.map encN := by
  rw [hD0, hD00, List.map_set]
  rfl
 have hD0l : D0.length = N := by rw [hD0]; simp
 have hfin : spread g s back = (sprN back g.edges N (D0, [s])).1 := by
  unfold spread
  rw [hN2, hD0]
 have hok0 := spr_start hsN
 rw [<- hD0] at hok0
 rw [<- hD00] at c1
 refine wV (aN encG.eq_1 <| aN hN <| aN hsN <| aN hset <| aN hD00l encN.eq_1) c1 ?_
 refine z_k (fun m e => ∃ st : List Int × List Nat, SprOk N m st /\ m <= N /\ (sprN back g.edges m st).1 = spread g s back /\ e = [(8, .sv (.one (.ow 1 (st.2.map encK)))), (7, .sv (.one (.ow 1 (st.1.map encN)))), (3, .sv (.one (.bx (encG g)))), (2, .sv (.one (.bool back))), (1, .sv (.one (.int .i64 s)))]) N _ ⟨(D0, [s]), hok0, Nat.le_refl _, hfin.symm, rfl⟩ (by simp [go_sem, encG, encN, encK, hN]) ?_
 rintro m e ⟨st, hst, hmN, hval, rfl⟩
 have hm2 : unset st.1 + st.2.length = m := hst.cnt
 have hl := hst.len
 cases h2 : st.2 with
 | nil =>
   have hv : spread g s back = st.1 := by rw [<- hval, sprN_nil m h2]
   refine wX (aN encG.eq_1 hN) ?_
   simp [go_sem, hv]
 | cons hd tl =>
   have hhm := hst.mem hd (by rw [h2]; simp)
   obtain ⟨m', rfl⟩ : ∃ m', m = m' + 1 := ⟨m - 1, by rw [h2] at hm2; simp only [List.length_cons] at hm2; omega⟩
   have hB : ∀ x ∈ g.edges, eB back x < N := fun x hx => by
    have := okEdge_facts (n7 x hx)
    unfold eB
    split <;> omega
   refine wX (aN encG.eq_1 hN) ?_
   refine z_k (fun q e => ∃ i : Nat, i + q = g.edges.length /\ e = [(30, .sv (.one (.int .i64 i))), (29, .sv (.one (.int .i64 g.edges.length))), (28, .sv (.one (.sl (g.edges.map encEd)))), (8, .sv (.one (.ow 1 (((g.edges.take i).foldl (sprEdge back hd) st).2.map encK)))), (7, .sv (.one (.ow 1 (((g.edges.take i).foldl (sprEdge back hd) st).1.map encN)))), (3, .sv (.one (.bx (encG g)))), (2, .sv (.one (.bool back))), (1, .sv (.one (.int .i64 s)))]) g.edges.length _ ⟨0, by simp, rfl⟩ (by simp only [List.take_zero, List.foldl_nil, h2]; simp [go_sem, encG, hN]) ?_
   rintro q e ⟨i, hi, rfl⟩
   obtain ⟨hok, t1, ht1⟩ := sprFold (back := back) (h := hd) (g.edges.take i) (fun x hx => hB x (List.mem_of_mem_take hx)) hst ⟨tl, h2⟩
   obtain ⟨st1, hst1⟩ : ∃ st1, st1 = (g.edges.take i).foldl (sprEdge back hd) st := ⟨_, rfl⟩
   rw [<- hst1] at hok ht1 ⊢
   obtain ⟨D1, T1⟩ := st1
   simp only at ht1
   subst ht1
   have hl1 : D1.length = N := hok.len
   have hcnt : unset D1 + (t1.length + 1) = m' + 1 := hok.cnt
   have hm0 : m' + 1 <= N := hmN
   by_cases hil : i < g.edges.length
   ·obtain ⟨x, hx⟩ : ∃ x, g.edges[i] = x := ⟨_, rfl⟩
    have hxe := okEdge_facts (n7 g.edges[i] (List.getElem_mem hil))
    have hstep := foldl_take (sprEdge back hd) st hil
    rw [hx] at hxe hstep
    rw [<- hst1] at hstep
    obtain ⟨a, ha⟩ : ∃ a : Nat, x.from_ = a := ⟨x.from_.toNat, by omega⟩
    obtain ⟨b, hb⟩ : ∃ b : Nat, x.to = b := ⟨x.to.toNat, by omega⟩
    have hal : a < D1.length := by omega
    have hbl : b < D1.length := by omega
    have hhl : hd < D1.length := by omega
    have hvt := hok.top hd hhl
    have hv0 := (hok.mem hd (by simp)).2
    rw [List.getElem?_eq_getElem hhl] at hv0
    simp only [Option.getD_some] at hv0 hvt
    obtain ⟨v, hv⟩ : ∃ v, D1[hd] = v := ⟨_, rfl⟩
    rw [hv] at hv0 hvt
    cases back with
    | false =>
      have hse : sprEdge false hd (D1, hd :: t1) x = if a = hd /\ D1[b] < 0 then (D1.set b (v + 1), hd :: (t1 ++ [b])) else (D1, hd :: t1) := by
       unfold sprEdge eA eB
       simp [ha, hb, hal, hbl, hhl, hv]
      by_cases hc1 : a = hd
      ·by_cases hc2 : D1[b] < 0
       ·rw [if_pos ⟨hc1, hc2⟩] at hse
        subst hc1
        obtain ⟨D', hD'⟩ : ∃ D', D1.set b (v + 1) = D' := ⟨_, rfl⟩
        rw [hD'] at hse
        have hset2 : (D1.map encN).set b [.int .i64 (v + 1)] = D'.map encN := by
         rw [show [DV.int .i64 (v + 1)] = encN (v + 1) from rfl, <- List.map_set, hD']
        repeat' first | refine St.go ?_ | ((with_reducible refine cn ?_ ?_) <;> intro h <;> (try simp at h) <;> try omega) | (refine Ru.go ?_; intro K hK; simp [go_sem, hil, hx, ha, hb, hal, hbl, hv, hc2, encG, hN, encN, encEd, encK, hset2]; (try simp (disch := omega) only [wx, z_i]); (first | apply hK | refine ⟨by first | omega | (simp [z_f, z_g, hil, hx, ha, hb, hal, hbl, hv, hc2, encG, hN, encN, encEd, encK, hset2, maxLen, DV.flat]; first | done | omega), ?_⟩ | refine ⟨hK _ ?_, fun h => ?_⟩ | refine ⟨?_, ?_⟩); all_goals ((try apply hK); clear hK K))
        all_goals first
         | refine z_j (q - 1) _ (by omega) ⟨i + 1, by omega, rfl⟩ ?_
           rw [hstep, hse]
           simp [go_sem, encG, hN, encN, encK]
         | refine appendOk_kk (fun e he => ?_) (fun e he => ?_) (by simp; omega) <;> simp_all [encK] <;> grind
       ·rw [if_neg (fun h => hc2 h.2)] at hse
        subst hc1
        refine wX (aN hil <| aN hx <| aN ha <| aN hb <| aN hal <| aN hbl <| aN hv <| aN hc2 <| aN encG.eq_1 <| aN hN <| aN encN.eq_1 <| aN encEd.eq_1 encK.eq_1) ?_
        refine z_j (q - 1) _ (by omega) ⟨i + 1, by omega, rfl⟩ ?_
        rw [hstep, hse]
        simp [go_sem, encG, hN, encN, encK]
      ·rw [if_neg (fun h => hc1 h.1)] at hse
       have hc1' : ((a : Int) == (hd : Int)) = false := by simp; omega
       refine wX (aN hil <| aN hx <| aN ha <| aN hb <| aN hal <| aN hbl <| aN hc1' <| aN encG.eq_1 <| aN hN <| aN encN.eq_1 <| aN encEd.eq_1 encK.eq_1) ?_
       refine z_j (q - 1) _ (by omega) ⟨i + 1, by omega, rfl⟩ ?_
       rw [hstep, hse]
       simp [go_sem, encG, hN, encN, encK]
    | true =>
      have hse : sprEdge true hd (D1, hd :: t1) x = if b = hd /\ D1[a] < 0 then (D1.set a (v + 1), hd :: (t1 ++ [a])) else (D1, hd :: t1) := by
       unfold sprEdge eA eB
       simp [ha, hb, hal, hbl, hhl, hv]
      by_cases hc1 : b = hd
      ·by_cases hc2 : D1[a] < 0
       ·rw [if_pos ⟨hc1, hc2⟩] at hse
        subst hc1
        obtain ⟨D', hD'⟩ : ∃ D', D1.set a (v + 1) = D' := ⟨_, rfl⟩
        rw [hD'] at hse
        have hset2 : (D1.map encN).set a [.int .i64 (v + 1)] = D'.map encN := by
         rw [show [DV.int .i64 (v + 1)] = encN (v + 1) from rfl, <- List.map_set, hD']
        repeat' first | refine St.go ?_ | ((with_reducible refine cn ?_ ?_) <;> intro h <;> (try simp at h) <;> try omega) | (refine Ru.go ?_; intro K hK; simp [go_sem, hil, hx, ha, hb, hal, hbl, hv, hc2, encG, hN, encN, encEd, encK, hset2]; (try simp (disch := omega) only [wx, z_i]); (first | apply hK | refine ⟨by first | omega | (simp [z_f, z_g, hil, hx, ha, hb, hal, hbl, hv, hc2, encG, hN, encN, encEd, encK, hset2, maxLen, DV.flat]; first | done | omega), ?_⟩ | refine ⟨hK _ ?_, fun h => ?_⟩ | refine ⟨?_, ?_⟩); all_goals ((try apply hK); clear hK K))
        all_goals first
         | refine z_j (q - 1) _ (by omega) ⟨i + 1, by omega, rfl⟩ ?_
           rw [hstep, hse]
           simp [go_sem, encG, hN, encN, encK]
         | refine appendOk_kk (fun e he => ?_) (fun e he => ?_) (by simp; omega) <;> simp_all [encK] <;> grind
       ·rw [if_neg (fun h => hc2 h.2)] at hse
        subst hc1
        refine wX (aN hil <| aN hx <| aN ha <| aN hb <| aN hal <| aN hbl <| aN hv <| aN hc2 <| aN encG.eq_1 <| aN hN <| aN encN.eq_1 <| aN encEd.eq_1 encK.eq_1) ?_
        refine z_j (q - 1) _ (by omega) ⟨i + 1, by omega, rfl⟩ ?_
        rw [hstep, hse]
        simp [go_sem, encG, hN, encN, encK]
      ·rw [if_neg (fun h => hc1 h.1)] at hse
       have hc1' : ((b : Int) == (hd : Int)) = false := by simp; omega
       refine wX (aN hil <| aN hx <| aN ha <| aN hb <| aN hal <| aN hbl <| aN hc1' <| aN encG.eq_1 <| aN hN <| aN encN.eq_1 <| aN encEd.eq_1 encK.eq_1) ?_
       refine z_j (q - 1) _ (by omega) ⟨i + 1, by omega, rfl⟩ ?_
       rw [hstep, hse]
       simp [go_sem, encG, hN, encN, encK]
   ·have hie : i = g.edges.length := by omega
    rw [hie, List.take_length] at hst1
    have hrd : sprRound back g.edges st = (D1, t1) := by
     unfold sprRound
     rw [h2]
     simp only [<- hst1]
     rfl
    have hok2 := sprRound_ok hB hst h2
    refine wX (aN hil <| aN encG.eq_1 <| aN hN encK.eq_1) ?_
    refine z_j m' _ (by omega) ⟨(D1, t1), by rw [<- hrd]; exact hok2, by omega, by rw [<- hrd]; exact hval, rfl⟩ ?_
    simp [go_sem, encG, hN, encN, encK]
    exact List.take_of_length_le (by simp)
set_option maxHeartbeats 64000000
set_option maxHeartbeats 64000000
end Go.Av

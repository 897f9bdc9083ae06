/- Part of a proof. -/
import Derived.Test.YtbfebdbdoclagaaGreatDoorAvR
import Derived.Test.YtbfebdbdoclagaaGreatDoorB02
set_option linter.unusedVariables false
set_option linter.unusedSimpArgs false
set_option maxHeartbeats 64000000
set_option maxRecDepth 8000
namespace Go.Av
open Go Go.RowKit Go.Proofs
set_option maxHeartbeats 64000000
def actEq (a b : Inter) : Bool := a.from_ == b.from_ && a.to == b.to && a.label == b.label
def bad1 (same : Bool) (x y : Edg) : Bool := !same && x.from_ == y.from_ && (actEq x.act y.act || x.act.from_ != y.act.from_ || x.again)
def bad2 (x y : Edg) : Bool := x.again && y.to == x.from_ && (x.act.from_ != y.act.from_ || x.act.label != y.act.label)
def okPr (es : List Edg) (i : Nat) (x : Edg) (k : Nat) : Bool := match es[k]? with
 | some y => !bad1 (i == k) x y && !bad2 x y
 | none => true
def okRow (es : List Edg) (i : Nat) (x : Edg) : Bool := (List.range es.length).all (okPr es i x)
def ordAt (g : Glob) (e : Bool) (i : Nat) : Bool := match g.edges[i]? with
 | some x => !(e && x.from_ == g.end_) && !(x.again && x.from_ == g.start) && okRow g.edges i x
 | none => true
def orderedB (g : Glob) (e : Bool) : Bool := (List.range g.edges.length).all (ordAt g e)
theorem ordAt_get {g : Glob} {e : Bool} {i : Nat} (h : i < g.edges.length) : ordAt g e i = (!(e && g.edges[i].from_ == g.end_) && !(g.edges[i].again && g.edges[i].from_ == g.start) && okRow g.edges i g.edges[i]) := by
 unfold ordAt
 rw [List.getElem?_eq_getElem h]
theorem f65 (g : Glob) (hs : Small g) : Impl Tryz.prog 65 [.ag (encG g)] (.one (.one (.bool (orderedB g true)))) := by
 obtain ⟨s1, s2, s3, s4, s5, s6⟩ := hs
 refine impl_intro z65.f z65.b rfl z65.r z65.n z65.t z65.d (by simp) fun hs => ?_
 clear hs s3 s4
 simp only [slotsOf]
 conv => arg 2; reduce
 refine wX encG.eq_1 ?_
 refine z_k (fun n e => ∃ i : Nat, i + n = g.edges.length /\ (List.range i).all (ordAt g true) = true /\ e = [(10, .sv (.one (.int .i64 i))), (9, .sv (.one (.int .i64 g.edges.length))), (8, .sv (.one (.sl (g.edges.map encEd)))), (1, .sv (.one (.bx (encG g))))]) g.edges.length _ ⟨0, by simp, by simp, rfl⟩ (by simp [go_sem, encG]) ?_
 rintro n e ⟨i, hi, hall, rfl⟩
 by_cases hlt : i < g.edges.length
 ·have hok := ordAt_get (e := true) hlt
  have hbad : ordAt g true i = false -> orderedB g true = false := fun h => range_all_no hlt h
  obtain ⟨x, hx⟩ : ∃ x, g.edges[i] = x := ⟨_, rfl⟩
  rw [hx] at hok
  cases hc : (x.from_ == g.end_) || (x.again && x.from_ == g.start) with
  | true =>
    have hv := hbad (by rw [hok]; cases h1 : (x.from_ == g.end_) <;> cases h2 : (x.again && x.from_ == g.start) <;> simp_all)
    repeat' first | refine St.go ?_ | ((with_reducible refine cn ?_ ?_) <;> intro h <;> (try simp at h) <;> try omega) | (refine Ru.go ?_; intro K hK; simp [go_sem, hlt, hx, encG, encEd, hc]; (try simp (disch := omega) only [wx, z_i]); (first | apply hK | refine ⟨by first | omega | (simp [z_f, z_g, hlt, hx, encG, encEd, hc]; first | done | omega), ?_⟩ | refine ⟨hK _ ?_, fun h => ?_⟩ | refine ⟨?_, ?_⟩); all_goals ((try apply hK); clear hK K))
    ·intro a; simp [a]
    ·simp [go_sem, hv]
  | false =>
    repeat' first | refine St.go ?_ | ((with_reducible refine cn ?_ ?_) <;> intro h <;> (try simp at h) <;> try omega) | (refine Ru.go ?_; intro K hK; simp [go_sem, hlt, hx, encG, encEd, hc]; (try simp (disch := omega) only [wx, z_i]); (first | apply hK | refine ⟨by first | omega | (simp [z_f, z_g, hlt, hx, encG, encEd, hc]; first | done | omega), ?_⟩ | refine ⟨hK _ ?_, fun h => ?_⟩ | refine ⟨?_, ?_⟩); all_goals ((try apply hK); clear hK K))
    ·intro a; simp [a]
    ·refine z_k (fun q e => ∃ k : Nat, k + q = g.edges.length /\ (List.range k).all (okPr g.edges i x) = true /\ e = [(34, .sv (.one (.int .i64 k))), (33, .sv (.one (.int .i64 g.edges.length))), (32, .sv (.one (.sl (g.edges.map encEd)))), (4, .sv (.one (.bx (encEd x)))), (3, .sv (.one (.int .i64 i))), (10, .sv (.one (.int .i64 i))), (9, .sv (.one (.int .i64 g.edges.length))), (8, .sv (.one (.sl (g.edges.map encEd)))), (1, .sv (.one (.bx (encG g))))]) g.edges.length _ ⟨0, by simp, by simp, rfl⟩ (by simp [go_sem, encG, encEd]) ?_
     rintro q e ⟨k, hk, hrow, rfl⟩
     by_cases hkl : k < g.edges.length
     ·obtain ⟨y, hy⟩ : ∃ y, g.edges[k] = y := ⟨_, rfl⟩
      have hpr : okPr g.edges i x k = (!bad1 (i == k) x y && !bad2 x y) := by
       unfold okPr
       rw [List.getElem?_eq_getElem hkl, hy]
      have hpbad : okPr g.edges i x k = false -> orderedB g true = false := fun h => hbad (by rw [hok]; simp [okRow, range_all_no hkl h])
      have hik : ((i : Int) = (k : Int)) ↔ i = k := by omega
      repeat' first | refine St.go ?_ | ((with_reducible refine cn ?_ ?_) <;> intro h <;> (try simp at h) <;> try omega) | (refine Ru.go ?_; intro K hK; simp [go_sem, hkl, hy, encG, encEd]; (try simp (disch := omega) only [wx, z_i]); (first | apply hK | refine ⟨by first | omega | (simp [z_f, z_g, hkl, hy, encG, encEd]; first | done | omega), ?_⟩ | refine ⟨hK _ ?_, fun h => ?_⟩ | refine ⟨?_, ?_⟩); all_goals ((try apply hK); clear hK K))
      ·have hb : bad1 (i == k) x y = true := by
        simp only [hik] at h
        simp [bad1, actEq]
        grind
       have hv := hpbad (by rw [hpr, hb]; rfl)
       simp [go_sem, hv]
      ·grind
      ·have hb : bad2 x y = true := by
        simp [bad2]
        grind
       have hv := hpbad (by rw [hpr, hb]; simp)
       simp [go_sem, hv]
      ·rename_i h'
       have hb1 : bad1 (i == k) x y = false := by
        simp only [hik] at h'
        simp [bad1, actEq]
        grind
       have hb2 : bad2 x y = false := by
        simp [bad2]
        grind
       refine z_j (q - 1) _ (by omega) ⟨k + 1, by omega, ?_, rfl⟩ ?_
       ·rw [range_succ_all, hrow, hpr, hb1, hb2]; rfl
       ·simp [go_sem, encG, encEd]
     ·have hke : k = g.edges.length := by omega
      rw [hke] at hrow
      have ho : ordAt g true i = true := by
       rw [hok]
       have : okRow g.edges i x = true := hrow
       rw [this]
       simp at hc ⊢
       grind
      refine wX hkl ?_
      refine z_j (n - 1) _ (by omega) ⟨i + 1, by omega, ?_, rfl⟩ ?_
      ·rw [range_succ_all, hall, ho]; rfl
      ·simp [go_sem, encG]
 ·have hie : i = g.edges.length := by omega
  rw [hie] at hall
  have hv : orderedB g true = true := hall
  refine wX hlt ?_
  simp [go_sem, hv]
end Go.Av
set_option linter.unusedVariables false
namespace Go.Av
open Go Go.RowKit Go.Proofs
theorem blk_snoc (r : Int) (p : List Inter) (x : Inter) : blkL r (p ++ [x]) = blkS (blkL r p) x := by
 unfold blkL
 rw [List.foldl_append]
 rfl
theorem blkS_mem {l : List Int} {x : Inter} {q : Int} : q ∈ blkS l x ↔ q ∈ l \/ (x.from_ ∈ l /\ q = x.to) := by
 unfold blkS
 split
 ·rename_i h
  simp only [Bool.and_eq_true, List.contains_iff_mem, Bool.not_eq_true'] at h
  rw [List.mem_append, List.mem_singleton]
  constructor
  ·rintro (h1 | h1)
   ·exact .inl h1
   ·exact .inr ⟨h.1, h1⟩
  ·rintro (h1 | h1)
   ·exact .inl h1
   ·exact .inr h1.2
 ·rename_i h
  constructor
  ·exact .inl
  ·rintro (h1 | ⟨h1, rfl⟩)
   ·exact h1
   ·simp only [Bool.and_eq_true, List.contains_iff_mem, Bool.not_eq_true', not_and, Bool.not_eq_false] at h
    exact h h1
theorem blk_take (r : Int) (p : List Inter) {i : Nat} (h : i < p.length) : blkL r (p.take (i + 1)) = blkS (blkL r (p.take i)) p[i] := by
 rw [List.take_succ_eq_append_getElem h, blk_snoc]
inductive WalkP (g : Glob) (s : Int) : List Inter -> Int -> Prop
 | nil : WalkP g s [] s
 | snoc {p : List Inter} {x : Edg} : WalkP g s p x.from_ -> x ∈ g.edges -> WalkP g s (p ++ [x.act]) x.to
structure PathV (g : Glob) (e : Edg) (v : Vs) : Prop where
 walk : WalkP g e.to v.path v.st
 bl : ∀ r, 0 <= r -> (hasB v.bl r = true ↔ r ∈ blkL e.act.to v.path)
 sn : ∀ r, 0 <= r -> (hasB v.sn r = true ↔ ∃ i, ∃ h : i < v.path.length, v.path[i].from_ = r /\ v.path[i].to = e.act.to /\ r ∉ blkL e.act.to (v.path.take i))
structure RightP (g : Glob) (e : Edg) (m l : Int) (p : List Inter) : Prop where
 walk : ∃ s, WalkP g e.to p s
 last : ∃ q, p = q ++ [⟨m, e.act.to, l⟩]
 at_ : ∀ i, (h : i < p.length) -> p[i].from_ = m -> p[i].to = e.act.to -> (m ∉ blkL e.act.to (p.take i) ↔ i + 1 = p.length)
theorem first_path {g : Glob} {e : Edg} (h0 : 0 <= e.act.to) : PathV g e (firstV e) where
 walk := .nil
 bl r hr := by
  unfold firstV
  simp only [blkL, List.foldl_nil, List.mem_singleton]
  rw [hasB_set h0 hr]
  simp [hasB]
 sn r hr := by
  unfold firstV
  simp [hasB]
theorem sn_snoc {p : List Inter} {x : Inter} {r t : Int} : (∃ i, ∃ h : i < (p ++ [x]).length, (p ++ [x])[i].from_ = r /\ (p ++ [x])[i].to = t /\ r ∉ blkL t ((p ++ [x]).take i)) ↔
  (∃ i, ∃ h : i < p.length, p[i].from_ = r /\ p[i].to = t /\ r ∉ blkL t (p.take i)) \/ (x.from_ = r /\ x.to = t /\ r ∉ blkL t p) := by
 constructor
 ·rintro ⟨i, h, h1, h2, h3⟩
  rw [List.length_append, List.length_singleton] at h
  by_cases hi : i < p.length
  ·rw [List.getElem_append_left hi] at h1 h2
   rw [List.take_append_of_le_length (by omega)] at h3
   exact .inl ⟨i, hi, h1, h2, h3⟩
  ·have : i = p.length := by omega
   subst this
   rw [List.getElem_append_right (by omega)] at h1 h2
   simp only [Nat.sub_self, List.getElem_cons_zero] at h1 h2
   rw [List.take_append_of_le_length (by omega), List.take_length] at h3
   exact .inr ⟨h1, h2, h3⟩
 ·rintro (⟨i, h, h1, h2, h3⟩ | ⟨h1, h2, h3⟩)
  ·refine ⟨i, by rw [List.length_append]; omega, ?_, ?_, ?_⟩
   ·rw [List.getElem_append_left h]; exact h1
   ·rw [List.getElem_append_left h]; exact h2
   ·rw [List.take_append_of_le_length (by omega)]; exact h3
  ·refine ⟨p.length, by simp, ?_, ?_, ?_⟩
   ·rw [List.getElem_append_right (by omega)]; simpa using h1
   ·rw [List.getElem_append_right (by omega)]; simpa using h2
   ·rw [List.take_append_of_le_length (by omega), List.take_length]; exact h3
theorem next_path {g : Glob} (hg : EdB g) {e : Edg} {v : Vs} (hv : PathV g e v) {x : Edg} (hx : x ∈ g.edges) (hs : x.from_ = v.st) : PathV g e (nxtV e.act.to v x) := by
 obtain ⟨h1, h2, h3, h4, h5, h6, h7, h8, h9⟩ := hg.edge x hx
 have hw : WalkP g e.to (v.path ++ [x.act]) x.to := .snoc (by rw [hs]; exact hv.walk) hx
 have hb := hv.bl x.act.from_ h5
 have hsn := hv.sn x.act.from_ h5
 unfold nxtV
 cases hB : hasB v.bl x.act.from_ with
 | true =>
   rw [hB] at hb
   have hfm := hb.1 rfl
   simp only [if_true]
   refine ⟨hw, fun r hr => ?_, fun r hr => ?_⟩
   ·simp only
    rw [hasB_set h7 hr, blk_snoc, blkS_mem, Bool.or_eq_true, hv.bl r hr, decide_eq_true_eq]
    constructor
    ·rintro (h | h)
     ·exact .inl h
     ·exact .inr ⟨hfm, h⟩
    ·rintro (h | h)
     ·exact .inl h
     ·exact .inr h.2
   ·simp only
    rw [sn_snoc, hv.sn r hr]
    constructor
    ·exact .inl
    ·rintro (h | ⟨h, _, h'⟩)
     ·exact h
     ·rw [h] at hfm
      exact absurd hfm h'
 | false =>
   rw [hB] at hb
   have hfm : x.act.from_ ∉ blkL e.act.to v.path := fun h => by cases hb.2 h
   have hbl : ∀ r, 0 <= r -> (hasB v.bl r = true ↔ r ∈ blkL e.act.to (v.path ++ [x.act])) := fun r hr => by
    rw [blk_snoc, blkS_mem, hv.bl r hr]
    constructor
    ·exact .inl
    ·rintro (h | h)
     ·exact h
     ·exact absurd h.1 hfm
   simp only [Bool.false_eq_true, if_false]
   unfold isNew
   rw [hB]
   cases hS : (x.act.to == e.act.to && !hasB v.sn x.act.from_) with
   | true =>
     simp only [Bool.not_false, Bool.true_and, if_true]
     simp only [Bool.and_eq_true, beq_iff_eq, Bool.not_eq_true'] at hS
     refine ⟨hw, hbl, fun r hr => ?_⟩
     simp only
     rw [hasB_set h5 hr, sn_snoc, Bool.or_eq_true, hv.sn r hr, decide_eq_true_eq]
     constructor
     ·rintro (h | h)
      ·exact .inl h
      ·exact .inr ⟨h.symm, hS.1, h ▸ hfm⟩
     ·rintro (h | h)
      ·exact .inl h
      ·exact .inr h.1.symm
   | false =>
     simp only [Bool.not_false, Bool.true_and, Bool.false_eq_true, if_false]
     refine ⟨hw, hbl, fun r hr => ?_⟩
     simp only
     rw [sn_snoc, hv.sn r hr]
     constructor
     ·exact .inl
     ·rintro (h | ⟨h1, h2, h3⟩)
      ·exact h
      ·subst h1
       rw [h2] at hS
       simp only [BEq.rfl, Bool.true_and, Bool.not_eq_false'] at hS
       exact hsn.1 hS
theorem fnd_right {g : Glob} (hg : EdB g) {e : Edg} {v : Vs} (hv : PathV g e v) {x : Edg} (hx : x ∈ g.edges) (hs : x.from_ = v.st) (hn : isNew e.act.to v x = true) : RightP g e x.act.from_ x.act.label (v.path ++ [x.act]) := by
 obtain ⟨h1, h2, h3, h4, h5, h6, h7, h8, h9⟩ := hg.edge x hx
 unfold isNew at hn
 simp only [Bool.and_eq_true, Bool.not_eq_true', beq_iff_eq] at hn
 obtain ⟨n1, n2, n3⟩ := hn
 have hfm : x.act.from_ ∉ blkL e.act.to v.path := fun h => by
  have := (hv.bl _ h5).2 h
  rw [n1] at this
  cases this
 refine ⟨⟨x.to, .snoc (by rw [hs]; exact hv.walk) hx⟩, ⟨v.path, ?_⟩, fun i hi hf ht => ?_⟩
 ·rw [<- n2]
 ·rw [List.length_append, List.length_singleton] at hi ⊢
  by_cases hip : i < v.path.length
  ·rw [List.getElem_append_left hip] at hf ht
   rw [List.take_append_of_le_length (by omega)]
   constructor
   ·intro h
    have := (hv.sn _ h5).2 ⟨i, hip, hf, ht, h⟩
    rw [n3] at this
    cases this
   ·omega
  ·have : i = v.path.length := by omega
   subst this
   rw [List.take_append_of_le_length (by omega), List.take_length]
   exact ⟨fun _ => rfl, fun _ => hfm⟩
structure SrOk (g : Glob) (e : Edg) (s : List Vs × List Fnd) : Prop where
 q : ∀ v ∈ s.1, PathV g e v
 f : ∀ f ∈ s.2, RightP g e f.peer f.label f.path
theorem step_sr {g : Glob} (hg : EdB g) {e : Edg} {v : Vs} (hv : PathV g e v) {s : List Vs × List Fnd} (hs : SrOk g e s) {x : Edg} (hx : x ∈ g.edges) (hf : x.from_ = v.st) : SrOk g e (stepV e.act.to v s x) := by
 refine ⟨fun w hw => ?_, fun f hfm => ?_⟩
 ·unfold stepV addV at hw
  simp only at hw
  split at hw
  ·exact hs.q w hw
  ·rcases List.mem_append.1 hw with hw | hw
   ·exact hs.q w hw
   ·rw [List.mem_singleton.1 hw]
    exact next_path hg hv hx hf
 ·unfold stepV noteF at hfm
  simp only at hfm
  split at hfm
  ·rename_i hn
   split at hfm
   ·exact hs.f f hfm
   ·rcases List.mem_append.1 hfm with hfm | hfm
    ·exact hs.f f hfm
    ·rw [List.mem_singleton.1 hfm]
     exact fnd_right hg hv hx hf hn
  ·exact hs.f f hfm
theorem fold_sr {g : Glob} (hg : EdB g) {e : Edg} {v : Vs} (hv : PathV g e v) : ∀ (xs : List Edg) {s : List Vs × List Fnd}, (∀ x ∈ xs, x ∈ g.edges /\ x.from_ = v.st) -> SrOk g e s -> SrOk g e (xs.foldl (stepV e.act.to v) s)
 | [], _, _, hs => hs
 | x :: xs, s, hx, hs => fold_sr hg hv xs (fun y hy => hx y (List.mem_cons_of_mem _ hy)) (step_sr hg hv hs (hx x (by simp)).1 (hx x (by simp)).2)
theorem bfs_sr {g : Glob} (hg : EdB g) {e : Edg} : ∀ (n i : Nat) {s : List Vs × List Fnd}, SrOk g e s -> ∀ f ∈ bfsV g e.act.to n i s, RightP g e f.peer f.label f.path
 | 0, _, _, hs => hs.f
 | n + 1, i, s, hs => by
   rw [bfsV]
   split
   ·exact hs.f
   ·rename_i v hv
    exact bfs_sr hg n (i + 1) (fold_sr hg (hs.q v (List.mem_of_getElem? hv)) _ (fun x hx => outE_mem.1 hx) hs)
theorem search_right {g : Glob} (hg : EdB g) {e : Edg} (he : e ∈ g.edges) : ∀ f ∈ searchV g e, RightP g e f.peer f.label f.path := by
 have h7 := (hg.edge e he).2.2.2.2.2.2.1
 refine bfs_sr hg _ _ ⟨fun v hv => ?_, fun f hf => by cases hf⟩
 rw [List.mem_singleton.1 hv]
 exact first_path h7
theorem walk_edge {g : Glob} {s t : Int} {p : List Inter} (h : WalkP g s p t) : ∀ a ∈ p, ∃ x ∈ g.edges, x.act = a := by
 induction h with
 | nil => intro a ha; cases ha
 | @snoc p x hw hx ih =>
   intro a ha
   rcases List.mem_append.1 ha with ha | ha
   ·exact ih a ha
   ·rw [List.mem_singleton.1 ha]
    exact ⟨x, hx, rfl⟩
theorem found_edge {g : Glob} (hg : EdB g) {e : Edg} (he : e ∈ g.edges) {f : Fnd} (hf : f ∈ searchV g e) : ∃ x ∈ g.edges, x.act = ⟨f.peer, e.act.to, f.label⟩ := by
 obtain ⟨⟨s, hw⟩, ⟨q, hq⟩, _⟩ := search_right hg he f hf
 exact walk_edge hw _ (by rw [hq]; simp)
theorem found_two {g : Glob} (hg : EdB g) (h2 : ∀ x ∈ g.edges, x.act.from_ < 2 /\ x.act.to < 2) {e : Edg} (he : e ∈ g.edges) {f : Fnd} (hf : f ∈ searchV g e) : f.peer = e.act.from_ := by
 obtain ⟨x, hx, hxa⟩ := found_edge hg he hf
 obtain ⟨a1, a2, a3, a4, a5, a6, a7, a8, a9⟩ := hg.edge x hx
 obtain ⟨b1, b2, b3, b4, b5, b6, b7, b8, b9⟩ := hg.edge e he
 have := h2 e he
 rw [hxa] at a5 a7 a9
 simp only at a5 a7 a9
 have c1 := (h2 x hx).1
 rw [hxa] at c1
 simp only at c1
 omega
end Go.Av
set_option linter.unusedVariables false
namespace Go.Av
open Go Go.RowKit Go.Proofs
theorem sameV_refl (v : Vs) : sameV v v = true := by simp [sameV]
theorem sameV_symm {v w : Vs} (h : sameV v w = true) : sameV w v = true := by
 simp only [sameV, Bool.and_eq_true, beq_iff_eq] at h ⊢
 exact ⟨⟨h.1.1.symm, h.1.2.symm⟩, h.2.symm⟩
theorem sameV_trans {u v w : Vs} (h : sameV u v = true) (k : sameV v w = true) : sameV u w = true := by
 simp only [sameV, Bool.and_eq_true, beq_iff_eq] at h k ⊢
 exact ⟨⟨h.1.1.trans k.1.1, h.1.2.trans k.1.2⟩, h.2.trans k.2⟩
theorem nxt_same {p : Int} {v w : Vs} (h : sameV v w = true) (x : Edg) : sameV (nxtV p v x) (nxtV p w x) = true /\ isNew p v x = isNew p w x := by
 simp only [sameV, Bool.and_eq_true, beq_iff_eq] at h
 obtain ⟨⟨h1, h2⟩, h3⟩ := h
 have hn : isNew p v x = isNew p w x := by unfold isNew; rw [h2, h3]
 refine ⟨?_, hn⟩
 unfold nxtV
 rw [hn, h2, h3]
 split
 ·exact sameV_refl _
 ·split <;> exact sameV_refl _
theorem nxt_len (p : Int) (v : Vs) (x : Edg) : (nxtV p v x).path.length = v.path.length + 1 := by
 unfold nxtV
 split
 ·simp
 ·split <;> simp
theorem nxt_st (p : Int) (v : Vs) (x : Edg) : (nxtV p v x).st = x.to := by
 unfold nxtV
 split
 ·rfl
 ·split <;> rfl
theorem fold_full {p : Int} {v : Vs} : ∀ (xs : List Edg) {s : List Vs × List Fnd}, (∀ w ∈ s.1, w.path.length <= v.path.length + 1) -> (∀ f ∈ s.2, f.path.length <= v.path.length + 1) ->
  ∃ t u, xs.foldl (stepV p v) s = (s.1 ++ t, s.2 ++ u) /\ (∀ w ∈ t, w.path.length = v.path.length + 1) /\ (∀ f ∈ u, f.path.length = v.path.length + 1) /\
   (∀ x ∈ xs, ∃ w ∈ s.1 ++ t, sameV w (nxtV p v x) = true) /\ (∀ x ∈ xs, isNew p v x = true -> ∃ f ∈ s.2 ++ u, sameM f (fndV v x) = true)
 | [], s, _, _ => ⟨[], [], by simp, by simp, by simp, by simp, by simp⟩
 | x :: xs, s, h1, h2 => by
   have a1 : ∃ t1, addV s.1 (nxtV p v x) = s.1 ++ t1 /\ (∀ w ∈ t1, w.path.length = v.path.length + 1) /\ ∃ w ∈ s.1 ++ t1, sameV w (nxtV p v x) = true := by
    unfold addV
    split
    ·rename_i hany
     obtain ⟨w, hw, hs⟩ := List.any_eq_true.1 hany
     exact ⟨[], by simp, by simp, w, by simpa using hw, sameV_symm hs⟩
    ·exact ⟨[nxtV p v x], rfl, by simp [nxt_len], nxtV p v x, by simp, sameV_refl _⟩
   have a2 : ∃ u1, (if isNew p v x = true then noteF s.2 (fndV v x) else s.2) = s.2 ++ u1 /\ (∀ f ∈ u1, f.path.length = v.path.length + 1) /\ (isNew p v x = true -> ∃ f ∈ s.2 ++ u1, sameM f (fndV v x) = true) := by
    cases hn : isNew p v x with
    | false => exact ⟨[], by simp, by simp, by simp⟩
    | true =>
      simp only [if_true]
      unfold noteF
      split
      ·rename_i hany
       obtain ⟨f, hf, hs⟩ := List.any_eq_true.1 hany
       refine ⟨[], by simp, by simp, fun _ => ⟨f, by simpa using hf, ?_⟩⟩
       simp only [sameM, Bool.and_eq_true, beq_iff_eq] at hs ⊢
       exact ⟨hs.1.symm, hs.2.symm⟩
      ·exact ⟨[fndV v x], rfl, by simp [fndV], fun _ => ⟨fndV v x, by simp, by simp [sameM]⟩⟩
   obtain ⟨t1, e1, l1, w1, hw1, hs1⟩ := a1
   obtain ⟨u1, e2, l2, hf1⟩ := a2
   obtain ⟨t, u, e, lt, lu, c1, c2⟩ := fold_full (p := p) (v := v) xs (s := (s.1 ++ t1, s.2 ++ u1))
    (fun w hw => by
     rcases List.mem_append.1 hw with hw | hw
     ·exact h1 w hw
     ·exact Nat.le_of_eq (l1 w hw))
    (fun f hf => by
     rcases List.mem_append.1 hf with hf | hf
     ·exact h2 f hf
     ·exact Nat.le_of_eq (l2 f hf))
   refine ⟨t1 ++ t, u1 ++ u, ?_, ?_, ?_, ?_, ?_⟩
   ·rw [List.foldl_cons]
    have : stepV p v s x = (s.1 ++ t1, s.2 ++ u1) := by
     unfold stepV
     rw [e1, e2]
    rw [this, e]
    simp
   ·intro w hw
    rcases List.mem_append.1 hw with hw | hw
    ·exact l1 w hw
    ·exact lt w hw
   ·intro f hf
    rcases List.mem_append.1 hf with hf | hf
    ·exact l2 f hf
    ·exact lu f hf
   ·intro y hy
    rcases List.mem_cons.1 hy with rfl | hy
    ·refine ⟨w1, ?_, hs1⟩
     rw [<- List.append_assoc]
     exact List.mem_append_left _ hw1
    ·obtain ⟨w, hw, hs⟩ := c1 y hy
     exact ⟨w, by rw [<- List.append_assoc]; exact hw, hs⟩
   ·intro y hy hn
    rcases List.mem_cons.1 hy with rfl | hy
    ·obtain ⟨f, hf, hs⟩ := hf1 hn
     refine ⟨f, ?_, hs⟩
     rw [<- List.append_assoc]
     exact List.mem_append_left _ hf
    ·obtain ⟨f, hf, hs⟩ := c2 y hy hn
     exact ⟨f, by rw [<- List.append_assoc]; exact hf, hs⟩
structure Full (g : Glob) (p : Int) (i : Nat) (s : List Vs × List Fnd) : Prop where
 sorted : ∀ a b, (ha : a < s.1.length) -> (hb : b < s.1.length) -> a <= b -> s.1[a].path.length <= s.1[b].path.length
 near : ∀ w ∈ s.1, ∀ (h : i < s.1.length), w.path.length <= s.1[i].path.length + 1
 cl : ∀ j, (hj : j < s.1.length) -> j < i -> ∀ x ∈ g.edges, x.from_ = s.1[j].st -> ∃ w ∈ s.1, sameV w (nxtV p s.1[j] x) = true /\ w.path.length <= s.1[j].path.length + 1
 fo : ∀ j, (hj : j < s.1.length) -> j < i -> ∀ x ∈ g.edges, x.from_ = s.1[j].st -> isNew p s.1[j] x = true -> ∃ f ∈ s.2, sameM f (fndV s.1[j] x) = true /\ f.path.length <= s.1[j].path.length + 1
 fl : ∀ f ∈ s.2, ∃ j, ∃ hj : j < s.1.length, j < i /\ f.path.length <= s.1[j].path.length + 1
theorem full_step {g : Glob} {p : Int} {i : Nat} {s : List Vs × List Fnd} (h : Full g p i s) (hi : i < s.1.length) : ∃ t, ((outE g s.1[i].st).foldl (stepV p s.1[i]) s).1 = s.1 ++ t /\ Full g p (i + 1) ((outE g s.1[i].st).foldl (stepV p s.1[i]) s) := by
 obtain ⟨v, hv⟩ : ∃ v, s.1[i] = v := ⟨_, rfl⟩
 have hq1 : ∀ w ∈ s.1, w.path.length <= v.path.length + 1 := fun w hw => hv ▸ h.near w hw hi
 have hq2 : ∀ f ∈ s.2, f.path.length <= v.path.length + 1 := fun f hf => by
  obtain ⟨j, hj, hji, hl⟩ := h.fl f hf
  have := h.sorted j i hj hi (by omega)
  rw [hv] at this
  omega
 rw [hv]
 obtain ⟨t, u, e, lt, lu, c1, c2⟩ := fold_full (p := p) (v := v) (outE g v.st) hq1 hq2
 rw [e]
 have hin : ∀ j (hj : j < s.1.length), (s.1 ++ t)[j]'(by rw [List.length_append]; omega) = s.1[j] := fun j hj => List.getElem_append_left hj
 have hle : ∀ w ∈ s.1 ++ t, w.path.length <= v.path.length + 1 := fun w hw => by
  rcases List.mem_append.1 hw with hw | hw
  ·exact hq1 w hw
  ·exact Nat.le_of_eq (lt w hw)
 have hsort : ∀ a b, (ha : a < (s.1 ++ t).length) -> (hb : b < (s.1 ++ t).length) -> a <= b -> (s.1 ++ t)[a].path.length <= (s.1 ++ t)[b].path.length := fun a b ha hb hab => by
  by_cases hb' : b < s.1.length
  ·rw [hin a (by omega), hin b hb']
   exact h.sorted a b (by omega) hb' hab
  ·have h3 := hle _ (List.getElem_mem ha)
   have h4 : (s.1 ++ t)[b].path.length = v.path.length + 1 := by
    rw [List.getElem_append_right (by omega)]
    exact lt _ (List.getElem_mem _)
   omega
 refine ⟨t, rfl, ⟨hsort, fun w hw hi1 => ?_, fun j hj hji x hx hxs => ?_, fun j hj hji x hx hxs hn => ?_, fun f hf => ?_⟩⟩
 ·have h3 := hle w hw
  have h4 := hsort i (i + 1) (by rw [List.length_append]; omega) hi1 (by omega)
  rw [hin i hi, hv] at h4
  simp only at h4 ⊢
  omega
 ·have hjl : j < s.1.length := by omega
  rw [hin j hjl] at hxs ⊢
  by_cases hj2 : j < i
  ·obtain ⟨w, hw, h3, h4⟩ := h.cl j hjl hj2 x hx hxs
   exact ⟨w, List.mem_append_left _ hw, h3, h4⟩
  ·have : j = i := by omega
   subst this
   rw [hv] at hxs ⊢
   obtain ⟨w, hw, h3⟩ := c1 x (outE_mem.2 ⟨hx, hxs⟩)
   exact ⟨w, hw, h3, hle w hw⟩
 ·have hjl : j < s.1.length := by omega
  rw [hin j hjl] at hxs hn ⊢
  by_cases hj2 : j < i
  ·obtain ⟨f, hf, h3, h4⟩ := h.fo j hjl hj2 x hx hxs hn
   exact ⟨f, List.mem_append_left _ hf, h3, h4⟩
  ·have : j = i := by omega
   subst this
   rw [hv] at hxs hn ⊢
   obtain ⟨f, hf, h3⟩ := c2 x (outE_mem.2 ⟨hx, hxs⟩) hn
   refine ⟨f, hf, h3, ?_⟩
   rcases List.mem_append.1 hf with hf | hf
   ·exact hq2 f hf
   ·exact Nat.le_of_eq (lu f hf)
 ·rcases List.mem_append.1 hf with hf | hf
  ·obtain ⟨j, hj, hji, hl⟩ := h.fl f hf
   exact ⟨j, by rw [List.length_append]; omega, by omega, by rw [hin j hj]; exact hl⟩
  ·exact ⟨i, by rw [List.length_append]; omega, by omega, by rw [hin i hi, hv]; exact Nat.le_of_eq (lu f hf)⟩
theorem bfs_full {g : Glob} (hg : EdB g) {p : Int} : ∀ (f i : Nat) {s : List Vs × List Fnd}, f + i = 1000000 -> i <= s.1.length -> QOk g s.1 -> Full g p i s -> ∃ q t, q = s.1 ++ t /\ Full g p q.length (q, bfsV g p f i s)
 | 0, i, s, h1, h2, h3, _ => by
   have := queue_len hg h3
   omega
 | f + 1, i, s, h1, h2, h3, h4 => by
   rw [bfsV]
   by_cases hi : i < s.1.length
   ·rw [List.getElem?_eq_getElem hi]
    simp only
    obtain ⟨t, ht, hF⟩ := full_step h4 hi
    have hq := foldV_ok hg (p := p) (h3.ok _ (List.getElem_mem hi)) (outE g s.1[i].st) (s := s) (fun x hx => (outE_mem.1 hx).1) h3
    obtain ⟨q, t2, e2, hF2⟩ := bfs_full hg f (i + 1) (by omega) (by rw [ht, List.length_append]; omega) hq hF
    exact ⟨q, t ++ t2, by rw [e2, ht, List.append_assoc], hF2⟩
   ·rw [List.getElem?_eq_none (by omega)]
    have : i = s.1.length := by omega
    subst this
    exact ⟨s.1, [], by simp, h4⟩
theorem search_full {g : Glob} (hg : EdB g) {e : Edg} (he : e ∈ g.edges) : ∃ q, firstV e ∈ q /\ Full g e.act.to q.length (q, searchV g e) := by
 obtain ⟨a1, a2, a3, a4, a5, a6, a7, a8, a9⟩ := hg.edge e he
 obtain ⟨q, t, e1, hF⟩ := bfs_full hg (p := e.act.to) 1000000 0 (s := ([firstV e], [])) rfl (by simp)
  ⟨fun v hv => by rw [List.mem_singleton.1 hv]; exact ⟨a3, a4, setB_lt (by decide) a7 a8, by simp [firstV]⟩, by simp⟩
  ⟨fun a b ha hb hab => by simp at ha hb; subst ha; subst hb; exact Nat.le_refl _, fun w hw h => by rw [List.mem_singleton.1 hw]; simp, fun j hj hji => by omega, fun j hj hji => by omega, fun f hf => by cases hf⟩
 exact ⟨q, by rw [e1]; simp, hF⟩
theorem walk_met {g : Glob} (hg : EdB g) {e : Edg} (he : e ∈ g.edges) {q : List Vs} {F : List Fnd} (h0 : firstV e ∈ q) (hF : Full g e.act.to q.length (q, F)) {p : List Inter} {t : Int} (hw : WalkP g e.to p t) :
  ∃ v, PathV g e v /\ v.path = p /\ v.st = t /\ ∃ w ∈ q, sameV w v = true /\ w.path.length <= p.length := by
 have a7 := (hg.edge e he).2.2.2.2.2.2.1
 induction hw with
 | nil => exact ⟨firstV e, first_path a7, rfl, rfl, firstV e, h0, sameV_refl _, by simp [firstV]⟩
 | @snoc p x hw hx ih =>
   obtain ⟨v, hv, hvp, hvs, w, hwq, hsv, hl⟩ := ih
   refine ⟨nxtV e.act.to v x, next_path hg hv hx hvs.symm, ?_, nxt_st .., ?_⟩
   ·unfold nxtV
    rw [<- hvp]
    split
    ·rfl
    ·split <;> rfl
   ·obtain ⟨j, hj, rfl⟩ := List.mem_iff_getElem.1 hwq
    have hst : x.from_ = q[j].st := by
     simp only [sameV, Bool.and_eq_true, beq_iff_eq] at hsv
     rw [hsv.1.1, hvs]
    obtain ⟨w2, hw2, h3, h4⟩ := hF.cl j hj hj x hx hst
    refine ⟨w2, hw2, sameV_trans h3 (nxt_same hsv x).1, ?_⟩
    simp only [List.length_append, List.length_singleton]
    simp only at h4
    omega
theorem found_least {g : Glob} (hg : EdB g) {e : Edg} (he : e ∈ g.edges) {m l : Int} {p : List Inter} (hm : 0 <= m) (hr : RightP g e m l p) : ∃ f ∈ searchV g e, f.peer = m /\ f.label = l /\ f.path.length <= p.length := by
 obtain ⟨q, h0, hF⟩ := search_full hg he
 obtain ⟨⟨s, hw⟩, ⟨p0, hp0⟩, hat⟩ := hr
 subst hp0
 generalize hpe : p0 ++ [⟨m, e.act.to, l⟩] = pe at hw
 cases hw with
 | nil => simp at hpe
 | @snoc p x hw hx =>
   obtain ⟨e1, e2⟩ := List.append_inj' hpe rfl
   subst e1
   have e3 : x.act = ⟨m, e.act.to, l⟩ := by simpa using e2.symm
   obtain ⟨v, hv, hvp, hvs, w, hwq, hsv, hl⟩ := walk_met hg he h0 hF hw
   obtain ⟨j, hj, rfl⟩ := List.mem_iff_getElem.1 hwq
   have hst : x.from_ = q[j].st := by
    simp only [sameV, Bool.and_eq_true, beq_iff_eq] at hsv
    rw [hsv.1.1, hvs]
   have hnew : isNew e.act.to v x = true := by
    unfold isNew
    rw [e3]
    simp only [Bool.and_eq_true, Bool.not_eq_true', beq_iff_eq, true_and]
    have hlast := (hat p0.length (by simp) (by simp) (by simp)).2 (by simp)
    rw [List.take_append_of_le_length (by omega), List.take_length] at hlast
    refine ⟨?_, ?_⟩
    ·cases hb : hasB v.bl m with
     | false => rfl
     | true =>
       have := (hv.bl m hm).1 hb
       rw [hvp] at this
       exact absurd this hlast
    ·cases hb : hasB v.sn m with
     | false => rfl
     | true =>
       obtain ⟨i, hi, h1, h2, h3⟩ := (hv.sn m hm).1 hb
       have hpi : ∀ i (hi : i < v.path.length), ∃ hi' : i < p0.length, v.path[i] = p0[i] := fun i hi => by
        subst hvp
        exact ⟨hi, rfl⟩
       obtain ⟨hi', he'⟩ := hpi i hi
       have := (hat i (by simp; omega) (by rw [List.getElem_append_left hi', <- he']; exact h1) (by rw [List.getElem_append_left hi', <- he']; exact h2)).1 (by
        rw [List.take_append_of_le_length (by omega), <- hvp]
        exact h3)
       simp at this
       omega
   obtain ⟨f, hf, h3, h4⟩ := hF.fo j hj hj x hx hst ((nxt_same hsv x).2 ▸ hnew)
   simp only [sameM, fndV, e3, Bool.and_eq_true, beq_iff_eq] at h3
   refine ⟨f, hf, h3.1, h3.2, ?_⟩
   simp only [List.length_append, List.length_singleton]
   simp only at h4
   omega
theorem noteF_apart {all : List Fnd} (h : all.Pairwise fun a b => sameM a b = false) (f : Fnd) : (noteF all f).Pairwise fun a b => sameM a b = false := by
 unfold noteF
 split
 ·exact h
 ·rename_i hn
  rw [List.pairwise_append]
  refine ⟨h, by simp, fun a ha b hb => ?_⟩
  rw [List.mem_singleton.1 hb]
  cases hs : sameM a f with
  | false => rfl
  | true =>
    refine absurd (List.any_eq_true.2 ⟨a, ha, ?_⟩) hn
    simp only [sameM, Bool.and_eq_true, beq_iff_eq] at hs ⊢
    exact ⟨hs.1.symm, hs.2.symm⟩
theorem foldF_apart {p : Int} {v : Vs} : ∀ (xs : List Edg) {s : List Vs × List Fnd}, (s.2.Pairwise fun a b => sameM a b = false) -> (xs.foldl (stepV p v) s).2.Pairwise fun a b => sameM a b = false
 | [], _, h => h
 | x :: xs, s, h => by
   refine foldF_apart xs ?_
   unfold stepV
   simp only
   split
   ·exact noteF_apart h _
   ·exact h
theorem bfs_apart {g : Glob} {p : Int} : ∀ (n i : Nat) {s : List Vs × List Fnd}, (s.2.Pairwise fun a b => sameM a b = false) -> (bfsV g p n i s).Pairwise fun a b => sameM a b = false
 | 0, _, _, h => h
 | n + 1, i, s, h => by
   rw [bfsV]
   split
   ·exact h
   ·exact bfs_apart n (i + 1) (foldF_apart _ h)
theorem search_apart (g : Glob) (e : Edg) : (searchV g e).Pairwise fun a b => sameM a b = false := bfs_apart _ _ List.Pairwise.nil
end Go.Av
set_option linter.unusedVariables false
namespace Go.Av
open Go Go.RowKit Go.Proofs
section
variable {α : Type} {cf : α -> α -> Int}
theorem insC_sorted (hO : Go.Sort.SWO (Go.Proofs.ltOf cf)) : ∀ (l : List α) (x : α), (l.Pairwise fun x y => Go.Proofs.ltOf cf y x = false) -> (insC cf l x).Pairwise fun x y => Go.Proofs.ltOf cf y x = false
 | [], x, _ => by simp [insC]
 | y :: l, x, h => by
   obtain ⟨h1, h2⟩ := List.pairwise_cons.1 h
   unfold insC
   split
   ·rename_i hlt
    have hyx : Go.Proofs.ltOf cf y x = true := by simpa [Go.Proofs.ltOf] using hlt
    rw [List.pairwise_cons]
    refine ⟨fun z hz => ?_, insC_sorted hO l x h2⟩
    rcases List.mem_cons.1 ((insC_perm cf l x).mem_iff.1 hz) with rfl | hz
    ·cases hc : Go.Proofs.ltOf cf z y with
     | false => rfl
     | true =>
       have := hO.trans _ _ _ hyx hc
       rw [hO.irrefl] at this
       cases this
    ·exact h1 z hz
   ·rename_i hlt
    have hyx : Go.Proofs.ltOf cf y x = false := by simpa [Go.Proofs.ltOf] using hlt
    rw [List.pairwise_cons]
    refine ⟨fun z hz => ?_, h⟩
    rcases List.mem_cons.1 hz with rfl | hz
    ·exact hyx
    ·exact hO.ntrans _ _ _ (h1 z hz) hyx
theorem insF_sorted (hO : Go.Sort.SWO (Go.Proofs.ltOf cf)) : ∀ (l a : List α), (a.Pairwise fun x y => Go.Proofs.ltOf cf y x = false) -> (l.foldl (insC cf) a).Pairwise fun x y => Go.Proofs.ltOf cf y x = false
 | [], _, h => h
 | x :: l, a, h => insF_sorted hO l _ (insC_sorted hO a x h)
theorem insL_sort (hO : Go.Sort.SWO (Go.Proofs.ltOf cf)) {l : List α} (hT : ∀ x ∈ l, ∀ y ∈ l, Go.Proofs.ltOf cf x y = false -> Go.Proofs.ltOf cf y x = false -> x = y) : sortL cf l = insL cf l :=
 (sortL_unique hO hT (insL_perm cf l) (insF_sorted hO l [] List.Pairwise.nil)).symm
end
theorem ltX_eq {x y : Edg} (h1 : Go.Proofs.ltOf ordX x y = false) (h2 : Go.Proofs.ltOf ordX y x = false) : x.act = y.act := by
 simp only [Go.Proofs.ltOf, ordX, decide_eq_false_iff_not, ordI_lt] at h1 h2
 have e1 : x.act.from_ = y.act.from_ := by omega
 have e2 : x.act.to = y.act.to := by omega
 have e3 : x.act.label = y.act.label := by omega
 cases hx : x.act
 cases hy : y.act
 simp_all
theorem edges_apart {g : Glob} {e : Bool} (ho : orderedB g e = true) (s : Int) : ∀ x ∈ g.edges.filter (fun x => x.from_ == s), ∀ y ∈ g.edges.filter (fun x => x.from_ == s), Go.Proofs.ltOf ordX x y = false -> Go.Proofs.ltOf ordX y x = false -> x = y := by
 intro x hx y hy h1 h2
 have ha := ltX_eq h1 h2
 obtain ⟨hx, hxs⟩ := List.mem_filter.1 hx
 obtain ⟨hy, hys⟩ := List.mem_filter.1 hy
 obtain ⟨i, hi, hix⟩ := List.mem_iff_getElem.1 hx
 obtain ⟨k, hk, hky⟩ := List.mem_iff_getElem.1 hy
 by_cases hik : i = k
 ·subst hik
  rw [<- hix, <- hky]
 ·exfalso
  have h3 := List.all_eq_true.1 ho i (List.mem_range.2 hi)
  rw [ordAt_get hi, hix] at h3
  simp only [Bool.and_eq_true] at h3
  have h4 := List.all_eq_true.1 h3.2 k (List.mem_range.2 hk)
  unfold okPr at h4
  rw [List.getElem?_eq_getElem hk, hky] at h4
  simp only [beq_iff_eq] at hxs hys
  simp [bad1, hik, hxs, hys, ha, actEq] at h4
theorem sort_out {g : Glob} {e : Bool} (ho : orderedB g e = true) (s : Int) : sortL ordX (g.edges.filter fun x => x.from_ == s) = outE g s := insL_sort swoE (edges_apart ho s)
theorem ordM_lt (a b : Msg) : (ordM a b < 0) ↔ (a.peer < b.peer \/ (a.peer = b.peer /\ a.label < b.label)) := by
 have c : ∀ x y : Int, (cmpI x y < 0 /\ cmpI x y ≠ 0 /\ x < y) \/ (cmpI x y = 0 /\ x = y) \/ (0 < cmpI x y /\ cmpI x y ≠ 0 /\ y < x) := fun x y => by
  unfold cmpI
  by_cases h1 : x < y
  ·simp [h1]
  ·by_cases h2 : y < x
   ·simp [h1, h2]
   ·simp [h1, h2]; omega
 simp only [ordM, orV]
 rcases c a.peer b.peer with h1 | h1 | h1
 ·rw [if_pos h1.2.1]; omega
 ·rw [if_neg (by omega)]
  rcases c a.label b.label with h2 | h2 | h2
  ·rw [if_pos h2.2.1]; omega
  ·rw [if_neg (by omega)]; omega
  ·rw [if_pos h2.2.1]; omega
 ·rw [if_pos h1.2.1]; omega
theorem swoM : Go.Sort.SWO (Go.Proofs.ltOf ordM) where
 irrefl x := by simp only [Go.Proofs.ltOf, decide_eq_false_iff_not, ordM_lt]; omega
 trans x y z h1 h2 := by simp only [Go.Proofs.ltOf, decide_eq_true_eq, ordM_lt] at *; omega
 ntrans x y z h1 h2 := by simp only [Go.Proofs.ltOf, decide_eq_false_iff_not, ordM_lt] at *; omega
theorem ltM_eq {x y : Msg} (h1 : Go.Proofs.ltOf ordM x y = false) (h2 : Go.Proofs.ltOf ordM y x = false) : x = y := by
 simp only [Go.Proofs.ltOf, decide_eq_false_iff_not, ordM_lt] at h1 h2
 have e1 : x.peer = y.peer := by omega
 have e2 : x.label = y.label := by omega
 cases x
 cases y
 simp_all
theorem sort_msgs (l : List Msg) : sortL ordM l = insL ordM l := insL_sort swoM fun x _ y _ => ltM_eq
theorem insC_map {α β : Type} {cf : α -> α -> Int} {cg : β -> β -> Int} {f : α -> β} (h : ∀ x y, cf x y = cg (f x) (f y)) : ∀ (l : List α) (x : α), (insC cf l x).map f = insC cg (l.map f) (f x)
 | [], x => rfl
 | y :: l, x => by
   simp only [insC, List.map_cons, h y x]
   split
   ·rw [List.map_cons, insC_map h l x]
   ·rfl
theorem insF_map {α β : Type} {cf : α -> α -> Int} {cg : β -> β -> Int} {f : α -> β} (h : ∀ x y, cf x y = cg (f x) (f y)) : ∀ (l a : List α), (l.foldl (insC cf) a).map f = (l.map f).foldl (insC cg) (a.map f)
 | [], _ => rfl
 | x :: l, a => by
   rw [List.foldl_cons, List.map_cons, List.foldl_cons, insF_map h l, insC_map h]
theorem insL_map {α β : Type} {cf : α -> α -> Int} {cg : β -> β -> Int} {f : α -> β} (h : ∀ x y, cf x y = cg (f x) (f y)) (l : List α) : (insL cf l).map f = insL cg (l.map f) := insF_map h l []
theorem early_mem {g : Glob} {x : Edg} {m : Msg} : m ∈ earlyV g x ↔ ∃ f ∈ searchV g x, msgF f = m := by
 unfold earlyV
 rw [(insL_perm ordM _).mem_iff, List.mem_map]
end Go.Av
set_option linter.unusedVariables false
namespace Go.Av
open Go Go.RowKit Go.Proofs
theorem cmpI_lt {a b : Int} : cmpI a b < 0 ↔ a < b := by
 unfold cmpI
 by_cases h1 : a < b
 ·simp [h1]
 ·by_cases h2 : b < a
  ·simp [h1, h2]
  ·simp [h1, h2]
theorem swoI : Go.Sort.SWO (Go.Proofs.ltOf cmpI) where
 irrefl x := by simp only [Go.Proofs.ltOf, decide_eq_false_iff_not, cmpI_lt]; omega
 trans x y z h1 h2 := by simp only [Go.Proofs.ltOf, decide_eq_true_eq, cmpI_lt] at *; omega
 ntrans x y z h1 h2 := by simp only [Go.Proofs.ltOf, decide_eq_false_iff_not, cmpI_lt] at *; omega
theorem ltI_eq {x y : Int} (h1 : Go.Proofs.ltOf cmpI x y = false) (h2 : Go.Proofs.ltOf cmpI y x = false) : x = y := by
 simp only [Go.Proofs.ltOf, decide_eq_false_iff_not, cmpI_lt] at h1 h2
 omega
theorem block_mem {r q : Int} {p : List Inter} : q ∈ blockV r p ↔ q ∈ blkL r p := (insL_perm cmpI _).mem_iff
theorem block_len (r : Int) (p : List Inter) : (blockV r p).length = (blkL r p).length := (insL_perm cmpI _).length_eq
theorem sort_ints (l : List Int) : sortL cmpI l = insL cmpI l := insL_sort swoI fun x _ y _ => ltI_eq
theorem with_mem {l : List Int} {n q : Int} : q ∈ withL l n ↔ q ∈ l \/ q = n := by
 induction l with
 | nil => simp [withL]
 | cons y l ih =>
   unfold withL
   split
   ·split
    ·simp only [List.mem_cons]
     constructor
     ·rintro (h | h)
      ·exact .inr h
      ·exact .inl h
     ·rintro (h | h)
      ·exact .inr h
      ·exact .inl h
    ·have : n = y := by omega
     subst this
     constructor
     ·exact .inl
     ·rintro (h | h)
      ·exact h
      ·rw [h]; simp
   ·simp only [List.mem_cons, ih]
    constructor
    ·rintro (h | h | h)
     ·exact .inl (.inl h)
     ·exact .inl (.inr h)
     ·exact .inr h
    ·rintro ((h | h) | h)
     ·exact .inl h
     ·exact .inr (.inl h)
     ·exact .inr (.inr h)
theorem with_asc {l : List Int} (h : l.Pairwise (· < ·)) (n : Int) : (withL l n).Pairwise (· < ·) := by
 induction l with
 | nil => simp [withL]
 | cons y l ih =>
   obtain ⟨h1, h2⟩ := List.pairwise_cons.1 h
   unfold withL
   split
   ·split
    ·rename_i h3
     rw [List.pairwise_cons]
     refine ⟨fun z hz => ?_, h⟩
     rcases List.mem_cons.1 hz with rfl | hz
     ·exact h3
     ·have := h1 z hz
      omega
    ·exact h
   ·rename_i h3
    rw [List.pairwise_cons]
    refine ⟨fun z hz => ?_, ih h2⟩
    rcases with_mem.1 hz with hz | rfl
    ·exact h1 z hz
    ·omega
theorem blk_nodup (r : Int) : ∀ p : List Inter, (blkL r p).Nodup := by
 have key : ∀ (p : List Inter) (l : List Int), l.Nodup -> (p.foldl blkS l).Nodup := by
  intro p
  induction p with
  | nil => intro l h; exact h
  | cons x p ih =>
    intro l h
    rw [List.foldl_cons]
    refine ih _ ?_
    unfold blkS
    split
    ·rename_i hc
     simp only [Bool.and_eq_true, Bool.not_eq_true'] at hc
     have hn : x.to ∉ l := fun hm => by
      have := List.contains_iff_mem.2 hm
      rw [hc.2] at this
      cases this
     rw [List.nodup_append]
     refine ⟨h, by simp, fun a ha b hb => ?_⟩
     rw [List.mem_singleton.1 hb]
     rintro rfl
     exact hn ha
    ·exact h
 exact fun p => key p _ (by simp)
theorem ref_same (r : Int) : ∀ p : List Inter, (refB r p).Pairwise (· < ·) /\ ∀ q, q ∈ refB r p ↔ q ∈ blkL r p := by
 have key : ∀ (p : List Inter) (l m : List Int), m.Pairwise (· < ·) -> (∀ q, q ∈ m ↔ q ∈ l) -> (p.foldl refS m).Pairwise (· < ·) /\ ∀ q, q ∈ p.foldl refS m ↔ q ∈ p.foldl blkS l := by
  intro p
  induction p with
  | nil => intro l m h1 h2; exact ⟨h1, h2⟩
  | cons x p ih =>
    intro l m h1 h2
    rw [List.foldl_cons, List.foldl_cons]
    refine ih _ _ ?_ fun q => ?_
    ·unfold refS
     split
     ·exact with_asc h1 _
     ·exact h1
    ·rw [blkS_mem]
     unfold refS
     split
     ·rename_i hc
      have hf : x.from_ ∈ l := (h2 _).1 (List.contains_iff_mem.1 hc)
      rw [with_mem, h2]
      constructor
      ·rintro (h | h)
       ·exact .inl h
       ·exact .inr ⟨hf, h⟩
      ·rintro (h | h)
       ·exact .inl h
       ·exact .inr h.2
     ·rename_i hc
      have hf : x.from_ ∉ l := fun hm => hc (List.contains_iff_mem.2 ((h2 _).2 hm))
      rw [h2]
      constructor
      ·exact .inl
      ·rintro (h | h)
       ·exact h
       ·exact absurd h.1 hf
 exact fun p => key p [r] [r] (by simp) fun q => Iff.rfl
theorem ref_block (r : Int) (p : List Inter) : refB r p = blockV r p := by
 obtain ⟨h1, h2⟩ := ref_same r p
 rw [blockV, <- sort_ints]
 refine sortL_unique swoI (fun x _ y _ => ltI_eq) ?_ (h1.imp fun {a b} h => ?_)
 ·refine (List.perm_ext_iff_of_nodup (h1.imp fun {a b} h => ?_) (blk_nodup r p)).2 h2
  omega
 ·simp only [Go.Proofs.ltOf, decide_eq_false_iff_not, cmpI_lt]
  omega
theorem block_step (r : Int) (w : List Inter) {i : Nat} (h : i < w.length) : (∀ q ∈ blockV r (w.take i), q ∈ blockV r (w.take (i + 1))) /\ (blockV r (w.take (i + 1))).length <= (blockV r (w.take i)).length + 1 /\
  ((blockV r (w.take (i + 1))).contains w[i].to = ((blockV r (w.take i)).contains w[i].to || (blockV r (w.take i)).contains w[i].from_)) := by
 have hs := blk_take r w h
 refine ⟨fun q hq => ?_, ?_, ?_⟩
 ·rw [block_mem] at hq ⊢
  rw [hs, blkS_mem]
  exact .inl hq
 ·rw [block_len, block_len, hs]
  unfold blkS
  split
  ·simp
  ·omega
 ·have hm : ∀ q l, (blockV r l).contains q = decide (q ∈ blkL r l) := fun q l => by
   rw [Bool.eq_iff_iff, List.contains_iff_mem, block_mem, decide_eq_true_eq]
  rw [hm, hm, hm, hs, Bool.eq_iff_iff]
  simp only [decide_eq_true_eq, Bool.or_eq_true, blkS_mem]
  constructor
  ·rintro (h | h)
   ·exact .inl h
   ·exact .inr h.1
  ·rintro (h | h)
   ·exact .inl h
   ·exact .inr ⟨h, by trivial⟩
theorem block_mono (r : Int) (w : List Inter) : ∀ (j i : Nat), i + j <= w.length -> ∀ q ∈ blockV r (w.take i), q ∈ blockV r (w.take (i + j))
 | 0, i, _, q, hq => hq
 | j + 1, i, h, q, hq => by
   rw [<- Nat.add_assoc]
   exact (block_step r w (by omega)).1 q (block_mono r w j i (by omega) q hq)
theorem block_free (r : Int) (w : List Inter) {i : Nat} (h : i < w.length) (hn : w[i].to ∉ blockV r w) : w[i].from_ ∉ blockV r (w.take i) := by
 intro hf
 apply hn
 have h1 : w[i].to ∈ blockV r (w.take (i + 1)) := by
  rw [block_mem, blk_take r w h, blkS_mem]
  exact .inr ⟨block_mem.1 hf, rfl⟩
 have h2 := block_mono r w (w.length - (i + 1)) (i + 1) (by omega) _ h1
 rwa [show i + 1 + (w.length - (i + 1)) = w.length by omega, List.take_length] at h2
def stepW (es : List Edg) (s : Int) (a : Inter) : Int := es.foldl (fun t y => if y.from_ = s /\ y.act = a then y.to else t) (-1)
def walkF (es : List Edg) : List Inter -> Int -> Option Int
 | [], s => some s
 | a :: p, s => if stepW es s a < 0 then none else walkF es p (stepW es s a)
theorem stepW_ex (es : List Edg) (s : Int) (a : Inter) : ∀ t, (∃ y ∈ es, y.from_ = s /\ y.act = a /\ es.foldl (fun t y => if y.from_ = s /\ y.act = a then y.to else t) t = y.to) \/ ((∀ y ∈ es, ¬ (y.from_ = s /\ y.act = a)) /\ es.foldl (fun t y => if y.from_ = s /\ y.act = a then y.to else t) t = t) := by
 induction es with
 | nil => intro t; exact .inr ⟨by simp, rfl⟩
 | cons y es ih =>
   intro t
   rw [List.foldl_cons]
   rcases ih (if y.from_ = s /\ y.act = a then y.to else t) with ⟨z, hz, h1, h2, h3⟩ | ⟨h1, h2⟩
   ·exact .inl ⟨z, List.mem_cons_of_mem _ hz, h1, h2, h3⟩
   ·by_cases hy : y.from_ = s /\ y.act = a
    ·refine .inl ⟨y, by simp, hy.1, hy.2, ?_⟩
     rw [h2, if_pos hy]
    ·refine .inr ⟨fun z hz => ?_, by rw [h2, if_neg hy]⟩
     rcases List.mem_cons.1 hz with rfl | hz
     ·exact hy
     ·exact h1 z hz
theorem walkF_snoc (es : List Edg) : ∀ (p : List Inter) (a : Inter) (s : Int), walkF es (p ++ [a]) s = match walkF es p s with
  | some t => if stepW es t a < 0 then none else some (stepW es t a)
  | none => none
 | [], a, s => by
   simp only [List.nil_append, walkF]
 | b :: p, a, s => by
   simp only [List.cons_append, walkF]
   split
   ·rfl
   ·exact walkF_snoc es p a _
theorem walk_of {g : Glob} (hg : EdB g) {s t : Int} : ∀ {p : List Inter}, walkF g.edges p s = some t -> WalkP g s p t := by
 have key : ∀ (n : Nat) (p : List Inter) (t : Int), p.length = n -> walkF g.edges p s = some t -> WalkP g s p t := by
  intro n
  induction n with
  | zero =>
    intro p t hp h
    have : p = [] := List.length_eq_zero_iff.1 hp
    subst this
    simp only [walkF, Option.some.injEq] at h
    subst h
    exact .nil
  | succ n ih =>
    intro p t hp h
    obtain ⟨q, a, rfl⟩ : ∃ q a, p = q ++ [a] := ⟨p.dropLast, p.getLast (by intro e; rw [e] at hp; cases hp), (List.dropLast_concat_getLast _).symm⟩
    rw [walkF_snoc] at h
    cases hq : walkF g.edges q s with
    | none => rw [hq] at h; cases h
    | some u =>
      rw [hq] at h
      simp only at h
      split at h
      ·cases h
      ·rename_i hlt
       simp only [Option.some.injEq] at h
       have hw := ih q u (by simp at hp; omega) hq
       unfold stepW at h hlt
       rcases stepW_ex g.edges u a (-1) with ⟨y, hy, h1, h2, h3⟩ | ⟨_, h2⟩
       ·rw [h3] at h
        subst h1
        subst h2
        rw [<- h]
        exact .snoc hw hy
       ·rw [h2] at hlt
        omega
 exact fun {p} => key p.length p t rfl
theorem to_walk {g : Glob} (hg : EdB g) {e : Bool} (ho : orderedB g e = true) {s t : Int} {p : List Inter} (h : WalkP g s p t) : walkF g.edges p s = some t := by
 induction h with
 | nil => rfl
 | @snoc p x hw hx ih =>
   rw [walkF_snoc, ih]
   simp only
   have hst : stepW g.edges x.from_ x.act = x.to := by
    unfold stepW
    rcases stepW_ex g.edges x.from_ x.act (-1) with ⟨y, hy, h1, h2, h3⟩ | ⟨h1, _⟩
    ·have hxm : x ∈ g.edges.filter (fun z => z.from_ == x.from_) := List.mem_filter.2 ⟨hx, by simp⟩
     have hym : y ∈ g.edges.filter (fun z => z.from_ == x.from_) := List.mem_filter.2 ⟨hy, by simp [h1]⟩
     have hord : ordX x y = ordX y x /\ ¬ ordX x y < 0 := by
      unfold ordX
      rw [h2]
      refine ⟨rfl, ?_⟩
      rw [ordI_lt]
      omega
     have := edges_apart ho x.from_ x hxm y hym (by simp only [Go.Proofs.ltOf, decide_eq_false_iff_not]; exact hord.2) (by simp only [Go.Proofs.ltOf, decide_eq_false_iff_not]; rw [<- hord.1]; exact hord.2)
     rw [h3, this]
    ·exact absurd ⟨rfl, rfl⟩ (h1 x hx)
   have h0 := (hg.edge x hx).2.2.1
   rw [hst, if_neg (by omega)]
def openB (p m : Int) (path : List Inter) (i : Nat) : Bool := !(blockV p (path.take i)).contains m
def okAt (p m : Int) (path : List Inter) (i : Nat) : Bool := match path[i]? with
 | some x => !(x.from_ == m && (x.to == p && (openB p m path i != decide (i + 1 = path.length))))
 | none => true
def rightB (es : List Edg) (e : Edg) (m l : Int) (path : List Inter) : Bool :=
 (match path.getLast? with
  | some x => decide (x = ⟨m, e.act.to, l⟩)
  | none => false) && ((List.range path.length).all (okAt e.act.to m path) && (walkF es path e.to).isSome)
theorem okAt_iff {p m : Int} {path : List Inter} {i : Nat} (h : i < path.length) : okAt p m path i = true ↔ (path[i].from_ = m -> path[i].to = p -> (m ∉ blkL p (path.take i) ↔ i + 1 = path.length)) := by
 unfold okAt openB
 rw [List.getElem?_eq_getElem h]
 have hc : (blockV p (path.take i)).contains m = decide (m ∈ blkL p (path.take i)) := by
  rw [Bool.eq_iff_iff, List.contains_iff_mem, block_mem, decide_eq_true_eq]
 simp only [hc]
 by_cases h1 : path[i].from_ = m <;> by_cases h2 : path[i].to = p <;> by_cases h3 : m ∈ blkL p (path.take i) <;> by_cases h4 : i + 1 = path.length <;> simp [h1, h2, h3, h4]
theorem right_iff {g : Glob} (hg : EdB g) {b : Bool} (ho : orderedB g b = true) {e : Edg} {m l : Int} {path : List Inter} : rightB g.edges e m l path = true ↔ RightP g e m l path := by
 unfold rightB
 simp only [Bool.and_eq_true, List.all_eq_true, List.mem_range]
 constructor
 ·rintro ⟨h1, h2, h3⟩
  refine ⟨?_, ?_, fun i hi hf ht => (okAt_iff hi).1 (h2 i hi) hf ht⟩
  ·obtain ⟨t, ht⟩ := Option.isSome_iff_exists.1 h3
   exact ⟨t, walk_of hg ht⟩
  ·cases hl : path.getLast? with
   | none => rw [hl] at h1; cases h1
   | some x =>
     rw [hl] at h1
     simp only [decide_eq_true_eq] at h1
     subst h1
     obtain ⟨q, hq⟩ := List.getLast?_eq_some_iff.1 hl
     exact ⟨q, hq⟩
 ·rintro ⟨⟨t, hw⟩, ⟨q, hq⟩, h3⟩
  refine ⟨?_, fun i hi => (okAt_iff hi).2 (h3 i hi), by rw [to_walk hg ho hw]; rfl⟩
  rw [hq, List.getLast?_concat]
  simp
end Go.Av

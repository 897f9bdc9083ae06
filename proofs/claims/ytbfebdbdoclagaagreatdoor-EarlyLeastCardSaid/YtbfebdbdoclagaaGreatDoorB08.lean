/- Part of a proof. -/
import Derived.Test.YtbfebdbdoclagaaGreatDoorAvR
import Derived.Test.YtbfebdbdoclagaaGreatDoorB05
import Derived.Test.YtbfebdbdoclagaaGreatDoorB07
import Derived.Test.YtbfebdbdoclagaaGreatDoorB04
import Derived.Test.YtbfebdbdoclagaaGreatDoorB02
import Derived.Test.YtbfebdbdoclagaaGreatDoorAvIC
set_option linter.unusedVariables false
set_option linter.unusedSimpArgs false
set_option maxHeartbeats 64000000
set_option maxRecDepth 8000
namespace Go.Av
open Go Go.RowKit Go.Proofs
set_option maxHeartbeats 64000000
def anyNeg (l : List Int) : Bool := l.any fun y => (-1 : Int) == y
def valid29 (g : Glob) : Bool := named g && numbered g && validD g.decls && orderedB g true && timedP g && !anyNeg (spread g g.start.toNat false) && !anyNeg (spread g g.end_.toNat true)
def valid26 (g : Glob) : Bool := namesR g && numbered g && orderedB g false && connP g && timedR g
theorem sprN_len {back : Bool} {es : List Edg} {N : Nat} (hb : ∀ x ∈ es, eB back x < N) : ∀ (n : Nat) {st : List Int × List Nat}, (∃ m, SprOk N m st /\ st.2.length <= m) -> (sprN back es n st).1.length = N
 | 0, st, ⟨m, h, _⟩ => h.len
 | n + 1, st, ⟨m, h, hm⟩ => by
   rw [sprN]
   cases h2 : st.2 with
   | nil =>
     have : sprRound back es st = st := by unfold sprRound; rw [h2]
     rw [this]
     exact sprN_len hb n ⟨m, h, hm⟩
   | cons a t =>
     rw [h2] at hm
     obtain ⟨m', rfl⟩ : ∃ m', m = m' + 1 := ⟨m - 1, by simp only [List.length_cons] at hm; omega⟩
     have hr := sprRound_ok hb h h2
     exact sprN_len hb n ⟨m', hr, by have := hr.cnt; omega⟩
theorem spread_len (g : Glob) (hn : numbered g = true) (s : Nat) (hs : s < g.states.toNat) (back : Bool) : (spread g s back).length = g.states.toNat := by
 obtain ⟨n1, n2, n3, n4, n5, n6, n7⟩ := numbered_facts hn
 unfold spread
 refine sprN_len (fun x hx => ?_) _ ⟨_, spr_start hs, ?_⟩
 ·have := okEdge_facts (n7 x hx)
  unfold eB
  split <;> omega
 ·simp; omega
abbrev H109 : Prop := ∀ n : Nat, n <= 200 -> Impl Tryz.prog 98 [.one (.sl [[.int .i64 (-1)]]), .one (.int .i64 n)] (.one (.one (.ow 1 ((List.replicate n (-1)).map encN))))
theorem f42 (h109 : H109) (g : Glob) (hs : Small g) (hfp : ∀ d ∈ g.decls, d.fields.length <= 2000000) : Impl Tryz.prog 42 [.ag (encG g)] (.one (.one (.bool (valid29 g)))) := by
 have c1 := f62 g (by have := hs.roles; omega)
 have c2 := f63 g hs
 have c3 := f64 g.decls (by have := hs.decls; omega) hfp
 have c4 := f65 g hs
 have c5 := f66 g hs
 have c6 : numbered g = true -> Impl Tryz.prog 67 [.ag (encG g), .one (.int .i64 g.start), .one (.bool false)] (.one (.one (.ow 1 ((spread g g.start.toNat false).map encN)))) /\ Impl Tryz.prog 67 [.ag (encG g), .one (.int .i64 g.end_), .one (.bool true)] (.one (.one (.ow 1 ((spread g g.end_.toNat true).map encN)))) /\ (spread g g.start.toNat false).length <= 1000000 /\ (spread g g.end_.toNat true).length <= 1000000 := by
  intro hn
  obtain ⟨n1, n2, n3, n4, n5, n6, n7⟩ := numbered_facts hn
  have e1 := f67 g hs hn h109 g.start.toNat (by omega) false
  have e2 := f67 g hs hn h109 g.end_.toNat (by omega) true
  rw [Int.toNat_of_nonneg n3] at e1
  rw [Int.toNat_of_nonneg n5] at e2
  exact ⟨e1, e2, by rw [spread_len g hn _ (by omega)]; omega, by rw [spread_len g hn _ (by omega)]; omega⟩
 refine impl_v ?_
 have hv : valid29 g = (named g && numbered g && validD g.decls && orderedB g true && timedP g && !anyNeg (spread g g.start.toNat false) && !anyNeg (spread g g.end_.toNat true)) := rfl
 obtain ⟨V, hV⟩ : ∃ V, valid29 g = V := ⟨_, rfl⟩
 rw [hV] at hv ⊢
 simp only [encG] at c1 c2 c3 c4 c5 c6
 cases h1 : named g with
 | false =>
   rw [h1] at c1 hv
   refine wV encG.eq_1 c1 ?_
   simp [go_sem, hv]
 | true =>
   rw [h1] at c1 hv
   cases h2 : numbered g with
   | false =>
     rw [h2] at c2 hv
     refine wV encG.eq_1 (aN c1 c2) ?_
     simp [go_sem, hv]
   | true =>
     obtain ⟨c6a, c7, l1, l2⟩ := c6 h2
     clear c6
     rw [h2] at c2 hv
     cases h3 : validD g.decls with
     | false =>
       rw [h3] at c3 hv
       refine wV encG.eq_1 (aN c1 <| aN c2 c3) ?_
       simp [go_sem, hv]
     | true =>
       rw [h3] at c3 hv
       cases h4 : orderedB g true with
       | false =>
         rw [h4] at c4 hv
         refine wV encG.eq_1 (aN c1 <| aN c2 <| aN c3 c4) ?_
         simp [go_sem, hv]
       | true =>
         rw [h4] at c4 hv
         cases h5 : timedP g with
         | false =>
           rw [h5] at c5 hv
           refine wV encG.eq_1 (aN c1 <| aN c2 <| aN c3 <| aN c4 c5) ?_
           simp [go_sem, hv]
         | true =>
           rw [h5] at c5 hv
           have c8 := f33 (spread g g.start.toNat false) (-1) l1
           have c9 := f33 (spread g g.end_.toNat true) (-1) l2
           change Impl Tryz.prog 33 [_, _] (.one (.one (.bool (anyNeg _)))) at c8
           change Impl Tryz.prog 33 [_, _] (.one (.one (.bool (anyNeg _)))) at c9
           generalize spread g g.start.toNat false = A at *
           generalize spread g g.end_.toNat true = B at *
           cases h6 : anyNeg A with
           | true =>
             rw [h6] at c8 hv
             refine wV encG.eq_1 (aN c1 <| aN c2 <| aN c3 <| aN c4 <| aN c5 <| aN c6a c8) ?_
             simp [go_sem, hv]
           | false =>
             rw [h6] at c8 hv
             refine wV encG.eq_1 (aN c1 <| aN c2 <| aN c3 <| aN c4 <| aN c5 <| aN c6a <| aN c8 <| aN c7 c9) ?_
             simp [go_sem, hv]
theorem f32 (g : Glob) (hs : Small g) : Impl Tryz.prog 32 [.ag (encG g)] (.one (.one (.bool (valid26 g)))) := by
 have c1 := f52 g hs
 have c2 := f53 g hs
 have c3 := f54 g hs
 have c4 := f55 g hs
 have c5 := f56 g hs
 refine impl_v ?_
 have hv : valid26 g = (namesR g && numbered g && orderedB g false && connP g && timedR g) := rfl
 obtain ⟨V, hV⟩ : ∃ V, valid26 g = V := ⟨_, rfl⟩
 rw [hV] at hv ⊢
 simp only [encG] at c1 c2 c3 c4 c5
 cases h1 : namesR g with
 | false =>
   rw [h1] at c1 hv
   refine wV encG.eq_1 c1 ?_
   simp [go_sem, hv]
 | true =>
   rw [h1] at c1 hv
   cases h2 : numbered g with
   | false =>
     rw [h2] at c2 hv
     refine wV encG.eq_1 (aN c1 c2) ?_
     simp [go_sem, hv]
   | true =>
     have c4 := c4 h2
     rw [h2] at c2 hv
     cases h3 : orderedB g false with
     | false =>
       rw [h3] at c3 hv
       refine wV encG.eq_1 (aN c1 <| aN c2 c3) ?_
       simp [go_sem, hv]
     | true =>
       rw [h3] at c3 hv
       cases h4 : connP g with
       | false =>
         rw [h4] at c4 hv
         refine wV encG.eq_1 (aN c1 <| aN c2 <| aN c3 c4) ?_
         simp [go_sem, hv]
       | true =>
         rw [h4] at c4 hv
         refine wV encG.eq_1 (aN c1 <| aN c2 <| aN c3 <| aN c4 c5) ?_
         simp [go_sem, hv]
def srchR (g : Glob) (k : Int) : Option (List Fnd) × Int :=
 if valid29 g then (match if 0 <= k then g.edges[k.toNat]? else none with
  | some x => (some (searchV g x), 0)
  | none => (none, 2)) else (none, 1)
def resF : Option (List Fnd) -> DV
 | none => .nil
 | some l => .ow 3 (l.map encFd)
def rowD : List Edg -> DV
 | [] => .nil
 | x :: l => .ow 6 ((x :: l).map encEd)
def rowS : List Edg -> DV
 | [] => .nil
 | x :: l => .sl ((x :: l).map encEd)
def rowsX (S : Nat) (f : Nat -> List Edg) : List (List DV) := (List.range S).map fun s => [rowD (f s)]
def rowsY (S : Nat) (f : Nat -> List Edg) : List (List DV) := (List.range S).map fun s => [rowS (f s)]
theorem rowsX_len (S : Nat) (f : Nat -> List Edg) : (rowsX S f).length = S := by simp [rowsX]
theorem rowsY_len (S : Nat) (f : Nat -> List Edg) : (rowsY S f).length = S := by simp [rowsY]
theorem rowsX_at {S s : Nat} (h : s < S) (f : Nat -> List Edg) : (rowsX S f)[s]? = some [rowD (f s)] := by simp [rowsX, h]
theorem rowsY_at {S s : Nat} (h : s < S) (f : Nat -> List Edg) : (rowsY S f)[s]? = some [rowS (f s)] := by simp [rowsY, h]
theorem rowsX_get {S s : Nat} (h : s < S) (f : Nat -> List Edg) : (rowsX S f)[s]'(by rw [rowsX_len]; exact h) = [rowD (f s)] := by simp [rowsX]
theorem rowsY_get {S s : Nat} (h : s < S) (f : Nat -> List Edg) : (rowsY S f)[s]'(by rw [rowsY_len]; exact h) = [rowS (f s)] := by simp [rowsY]
theorem rowsX_nil (S : Nat) : rowsX S (fun _ => []) = List.replicate S [.nil] := by
 apply List.ext_getElem?
 intro i
 by_cases h : i < S
 ·rw [rowsX_at h, List.getElem?_replicate, if_pos h]
  rfl
 ·rw [List.getElem?_eq_none (by rw [rowsX_len]; omega), List.getElem?_eq_none (by simp; omega)]
theorem rowsX_set {S s : Nat} (h : s < S) {f f' : Nat -> List Edg} (he : ∀ t, t ≠ s -> f' t = f t) : (rowsX S f).set s [rowD (f' s)] = rowsX S f' := by
 apply List.ext_getElem?
 intro i
 rw [List.getElem?_set, rowsX_len]
 by_cases hi : s = i
 ·subst hi
  rw [if_pos rfl, if_pos h, rowsX_at h]
 ·rw [if_neg hi]
  by_cases hl : i < S
  ·rw [rowsX_at hl, rowsX_at hl, he i (fun e => hi e.symm)]
  ·rw [List.getElem?_eq_none (by rw [rowsX_len]; omega), List.getElem?_eq_none (by rw [rowsX_len]; omega)]
theorem loopQ_gen {P : Program} {c : AC} {I : Nat -> Env -> Prop} {n : Nat} {Q : Exit -> Env -> Prop} {e : Env} (h : ∀ Q0 : Exit -> Env -> Prop, (∀ x e', Q x e' -> Q0 x e') -> awp P c (loopQ I n Q0) e) : awp P c (loopQ I n Q) e := h Q fun _ _ h => h
theorem frz_row : ∀ l : List Edg, (rowD l).frz = rowS l
 | [] => rfl
 | x :: l => by
   unfold rowD rowS
   have h : ∀ m : List Edg, frzLL (m.map encEd) = m.map encEd := fun m => by
    induction m with
    | nil => rfl
    | cons y m ih =>
      rw [List.map_cons, frzLL, ih]
      rfl
   rw [DV.frz, h]
theorem frz_rows (S : Nat) (f : Nat -> List Edg) : frzLL (rowsX S f) = rowsY S f := by
 unfold rowsX rowsY
 induction List.range S with
 | nil => rfl
 | cons s l ih =>
   rw [List.map_cons, List.map_cons, frzLL, ih, frzL, frzL, frz_row]
def firstE (g : Glob) (n s : Nat) : List Edg := (g.edges.take n).filter fun x => x.from_ == (s : Int)
theorem firstE_succ {g : Glob} {n : Nat} (h : n < g.edges.length) {x : Edg} (hx : g.edges[n] = x) (s : Nat) : firstE g (n + 1) s = if x.from_ = (s : Int) then firstE g n s ++ [x] else firstE g n s := by
 unfold firstE
 rw [List.take_succ_eq_append_getElem h, hx, List.filter_append, List.filter_cons]
 by_cases hs : x.from_ = (s : Int)
 ·simp [hs]
 ·simp [hs]
theorem firstE_len (g : Glob) (n s : Nat) : (firstE g n s).length <= n := by
 unfold firstE
 have := List.length_filter_le (fun x : Edg => x.from_ == (s : Int)) (g.edges.take n)
 rw [List.length_take] at this
 omega
theorem appendOk_vz {l : List Vz} {x : Vz} (h : l.length <= 100000000) : z_f 7 48 (l.map encVz) [encVz x] := by
 refine ⟨?_, ?_, by omega, ?_, ?_⟩
 ·intro e he; rw [List.mem_singleton.1 he]; rfl
 ·intro e he; rw [List.mem_singleton.1 he]; rfl
 ·simp only [List.length_map, List.length_singleton, maxLen]; omega
 ·simp only [List.length_map, List.length_singleton]; omega
theorem appendOk_fd {l : List Fnd} {x : Fnd} (h : l.length <= 900000000) : z_f 3 40 (l.map encFd) [encFd x] := by
 refine ⟨?_, ?_, by omega, ?_, ?_⟩
 ·intro e he; rw [List.mem_singleton.1 he]; rfl
 ·intro e he; rw [List.mem_singleton.1 he]; rfl
 ·simp only [List.length_map, List.length_singleton, maxLen]; omega
 ·simp only [List.length_map, List.length_singleton]; omega
theorem sh8 : ∀ r : Fin 6, IntKind.u8.wrap (2 ^ min r.val 8) = (setB 0 (r.val : Int) : Nat) := by decide +kernel
theorem bitF : ∀ n : Fin 64, ∀ r : Fin 6, IntKind.u8.wrap (((BitVec.ofInt 8 ((n.val : Int).fdiv (2 ^ min r.val 8)) &&& 1#8).toNat : Nat) : Int) = if hasB n.val (r.val : Int) then 1 else 0 := by decide +kernel
theorem bitX {n r : Nat} (hn : n < 64) (hr : r < 6) : IntKind.u8.wrap (((BitVec.ofInt IntKind.u8.bits (Int.fdiv (n : Int) (2 ^ min (Int.toNat (r : Int)) IntKind.u8.bits)) &&& BitVec.ofInt IntKind.u8.bits 1).toNat : Nat) : Int) = if hasB n (r : Int) then 1 else 0 := bitF ⟨n, hn⟩ ⟨r, hr⟩
theorem orX {n r : Nat} (hn : n < 64) (hr : r < 6) : IntKind.u8.wrap (((BitVec.ofInt IntKind.u8.bits (n : Int) ||| BitVec.ofInt IntKind.u8.bits (IntKind.u8.wrap (1 * 2 ^ min (Int.toNat (r : Int)) IntKind.u8.bits))).toNat : Nat) : Int) = (setB n (r : Int) : Nat) := or8 ⟨n, hn⟩ ⟨r, hr⟩
theorem any_isM (F : List Fnd) (f : Fnd) : F.any (isM (msgF f)) = F.any (sameM f) := by
 congr 1
 funext y
 unfold isM sameM msgF
 rw [Bool.eq_iff_iff]
 simp only [Bool.and_eq_true, beq_iff_eq]
 constructor <;> rintro ⟨h1, h2⟩ <;> exact ⟨h1.symm, h2.symm⟩
theorem foldl_take2 {α β : Type} (f : β -> α -> β) (a : β) {l : List α} {j : Nat} (h : j < l.length) : (l.take (j + 1)).foldl f a = f ((l.take j).foldl f a) l[j] := by
 rw [List.take_succ_eq_append_getElem h, List.foldl_append]
 rfl
theorem appendOk_ed {l : List Edg} {x : Edg} (h : l.length <= 100000000) : z_f 6 48 (l.map encEd) [encEd x] := by
 refine ⟨?_, ?_, by omega, ?_, ?_⟩
 ·intro e he; rw [List.mem_singleton.1 he]; rfl
 ·intro e he; rw [List.mem_singleton.1 he]; rfl
 ·simp only [List.length_map, List.length_singleton, maxLen]; omega
 ·simp only [List.length_map, List.length_singleton]; omega
def mixE (g : Glob) (j s : Nat) : List Edg := if s < j then outE g s else firstE g g.edges.length s
theorem mix_zero (g : Glob) : mixE g 0 = firstE g g.edges.length := by
 funext s
 simp [mixE]
theorem first_all (g : Glob) (s : Nat) : firstE g g.edges.length s = g.edges.filter fun x => x.from_ == (s : Int) := by
 unfold firstE
 rw [List.take_length]
theorem mix_end {S : Nat} (g : Glob) : rowsX S (mixE g S) = rowsX S fun s => outE g s := by
 unfold rowsX
 apply List.map_congr_left
 intro s hs
 rw [mixE, if_pos (List.mem_range.1 hs)]
theorem outE_len (g : Glob) (s : Int) : (outE g s).length <= g.edges.length := by
 unfold outE
 rw [(insL_perm ordX _).length_eq]
 exact List.length_filter_le _ _
theorem outE_nil {g : Glob} {s : Nat} (h : firstE g g.edges.length s = []) : outE g s = [] := by
 rw [first_all] at h
 unfold outE
 rw [h]
 rfl
theorem outE_cons {g : Glob} {s : Nat} {x : Edg} {l : List Edg} (h : firstE g g.edges.length s = x :: l) : ∃ y m, outE g s = y :: m := by
 cases ho : outE g s with
 | nil =>
   have hl := congrArg List.length ho
   unfold outE at hl
   rw [(insL_perm ordX _).length_eq, <- first_all, h] at hl
   cases hl
 | cons y m => exact ⟨y, m, rfl⟩
set_option maxHeartbeats 64000000
def isFrom (es : List Edg) (s : Int) (i : Nat) : Bool := (es.getD i default).from_ == s
def outN (es : List Edg) (s : Int) : List Nat := (List.range es.length).filter (isFrom es s)
def cfN (es : List Edg) (i j : Nat) : Int := ordX (es.getD i default) (es.getD j default)
def sortN (es : List Edg) (s : Int) : List Nat := insL (cfN es) (outN es s)
theorem filter_range_succ (p : Nat -> Bool) (k : Nat) : (List.range (k + 1)).filter p = if p k then (List.range k).filter p ++ [k] else (List.range k).filter p := by
 rw [List.range_succ, List.filter_append]
 cases h : p k <;> simp [h]
theorem outN_map (es : List Edg) (s : Int) : (outN es s).map (fun i => es.getD i default) = es.filter fun x => x.from_ == s := by
 unfold outN isFrom
 have key : ∀ n, n <= es.length -> ((List.range n).filter fun i => (es.getD i default).from_ == s).map (fun i => es.getD i default) = (es.take n).filter fun x => x.from_ == s := by
  intro n
  induction n with
  | zero => intro _; simp
  | succ n ih =>
    intro h
    have hg : es.getD n default = es[n] := by rw [List.getD_eq_getElem?_getD, List.getElem?_eq_getElem (by omega)]; rfl
    rw [filter_range_succ, List.take_succ_eq_append_getElem (by omega), List.filter_append, <- ih (by omega), hg]
    by_cases hp : (es[n].from_ == s) = true
    ·rw [if_pos hp]; simp [hp, show n < es.length by omega]
    ·rw [if_neg hp]; simp [hp]
 have := key es.length (Nat.le_refl _)
 rwa [List.take_length] at this
theorem sortN_map (g : Glob) (s : Int) : (sortN g.edges s).map (fun i => g.edges.getD i default) = outE g s := by
 unfold sortN outE
 rw [insL_map (cf := cfN g.edges) (cg := ordX) (f := fun i => g.edges.getD i default) (fun x y => rfl), outN_map]
theorem outN_lt {es : List Edg} {s : Int} : ∀ i ∈ outN es s, i < es.length := fun i hi => List.mem_range.1 (List.mem_filter.1 hi).1
theorem sortN_lt {es : List Edg} {s : Int} : ∀ i ∈ sortN es s, i < es.length := fun i hi => outN_lt i ((insL_perm _ _).mem_iff.1 hi)
theorem outN_len (es : List Edg) (s : Int) : (outN es s).length <= es.length := by
 unfold outN
 have := List.length_filter_le (isFrom es s) (List.range es.length)
 rwa [List.length_range] at this
theorem sortN_len (es : List Edg) (s : Int) : (sortN es s).length <= es.length := by
 unfold sortN
 rw [(insL_perm _ _).length_eq]
 exact outN_len es s
theorem insC_at {α : Type} {cf : α -> α -> Int} {x : α} : ∀ (k : Nat) (l : List α), k <= l.length -> (∀ j (h : j < l.length), j < k -> cf l[j] x < 0) -> (∀ h : k < l.length, ¬ cf l[k] x < 0) -> insC cf l x = l.take k ++ x :: l.drop k
 | 0, [], _, _, _ => rfl
 | 0, y :: l, _, _, h2 => by
   have := h2 (by simp)
   simp only [List.getElem_cons_zero] at this
   unfold insC
   rw [if_neg this]
   rfl
 | k + 1, [], h, _, _ => by simp at h
 | k + 1, y :: l, h, h1, h2 => by
   have e := h1 0 (by simp) (by omega)
   simp only [List.getElem_cons_zero] at e
   unfold insC
   rw [if_pos e, insC_at k l (by simpa using h) (fun j hj hjk => h1 (j + 1) (by simpa using hj) (by omega)) (fun hk => h2 (by simpa using hk))]
   rfl
theorem foldl_take3 {α β : Type} (f : β -> α -> β) (a : β) {l : List α} {j : Nat} (h : j < l.length) {x : α} (hx : l[j] = x) : (l.take (j + 1)).foldl f a = f ((l.take j).foldl f a) x := by
 rw [foldl_take2 f a h, hx]
theorem appendOk_k {l : List Nat} {x : Nat} (h : l.length <= 90000) : z_f 1 8 (l.map encK) [[.int .i64 (x : Int)]] :=
 appendOk_kk (fun e he => kk_sub he) (fun e he => kk_one he) (by rw [List.length_map, List.length_singleton]; omega)
theorem f41 (g : Glob) (s : Int) (hs : Small g) : Impl Tryz.prog 41 [.ag (encG g), .one (.int .i64 s)] (.one (.one (.ow 1 ((outN g.edges s).map encK)))) := by
 have hel := hs.edges
 unfold outN
 refine impl_v ?_
 refine wX encG.eq_1 ?_
 refine z_k (fun n e => ∃ (k : Nat) (A : List Nat), k + n = g.edges.length /\ (List.range k).filter (isFrom g.edges s) = A /\ e = [(6, .sv (.one (.int .i64 k))), (5, .sv (.one (.ow 1 (A.map encK)))), (4, .sv (.one .nil)), (2, .sv (.one (.bx (encG g)))), (1, .sv (.one (.int .i64 s)))]) g.edges.length _ ⟨0, [], by simp, by simp, rfl⟩ (by simp [go_sem, encG]) ?_
 rintro n e ⟨k, A, hk, hA, rfl⟩
 by_cases hlt : k < g.edges.length
 ·obtain ⟨x, hx⟩ : ∃ x, g.edges[k] = x := ⟨_, rfl⟩
  have hst := filter_range_succ (isFrom g.edges s) k
  have hAl : A.length <= k := by
   rw [<- hA]
   have := List.length_filter_le (isFrom g.edges s) (List.range k)
   rwa [List.length_range] at this
  have hap := appendOk_k (l := A) (x := k) (by omega)
  have hf0 : isFrom g.edges s k = (x.from_ == s) := by
   unfold isFrom
   rw [List.getD_eq_getElem?_getD, List.getElem?_eq_getElem hlt, hx]
   rfl
  rw [hA, hf0] at hst
  by_cases hf : x.from_ = s
  ·have hb : (x.from_ == s) = true := by simpa using hf
   rw [if_pos hb] at hst
   refine wX (aN hlt <| aN hx <| aN hf <| aN encG.eq_1 <| aN encEd.eq_1 hap) ?_
   refine z_j (n - 1) _ (by omega) ⟨k + 1, A ++ [k], by omega, hst, rfl⟩ ?_
   simp [go_sem, encG, encK]
  ·have hb : ¬ (x.from_ == s) = true := by simpa using hf
   rw [if_neg hb] at hst
   refine wX (aN hlt <| aN hx <| aN hf <| aN encG.eq_1 encEd.eq_1) ?_
   refine z_j (n - 1) _ (by omega) ⟨k + 1, A, by omega, hst, rfl⟩ ?_
   simp [go_sem, encG]
 ·have hke : k = g.edges.length := by omega
  rw [hke] at hA
  refine wX (aN hlt encG.eq_1) ?_
  simp [go_sem, hA]
theorem f60 (g : Glob) (s : Int) (hs : Small g) : Impl Tryz.prog 60 [.ag (encG g), .one (.int .i64 s)] (.one (.one (.ow 1 ((sortN g.edges s).map encK)))) := by
 have hel := hs.edges
 have k41 := f41 g s hs
 have hOl := outN_len g.edges s
 have hOm := outN_lt (es := g.edges) (s := s)
 unfold sortN
 obtain ⟨O, hO⟩ : ∃ O, outN g.edges s = O := ⟨_, rfl⟩
 rw [hO] at k41 hOl hOm ⊢
 unfold insL
 simp only [encG] at k41
 refine impl_v ?_
 refine z_l [(4, .sv (.one .nil)), (2, .sv (.one (.bx (encG g)))), (1, .sv (.one (.int .i64 s)))] ?_ ?_
 ·refine wX encG.eq_1 ?_
  refine z_m ?_
  simp [go_sem, encG]
 refine z_l [(5, .sv (.one (.ow 1 (([] : List Nat).map encK)))), (4, .sv (.one .nil)), (2, .sv (.one (.bx (encG g)))), (1, .sv (.one (.int .i64 s)))] ?_ ?_
 ·refine wN ?_
  refine z_m ?_
  simp [go_sem, encG]
 refine z_l [(6, .sv (.one (.ow 1 (O.map encK)))), (5, .sv (.one (.ow 1 (([] : List Nat).map encK)))), (4, .sv (.one .nil)), (2, .sv (.one (.bx (encG g))))] ?_ ?_
 ·refine wV encG.eq_1 k41 ?_
  refine z_m ?_
  simp [go_sem, encG]
 refine wN ?_
 refine z_k (fun n e => ∃ (i : Nat) (A : List Nat), i + n = O.length /\ (O.take i).foldl (insC (cfN g.edges)) [] = A /\ e = [(7, .sv (.one (.int .i64 i))), (6, .sv (.one (.ow 1 (O.map encK)))), (5, .sv (.one (.ow 1 (A.map encK)))), (4, .sv (.one .nil)), (2, .sv (.one (.bx (encG g))))]) O.length _ ⟨0, [], by simp, rfl, rfl⟩ (by simp [go_sem, encG]) ?_
 rintro n e ⟨i, A, hi, hA, rfl⟩
 have hperm := insF_perm (cfN g.edges) (O.take i) []
 rw [hA, List.append_nil] at hperm
 have hAl : A.length <= i := by
  rw [hperm.length_eq, List.length_take]
  omega
 have hAm : ∀ j (h : j < A.length), A[j] < g.edges.length := fun j h => hOm _ (List.mem_of_mem_take (hperm.mem_iff.1 (List.getElem_mem h)))
 by_cases hlt : i < O.length
 rotate_left
 ·have hie : O.take i = O := List.take_of_length_le (by omega)
  rw [hie] at hA
  rw [hA]
  refine wX hlt ?_
  simp [go_sem]
 obtain ⟨x, hx⟩ : ∃ x, O[i] = x := ⟨_, rfl⟩
 have hxl : x < g.edges.length := hx ▸ hOm _ (List.getElem_mem hlt)
 obtain ⟨ex, hex⟩ : ∃ y, g.edges[x] = y := ⟨_, rfl⟩
 have hst := foldl_take3 (insC (cfN g.edges)) [] hlt hx
 rw [hA] at hst
 refine wX (aN hlt <| aN hx <| aN encG.eq_1 encK.eq_1) ?_
 refine z_k (fun q e => ∃ k : Nat, k + q = A.length /\ (∀ j (h : j < A.length), j < k -> cfN g.edges A[j] x < 0) /\ e = [(8, .sv (.one (.int .i64 k))), (7, .sv (.one (.int .i64 i))), (6, .sv (.one (.ow 1 (O.map encK)))), (5, .sv (.one (.ow 1 (A.map encK)))), (4, .sv (.one .nil)), (2, .sv (.one (.bx (encG g))))]) A.length _ ⟨0, by simp, by simp, rfl⟩ (by simp [go_sem, encG, encK]) ?_
 rintro q e ⟨k, hk, hbef, rfl⟩
 by_cases hkl : k < A.length
 ·obtain ⟨y, hy⟩ : ∃ y, A[k] = y := ⟨_, rfl⟩
  have hyl : y < g.edges.length := hy ▸ hAm k hkl
  obtain ⟨ey, hey⟩ : ∃ z, g.edges[y] = z := ⟨_, rfl⟩
  have k94 := f94 ey.act ex.act
  have hcf : cfN g.edges y x = ordI ey.act ex.act := by
   unfold cfN ordX
   rw [List.getD_eq_getElem?_getD, List.getD_eq_getElem?_getD, List.getElem?_eq_getElem hyl, List.getElem?_eq_getElem hxl, hex, hey]
   rfl
  rw [<- hcf] at k94
  simp only [encI] at k94
  by_cases hc : cfN g.edges y x < 0
  ·rw [decide_eq_true hc] at k94
   refine wV (aN hkl <| aN hy <| aN hlt <| aN hx <| aN hxl <| aN hyl <| aN hex <| aN hey <| aN encG.eq_1 <| aN encK.eq_1 encEd.eq_1) k94 ?_
   refine z_j (q - 1) _ (by omega) ⟨k + 1, by omega, ?_, rfl⟩ ?_
   ·intro j h hj
    by_cases e : j = k
    ·subst e
     rw [hy]
     exact hc
    ·exact hbef j h (by omega)
   ·simp [go_sem, encG, encK]
  ·rw [decide_eq_false hc] at k94
   have hins := insC_at k A (by omega) hbef fun _ => by rw [hy]; exact hc
   rw [hins] at hst
   have hfin : (A.map encK).take k ++ ([.int .i64 (x : Int)] :: ((A.map encK).drop k).take (A.length - k)) = (A.take k ++ x :: A.drop k).map encK := by
    have e : ((A.map encK).drop k).take (A.length - k) = (A.map encK).drop k := List.take_of_length_le (by simp)
    rw [e]
    simp [encK]
   repeat' first | refine St.go ?_ | ((with_reducible refine cn ?_ ?_) <;> intro h <;> (try simp at h) <;> try omega) | (refine Ru.go ?_; intro K hK; simp [go_sem, hkl, hy, hlt, hx, hxl, hyl, hex, hey, encG, encK, encEd]; (try simp (disch := omega) only [wx, z_i]); (first | apply hK | ((first | ((try refine .inl ?_); refine ⟨_, by (try intro hc); (repeat' first | exact k94 | exact hc | refine And.intro ?_ ?_ | simp [go_sem, hkl, hy, hlt, hx, hxl, hyl, hex, hey, encG, encK, encEd]); first | done | omega, ?_⟩) | refine .inr (.inl ⟨_, by (try intro hc); (repeat' first | exact k94 | exact hc | refine And.intro ?_ ?_ | simp [go_sem, hkl, hy, hlt, hx, hxl, hyl, hex, hey, encG, encK, encEd]); first | done | omega, ?_⟩) | refine .inr (.inr ⟨_, by (try intro hc); (repeat' first | exact k94 | exact hc | refine And.intro ?_ ?_ | simp [go_sem, hkl, hy, hlt, hx, hxl, hyl, hex, hey, encG, encK, encEd]); first | done | omega, ?_⟩)); first | apply hK | (refine ⟨by simp [go_sem, hkl, hy, hlt, hx, hxl, hyl, hex, hey, encG, encK, encEd], ?_⟩; first | apply hK | refine ⟨by simp [go_sem, hkl, hy, hlt, hx, hxl, hyl, hex, hey, encG, encK, encEd], hK _ _ ?_⟩)) | refine ⟨.one (.one (.bool false)), by simp [go_sem, hkl, hy, hlt, hx, hxl, hyl, hex, hey, encG, encK, encEd], hK _ _ ?_⟩ | refine ⟨by first | omega | (simp [z_f, z_g, hkl, hy, hlt, hx, hxl, hyl, hex, hey, encG, encK, encEd, maxLen, DV.flat, encK]; first | done | omega), ?_⟩ | refine ⟨hK _ ?_, fun h => ?_⟩ | refine ⟨?_, ?_⟩); all_goals ((try apply hK); clear hK K))
   all_goals first
    | refine appendOk_kk (fun e he => absurd he (by simp)) (fun e he => kk_sub (List.mem_of_mem_take he)) (by simp; omega)
    | refine appendOk_kk (fun e he => ?_) (fun e he => kk_sub (List.mem_of_mem_drop (List.mem_of_mem_take he))) (by simp; omega)
      rcases List.mem_append.1 he with he | he
      ·exact kk_sub (List.mem_of_mem_take he)
      ·exact kk_one he
    | refine z_j (n - 1) _ (by omega) ⟨i + 1, A.take k ++ x :: A.drop k, by omega, hst, rfl⟩ ?_
      rw [<- hfin]
      simp [go_sem, encG, encK]
 ·have hins := insC_at k A (by omega) hbef fun h => absurd h hkl
  rw [hins] at hst
  have hfin : (A.map encK).take k ++ ([.int .i64 (x : Int)] :: ((A.map encK).drop k).take (A.length - k)) = (A.take k ++ x :: A.drop k).map encK := by
   have e : ((A.map encK).drop k).take (A.length - k) = (A.map encK).drop k := List.take_of_length_le (by simp)
   rw [e]
   simp [encK]
  repeat' first | refine St.go ?_ | ((with_reducible refine cn ?_ ?_) <;> intro h <;> (try simp at h) <;> try omega) | (refine Ru.go ?_; intro K hK; simp [go_sem, hkl, hlt, hx, hxl, hex, encG, encK, encEd]; (try simp (disch := omega) only [wx, z_i]); (first | apply hK | refine ⟨by first | omega | (simp [z_f, z_g, hkl, hlt, hx, hxl, hex, encG, encK, encEd, maxLen, DV.flat, encK]; first | done | omega), ?_⟩ | refine ⟨hK _ ?_, fun h => ?_⟩ | refine ⟨?_, ?_⟩); all_goals ((try apply hK); clear hK K))
  all_goals first
   | refine appendOk_kk (fun e he => absurd he (by simp)) (fun e he => kk_sub (List.mem_of_mem_take he)) (by simp; omega)
   | refine appendOk_kk (fun e he => ?_) (fun e he => kk_sub (List.mem_of_mem_drop (List.mem_of_mem_take he))) (by simp; omega)
     rcases List.mem_append.1 he with he | he
     ·exact kk_sub (List.mem_of_mem_take he)
     ·exact kk_one he
   | refine z_j (n - 1) _ (by omega) ⟨i + 1, A.take k ++ x :: A.drop k, by omega, hst, rfl⟩ ?_
     rw [<- hfin]
     simp [go_sem, encG, encK]
set_option maxHeartbeats 64000000
def pathD : List Inter -> DV
 | [] => .nil
 | x :: l => .sl ((x :: l).map encI)
def encPl (v : Vs) : List DV := [.int .i64 v.st, .int .i64 v.bl, .int .i64 v.sn, pathD v.path]
@[go_sem] theorem pathD_flat (p : List Inter) : (pathD p).flat = true := by cases p <;> rfl
@[go_sem] theorem pathD_frz (p : List Inter) : (pathD p).frz = pathD p := by cases p <;> rfl
theorem pathD_cases (p : List Inter) : pathD p = .nil \/ ∃ L, pathD p = .sl L := by
 cases p
 ·exact .inl rfl
 ·exact .inr ⟨_, rfl⟩
theorem pathD_snoc (p : List Inter) (x : Inter) : pathD (p ++ [x]) = .sl ((p ++ [x]).map encI) := by cases p <;> rfl
theorem shl6 {s : Nat} (h : s <= 100000000) : IntKind.i64.wrap ((s : Int) * 2 ^ min (Int.toNat 6) IntKind.i64.bits) = ((s * 64 : Nat) : Int) := by
 have : ((s : Int) * 2 ^ min (Int.toNat 6) IntKind.i64.bits) = ((s * 64 : Nat) : Int) := by
  rw [show min (Int.toNat 6) IntKind.i64.bits = 6 from rfl]
  push_cast
  rfl
 rw [this]
 exact z_h (by omega) (by omega)
theorem orA {s b : Nat} (hs : s <= 100000000) (h : b < 64) : IntKind.i64.wrap (((BitVec.ofInt IntKind.i64.bits ((s * 64 : Nat) : Int) ||| BitVec.ofInt IntKind.i64.bits (b : Int)).toNat : Nat) : Int) = ((s * 64 + b : Nat) : Int) := by
 have e : (BitVec.ofInt IntKind.i64.bits ((s * 64 : Nat) : Int) ||| BitVec.ofInt IntKind.i64.bits (b : Int)).toNat = s * 64 + b := by
  rw [BitVec.ofInt_natCast, BitVec.ofInt_natCast, BitVec.toNat_or, BitVec.toNat_ofNat, BitVec.toNat_ofNat]
  rw [Nat.mod_eq_of_lt (show s * 64 < 2 ^ IntKind.i64.bits by rw [show IntKind.i64.bits = 64 from rfl]; omega), Nat.mod_eq_of_lt (show b < 2 ^ IntKind.i64.bits by rw [show IntKind.i64.bits = 64 from rfl]; omega)]
  rw [Nat.mul_comm, show 64 = 2 ^ 6 from rfl, <- Nat.two_pow_add_eq_or_of_lt (by omega)]
 rw [e]
 exact z_h (by omega) (by omega)
theorem f59 (v : Vs) (h0 : 0 <= v.st) (h1 : v.st < 1000) (hb : v.bl < 64) (hs : v.sn < 64) : Impl Tryz.prog 59 [.ag (encPl v)] (.one (.one (.int .i64 (codeV v)))) := by
 obtain ⟨s, hst⟩ : ∃ s : Nat, v.st = s := ⟨v.st.toNat, by omega⟩
 have hsl : s < 1000 := by omega
 have g1 := shl6 (s := s) (by omega)
 have g2 := orA (s := s) (b := v.bl) (by omega) hb
 have g3 := shl6 (s := s * 64 + v.bl) (by omega)
 have g4 := orA (s := s * 64 + v.bl) (b := v.sn) (by omega) hs
 have hc : codeV v = (s * 64 + v.bl) * 64 + v.sn := by
  unfold codeV
  rw [hst, Int.toNat_natCast]
 rw [hc]
 simp [go_sem] at g1 g2 g3 g4
 unfold encPl
 refine impl_v ?_
 rcases pathD_cases v.path with hd | ⟨L, hd⟩
 ·rw [hd]
  repeat' first
  | with_reducible first | refine z_A ?_ | refine z_B ?_ | refine z_C ?_ | refine z_D ?_ | refine z_E ?_ | refine z_F ?_ | refine z_G ?_ | refine z_H ?_ | refine z_I ?_ | refine z_J ?_ | refine z_K ?_ | refine z_L ?_ | refine z_M ?_ | refine z_N ?_ | refine z_O ?_ | refine z_P ?_ | refine z_Q (by decide) ?_ | refine z_R ?_ | refine z_S ?_ | refine z_T ?_ | refine z_U ?_ | refine z_V ?_ | refine z_W ?_ | refine z_X ?_ | refine cutQ_ret ?_ | refine cutQ_exit ?_
    | ((with_reducible refine z_Y (t := ?_) ?hc (fun h => ?_) (fun h => ?_)); (case hc => rfl); all_goals (try simp [go_sem, hst, g1, g2, g3, g4] at h); all_goals try omega)
    | ((with_reducible first | refine z_Z fun K hK => ?_ | refine z_a fun K hK => ?_ | refine z_b fun K hK => ?_ | refine z_c fun K hK => ?_ | refine z_d fun K hK => ?_ | refine z_e fun K hK => ?_); simp [go_sem, hst, g1, g2, g3, g4]; (try simp (disch := omega) only [z_h, z_i, eq_self, true_and]); (first | refine hK _ ?_ | refine hK _ _ ?_ | refine ⟨by (first | (simp [z_f, z_g, hst, g1, g2, g3, g4]; done) | (simp [z_f, z_g, hst, g1, g2, g3, g4]; omega)), hK _ ?_⟩ | refine ⟨hK _ ?_, fun h => hK _ ?_⟩ | refine ⟨by omega, hK _ ?_⟩ | refine ⟨by omega, hK _ _ ?_⟩ | refine ⟨?_, hK _ ?_⟩ | refine ⟨?_, hK _ _ ?_⟩); all_goals clear hK K)
  simp [go_sem]
 ·rw [hd]
  repeat' first
  | with_reducible first | refine z_A ?_ | refine z_B ?_ | refine z_C ?_ | refine z_D ?_ | refine z_E ?_ | refine z_F ?_ | refine z_G ?_ | refine z_H ?_ | refine z_I ?_ | refine z_J ?_ | refine z_K ?_ | refine z_L ?_ | refine z_M ?_ | refine z_N ?_ | refine z_O ?_ | refine z_P ?_ | refine z_Q (by decide) ?_ | refine z_R ?_ | refine z_S ?_ | refine z_T ?_ | refine z_U ?_ | refine z_V ?_ | refine z_W ?_ | refine z_X ?_ | refine cutQ_ret ?_ | refine cutQ_exit ?_
    | ((with_reducible refine z_Y (t := ?_) ?hc (fun h => ?_) (fun h => ?_)); (case hc => rfl); all_goals (try simp [go_sem, hst, g1, g2, g3, g4] at h); all_goals try omega)
    | ((with_reducible first | refine z_Z fun K hK => ?_ | refine z_a fun K hK => ?_ | refine z_b fun K hK => ?_ | refine z_c fun K hK => ?_ | refine z_d fun K hK => ?_ | refine z_e fun K hK => ?_); simp [go_sem, hst, g1, g2, g3, g4]; (try simp (disch := omega) only [z_h, z_i, eq_self, true_and]); (first | refine hK _ ?_ | refine hK _ _ ?_ | refine ⟨by (first | (simp [z_f, z_g, hst, g1, g2, g3, g4]; done) | (simp [z_f, z_g, hst, g1, g2, g3, g4]; omega)), hK _ ?_⟩ | refine ⟨hK _ ?_, fun h => hK _ ?_⟩ | refine ⟨by omega, hK _ ?_⟩ | refine ⟨by omega, hK _ _ ?_⟩ | refine ⟨?_, hK _ ?_⟩ | refine ⟨?_, hK _ _ ?_⟩); all_goals clear hK K)
  simp [go_sem]
set_option maxHeartbeats 64000000
def encRw (x : Msg × Value) : List DV := [.int .i64 x.1.peer, .int .i64 x.1.label, .raw x.2]
def sameR (x y : Msg × Value) : Bool := y.1.peer == x.1.peer && y.1.label == x.1.label
def noteR (l : List (Msg × Value)) (x : Msg × Value) : List (Msg × Value) := if l.any (sameR x) then l else l ++ [x]
theorem closed_rw (l : List (Msg × Value)) : Closed (.ow 3 (l.map encRw)) := by
 refine .ow _ _ fun e he d hd => ?_
 obtain ⟨x, _, rfl⟩ := List.mem_map.1 he
 simp only [encRw, List.mem_cons, List.not_mem_nil, or_false] at hd
 rcases hd with rfl | rfl | rfl
 ·exact .int _ _
 ·exact .int _ _
 ·exact .raw _
theorem appendOk_rw {l : List (Msg × Value)} {x : Msg × Value} (h : l.length <= 900000000) : z_f 3 40 (l.map encRw) [encRw x] := by
 refine ⟨?_, ?_, by omega, ?_, ?_⟩
 ·intro e he; rw [List.mem_singleton.1 he]; rfl
 ·intro e he; rw [List.mem_singleton.1 he]; rfl
 ·simp only [List.length_map, List.length_singleton, maxLen]; omega
 ·simp only [List.length_map, List.length_singleton]; omega
theorem f61r (l : List (Msg × Value)) (x : Msg × Value) (hl : l.length <= 900000000) : ImplC Tryz.prog 61 (.ow 3 (l.map encRw)) [.ag (encRw x)] (.ow 3 ((noteR l x).map encRw)) := by
 obtain ⟨m, hv⟩ := x
 refine implC_intro z61.f z61.b rfl z61.r z61.n z61.t z61.d (closed_rw _) (by simp) ?_
 simp only [slotsOf]
 conv => arg 2; reduce
 refine z_l [(4, .sv (.one .nil)), (3, .sv (.one (.bx (encRw (m, hv))))), (0, .sv (.one (.ow 3 (l.map encRw))))] ?_ ?_
 ·refine wX encRw.eq_1 ?_
  refine z_m ?_
  simp [go_sem, encRw]
 refine wN ?_
 refine z_k (fun n e => ∃ k : Nat, k + n = l.length /\ (l.take k).any (sameR (m, hv)) = false /\ e = [(5, .sv (.one (.int .i64 k))), (4, .sv (.one .nil)), (3, .sv (.one (.bx (encRw (m, hv))))), (0, .sv (.one (.ow 3 (l.map encRw))))]) l.length _ ⟨0, by simp, by simp, rfl⟩ (by simp [go_sem, encRw]) ?_
 rintro n e ⟨k, hk, h0, rfl⟩
 by_cases hlt : k < l.length
 ·obtain ⟨y, hy⟩ : ∃ y, l[k] = y := ⟨_, rfl⟩
  have hst := any_succ (p := sameR (m, hv)) hlt
  rw [hy, h0, Bool.false_or] at hst
  cases hs : sameR (m, hv) y with
  | true =>
    have hn : noteR l (m, hv) = l := by
     unfold noteR
     rw [if_pos (List.any_eq_true.2 ⟨y, hy ▸ List.getElem_mem hlt, hs⟩)]
    rw [hn]
    unfold sameR at hs
    dsimp only at hs
    have hs2 : (y.1.peer == m.peer) = true /\ (y.1.label == m.label) = true := by simpa using hs
    have e1 : y.1.peer = m.peer := by simpa using hs2.1
    have e2 : y.1.label = m.label := by simpa using hs2.2
    refine wX (aN hlt <| aN hy <| aN encRw.eq_1 <| aN e1 e2) ?_
    simp [go_sem]
  | false =>
    rw [hs] at hst
    unfold sameR at hs
    dsimp only at hs
    refine wX (aN hlt <| aN hy <| aN encRw.eq_1 hs) ?_
    refine z_j (n - 1) _ (by omega) ⟨k + 1, by omega, hst, rfl⟩ ?_
    simp [go_sem, encRw]
 ·have hkl : l.take k = l := List.take_of_length_le (by omega)
  rw [hkl] at h0
  have hn : noteR l (m, hv) = l ++ [(m, hv)] := by
   unfold noteR
   rw [h0]
   rfl
  rw [hn]
  have hap := appendOk_rw (l := l) (x := (m, hv)) hl
  simp only [encRw] at hap
  refine wX (aN hlt <| aN encRw.eq_1 hap) ?_
  simp [go_sem, encRw]
def RelF (w : World) (S : Nat -> Prop) : List (Msg × Value) -> List Fnd -> Prop
 | [], [] => True
 | z :: zs, f :: fs => (z.1 = msgF f /\ Cz w S z.2 (.sl (f.path.map encI)) []) /\ RelF w S zs fs
 | _, _ => False
theorem relF_len {w : World} {S : Nat -> Prop} : ∀ {zs : List (Msg × Value)} {fs : List Fnd}, RelF w S zs fs -> zs.length = fs.length
 | [], [], _ => rfl
 | _ :: _, _ :: _, h => by simp [relF_len h.2]
theorem relF_up {w : World} {S : Nat -> Prop} : ∀ {zs : List (Msg × Value)} {fs : List Fnd} {vs : List Value} {rs : List Nat}, RelF w S zs fs -> CzL w S vs (zs.map encRw).flatten rs -> CzL w S vs (fs.map encFd).flatten rs
 | [], [], _, _, _, hc => hc
 | z :: zs, f :: fs, vs, rs, h, hc => by
   simp only [List.map_cons, List.flatten_cons, encRw, encFd, List.cons_append, List.nil_append] at hc ⊢
   have h1 := h.1.1
   cases hc with
   | cons v1 x1 q1 vs1 xs1 rs1 a1 b1 =>
     cases b1 with
     | cons v2 x2 q2 vs2 xs2 rs2 a2 b2 =>
       cases b2 with
       | cons v3 x3 q3 vs3 xs3 rs3 a3 b3 =>
         cases a3
         rw [h1] at a1 a2
         exact .cons _ _ _ _ _ _ a1 (.cons _ _ _ _ _ _ a2 (.cons _ _ _ _ _ _ h.1.2 (relF_up h.2 b3)))
theorem relF_down {w : World} {S : Nat -> Prop} : ∀ {fs : List Fnd} {vs : List Value} {rs : List Nat}, CzL w S vs (fs.map encFd).flatten rs -> ∃ zs, RelF w S zs fs /\ CzL w S vs (zs.map encRw).flatten rs
 | [], _, _, hc => ⟨[], trivial, hc⟩
 | f :: fs, vs, rs, hc => by
   simp only [List.map_cons, List.flatten_cons, encFd, List.cons_append, List.nil_append] at hc
   cases hc with
   | cons v1 x1 q1 vs1 xs1 rs1 a1 b1 =>
     cases b1 with
     | cons v2 x2 q2 vs2 xs2 rs2 a2 b2 =>
       cases b2 with
       | cons v3 x3 q3 vs3 xs3 rs3 a3 b3 =>
         obtain ⟨zs, g1, g2⟩ := relF_down b3
         have h3 : q3 = [] := by
          generalize f.path.map encI = L at a3
          cases a3 <;> rfl
         subst h3
         refine ⟨(msgF f, v3) :: zs, ⟨⟨rfl, a3⟩, g1⟩, ?_⟩
         simp only [List.map_cons, List.flatten_cons, encRw, List.cons_append, List.nil_append]
         exact .cons _ _ _ _ _ _ a1 (.cons _ _ _ _ _ _ a2 (.cons _ _ _ _ _ _ (.raw _ a3.one) g2))
theorem relF_keep {w w' : World} {S : Nat -> Prop} (hS : ∀ b, S b -> w'.heap[b]? = w.heap[b]?) : ∀ {zs : List (Msg × Value)} {fs : List Fnd}, RelF w S zs fs -> RelF w' S zs fs
 | [], [], _ => trivial
 | _ :: _, _ :: _, h => ⟨⟨h.1.1, h.1.2.keep (fun b hb => ⟨hb, hS b hb⟩) (by simp)⟩, relF_keep hS h.2⟩
theorem relF_snoc {w : World} {S : Nat -> Prop} {z : Msg × Value} {f : Fnd} (h : z.1 = msgF f /\ Cz w S z.2 (.sl (f.path.map encI)) []) : ∀ {zs : List (Msg × Value)} {fs : List Fnd}, RelF w S zs fs -> RelF w S (zs ++ [z]) (fs ++ [f])
 | [], [], _ => ⟨h, trivial⟩
 | _ :: _, _ :: _, hr => ⟨hr.1, relF_snoc h hr.2⟩
theorem relF_any {w : World} {S : Nat -> Prop} {f : Fnd} {v : Value} : ∀ {zs : List (Msg × Value)} {fs : List Fnd}, RelF w S zs fs -> zs.any (sameR (msgF f, v)) = fs.any (sameM f)
 | [], [], _ => rfl
 | z :: zs, g :: fs, h => by
   have h1 := h.1.1
   rw [List.any_cons, List.any_cons, relF_any h.2]
   congr 1
   unfold sameR sameM
   rw [h1, Bool.eq_iff_iff]
   simp only [msgF, Bool.and_eq_true, beq_iff_eq]
   constructor <;> rintro ⟨a, b⟩ <;> exact ⟨a.symm, b.symm⟩
theorem cz_up {w : World} {S : Nat -> Prop} {zs : List (Msg × Value)} {fs : List Fnd} (h : RelF w S zs fs) {v : Value} {rs : List Nat} (hc : Cz w S v (.ow 3 (zs.map encRw)) rs) : Cz w S v (.ow 3 (fs.map encFd)) rs := by
 have hl := relF_len h
 generalize hE : zs.map encRw = E at hc
 cases hc with
 | owNil z =>
   have : fs = [] := by
    have : zs.length = 0 := by simpa using congrArg List.length hE
    exact List.length_eq_zero_iff.1 (by omega)
   subst this
   exact .owNil 3
 | ow b off n c z els T cs rs h1 h2 h3 h4 h5 h6 h7 =>
   subst hE
   refine .ow b off n c 3 _ T cs _ h1 (by simpa [hl] using h2) h3 h4 h5 ?_ (relF_up h h7)
   intro e he
   obtain ⟨x, _, rfl⟩ := List.mem_map.1 he
   rfl
theorem cz_down {w : World} {S : Nat -> Prop} {fs : List Fnd} {v : Value} {rs : List Nat} (hc : Cz w S v (.ow 3 (fs.map encFd)) rs) : ∃ zs, RelF w S zs fs /\ Cz w S v (.ow 3 (zs.map encRw)) rs := by
 generalize hE : fs.map encFd = E at hc
 cases hc with
 | owNil z =>
   have : fs = [] := by simpa using hE
   subst this
   exact ⟨[], trivial, .owNil 3⟩
 | ow b off n c z els T cs rs h1 h2 h3 h4 h5 h6 h7 =>
   subst hE
   obtain ⟨zs, g1, g2⟩ := relF_down h7
   refine ⟨zs, g1, .ow b off n c 3 _ T cs _ h1 (by simpa [relF_len g1] using h2) h3 h4 h5 ?_ g2⟩
   intro e he
   obtain ⟨x, _, rfl⟩ := List.mem_map.1 he
   rfl
theorem f61 (F : List Fnd) (f : Fnd) (hl : F.length <= 900000000) : ImplC Tryz.prog 61 (.ow 3 (F.map encFd)) [.ag (encFd f)] (.ow 3 ((noteF F f).map encFd)) := by
 refine ⟨(f61r [] (⟨0, 0⟩, .bool true) (by simp)).body, fun w S v0 vs r0 B hS hr0 hnd hB hcz hargs => ?_⟩
 obtain ⟨zs, hz, hcz'⟩ := cz_down hcz
 generalize hr1 : ([] : List Nat) = r1 at hargs
 cases hargs with
 | cons v x r vs' xs rs h1 h2 =>
   cases h2
   have hr : r = [] := by simpa using hr1.symm
   subst hr
   cases h1 with
   | ag a l r' ha =>
     have hda := relF_down (fs := [f]) (by simpa using ha)
     obtain ⟨z1, g1, g2⟩ := hda
     cases z1 with
     | nil => exact g1.elim
     | cons z z2 =>
       cases z2 with
       | cons _ _ => exact g1.2.elim
       | nil =>
         have hzl := relF_len hz
         refine ((f61r zs z (by omega)).call w S v0 [.agg a] r0 B hS hr0 hnd hB hcz' ?_).mono ?_
         ·have := CzSL.cons _ _ _ _ _ _ (CzS.ag (w := w) (S := S) a (encRw z) [] (by simpa using g2)) .nil
          simpa using this
         ·rintro e w' ⟨v, rs, rfl, e1, e2, e3, e4, e5⟩
          refine ⟨v, rs, rfl, e1, e2, e3, e4, ?_⟩
          have hk : ∀ b, S b -> w'.heap[b]? = w.heap[b]? := fun b hb => e2 b (hS b hb) fun hr => (hr0 b hr).2.2 hb
          have hz' := relF_keep hk hz
          have hg' := (relF_keep hk (zs := [z]) (fs := [f]) g1).1
          refine cz_up ?_ e5
          have hany := relF_any (f := f) (v := z.2) hz
          have hze : (msgF f, z.2) = z := by rw [<- g1.1.1]
          rw [hze] at hany
          unfold noteR noteF
          rw [hany]
          split
          ·exact hz'
          ·exact relF_snoc hg' hz'
end Go.Av
set_option linter.unusedVariables false
namespace Go.Av
open Go Go.RowKit Go.Proofs
theorem valid_parts {g : Glob} (h : valid29 g = true) : named g = true /\ numbered g = true /\ orderedB g true = true := by
 unfold valid29 at h
 simp only [Bool.and_eq_true] at h
 exact ⟨h.1.1.1.1.1.1, h.1.1.1.1.1.2, h.1.1.1.2⟩
theorem named_six {g : Glob} (h : named g = true) : g.roles.length <= 6 := by
 unfold named at h
 simp only [Bool.and_eq_true, decide_eq_true_eq] at h
 omega
theorem edB_of {g : Glob} (h : valid29 g = true) : EdB g := by
 obtain ⟨h1, h2, h3⟩ := valid_parts h
 have h6 := named_six h1
 obtain ⟨n1, n2, n3, n4, n5, n6, n7⟩ := numbered_facts h2
 refine ⟨n2, fun x hx => ?_⟩
 have h7 := n7 x hx
 have h8 := okEdge_facts h7
 simp only [okEdge, Bool.and_eq_true, decide_eq_true_eq] at h7
 omega
def outI (g : Glob) (s : Int) : List Edg := g.edges.filter fun x => x.from_ == s
def wordV (g : Glob) : List Int -> Int -> List Inter
 | [], _ => []
 | c :: cs, s => match outI g s with
   | [] => []
   | x :: xs => match (x :: xs)[(c.tmod ((x :: xs).length : Nat)).toNat]? with
     | some y => y.act :: wordV g cs y.to
     | none => []
theorem word_len (g : Glob) : ∀ (cs : List Int) (s : Int), (wordV g cs s).length <= cs.length
 | [], _ => Nat.le_refl _
 | c :: cs, s => by
   unfold wordV
   split
   ·simp
   ·split
    ·simp only [List.length_cons]
     have := word_len g cs
     exact Nat.succ_le_succ (this _)
    ·simp
theorem word_edge (g : Glob) : ∀ (cs : List Int) (s : Int), ∀ a ∈ wordV g cs s, ∃ x ∈ g.edges, x.act = a
 | [], _, a, h => by cases h
 | c :: cs, s, a, h => by
   unfold wordV at h
   split at h
   ·cases h
   ·rename_i x xs hx
    split at h
    ·rename_i y hy
     rcases List.mem_cons.1 h with rfl | h
     ·have hm : y ∈ outI g s := by rw [hx]; exact List.mem_of_getElem? hy
      exact ⟨y, (List.mem_filter.1 hm).1, rfl⟩
     ·exact word_edge g cs _ a h
    ·cases h
def ShortQ (q : List Vs) : Prop := ∀ k (h : k < q.length), q[k].path.length <= k
theorem addV_short {q : List Vs} (hq : ShortQ q) {w : Vs} (hw : w.path.length <= q.length) : ShortQ (addV q w) := by
 unfold addV
 split
 ·exact hq
 ·intro k hk
  rw [List.length_append, List.length_singleton] at hk
  by_cases h : k < q.length
  ·rw [List.getElem_append_left h]
   exact hq k h
  ·have hke : k = q.length := by omega
   subst hke
   rw [List.getElem_append_right (Nat.le_refl _)]
   simpa using hw
theorem addV_len (q : List Vs) (w : Vs) : q.length <= (addV q w).length := by
 unfold addV
 split
 ·exact Nat.le_refl _
 ·simp
theorem noteF_mem {F : List Fnd} {f x : Fnd} (h : x ∈ noteF F f) : x ∈ F \/ x = f := by
 unfold noteF at h
 split at h
 ·exact .inl h
 ·simpa using h
theorem noteF_len (F : List Fnd) (f : Fnd) : (noteF F f).length <= F.length + 1 := by
 unfold noteF
 split
 ·omega
 ·simp
theorem fold_short {g : Glob} (hg : EdB g) {p : Int} {v : Vs} (hv : VsOk g v) : ∀ (xs : List Edg) {s : List Vs × List Fnd}, (∀ x ∈ xs, x ∈ g.edges) -> QOk g s.1 -> v.path.length < s.1.length -> ShortQ s.1 -> (∀ f ∈ s.2, f.path.length <= 819200) ->
  ShortQ (xs.foldl (stepV p v) s).1 /\ (∀ f ∈ (xs.foldl (stepV p v) s).2, f.path.length <= 819200) /\ s.1.length <= (xs.foldl (stepV p v) s).1.length /\ (xs.foldl (stepV p v) s).2.length <= s.2.length + xs.length
 | [], s, _, _, _, h2, h3 => ⟨h2, h3, Nat.le_refl _, by simp⟩
 | x :: xs, s, hx, hq, h1, h2, h3 => by
   have hq1 := stepV_ok (p := p) hg hv hq (hx x (by simp))
   have hl := queue_len hg hq
   have e1 : s.1.length <= (stepV p v s x).1.length := addV_len _ _
   have e2 : ShortQ (stepV p v s x).1 := addV_short h2 (by rw [nxt_len]; omega)
   have e3 : ∀ f ∈ (stepV p v s x).2, f.path.length <= 819200 := by
    intro f hf
    unfold stepV at hf
    dsimp only at hf
    split at hf
    ·rcases noteF_mem hf with h | rfl
     ·exact h3 f h
     ·unfold fndV
      simp only [List.length_append, List.length_singleton]
      omega
    ·exact h3 f hf
   have e4 : (stepV p v s x).2.length <= s.2.length + 1 := by
    unfold stepV
    dsimp only
    split
    ·exact noteF_len _ _
    ·omega
   obtain ⟨g1, g2, g3, g4⟩ := fold_short hg hv xs (s := stepV p v s x) (fun y hy => hx y (by simp [hy])) hq1 (by omega) e2 e3
   rw [List.foldl_cons]
   refine ⟨g1, g2, by omega, ?_⟩
   simp only [List.length_cons]
   omega
theorem bfs_short {g : Glob} (hg : EdB g) (hel : g.edges.length <= 1000) {p : Int} : ∀ (n i : Nat) {s : List Vs × List Fnd}, i <= s.1.length -> QOk g s.1 -> ShortQ s.1 -> (∀ f ∈ s.2, f.path.length <= 819200) -> s.2.length <= 1000 * i ->
  (∀ f ∈ bfsV g p n i s, f.path.length <= 819200) /\ (bfsV g p n i s).length <= 819200000
 | 0, i, s, h0, hq, _, h2, h3 => ⟨h2, by have := queue_len hg hq; unfold bfsV; omega⟩
 | n + 1, i, s, h0, hq, h1, h2, h3 => by
   unfold bfsV
   split
   ·exact ⟨h2, by have := queue_len hg hq; omega⟩
   ·rename_i v hv
    obtain ⟨hi, hvi⟩ := List.getElem?_eq_some_iff.1 hv
    have hvo := hq.ok v (List.mem_of_getElem? hv)
    have hvl : v.path.length <= i := hvi ▸ h1 i hi
    have hxs : ∀ x ∈ outE g v.st, x ∈ g.edges := fun x hx => (outE_mem.1 hx).1
    have hxl : (outE g v.st).length <= g.edges.length := by
     unfold outE
     rw [(insL_perm ordX _).length_eq]
     exact List.length_filter_le _ _
    obtain ⟨g1, g2, g3, g4⟩ := fold_short (p := p) hg hvo (outE g v.st) hxs hq (by omega) h1 h2
    exact bfs_short hg hel n (i + 1) (by omega) (foldV_ok hg hvo _ hxs hq) g1 g2 (by omega)
theorem search_short {g : Glob} (hg : EdB g) (hel : g.edges.length <= 1000) {e : Edg} (he : e ∈ g.edges) : (∀ f ∈ searchV g e, f.path.length <= 819200) /\ (searchV g e).length <= 819200000 := by
 obtain ⟨a1, a2, a3, a4, a5, a6, a7, a8, a9⟩ := hg.edge e he
 have hq0 : QOk g [firstV e] := ⟨fun v hv => by
  rw [List.mem_singleton.1 hv]
  exact ⟨a3, a4, setB_lt (by decide) a7 a8, by simp [firstV]⟩, by simp⟩
 refine bfs_short hg hel _ _ (by simp) hq0 ?_ (by simp) (by simp)
 intro k hk
 simp only [List.length_singleton] at hk
 have : k = 0 := by omega
 subst this
 simp [firstV]
end Go.Av

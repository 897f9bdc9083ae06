/- Part of a proof. -/
import Derived.Test.YtbfebdbdoclagaaGreatDoorF8
import Derived.Deep.Slices
import Derived.OpenShut
import Derived.SizedLaws
import Derived.RowKit
import Derived.ChangeShapes
import Derived.WideShapes
import Derived.ChangeOld
import Derived.Carry
import Derived.ProofKit
set_option linter.unusedVariables false
set_option linter.unusedSimpArgs false
set_option maxHeartbeats 64000000
namespace Go.Av
open Go Go.RowKit Go.Deep
def TyFB (ty : TypeId -> List DV -> Prop) : List Field -> List DV -> Prop
 | [], l => l = []
 | f :: fs, l => ∃ l1 l2, l = l1 ++ l2 /\ ty f.type l1 /\ TyFB ty fs l2
def TyLB (P : Program) : Nat -> TypeId -> List DV -> Prop
 | 0, _, _ => False
 | n + 1, t, l => match P.underlying t with
   | some (.int k) => ∃ m, l = [.int k m] /\ (Lit.int k m).wf = true
   | some .bool => ∃ b, l = [.bool b]
   | some .string => ∃ s, l = [.str s] /\ s.size <= reachBytes
   | some (.slice e) => ∃ els : List (List DV), l = [.sl els] /\ els.length <= reachBytes /\ ∀ el ∈ els, TyLB P n e el
   | some (.struct fs) => TyFB (TyLB P n) fs.toList l
   | some (.array k e) => ∃ els : List (List DV), l = els.flatten /\ els.length = k /\ ∀ el ∈ els, TyLB P n e el
   | _ => False
def packedB (P : Program) : Nat -> List Field -> Option Nat
 | o, [] => some o
 | o, f :: fs => if f.offset = o then packedB P (o + P.cellsOf f.type) fs else none
def tyOkB (P : Program) : Nat -> TypeId -> Bool
 | 0, _ => false
 | n + 1, t => match P.underlying t with
   | some (.int _) => P.cellsOf t == 1
   | some .bool => P.cellsOf t == 1
   | some .string => P.cellsOf t == 1
   | some (.slice e) => (P.cellsOf t == 1 && decide (0 < P.cellsOf e) && decide (0 < P.bytesOf e)) && tyOkB P n e
   | some (.struct fs) => (packedB P 0 fs.toList == some (P.cellsOf t)) && fs.toList.all fun f => tyOkB P n f.type
   | some (.array k e) => P.cellsOf t == k * P.cellsOf e && tyOkB P n e
   | _ => false
section
variable {H : Type} {enc : TypeId × Value -> H} {P : Program} {w : World} {base : Nat} {spare : Nat -> Bool} {held : Bool}
abbrev OldB (w : World) : Nat -> Prop := fun b => b < w.heap.size
theorem cell_ltB {w : World} {a : Addr} {v : Value} (h : w.cell? a = some v) : a.block < w.heap.size := by
 rcases Nat.lt_or_ge a.block w.heap.size with h' | h'
 ·exact h'
 ·simp [World.cell?, Array.getElem?_eq_none h'] at h
theorem CzL.flattenB {S : Nat -> Prop} : ∀ (vss : List (List Value)) (xss : List (List DV)), vss.length = xss.length -> (∀ (i : Nat) (vs : List Value) (xs : List DV), vss[i]? = some vs -> xss[i]? = some xs -> CzL w S vs xs []) -> CzL w S vss.flatten xss.flatten []
 | [], [], _, _ => by simpa using CzL.nil
 | vs :: vss, xs :: xss, hl, h => by
   have h1 := h 0 vs xs rfl rfl
   have h2 := CzL.flattenB vss xss (by simpa using hl) (fun i a b ha hb => h (i + 1) a b ha hb)
   simpa using h1.append h2
 | [], _ :: _, hl, _ => by simp at hl
 | _ :: _, [], hl, _ => by simp at hl
theorem fields_czB {n : Nat} {S : Nat -> Prop} : ∀ (fs : List Field) (o e : Nat) (cs : List Value), packedB P o fs = some e -> cs.length = e -> (∀ f ∈ fs, ∃ l, CzL w S ((cs.drop f.offset).take (P.cellsOf f.type)) l [] /\ TyLB P n f.type l) ->
  ∃ l, CzL w S (cs.drop o) l [] /\ TyFB (TyLB P n) fs l
 | [], o, e, cs, hp, hl, _ => by
   simp only [packedB, Option.some.injEq] at hp
   refine ⟨[], ?_, rfl⟩
   rw [List.drop_eq_nil_of_le (by omega)]
   exact .nil
 | f :: fs, o, e, cs, hp, hl, hf => by
   simp only [packedB] at hp
   split at hp
   ·rename_i ho
    obtain ⟨l1, h1, h2⟩ := hf f (by simp)
    obtain ⟨l2, h3, h4⟩ := fields_czB fs _ e cs hp hl (fun g hg => hf g (by simp [hg]))
    refine ⟨l1 ++ l2, ?_, l1, l2, rfl, h2, h4⟩
    have := h1.append h3
    rw [ho] at this
    have e1 : (cs.drop o).take (P.cellsOf f.type) ++ cs.drop (o + P.cellsOf f.type) = cs.drop o := by
     rw [<- List.drop_drop, List.take_append_drop]
    rw [e1] at this
    simpa using this
   ·cases hp
theorem weightsAll_mem {P : Program} {e : TypeId} {d : DataW H} {k : Nat} : ∀ {ds : List (DataW H)}, d ∈ ds -> k ∈ d.weights P e -> k ∈ DataW.weightsAll P e ds
 | d0 :: ds, hd, hk => by
   simp only [DataW.weightsAll, List.mem_append]
   rcases List.mem_cons.1 hd with rfl | hd
   ·exact .inl hk
   ·exact .inr (weightsAll_mem hd hk)
 | [], hd, _ => by cases hd
theorem trod_czB : ∀ (m : Nat) (t : TypeId), tyOkB P m t = true -> ∀ (fuel : Nat) (cs : List Value) (x : DataW H × List MemPlace), DataW.trod enc P w base spare held fuel t cs = some x -> (∀ k ∈ x.1.weights P t, k <= reachBytes) ->
  cs.length = P.cellsOf t /\ ∃ l, CzL w (OldB w) cs l [] /\ TyLB P m t l
 | 0, t, ho, _, _, _, _, _ => by simp [tyOkB] at ho
 | m + 1, t, ho, fuel, cs, x, h, hwt => by
   unfold tyOkB at ho
   unfold TyLB
   cases hu : P.underlying t with
   | none => rw [hu] at ho; cases ho
   | some d =>
     rw [hu] at ho
     cases d with
     | int k =>
       obtain ⟨n, rfl, _, hw⟩ := DataW.trod_int hu h
       simp only [beq_iff_eq] at ho
       exact ⟨by simp [ho], _, .cons _ _ [] _ _ [] (.int k n) .nil, n, rfl, hw⟩
     | bool =>
       obtain ⟨b, rfl, _⟩ := DataW.trod_bool hu h
       simp only [beq_iff_eq] at ho
       exact ⟨by simp [ho], _, .cons _ _ [] _ _ [] (.bool b) .nil, b, rfl⟩
     | string =>
       obtain ⟨s, rfl, rfl, _⟩ := DataW.trod_string hu h
       simp only [beq_iff_eq] at ho
       exact ⟨by simp [ho], _, .cons _ _ [] _ _ [] (.str s) .nil, s, rfl, by simpa [DataW.weights] using hwt⟩
     | slice e =>
       simp only [Bool.and_eq_true, beq_iff_eq, decide_eq_true_eq] at ho
       rcases open_slice hu h with ⟨rfl, _⟩ | ⟨a, len, cap, q, n, D, Pl, rfl, hb, hl, hm, hq, rfl, hi⟩
       ·exact ⟨by simp [ho.1.1.1], _, .cons _ _ [] _ _ [] (.shNil none 0) .nil, [], rfl, by simp, by simp⟩
       ·refine ⟨by simp [ho.1.1.1], ?_⟩
        have hlen1 : len <= reachBytes := by
         have := hwt ((((List.range len).map D).length + ((List.range (q - len)).map fun j => D (len + j)).length) * P.bytesOf e) (by simp [DataW.weights, hu])
         simp only [List.length_map, List.length_range] at this
         exact Nat.le_trans (Nat.le_trans (by omega) (Nat.le_mul_of_pos_right (len + (q - len)) ho.1.2)) this
        have hwD : ∀ i, i < len -> ∀ k ∈ (D i).weights P e, k <= reachBytes := by
         intro i hil k hk
         refine hwt k ?_
         have : k ∈ DataW.weightsAll P e ((List.range len).map D) := weightsAll_mem (List.mem_map.2 ⟨i, by simpa using hil, rfl⟩) hk
         simp [DataW.weights, hu, this]
        have hlq : len <= q := by rw [hq]; split <;> omega
        have hel : ∀ i, ∃ (vs : List Value) (l : List DV), i < len -> (vs.length = P.cellsOf e /\ (∀ j, j < P.cellsOf e -> w.cell? ((a.add (i * P.cellsOf e)).add j) = vs[j]?) /\ CzL w (OldB w) vs l [] /\ TyLB P m e l) := by
         intro i
         by_cases hil : i < len
         ·obtain ⟨cs', hc, ht'⟩ := hi i (by omega)
          obtain ⟨_, hcl, hat⟩ := World.cells?_some hc
          obtain ⟨_, l, h1, h2⟩ := trod_czB m e ho.2 n cs' _ ht' (hwD i hil)
          exact ⟨cs', l, fun _ => ⟨hcl, hat, h1, h2⟩⟩
         ·exact ⟨[], [], fun h => (hil h).elim⟩
        obtain ⟨V, hV⟩ := Classical.axiomOfChoice hel
        obtain ⟨L, hL⟩ := Classical.axiomOfChoice hV
        have hone : ∀ i, i < len -> (L i).length = P.cellsOf e := by
         intro i hil
         obtain ⟨h1, _, h3, _⟩ := hL i hil
         rw [<- h3.length, h1]
        have hty : ∀ el ∈ (List.range len).map L, TyLB P m e el := by
         intro el hel
         obtain ⟨i, hi', rfl⟩ := List.mem_map.1 hel
         exact (hL i (by simpa using hi')).2.2.2
        by_cases hlen0 : len = 0
        ·subst hlen0
         exact ⟨_, .cons _ _ [] _ _ [] (.shNil (some a) cap) .nil, [], rfl, by simp, by simp⟩
        have hz := ho.1.1.2
        refine ⟨[.sl ((List.range len).map L)], .cons _ _ [] _ _ [] (.sh a len cap (P.cellsOf e) _ ((List.range len).map V).flatten ?_ (by simp) hl hm ?_ ?_ ?_) .nil, _, rfl, by simp; omega, hty⟩
        ·obtain ⟨h1, h2, _⟩ := hL 0 (by omega)
         have h3 := h2 0 (by omega)
         rw [List.getElem?_eq_getElem (by omega)] at h3
         have := cell_ltB h3
         rw [block_of_add, block_of_add] at this
         exact this
        ·intro el hel
         obtain ⟨i, hi', rfl⟩ := List.mem_map.1 hel
         exact hone i (by simpa using hi')
        ·intro j u hu'
         have hvl : ∀ vs ∈ (List.range len).map V, vs.length = P.cellsOf e := by
          intro vs hvs
          obtain ⟨i, hi', rfl⟩ := List.mem_map.1 hvs
          exact (hL i (by simpa using hi')).1
         have hjl : j < len * P.cellsOf e := by
          have := (List.getElem?_eq_some_iff.1 hu').1
          rw [flatten_len hvl] at this
          simpa using this
         have hil : j / P.cellsOf e < len := (Nat.div_lt_iff_lt_mul (by omega)).2 hjl
         have hgi : ((List.range len).map V)[j / P.cellsOf e]? = some (V (j / P.cellsOf e)) := by simp [hil]
         have hat := flatten_at hvl hgi
         have hmod : j % P.cellsOf e < P.cellsOf e := Nat.mod_lt _ (by omega)
         have hju : (V (j / P.cellsOf e))[j % P.cellsOf e]? = some u := by
          rw [<- hat, List.getElem?_take, if_pos hmod, List.getElem?_drop]
          have : j / P.cellsOf e * P.cellsOf e + j % P.cellsOf e = j := by rw [Nat.mul_comm]; exact Nat.div_add_mod j _
          rw [this]
          exact hu'
         have h2 := (hL _ hil).2.1 (j % P.cellsOf e) hmod
         rw [add_of_add] at h2
         have : j / P.cellsOf e * P.cellsOf e + j % P.cellsOf e = j := by rw [Nat.mul_comm]; exact Nat.div_add_mod j _
         rw [this] at h2
         rw [h2, hju]
        ·refine CzL.flattenB _ _ (by simp) (fun i vs xs h1 h2 => ?_)
         simp only [List.getElem?_map, Option.map_eq_some_iff] at h1 h2
         obtain ⟨i1, g1, rfl⟩ := h1
         obtain ⟨i2, g2, rfl⟩ := h2
         rw [g1] at g2
         injection g2 with g2
         subst g2
         have := (List.getElem?_eq_some_iff.1 g1)
         obtain ⟨hlt, he⟩ := this
         simp only [List.length_range] at hlt
         simp only [List.getElem_range] at he
         subst he
         exact (hL i hlt).2.2.1
     | struct fs =>
       simp only [Bool.and_eq_true, beq_iff_eq] at ho
       obtain ⟨xs, n, _, rfl, hcl, hxl, hf⟩ := DataW.trod_struct hu h
       refine ⟨hcl, ?_⟩
       have := fields_czB (P := P) (w := w) (n := m) (S := OldB w) fs.toList 0 _ cs ho.1 hcl (fun f hf' => ?_)
       ·simpa using this
       ·obtain ⟨i, hi⟩ := List.mem_iff_getElem?.1 hf'
        have hi' : fs[i]? = some f := by simpa using hi
        have h1 := hf i f hi'
        have hlt : i < xs.length := by rw [hxl]; exact (Array.getElem?_eq_some_iff.1 hi').1
        rw [List.getElem?_eq_getElem hlt] at h1
        have hok := List.all_eq_true.1 ho.2 f hf'
        obtain ⟨_, l, h2, h3⟩ := trod_czB m f.type hok n _ _ h1 (fun k hk => hwt k (by
         simp only [DataW.weights, hu]
         exact DataW.weights_mem_each (j := i) (by simp [hi']) (by simp [hlt]) k hk))
        exact ⟨l, h2, h3⟩
     | array k e =>
       simp only [Bool.and_eq_true, beq_iff_eq] at ho
       obtain ⟨xs, n, _, rfl, hcl, hxl, hf⟩ := DataW.trod_array hu h
       refine ⟨hcl, ?_⟩
       have hel : ∀ i, ∃ l : List DV, i < k -> (CzL w (OldB w) ((cs.drop (i * P.cellsOf e)).take (P.cellsOf e)) l [] /\ TyLB P m e l) := by
        intro i
        by_cases hik : i < k
        ·have h1 := hf i hik
         rw [List.getElem?_eq_getElem (by omega)] at h1
         obtain ⟨_, l, h2, h3⟩ := trod_czB m e ho.2 n _ _ h1 (fun z hz => hwt z (by
          simp only [DataW.weights, hu]
          exact weightsAll_mem (List.mem_map.2 ⟨_, List.getElem_mem (by omega), rfl⟩) hz))
         exact ⟨l, fun _ => ⟨h2, h3⟩⟩
        ·exact ⟨[], fun h => (hik h).elim⟩
       obtain ⟨L, hL⟩ := Classical.axiomOfChoice hel
       have key : ∀ q, q <= k -> CzL w (OldB w) (cs.take (q * P.cellsOf e)) ((List.range q).map L).flatten [] := by
        intro q
        induction q with
        | zero => intro _; simpa using CzL.nil
        | succ q ih =>
          intro hq
          have h1 := (ih (by omega)).append (hL q (by omega)).1
          rw [List.range_succ, List.map_append, List.flatten_append, Nat.succ_mul, List.take_add]
          simpa using h1
       refine ⟨_, ?_, (List.range k).map L, rfl, by simp, fun el hel => ?_⟩
       ·have := key k (Nat.le_refl _)
        rwa [List.take_of_length_le (by rw [hcl, ho.1]; exact Nat.le_refl _)] at this
       ·obtain ⟨i, hi', rfl⟩ := List.mem_map.1 hel
        exact (hL i (by simpa using hi')).2
     | _ => cases ho
end
end Go.Av
namespace Go.Av
open Go Go.RowKit Go.Deep Go.ChangeShapes Go.WideShapes Go.ChangeAt
def IsSV (P : Program) (t : TypeId) (l : List DV) (x : SV) : Prop :=
 match P.underlying t with
 | some (.struct _) => x = .ag l
 | some (.array _ _) => x = .ag l
 | _ => ∃ d, l = [d] /\ x = .one d
def ArgsOk (P : Program) (m : Nat) : List TypeId -> List SV -> Prop
 | [], xs => xs = []
 | t :: ts, xs => ∃ l x ys, TyLB P m t l /\ IsSV P t l x /\ xs = x :: ys /\ ArgsOk P m ts ys
section
variable {H : Type} {enc : TypeId × Value -> H} {P : Program}
theorem CzL.oneB {w : World} {S : Nat -> Prop} {v : Value} {x : DV} (h : CzL w S [v] [x] []) : Cz w S v x [] := by
 generalize hr : ([] : List Nat) = r at h
 cases h with
 | cons v x r vs xs rs h hs =>
   cases hs with
   | nil =>
     have : r = [] := by simpa using hr.symm
     subst this
     exact h
theorem arg_cz {m : Nat} {W : World} {base : Nat} {t : TypeId} {v : Value} {d : DataW H} {p : List MemPlace} (hok : tyOkB P m t = true) (hval : Value.okWide P W .any base t v) (h : DataW.Trod enc P W 0 (fun _ => true) true t v d p)
  (hw : ∀ k ∈ d.weights P t, k <= reachBytes) : ∃ l x, TyLB P m t l /\ IsSV P t l x /\ CzS W (OldB W) v x [] := by
 obtain ⟨fuel, hf⟩ := h
 obtain ⟨_, l, hcz, ht⟩ := trod_czB m t hok fuel _ _ hf hw
 have hone : (∀ cs, v ≠ .agg cs) -> ∀ d0, l = [d0] -> CzS W (OldB W) v (.one d0) [] := by
  intro hv d0 hl
  subst hl
  have hcells : v.cells.toList = [v] := by
   cases v <;> first | rfl | exact (hv _ rfl).elim
  rw [hcells] at hcz
  exact .one _ _ _ hcz.oneB
 cases m with
 | zero => simp [tyOkB] at hok
 | succ m =>
   unfold tyOkB at hok
   have hty := ht
   unfold TyLB at ht
   unfold IsSV
   unfold Value.okWide at hval
   cases hu : P.underlying t with
   | none => rw [hu] at hok; cases hok
   | some u =>
     rw [hu] at hok ht hval
     cases u with
     | int k =>
       obtain ⟨n, rfl, _⟩ := ht
       refine ⟨_, .one _, hty, ⟨_, rfl, rfl⟩, hone ?_ _ rfl⟩
       rintro cs rfl
       simp [Cell.okWide, hu, Cell.ok] at hval
     | bool =>
       obtain ⟨n, rfl⟩ := ht
       refine ⟨_, .one _, hty, ⟨_, rfl, rfl⟩, hone ?_ _ rfl⟩
       rintro cs rfl
       simp [Cell.okWide, hu, Cell.ok] at hval
     | string =>
       obtain ⟨n, rfl, _⟩ := ht
       refine ⟨_, .one _, hty, ⟨_, rfl, rfl⟩, hone ?_ _ rfl⟩
       rintro cs rfl
       simp [Cell.okWide, hu, Cell.ok] at hval
     | slice e =>
       obtain ⟨n, rfl, _⟩ := ht
       refine ⟨_, .one _, hty, ⟨_, rfl, rfl⟩, hone ?_ _ rfl⟩
       rintro cs rfl
       simp [Cell.okWide, hu, Cell.ok] at hval
     | struct fs =>
       obtain ⟨cs, rfl, _, _⟩ := hval
       refine ⟨l, .ag l, hty, rfl, .ag _ _ _ ?_⟩
       simpa [Value.cells] using hcz
     | array k e =>
       obtain ⟨cs, rfl, _, _⟩ := hval
       refine ⟨l, .ag l, hty, rfl, .ag _ _ _ ?_⟩
       simpa [Value.cells] using hcz
     | _ => cases hok
theorem args_cz {m : Nat} {W : World} {base : Nat} : ∀ {ts : List TypeId} {vs : List Value} {ds : List (DataW H)} {p : List MemPlace}, (ts.all (tyOkB P m)) = true -> (∀ (j : Nat) t v, ts[j]? = some t -> vs[j]? = some v -> Value.okWide P W .any base t v) ->
  DataW.TrodAll enc P W 0 (fun _ => true) true ts vs ds p -> (∀ k ∈ DataW.weightsEach P ts ds, k <= reachBytes) -> ∃ xs, ArgsOk P m ts xs /\ CzSL W (OldB W) vs xs []
 | [], vs, ds, p, _, _, h, _ => by
   cases vs with
   | nil => exact ⟨[], rfl, .nil⟩
   | cons v vs => simp [DataW.TrodAll] at h
 | t :: ts, vs, ds, p, hok, hval, h, hw => by
   simp only [List.all_cons, Bool.and_eq_true] at hok
   obtain ⟨v, vs, d, ds, p, q, rfl, rfl, rfl, hd, hrest⟩ := trodAll_cons h
   simp only [DataW.weightsEach, List.mem_append] at hw
   obtain ⟨l, x, h1, h2, h3⟩ := arg_cz hok.1 (hval 0 t v rfl rfl) hd (fun k hk => hw k (.inl hk))
   obtain ⟨xs, h4, h5⟩ := args_cz hok.2 (fun j t v ht hv => hval (j + 1) t v (by simpa using ht) (by simpa using hv)) hrest (fun k hk => hw k (.inr hk))
   exact ⟨x :: xs, ⟨l, x, xs, h1, h2, rfl, h4⟩, .cons _ _ [] _ _ [] h3 h5⟩
theorem args_stay {W W' : World} (hl : laidOutB P = true) (hb : Below W.heap.size W W') : ∀ {ts : List TypeId} {vs : List Value} {ds : List (DataW H)} {p : List MemPlace}, (ts.all fun t => P.readableRec t && decide (t < P.types.size)) = true ->
  DataW.TrodAll enc P W 0 (fun _ => true) true ts vs ds p -> (∀ x ∈ p, x.block < W.heap.size) -> DataW.TrodAll enc P W' 0 (fun b => decide (b < W.heap.size)) true ts vs ds p
 | [], vs, ds, p, _, h, _ => by
   obtain ⟨rfl, rfl, rfl⟩ := trodAll_nil h
   rfl
 | t :: ts, vs, ds, p, hok, h, hlt => by
   simp only [List.all_cons, Bool.and_eq_true, decide_eq_true_eq] at hok
   obtain ⟨v, vs, d, ds, p, q, rfl, rfl, rfl, hd, hrest⟩ := trodAll_cons h
   exact ⟨p, q, RowKit.Below.trod hl hok.1.1 hok.1.2 hd hb.toBelow (fun x hx => hlt x (by simp [hx])), args_stay hl hb hok.2 hrest (fun x hx => hlt x (by simp [hx])), rfl⟩
theorem says_trueB {f : FuncId} {args : List SV} (h : Impl P f args (.one (.one (.bool true)))) {W : World} {vs : List Value} (ha : CzSL W (OldB W) vs args []) :
  Calls P f vs.toArray W fun e W' => e = .returned (.bool true) /\ Below W.heap.size W W' := by
 refine (h.2 W (OldB W) vs (fun _ hb => hb) ha).mono ?_
 rintro e W' ⟨v, rs, rfl, hb, _, _, hr⟩
 cases hr with
 | one _ _ _ h =>
   have h := CzS.one_inv h
   cases h
   exact ⟨rfl, hb⟩
end
end Go.Av

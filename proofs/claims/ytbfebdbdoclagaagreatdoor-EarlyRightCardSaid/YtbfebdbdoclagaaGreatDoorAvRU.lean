/- What a caller hands over, read as data, with a bound on each slice that the bulk of all arguments gives. -/
import Derived.Test.YtbfebdbdoclagaaGreatDoorAvRX
import Derived.Deep.DeepHandedRow
set_option linter.unusedVariables false
set_option linter.unusedSimpArgs false
set_option maxHeartbeats 64000000
namespace Go.Av
open Go Go.RowKit Go.Deep Go.ChangeShapes Go.WideShapes Go.ChangeAt
structure BulkOk (H : Type) (bulk : DataW H -> Nat) : Prop where
 str : ∀ s, s.length <= bulk (.lit (.string s))
 len : ∀ els sp, els.length <= bulk (.slice els sp)
 el : ∀ els sp, ∀ d ∈ els, bulk d <= bulk (.slice els sp)
 part : ∀ ps, ∀ d ∈ ps, bulk d <= bulk (.agg ps)
def TyLU (R : Nat) (P : Program) : Nat -> TypeId -> List DV -> Prop
 | 0, _, _ => False
 | n + 1, t, l => match P.underlying t with
   | some (.int k) => ∃ m, l = [.int k m] /\ (Lit.int k m).wf = true
   | some .bool => ∃ b, l = [.bool b]
   | some .string => ∃ s, l = [.str s] /\ s.size <= R
   | some (.slice e) => ∃ els : List (List DV), l = [.sl els] /\ els.length <= R /\ ∀ el ∈ els, TyLU R P n e el
   | some (.struct fs) => TyFB (TyLU R P n) fs.toList l
   | some (.array k e) => ∃ els : List (List DV), l = els.flatten /\ els.length = k /\ ∀ el ∈ els, TyLU R P n e el
   | _ => False
section
variable {H : Type} {enc : TypeId × Value -> H} {P : Program} {w : World} {base : Nat} {spare : Nat -> Bool} {held : Bool} {R : Nat}
theorem fields_czU {n : Nat} {S : Nat -> Prop} : ∀ (fs : List Field) (o e : Nat) (cs : List Value), packedB P o fs = some e -> cs.length = e -> (∀ f ∈ fs, ∃ l, CzL w S ((cs.drop f.offset).take (P.cellsOf f.type)) l [] /\ TyLU R P n f.type l) ->
  ∃ l, CzL w S (cs.drop o) l [] /\ TyFB (TyLU R P n) fs l
 | [], o, e, cs, hp, hl, _ => by
   simp only [packedB, Option.some.injEq] at hp
   refine ⟨[], ?_, rfl⟩
   rw [List.drop_eq_nil_of_le (by omega)]
   exact .nil
 | f :: fs, o, e, cs, hp, hl, hf => by
   simp only [packedB] at hp
   split at hp
   ·rename_i ho
    obtain ⟨l1, h1, h2⟩ := hf f (by simp)
    obtain ⟨l2, h3, h4⟩ := fields_czU fs _ e cs hp hl (fun g hg => hf g (by simp [hg]))
    refine ⟨l1 ++ l2, ?_, l1, l2, rfl, h2, h4⟩
    have := h1.append h3
    rw [ho] at this
    have e1 : (cs.drop o).take (P.cellsOf f.type) ++ cs.drop (o + P.cellsOf f.type) = cs.drop o := by
     rw [<- List.drop_drop, List.take_append_drop]
    rw [e1] at this
    simpa using this
   ·cases hp
theorem trod_czU {bulk : DataW H -> Nat} (hbk : BulkOk H bulk) : ∀ (m : Nat) (t : TypeId), tyOkB P m t = true -> ∀ (fuel : Nat) (cs : List Value) (x : DataW H × List MemPlace), DataW.trod enc P w base spare held fuel t cs = some x -> bulk x.1 <= R ->
  cs.length = P.cellsOf t /\ ∃ l, CzL w (OldB w) cs l [] /\ TyLU R P m t l
 | 0, t, ho, _, _, _, _, _ => by simp [tyOkB] at ho
 | m + 1, t, ho, fuel, cs, x, h, hwt => by
   unfold tyOkB at ho
   unfold TyLU
   cases hu : P.underlying t with
   | none => rw [hu] at ho; cases ho
   | some d =>
     rw [hu] at ho
     cases d with
     | int k =>
       obtain ⟨n, rfl, _, hw⟩ := DataW.trod_int hu h
       simp only [beq_iff_eq] at ho
       exact ⟨by simp [ho], _, .cons _ _ [] _ _ [] (.int k n) .nil, n, rfl, hw⟩
     | bool =>
       obtain ⟨b, rfl, _⟩ := DataW.trod_bool hu h
       simp only [beq_iff_eq] at ho
       exact ⟨by simp [ho], _, .cons _ _ [] _ _ [] (.bool b) .nil, b, rfl⟩
     | string =>
       obtain ⟨s, rfl, rfl, _⟩ := DataW.trod_string hu h
       simp only [beq_iff_eq] at ho
       exact ⟨by simp [ho], _, .cons _ _ [] _ _ [] (.str s) .nil, s, rfl, by
        have := hbk.str s.data.toList
        have h2 : s.size <= s.data.toList.length := Nat.le_of_eq (by rw [Array.length_toList]; rfl)
        exact Nat.le_trans h2 (Nat.le_trans this hwt)⟩
     | slice e =>
       simp only [Bool.and_eq_true, beq_iff_eq, decide_eq_true_eq] at ho
       rcases open_slice hu h with ⟨rfl, _⟩ | ⟨a, len, cap, q, n, D, Pl, rfl, hb, hl, hm, hq, rfl, hi⟩
       ·exact ⟨by simp [ho.1.1.1], _, .cons _ _ [] _ _ [] (.shNil none 0) .nil, [], rfl, by simp, by simp⟩
       ·refine ⟨by simp [ho.1.1.1], ?_⟩
        have hlen1 : len <= R := by
         have := hbk.len ((List.range len).map D) ((List.range (q - len)).map fun j => D (len + j))
         simp only [List.length_map, List.length_range] at this
         exact Nat.le_trans this hwt
        have hwD : ∀ i, i < len -> bulk (D i) <= R := fun i hil => Nat.le_trans (hbk.el _ _ (D i) (List.mem_map.2 ⟨i, by simpa using hil, rfl⟩)) hwt
        have hlq : len <= q := by rw [hq]; split <;> omega
        have hel : ∀ i, ∃ (vs : List Value) (l : List DV), i < len -> (vs.length = P.cellsOf e /\ (∀ j, j < P.cellsOf e -> w.cell? ((a.add (i * P.cellsOf e)).add j) = vs[j]?) /\ CzL w (OldB w) vs l [] /\ TyLU R P m e l) := by
         intro i
         by_cases hil : i < len
         ·obtain ⟨cs', hc, ht'⟩ := hi i (by omega)
          obtain ⟨_, hcl, hat⟩ := World.cells?_some hc
          obtain ⟨_, l, h1, h2⟩ := trod_czU hbk m e ho.2 n cs' _ ht' (hwD i hil)
          exact ⟨cs', l, fun _ => ⟨hcl, hat, h1, h2⟩⟩
         ·exact ⟨[], [], fun h => (hil h).elim⟩
        obtain ⟨V, hV⟩ := Classical.axiomOfChoice hel
        obtain ⟨L, hL⟩ := Classical.axiomOfChoice hV
        have hone : ∀ i, i < len -> (L i).length = P.cellsOf e := by
         intro i hil
         obtain ⟨h1, _, h3, _⟩ := hL i hil
         rw [<- h3.length, h1]
        have hty : ∀ el ∈ (List.range len).map L, TyLU R P m e el := by
         intro el hel
         obtain ⟨i, hi', rfl⟩ := List.mem_map.1 hel
         exact (hL i (by simpa using hi')).2.2.2
        by_cases hlen0 : len = 0
        ·subst hlen0
         exact ⟨_, .cons _ _ [] _ _ [] (.shNil (some a) cap) .nil, [], rfl, by simp, by simp⟩
        have hz := ho.1.1.2
        refine ⟨[.sl ((List.range len).map L)], .cons _ _ [] _ _ [] (.sh a len cap (P.cellsOf e) _ ((List.range len).map V).flatten ?_ (by simp) hl hm ?_ ?_ ?_) .nil, _, rfl, by simp; omega, hty⟩
        ·obtain ⟨h1, h2, _⟩ := hL 0 (by omega)
         have h3 := h2 0 (by omega)
         rw [List.getElem?_eq_getElem (by omega)] at h3
         have := cell_ltB h3
         rw [block_of_add, block_of_add] at this
         exact this
        ·intro el hel
         obtain ⟨i, hi', rfl⟩ := List.mem_map.1 hel
         exact hone i (by simpa using hi')
        ·intro j u hu'
         have hvl : ∀ vs ∈ (List.range len).map V, vs.length = P.cellsOf e := by
          intro vs hvs
          obtain ⟨i, hi', rfl⟩ := List.mem_map.1 hvs
          exact (hL i (by simpa using hi')).1
         have hjl : j < len * P.cellsOf e := by
          have := (List.getElem?_eq_some_iff.1 hu').1
          rw [flatten_len hvl] at this
          simpa using this
         have hil : j / P.cellsOf e < len := (Nat.div_lt_iff_lt_mul (by omega)).2 hjl
         have hgi : ((List.range len).map V)[j / P.cellsOf e]? = some (V (j / P.cellsOf e)) := by simp [hil]
         have hat := flatten_at hvl hgi
         have hmod : j % P.cellsOf e < P.cellsOf e := Nat.mod_lt _ (by omega)
         have hju : (V (j / P.cellsOf e))[j % P.cellsOf e]? = some u := by
          rw [<- hat, List.getElem?_take, if_pos hmod, List.getElem?_drop]
          have : j / P.cellsOf e * P.cellsOf e + j % P.cellsOf e = j := by rw [Nat.mul_comm]; exact Nat.div_add_mod j _
          rw [this]
          exact hu'
         have h2 := (hL _ hil).2.1 (j % P.cellsOf e) hmod
         rw [add_of_add] at h2
         have : j / P.cellsOf e * P.cellsOf e + j % P.cellsOf e = j := by rw [Nat.mul_comm]; exact Nat.div_add_mod j _
         rw [this] at h2
         rw [h2, hju]
        ·refine CzL.flattenB _ _ (by simp) (fun i vs xs h1 h2 => ?_)
         simp only [List.getElem?_map, Option.map_eq_some_iff] at h1 h2
         obtain ⟨i1, g1, rfl⟩ := h1
         obtain ⟨i2, g2, rfl⟩ := h2
         rw [g1] at g2
         injection g2 with g2
         subst g2
         have := (List.getElem?_eq_some_iff.1 g1)
         obtain ⟨hlt, he⟩ := this
         simp only [List.length_range] at hlt
         simp only [List.getElem_range] at he
         subst he
         exact (hL i hlt).2.2.1
     | struct fs =>
       simp only [Bool.and_eq_true, beq_iff_eq] at ho
       obtain ⟨xs, n, _, rfl, hcl, hxl, hf⟩ := DataW.trod_struct hu h
       refine ⟨hcl, ?_⟩
       have := fields_czU (R := R) (P := P) (w := w) (n := m) (S := OldB w) fs.toList 0 _ cs ho.1 hcl (fun f hf' => ?_)
       ·simpa using this
       ·obtain ⟨i, hi⟩ := List.mem_iff_getElem?.1 hf'
        have hi' : fs[i]? = some f := by simpa using hi
        have h1 := hf i f hi'
        have hlt : i < xs.length := by rw [hxl]; exact (Array.getElem?_eq_some_iff.1 hi').1
        rw [List.getElem?_eq_getElem hlt] at h1
        have hok := List.all_eq_true.1 ho.2 f hf'
        obtain ⟨_, l, h2, h3⟩ := trod_czU hbk m f.type hok n _ _ h1 (Nat.le_trans (hbk.part _ _ (List.mem_map.2 ⟨_, List.getElem_mem hlt, rfl⟩)) hwt)
        exact ⟨l, h2, h3⟩
     | array k e =>
       simp only [Bool.and_eq_true, beq_iff_eq] at ho
       obtain ⟨xs, n, _, rfl, hcl, hxl, hf⟩ := DataW.trod_array hu h
       refine ⟨hcl, ?_⟩
       have hel : ∀ i, ∃ l : List DV, i < k -> (CzL w (OldB w) ((cs.drop (i * P.cellsOf e)).take (P.cellsOf e)) l [] /\ TyLU R P m e l) := by
        intro i
        by_cases hik : i < k
        ·have h1 := hf i hik
         rw [List.getElem?_eq_getElem (by omega)] at h1
         obtain ⟨_, l, h2, h3⟩ := trod_czU hbk m e ho.2 n _ _ h1 (Nat.le_trans (hbk.part _ _ (List.mem_map.2 ⟨_, List.getElem_mem (by omega), rfl⟩)) hwt)
         exact ⟨l, fun _ => ⟨h2, h3⟩⟩
        ·exact ⟨[], fun h => (hik h).elim⟩
       obtain ⟨L, hL⟩ := Classical.axiomOfChoice hel
       have key : ∀ q, q <= k -> CzL w (OldB w) (cs.take (q * P.cellsOf e)) ((List.range q).map L).flatten [] := by
        intro q
        induction q with
        | zero => intro _; simpa using CzL.nil
        | succ q ih =>
          intro hq
          have h1 := (ih (by omega)).append (hL q (by omega)).1
          rw [List.range_succ, List.map_append, List.flatten_append, Nat.succ_mul, List.take_add]
          simpa using h1
       refine ⟨_, ?_, (List.range k).map L, rfl, by simp, fun el hel => ?_⟩
       ·have := key k (Nat.le_refl _)
        rwa [List.take_of_length_le (by rw [hcl, ho.1]; exact Nat.le_refl _)] at this
       ·obtain ⟨i, hi', rfl⟩ := List.mem_map.1 hel
        exact (hL i (by simpa using hi')).2
     | _ => cases ho
def ArgsOkU (R : Nat) (P : Program) (m : Nat) : List TypeId -> List SV -> Prop
 | [], xs => xs = []
 | t :: ts, xs => ∃ l x ys, TyLU R P m t l /\ IsSV P t l x /\ xs = x :: ys /\ ArgsOkU R P m ts ys
theorem arg_czU {bulk : DataW H -> Nat} (hbk : BulkOk H bulk) {m : Nat} {W : World} {base : Nat} {t : TypeId} {v : Value} {d : DataW H} {p : List MemPlace} (hok : tyOkB P m t = true) (hval : Value.okWide P W .any base t v) (h : DataW.Trod enc P W 0 (fun _ => true) true t v d p)
  (hw : bulk d <= R) : ∃ l x, TyLU R P m t l /\ IsSV P t l x /\ CzS W (OldB W) v x [] := by
 obtain ⟨fuel, hf⟩ := h
 obtain ⟨_, l, hcz, ht⟩ := trod_czU hbk m t hok fuel _ _ hf hw
 have hone : (∀ cs, v ≠ .agg cs) -> ∀ d0, l = [d0] -> CzS W (OldB W) v (.one d0) [] := by
  intro hv d0 hl
  subst hl
  have hcells : v.cells.toList = [v] := by
   cases v <;> first | rfl | exact (hv _ rfl).elim
  rw [hcells] at hcz
  exact .one _ _ _ hcz.oneB
 cases m with
 | zero => simp [tyOkB] at hok
 | succ m =>
   unfold tyOkB at hok
   have hty := ht
   unfold TyLU at ht
   unfold IsSV
   unfold Value.okWide at hval
   cases hu : P.underlying t with
   | none => rw [hu] at hok; cases hok
   | some u =>
     rw [hu] at hok ht hval
     cases u with
     | int k =>
       obtain ⟨n, rfl, _⟩ := ht
       refine ⟨_, .one _, hty, ⟨_, rfl, rfl⟩, hone ?_ _ rfl⟩
       rintro cs rfl
       simp [Cell.okWide, hu, Cell.ok] at hval
     | bool =>
       obtain ⟨n, rfl⟩ := ht
       refine ⟨_, .one _, hty, ⟨_, rfl, rfl⟩, hone ?_ _ rfl⟩
       rintro cs rfl
       simp [Cell.okWide, hu, Cell.ok] at hval
     | string =>
       obtain ⟨n, rfl, _⟩ := ht
       refine ⟨_, .one _, hty, ⟨_, rfl, rfl⟩, hone ?_ _ rfl⟩
       rintro cs rfl
       simp [Cell.okWide, hu, Cell.ok] at hval
     | slice e =>
       obtain ⟨n, rfl, _⟩ := ht
       refine ⟨_, .one _, hty, ⟨_, rfl, rfl⟩, hone ?_ _ rfl⟩
       rintro cs rfl
       simp [Cell.okWide, hu, Cell.ok] at hval
     | struct fs =>
       obtain ⟨cs, rfl, _, _⟩ := hval
       refine ⟨l, .ag l, hty, rfl, .ag _ _ _ ?_⟩
       simpa [Value.cells] using hcz
     | array k e =>
       obtain ⟨cs, rfl, _, _⟩ := hval
       refine ⟨l, .ag l, hty, rfl, .ag _ _ _ ?_⟩
       simpa [Value.cells] using hcz
     | _ => cases hok
theorem args_czU {bulk : DataW H -> Nat} (hbk : BulkOk H bulk) {m : Nat} {W : World} {base : Nat} : ∀ {ts : List TypeId} {vs : List Value} {ds : List (DataW H)} {p : List MemPlace}, (ts.all (tyOkB P m)) = true -> (∀ (j : Nat) t v, ts[j]? = some t -> vs[j]? = some v -> Value.okWide P W .any base t v) ->
  DataW.TrodAll enc P W 0 (fun _ => true) true ts vs ds p -> (∀ d ∈ ds, bulk d <= R) -> ∃ xs, ArgsOkU R P m ts xs /\ CzSL W (OldB W) vs xs []
 | [], vs, ds, p, _, _, h, _ => by
   cases vs with
   | nil => exact ⟨[], rfl, .nil⟩
   | cons v vs => simp [DataW.TrodAll] at h
 | t :: ts, vs, ds, p, hok, hval, h, hw => by
   simp only [List.all_cons, Bool.and_eq_true] at hok
   obtain ⟨v, vs, d, ds, p, q, rfl, rfl, rfl, hd, hrest⟩ := trodAll_cons h
   obtain ⟨l, x, h1, h2, h3⟩ := arg_czU hbk hok.1 (hval 0 t v rfl rfl) hd (hw _ (by simp))
   obtain ⟨xs, h4, h5⟩ := args_czU hbk hok.2 (fun j t v ht hv => hval (j + 1) t v (by simpa using ht) (by simpa using hv)) hrest (fun k hk => hw k (by simp [hk]))
   exact ⟨x :: xs, ⟨l, x, xs, h1, h2, rfl, h4⟩, .cons _ _ [] _ _ [] h3 h5⟩
theorem law_callU {bulk : DataW H -> Nat} (hbk : BulkOk H bulk) {C : Checked} {f : FuncId} {fn : Func} {s : ChangeSpec} {m : Nat} {tb : TypeId} (hl : laidOutB C.prog = true) (hvars : s.vars = [])
  (hspec : ∀ ds : List (DataW H), ds.length = fn.params.size -> s.fn H ds = { results := [.lit (.bool true)], args := ds })
  (hres : fn.resultTypes = #[tb]) (hb : C.prog.underlying tb = some .bool) (hty : (fn.params.toList.all (tyOkB C.prog m)) = true) (hrd : (fn.params.toList.all fun t => C.prog.readableRec t && decide (t < C.prog.types.size)) = true)
  (himpl : ∀ xs, ArgsOkU R C.prog m fn.params.toList xs -> Impl C.prog f xs (.one (.one (.bool true)))) {W : World} {base : Nat} {args : Array Value} {ds gs : List (DataW H)} {before : List MemPlace}
  (hval : ∀ (j : Nat) t v, fn.params[j]? = some t -> args[j]? = some v -> Value.okWide C.prog W .any base t v)
  (hW : DataW.Whole enc C.prog fn.params.toList s.vars false W args.toList ds gs before) (hR : ∀ d ∈ ds, bulk d <= R) :
  Calls C.prog f args W fun e W' => ∃ v, e = .returned v /\ s.post enc C.prog fn false true false false W args v W' := by
 have hW' := hW
 obtain ⟨p, q, hA, hV, rfl, hfz, hnd⟩ := hW
 have hvt : s.plain.varTypes C.prog = [] := by
  unfold ChangeSpec.plain
  simp [hvars, DataSpec.varTypes]
 rw [hvars] at hV
 obtain ⟨rfl, rfl⟩ := trodVars_none hV
 simp only [hvt, List.append_nil] at hW'
 obtain ⟨xs, h1, h2⟩ := args_czU hbk (vs := args.toList) hty (fun j t v ht hv => hval j t v (by simpa using ht) (by simpa using hv)) hA hR
 have hlen : ds.length = fn.params.size := by
  have : ∀ {ts : List TypeId} {vs : List Value} {ds : List (DataW H)} {p : List MemPlace}, DataW.TrodAll enc C.prog W 0 (fun _ => true) true ts vs ds p -> ds.length = ts.length := by
   intro ts
   induction ts with
   | nil =>
     intro vs ds p h
     obtain ⟨_, rfl, _⟩ := trodAll_nil h
     rfl
   | cons t ts ih =>
     intro vs ds p h
     obtain ⟨v, vs, d, ds, p, q, rfl, rfl, rfl, hd, hrest⟩ := trodAll_cons h
     simp [ih hrest]
  simpa using this hA
 have hlt : ∀ x ∈ p, x.block < W.heap.size := fun x hx => hW'.lt x hx
 have hcall := says_trueB (himpl xs h1) h2
 rw [Array.toArray_toList] at hcall
 refine hcall.mono fun e W' ⟨he, hbl⟩ => ?_
 subst he
 refine ⟨_, rfl, ds, [], p, [], p, [], by simpa using hW', ?_, ?_, ?_, hbl.frame _, fun h => by cases h⟩
 ·rw [List.append_nil, hspec ds hlen, hres]
  exact trodAll_mk1 (shut_bool hb true)
 ·rw [List.append_nil, hspec ds hlen]
  exact args_stay hl hbl hrd hA hlt
 ·rw [List.append_nil, hspec ds hlen, hvars]
  rfl
theorem witness_row_shaped {C : Checked} {os : Os} {f : FuncId} {fn : Func} {s : OpenSpec} {conds : List PathCond} {apart : Bool} {laid : List (String × DataW Unit)} (modest : Bool) (w0 : World) (args : Array Value) (hos : w0.os = os)
  (hsh : (w0.forCall (fun _ _ => 0) ⟨#[], args, []⟩).Shaped C.prog) (hok : Input.okWideB C.prog (w0.forCall (fun _ _ => 0) ⟨#[], args, []⟩) f ⟨#[], args, []⟩ = true)
  (hrow : s.preRow enc C.prog fn conds apart laid (w0.forCall (fun _ _ => 0) ⟨#[], args, []⟩).memory args) :
  ∃ (w : World) (tape : Tape) (i : Input), w.os = os /\ (w.forCall tape i).Shaped C.prog /\ i.vars = [] /\ Input.okWide C.prog (w.forCall tape i) .any w.heap.size f i /\
   s.preRow enc C.prog fn conds apart laid (w.forCall tape i).memory i.args /\ ({ modest := modest } : Assume).holds C.prog (lone (Frame.enter C.prog f i.args .normal) [] (w.forCall tape i)) :=
 ⟨w0, fun _ _ => 0, ⟨#[], args, []⟩, hos, hsh, rfl, (Input.okWide_of_okWideB hok).2, hrow, by
  simp only [Assume.holds]
  exact ⟨by simp, by simp, fun _ => Modest.zero, by simp, by simp⟩⟩
end
end Go.Av

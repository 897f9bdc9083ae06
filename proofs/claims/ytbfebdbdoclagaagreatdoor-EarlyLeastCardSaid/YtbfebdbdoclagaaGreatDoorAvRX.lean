/- The row of a law that lists package-level variables: what the law's contract says of its call, whatever the listed variables hold. -/
import Derived.Test.YtbfebdbdoclagaaGreatDoorF9
import Derived.Lay
import Derived.Handed
set_option linter.unusedVariables false
set_option linter.unusedSimpArgs false
set_option maxHeartbeats 64000000
namespace Go.Av
open Go Go.RowKit Go.Deep Go.ChangeShapes Go.WideShapes Go.ChangeAt
section
variable {H : Type} {enc : TypeId × Value -> H} {P : Program}
theorem law_row_laid {C : Checked} {os : Os} {f : FuncId} {fn : Func} {s : ChangeSpec} {m : Nat} {tb : TypeId} {X : World -> Prop} (hX : ∀ w w' : World, w.heap = w'.heap -> X w -> X w')
  (own : ownKnob C.prog.godebug = none) (started : os.Started) (noInit : C.prog.inits.idxOf? f = none) (hfn : C.prog.funcs[f]? = some fn)
  (witness : ∃ (w : World) (tape : Tape) (i : Input), w.os = os /\ (w.forCall tape i).Shaped C.prog /\ i.vars = [] /\ Input.okWide C.prog (w.forCall tape i) .any w.heap.size f i /\
   ((s.pre enc C.prog fn [] false (w.forCall tape i).memory i.args /\ X (w.forCall tape i).memory) /\ sizedMet enc C.prog fn (OpenSpec.ofChange s) false (w.forCall tape i).memory i.args) /\ Assume.holds {} C.prog (lone (Frame.enter C.prog f i.args .normal) [] (w.forCall tape i)))
  (hl : laidOutB C.prog = true) (hvars : s.vars = []) (hspec : ∀ ds : List (DataW H), ds.length = fn.params.size -> s.fn H ds = { results := [.lit (.bool true)], args := ds })
  (hres : fn.resultTypes = #[tb]) (hb : C.prog.underlying tb = some .bool) (hty : (fn.params.toList.all (tyOkB C.prog m)) = true) (hrd : (fn.params.toList.all fun t => C.prog.readableRec t && decide (t < C.prog.types.size)) = true)
  (himpl : ∀ xs, ArgsOk C.prog m fn.params.toList xs -> Impl C.prog f xs (.one (.one (.bool true)))) :
  ReturnsInHanded {} C os f .any (fun w args => (s.pre enc C.prog fn [] false w args /\ X w) /\ sizedMet enc C.prog fn (OpenSpec.ofChange s) false w args) (s.post enc C.prog fn false true false false) := by
 refine returnsInHanded_of_change_and (X := fun w _ => X w) (fun w w' _ hh h => hX w w' hh h) own started noInit hfn witness ?_
 intro W base args ds gs before hval hW _ hwt _ _
 have hW' := hW
 obtain ⟨p, q, hA, hV, rfl, hfz, hnd⟩ := hW
 have hvt : s.plain.varTypes C.prog = [] := by
  unfold ChangeSpec.plain
  simp [hvars, DataSpec.varTypes]
 rw [hvars] at hV
 obtain ⟨rfl, rfl⟩ := trodVars_none hV
 simp only [hvt, List.append_nil] at hwt hW'
 obtain ⟨xs, h1, h2⟩ := args_cz (vs := args.toList) hty (fun j t v ht hv => hval j t v (by simpa using ht) (by simpa using hv)) hA (fun k hk => by simpa using List.all_eq_true.1 hwt k hk)
 have hlen : ds.length = fn.params.size := by
  have : ∀ {ts : List TypeId} {vs : List Value} {ds : List (DataW H)} {p : List MemPlace}, DataW.TrodAll enc C.prog W 0 (fun _ => true) true ts vs ds p -> ds.length = ts.length := by
   intro ts
   induction ts with
   | nil =>
     intro vs ds p h
     obtain ⟨_, rfl, _⟩ := trodAll_nil h
     rfl
   | cons t ts ih =>
     intro vs ds p h
     obtain ⟨v, vs, d, ds, p, q, rfl, rfl, rfl, hd, hrest⟩ := trodAll_cons h
     simp [ih hrest]
  simpa using this hA
 have hlt : ∀ x ∈ p, x.block < W.heap.size := fun x hx => hW'.lt x hx
 have hcall := says_trueB (himpl xs h1) h2
 rw [Array.toArray_toList] at hcall
 refine hcall.mono fun e W' ⟨he, hbl⟩ => ?_
 subst he
 refine ⟨_, rfl, ds, [], p, [], p, [], by simpa using hW', ?_, ?_, ?_, hbl.frame _, fun h => by cases h⟩
 ·rw [List.append_nil, hspec ds hlen, hres]
  exact trodAll_mk1 (shut_bool hb true)
 ·rw [List.append_nil, hspec ds hlen]
  exact args_stay hl hbl hrd hA hlt
 ·rw [List.append_nil, hspec ds hlen, hvars]
  rfl
end
end Go.Av

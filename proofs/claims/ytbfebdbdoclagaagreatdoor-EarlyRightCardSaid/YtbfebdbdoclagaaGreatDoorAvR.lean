/- Steps of the walk, one at a time. -/
import Derived.Test.YtbfebdbdoclagaaGreatDoorF8
set_option linter.unusedVariables false
set_option linter.unusedSimpArgs false
set_option maxHeartbeats 64000000
namespace Go.Av
open Go Go.RowKit
section
variable {P : Program}
theorem z_Z {o : SOp} {os : List SOp} {env : Env} {K : Env -> Prop} (h : ∀ K' : Env -> Prop, (∀ e, arun P os e K -> K' e) -> astep P o env K') : arun P (o :: os) env K := h _ fun _ h => h
theorem arunF_cons {o : SOp} {os : List SOp} {env : Env} {K : Env -> Prop} {s i : Nat} (h : ∀ K' : Env -> Prop, (∀ e, arunF P s i os e K -> K' e) -> astep P o env K') : arunF P s (i + 1) (o :: os) env K := h _ fun _ h => h
theorem arunF_zero {os : List SOp} {env : Env} {K : Env -> Prop} {s : Nat} (h : ∀ K' : Env -> Prop, (∀ e, arun P os e K -> K' e) -> K' (env.frzEls s)) : arunF P s 0 os env K := h _ fun _ h => h
theorem z_T {env : Env} {K : Env -> Prop} (h : K env) : arun P [] env K := h
def z_i (c : CR) (kn : List Nat) : AV -> Bool
 | .al s _ => !c.has s || kn.contains s
 | .pt s _ _ _ => !c.has s || kn.contains s
 | .sub s _ _ _ => !c.has s || kn.contains s
 | .bsl s _ _ => !c.has s || kn.contains s
 | .gd _ a => z_i c kn a
 | .eqv s _ => !c.has s || kn.contains s
 | .cl _ caps => caps.all fun s => !c.has s || kn.contains s
 | .agl s _ _ => !c.has s || kn.contains s
 | .no => true
 | .undef => true
 | .sv _ => true
 | .tup _ => true
theorem okRefs_all (c : CR) (kn : List Nat) : ∀ (a : AV), z_i c kn a = (a.refs.all fun s => !c.has s || kn.contains s)
 | .al s _ => by simp [z_i, AV.refs]
 | .pt s _ _ _ => by simp [z_i, AV.refs]
 | .sub s _ _ _ => by simp [z_i, AV.refs]
 | .bsl s _ _ => by simp [z_i, AV.refs]
 | .gd _ a => okRefs_all c kn a
 | .eqv s _ => by simp [z_i, AV.refs]
 | .cl _ caps => rfl
 | .agl s _ _ => by simp [z_i, AV.refs]
 | .no => rfl
 | .undef => rfl
 | .sv _ => rfl
 | .tup _ => rfl
def okEff (c : CR) (kn : List Nat) (d : Option Nat) : Env -> Bool
 | [] => true
 | (t, a) :: e => (!c.has t || kn.contains t || d == some t) && (z_i c [] a && okEff c kn d e)
theorem okEff_all (c : CR) (kn : List Nat) (d : Option Nat) : ∀ (e : Env), okEff c kn d e = (e.all fun x => (!c.has x.1 || kn.contains x.1 || d == some x.1) && x.2.refs.all fun s => !c.has s)
 | [] => rfl
 | (t, a) :: e => by
   simp only [okEff, List.all_cons, okEff_all c kn d e, okRefs_all, List.contains_nil, Bool.or_false, Bool.and_assoc]
def astepA (P : Program) (c : CR) (x : DOp) (e : Env) (cs : List Nat) (K : Env -> List Nat -> Prop) : Prop :=
 match x.o.dst with
 | none => False
 | some d => gmk P (view e x.o.ts) x.o fun av r => z_i c x.kn av = true /\
   match r with
   | none => takes x.o.op = none /\ K ((d, av) :: e) cs
   | some (s, p) => p = [] /\ takes x.o.op = some s /\ K ((d, av) :: e) (s :: cs)
def astepB (P : Program) (c : CR) (A : List DOp) (b : BOp) (e : Env) (K : Env -> Prop) : Prop :=
 b.o.g = none /\ bmk P (view e b.o.ts) b.o.op b.o.dst fun f =>
   okEff c b.kn b.o.dst f.w = true /\ lateOk P e (f.on e) A b.un /\ K (f.on e)
theorem z_a {c : CR} {x : DOp} {os : List DOp} {e : Env} {cs : List Nat} {K : Env -> List Nat -> Prop} (h : ∀ K' : Env -> List Nat -> Prop, (∀ e cs, arunA P c os e cs K -> K' e cs) -> astepA P c x e cs K') : arunA P c (x :: os) e cs K := by
 have := h (fun e cs => arunA P c os e cs K) fun _ _ h => h
 unfold astepA at this
 simp only [okRefs_all] at this
 exact this
theorem z_U {c : CR} {e : Env} {cs : List Nat} {K : Env -> List Nat -> Prop} (h : K e cs) : arunA P c [] e cs K := h
theorem z_b {c : CR} {A : List DOp} {b : BOp} {bs : List BOp} {e : Env} {K : Env -> Prop} (h : ∀ K' : Env -> Prop, (∀ e, arunB P c A bs e K -> K' e) -> astepB P c A b e K') : arunB P c A (b :: bs) e K := by
 have := h (fun e => arunB P c A bs e K) fun _ h => h
 unfold astepB at this
 simp only [okEff_all] at this
 exact this
theorem z_V {c : CR} {A : List DOp} {e : Env} {K : Env -> Prop} (h : K e) : arunB P c A [] e K := h
def deadQ (cs : List Nat) (K : Env -> Prop) : Env -> Prop := fun e => K (deads cs e)
def drwQ (P : Program) (c : CR) (A : List DOp) (B : List BOp) (K : Env -> Prop) : Env -> List Nat -> Prop := fun e cs => arunB P c A B e (deadQ cs K)
theorem z_W {c : CR} {A : List DOp} {B : List BOp} {e : Env} {cs : List Nat} {K : Env -> Prop} (h : arunB P c A B e (deadQ cs K)) : drwQ P c A B K e cs := h
theorem z_X {e : Env} {K : Env -> Prop} (h : K e) : deadQ [] K e := h
theorem z_d {cs : List Nat} {e : Env} {K : Env -> Prop} (h : ∀ K' : Env -> Prop, (∀ e, K e -> K' e) -> K' (deads cs e)) : deadQ cs K e := h _ fun _ h => h
def seqQ (P : Program) (b : AC) (Q : Exit -> Env -> Prop) : Exit -> Env -> Prop := fun x e' => match x with | .normal => awp P b Q e' | x => Q x e'
def blockQ (id : Nat) (Q : Exit -> Env -> Prop) : Exit -> Env -> Prop := fun x e' => match x with | .exit id' => if id' = id then Q .normal e' else Q (.exit id') e' | x => Q x e'
def loopQ (I : Nat -> Env -> Prop) (n : Nat) (Q : Exit -> Env -> Prop) : Exit -> Env -> Prop := fun x e' => match x with | .normal => ∃ n' e2, n' < n /\ I n' e2 /\ e'.covers e2 | x => Q x e'
def scpQ (Q : Exit -> Env -> Prop) : Exit -> Env -> Prop := fun x e' => match x with | .goto _ => False | x => Q x e'
def condP (e : Env) (c : Operand) (A B : Prop) : Prop :=
 match opd e c with
 | .sv (.one (.bool t)) => (t = true -> A) /\ (t = false -> B)
 | _ => False
variable {a b : AC} {Q : Exit -> Env -> Prop} {e : Env}
theorem z_F (h : Q .normal e) : awp P .skip Q e := h
theorem z_B {ops : List SOp} {p : CR} {ks : List Nat} (h : arun P ops e (pruneQ p ks (Q .normal))) : awp P (.reg ops p ks) Q e := .inl h
theorem awp_regF {ops : List SOp} {p : CR} {ks : List Nat} (i s : Nat) (h : arunF P (s + 5000000) i ops e (pruneQ p ks (Q .normal))) : awp P (.reg ops p ks) Q e := .inr ⟨i, _, h⟩
theorem z_e {p : CR} {ks : List Nat} {K : Env -> Prop} (h : ∀ K' : Env -> Prop, (∀ e, K e -> K' e) -> K' (prune p ks e)) : pruneQ p ks K e := h _ fun _ h => h
theorem z_c {A : List DOp} {B : List BOp} {c : CR} {p : CR} {ks : List Nat} (h : ∀ K' : Env -> Prop, (∀ e, arunA P c A e [] (drwQ P c A B (pruneQ p ks (Q .normal))) -> K' e) -> K' (clears c e)) : awp P (.drw A B c p ks) Q e := h _ fun _ h => h
theorem z_A (h : awp P a (seqQ P b Q) e) : awp P (.seq a b) Q e := .inl h
def cutQ (e2 : Env) (Q : Exit -> Env -> Prop) : Exit -> Env -> Prop := fun x e' => match x with | .normal => e' = e2 \/ e'.covers e2 \/ ∃ s, (e'.frzEls s).covers e2 | x => Q x e'
theorem z_l (e2 : Env) (h : awp P a (cutQ e2 Q) e) (h2 : awp P b Q e2) : awp P (.seq a b) Q e := .inr ⟨e2, h, h2⟩
theorem z_m {e2 : Env} (h : e.covers e2) : cutQ e2 Q .normal e := .inr (.inl h)
theorem cutQ_frz {e2 : Env} (s : Nat) (h : (e.frzEls s).covers e2) : cutQ e2 Q .normal e := .inr (.inr ⟨s, h⟩)
theorem cutQ_all {e2 : Env} (s : Nat) (h : (e.frzEls (s + 5000000)).covers e2) : cutQ e2 Q .normal e := .inr (.inr ⟨_, h⟩)
theorem cutQ_exit {e2 : Env} {id : Nat} (h : Q (.exit id) e) : cutQ e2 Q (.exit id) e := h
theorem cutQ_ret {e2 : Env} (h : Q .ret e) : cutQ e2 Q .ret e := h
theorem z_C {id : Nat} (h : awp P b (blockQ id Q) e) : awp P (.block id b) Q e := h
theorem z_E {id : Nat} (h : Q (.exit id) e) : awp P (.exit id) Q e := h
theorem z_D (h : Q .ret e) : awp P .ret Q e := h
theorem z_Y {c : Operand} {t : Bool} (ht : opd e c = .sv (.one (.bool t))) (h1 : t = true -> awp P a Q e) (h2 : t = false -> awp P b Q e) : awp P (.cond c a b) Q e := by
 simp only [awp, ht]
 exact ⟨h1, h2⟩
theorem z_k (I : Nat -> Env -> Prop) (n0 : Nat) (e0 : Env) (h0 : I n0 e0) (hc : e.covers e0) (hr : ∀ n e1, I n e1 -> awp P b (loopQ I n Q) e1) : awp P (.loop b) Q e := ⟨I, n0, e0, h0, .inl hc, hr⟩
theorem z_G (h : awp P a (scpQ Q) e) : awp P (.scp a) Q e := h
theorem z_H (h : Q .normal e) : scpQ Q .normal e := h
theorem z_I (h : Q .ret e) : scpQ Q .ret e := h
theorem z_J {id : Nat} (h : Q (.exit id) e) : scpQ Q (.exit id) e := h
theorem z_K (h : awp P b Q e) : seqQ P b Q .normal e := h
theorem z_M {id : Nat} (h : Q (.exit id) e) : seqQ P b Q (.exit id) e := h
theorem z_L (h : Q .ret e) : seqQ P b Q .ret e := h
theorem z_N {id : Nat} (h : Q .normal e) : blockQ id Q .normal e := h
theorem z_O {id : Nat} (h : Q .ret e) : blockQ id Q .ret e := h
theorem z_P {id : Nat} (h : Q .normal e) : blockQ id Q (.exit id) e := by unfold blockQ; simpa using h
theorem z_Q {id id' : Nat} (hne : id' ≠ id) (h : Q (.exit id') e) : blockQ id Q (.exit id') e := by unfold blockQ; simpa [hne] using h
theorem z_S {I : Nat -> Env -> Prop} {n id : Nat} (h : Q (.exit id) e) : loopQ I n Q (.exit id) e := h
theorem z_R {I : Nat -> Env -> Prop} {n : Nat} (h : Q .ret e) : loopQ I n Q .ret e := h
theorem z_j {I : Nat -> Env -> Prop} {n : Nat} (n' : Nat) (e2 : Env) (h1 : n' < n) (h2 : I n' e2) (h3 : e.covers e2) : loopQ I n Q .normal e := ⟨n', e2, h1, h2, h3⟩
end
theorem closed_int (k : IntKind) (n : Int) : Closed (.int k n) ↔ True := ⟨fun _ => trivial, fun _ => .int k n⟩
theorem closed_bool (b : Bool) : Closed (.bool b) ↔ True := ⟨fun _ => trivial, fun _ => .bool b⟩
theorem closed_str (b : ByteArray) : Closed (.str b) ↔ True := ⟨fun _ => trivial, fun _ => .str b⟩
theorem closed_nil : Closed .nil ↔ True := ⟨fun _ => trivial, fun _ => .nil⟩
def clo (els : List (List DV)) : Prop := ∀ e ∈ els, ∀ d ∈ e, Closed d
theorem closed_ow (z : Nat) (els : List (List DV)) : Closed (.ow z els) ↔ clo els := ⟨fun h => by cases h; assumption, fun h => .ow z els h⟩
theorem clo_nil : clo [] ↔ True := ⟨fun _ => trivial, fun _ e he => by cases he⟩
theorem clo_cons (e : List DV) (els : List (List DV)) : clo (e :: els) ↔ (∀ d ∈ e, Closed d) /\ clo els := by simp [clo]
theorem clo_append (a b : List (List DV)) : clo (a ++ b) ↔ clo a /\ clo b := by
 simp only [clo, List.mem_append]
 exact ⟨fun h => ⟨fun e he => h e (.inl he), fun e he => h e (.inr he)⟩, fun h e he => he.elim (h.1 e) (h.2 e)⟩
theorem z_h {n : Int} (h1 : -9223372036854775808 <= n) (h2 : n <= 9223372036854775807) : IntKind.i64.wrap n = n := by
 rw [IntKind.wrap_i64]; omega
theorem flatEls_map {α : Type} (f : α -> List DV) (l : List α) : z_g (l.map f) ↔ ∀ x ∈ l, (f x).all DV.flat = true := by
 simp [z_g]
attribute [go_sem] alook aupd kvs kv1 KV.dv hasOw astoreAg calT fnOf rootsFrz capTmps aclos mutsC acallP acopy acopy0 copyTo SV.flatS flatTup aidx astrsl intsOf aminmax acallF capsOf frzPts cutFirst cutAppend List.foldl_cons List.foldl_nil prune isLocal arun astep astepA astepB z_i okEff gmk amk bmk view SOp.ts AV.refs AV.own AV.given appendOn takes SV.frz RV.frz RV.frzT astoreE astoreOwnE Eff.on Env.kills lateOk deads clears CR.has apureA apure isTup apure2 aeff abox opd rawOpd Env.get Env.put Env.kill AV.kill AV.asOpd SV.cells DV.flat constAV afield aload aindex sliceOf DV.elsOf Env.at Env.root AV.asOne getP setP DV.elAt DV.put AV.asCell ashift abin aun aconv aextract
 strip strTmps opTmps tmpsL AV.wanted apick AV.boolG alen aslice bnd abuild afieldV partsOf partsOfD movesOf gatherE ascP abuildO bldB stoB astoreO frz3 afill abuildSlice frzOps amake astore astoreOwn aappend acall acallC takesC nilCmp argsOf argOf AV.owned Env.give Env.setRoot endsIn resL res1 towardL SV.toward DV.toward towardD RV.list RV.wf slotsOf condP cellsEq cellEq
 Env.covers Env.coversL AV.le AV.refOk RV.av splice DV.frz frzL frzLL frzLL_map Env.frz Env.frzEls DV.val RV.Closed SV.Closed closed_int closed_bool closed_str closed_nil closed_ow clo_nil clo_cons clo_append
class St (g : Prop) (s : outParam Prop) : Prop where
 go : s -> g
section
variable {P : Program} {a b : AC} {Q : Exit -> Env -> Prop} {e : Env} {id : Nat}
instance : St (awp P .skip Q e) (Q .normal e) := ⟨z_F⟩
instance {ops : List SOp} {p : CR} {ks : List Nat} : St (awp P (.reg ops p ks) Q e) (arun P ops e (pruneQ p ks (Q .normal))) := ⟨z_B⟩
instance : St (awp P (.seq a b) Q e) (awp P a (seqQ P b Q) e) := ⟨z_A⟩
instance : St (awp P (.block id b) Q e) (awp P b (blockQ id Q) e) := ⟨z_C⟩
instance : St (awp P (.exit id) Q e) (Q (.exit id) e) := ⟨z_E⟩
instance : St (awp P .ret Q e) (Q .ret e) := ⟨z_D⟩
instance : St (awp P (.scp a) Q e) (awp P a (scpQ Q) e) := ⟨z_G⟩
instance : St (scpQ Q .normal e) (Q .normal e) := ⟨z_H⟩
instance : St (scpQ Q .ret e) (Q .ret e) := ⟨z_I⟩
instance : St (scpQ Q (.exit id) e) (Q (.exit id) e) := ⟨z_J⟩
instance : St (seqQ P b Q .normal e) (awp P b Q e) := ⟨z_K⟩
instance : St (seqQ P b Q (.exit id) e) (Q (.exit id) e) := ⟨z_M⟩
instance : St (seqQ P b Q .ret e) (Q .ret e) := ⟨z_L⟩
instance : St (blockQ id Q .normal e) (Q .normal e) := ⟨z_N⟩
instance : St (blockQ id Q .ret e) (Q .ret e) := ⟨z_O⟩
instance : St (blockQ id Q (.exit id) e) (Q .normal e) := ⟨z_P⟩
instance {I : Nat -> Env -> Prop} {n : Nat} : St (loopQ I n Q (.exit id) e) (Q (.exit id) e) := ⟨z_S⟩
instance {I : Nat -> Env -> Prop} {n : Nat} : St (loopQ I n Q .ret e) (Q .ret e) := ⟨z_R⟩
instance {e2 : Env} : St (cutQ e2 Q (.exit id) e) (Q (.exit id) e) := ⟨cutQ_exit⟩
instance {e2 : Env} : St (cutQ e2 Q .ret e) (Q .ret e) := ⟨cutQ_ret⟩
instance {K : Env -> Prop} : St (arun P [] e K) (K e) := ⟨z_T⟩
instance {c : CR} {cs : List Nat} {K : Env -> List Nat -> Prop} : St (arunA P c [] e cs K) (K e cs) := ⟨z_U⟩
instance {c : CR} {A : List DOp} {K : Env -> Prop} : St (arunB P c A [] e K) (K e) := ⟨z_V⟩
instance {c : CR} {A : List DOp} {B : List BOp} {cs : List Nat} {K : Env -> Prop} : St (drwQ P c A B K e cs) (arunB P c A B e (deadQ cs K)) := ⟨z_W⟩
instance {K : Env -> Prop} : St (deadQ [] K e) (K e) := ⟨z_X⟩
class NeB (a b : Nat) : Prop where
 ne : a ≠ b
instance (n : Nat) : NeB 0 (n + 1) := ⟨by omega⟩
instance (n : Nat) : NeB (n + 1) 0 := ⟨by omega⟩
instance (n m : Nat) [h : NeB n m] : NeB (n + 1) (m + 1) := ⟨by have := h.ne; omega⟩
instance {id' : Nat} [h : NeB id' id] : St (blockQ id Q (.exit id') e) (Q (.exit id') e) := ⟨z_Q h.ne⟩
class Ru (g : Prop) (s : outParam Prop) : Prop where
 go : s -> g
instance {o : SOp} {os : List SOp} {K : Env -> Prop} : Ru (arun P (o :: os) e K) (∀ K' : Env -> Prop, (∀ e, arun P os e K -> K' e) -> astep P o e K') := ⟨z_Z⟩
instance {o : SOp} {os : List SOp} {K : Env -> Prop} {s i : Nat} : Ru (arunF P s (i + 1) (o :: os) e K) (∀ K' : Env -> Prop, (∀ e, arunF P s i os e K -> K' e) -> astep P o e K') := ⟨arunF_cons⟩
instance {os : List SOp} {K : Env -> Prop} {s : Nat} : Ru (arunF P s 0 os e K) (∀ K' : Env -> Prop, (∀ e, arun P os e K -> K' e) -> K' (Env.frzEls e s)) := ⟨arunF_zero⟩
instance {c : CR} {x : DOp} {os : List DOp} {cs : List Nat} {K : Env -> List Nat -> Prop} : Ru (arunA P c (x :: os) e cs K) (∀ K' : Env -> List Nat -> Prop, (∀ e cs, arunA P c os e cs K -> K' e cs) -> astepA P c x e cs K') := ⟨z_a⟩
instance {c : CR} {A : List DOp} {b : BOp} {bs : List BOp} {K : Env -> Prop} : Ru (arunB P c A (b :: bs) e K) (∀ K' : Env -> Prop, (∀ e, arunB P c A bs e K -> K' e) -> astepB P c A b e K') := ⟨z_b⟩
instance {A : List DOp} {B : List BOp} {c : CR} {p : CR} {ks : List Nat} : Ru (awp P (.drw A B c p ks) Q e) (∀ K' : Env -> Prop, (∀ e, arunA P c A e [] (drwQ P c A B (pruneQ p ks (Q .normal))) -> K' e) -> K' (clears c e)) := ⟨z_c⟩
instance {cs : List Nat} {K : Env -> Prop} : Ru (deadQ cs K e) (∀ K' : Env -> Prop, (∀ e, K e -> K' e) -> K' (deads cs e)) := ⟨z_d⟩
instance {p : CR} {ks : List Nat} {K : Env -> Prop} : Ru (pruneQ p ks K e) (∀ K' : Env -> Prop, (∀ e, K e -> K' e) -> K' (prune p ks e)) := ⟨z_e⟩
def condK (e : Env) (c : Operand) (K : Bool -> Prop) : Prop := match opd e c with
 | .sv (.one (.bool t)) => K t
 | _ => False
attribute [go_sem] condK
theorem cn {t : Bool} {A B : Prop} (h1 : t = true -> A) (h2 : t = false -> B) : (t = true -> A) /\ (t = false -> B) := ⟨h1, h2⟩
theorem ob {p : Prop} (h : p := by first | omega | (simp [z_f, z_g]; first | done | omega)) : p := h
instance {c : Operand} : Ru (awp P (.cond c a b) Q e) (∀ K : Bool -> Prop, (∀ t, (t = true -> awp P a Q e) /\ (t = false -> awp P b Q e) -> K t) -> condK e c K) := ⟨fun h => by
 have h' := h (fun t => (t = true -> awp P a Q e) /\ (t = false -> awp P b Q e)) (fun _ h => h)
 unfold condK at h'
 split at h'
 ·rename_i t ht
  exact z_Y ht h'.1 h'.2
 ·exact h'.elim⟩
theorem wx : (∀ {n : Int}, -9223372036854775808 <= n -> n <= 9223372036854775807 -> IntKind.i64.wrap n = n) /\ (∀ {α : Type} (a : α), (a = a) = True) /\ ∀ p : Prop, (True /\ p) = p := ⟨z_h, fun a => eq_self a, true_and⟩
theorem aN {a b : Prop} (h1 : a) (h2 : b) : a /\ b := ⟨h1, h2⟩
end
structure Rs (p : Prop) : Prop where
 o : p
class FnI (P : Program) (k : FuncId) (fn : outParam Func) (m : outParam Nat) (rs : outParam (List ResultVar)) : Prop where
 f : P.funcs[k]? = some fn
 t : fn.ntmps = m
 b : fn.body = some (fn.body.getD .skip) := by kernel_rfl
 d : textOk P m (fn.body.getD .skip) = true := by kernel_rfl
 r : fn.results.toList = rs := by kernel_rfl
 n : fn.name ≠ "runtime.NumGoroutine" := by decide
theorem impl_v {P : Program} {k : FuncId} {f : Func} {rl : List ResultVar} {N : Nat} [z : FnI P k f N rl] {args : List SV} {r : RV} {Q : Prop} (q : Q) (h : Q -> args.length <= N /\ awp P (slim (f.body.getD .skip)) (endsIn P rl r) (slotsOf 0 args) := by intro q_; refine ⟨by simp, ?_⟩; simp only [slotsOf]; (conv => arg 2; reduce); exact q_) : Impl P k args r :=
 impl_intro z.f z.b rfl z.r z.n z.t z.d (h q).1 fun _ => (h q).2
inductive T0 : Prop where
 | k
structure H1 (A : Prop) : Prop where
 k ::
 a : A
theorem Rs.hA1 {A : Prop} (r : Rs (H1 A)) : A := r.o.a
structure H2 (A B : Prop) : Prop where
 k ::
 a : A
 b : B
theorem Rs.hA2 {A B : Prop} (r : Rs (H2 A B)) : A := r.o.a
theorem Rs.hB2 {A B : Prop} (r : Rs (H2 A B)) : B := r.o.b
structure H3 (A B C : Prop) : Prop where
 k ::
 a : A
 b : B
 c : C
theorem Rs.hA3 {A B C : Prop} (r : Rs (H3 A B C)) : A := r.o.a
theorem Rs.hB3 {A B C : Prop} (r : Rs (H3 A B C)) : B := r.o.b
theorem Rs.hC3 {A B C : Prop} (r : Rs (H3 A B C)) : C := r.o.c
structure H4 (A B C D : Prop) : Prop where
 k ::
 a : A
 b : B
 c : C
 d : D
theorem Rs.hA4 {A B C D : Prop} (r : Rs (H4 A B C D)) : A := r.o.a
theorem Rs.hB4 {A B C D : Prop} (r : Rs (H4 A B C D)) : B := r.o.b
theorem Rs.hC4 {A B C D : Prop} (r : Rs (H4 A B C D)) : C := r.o.c
theorem Rs.hD4 {A B C D : Prop} (r : Rs (H4 A B C D)) : D := r.o.d
structure T2 (A B : Prop) : Prop where
 k ::
 a : A
 b : B
theorem Rs.tA2 {A B : Prop} (r : Rs (T2 A B)) : A := r.o.a
theorem Rs.tB2 {A B : Prop} (r : Rs (T2 A B)) : B := r.o.b
structure T3 (A B C : Prop) : Prop where
 k ::
 a : A
 b : B
 c : C
theorem Rs.tA3 {A B C : Prop} (r : Rs (T3 A B C)) : A := r.o.a
theorem Rs.tB3 {A B C : Prop} (r : Rs (T3 A B C)) : B := r.o.b
theorem Rs.tC3 {A B C : Prop} (r : Rs (T3 A B C)) : C := r.o.c
structure T4 (A B C D : Prop) : Prop where
 k ::
 a : A
 b : B
 c : C
 d : D
theorem Rs.tA4 {A B C D : Prop} (r : Rs (T4 A B C D)) : A := r.o.a
theorem Rs.tB4 {A B C D : Prop} (r : Rs (T4 A B C D)) : B := r.o.b
theorem Rs.tC4 {A B C D : Prop} (r : Rs (T4 A B C D)) : C := r.o.c
theorem Rs.tD4 {A B C D : Prop} (r : Rs (T4 A B C D)) : D := r.o.d
theorem wN {Q P : Prop} (r : Q) (h : Rs Q -> P := by intro r_; (repeat' first | refine St.go ?_ | ((with_reducible refine cn ?_ ?_) <;> intro h <;> (try simp at h) <;> try omega) | (refine Ru.go ?_; intro K hK; simp [go_sem]; (try simp (disch := omega) only [wx, z_h, z_i]); (first | apply hK | refine ⟨by first | omega | (simp [z_f, z_g]; first | done | omega), ?_⟩ | refine ⟨hK _ ?_, fun h => ?_⟩ | refine ⟨?_, ?_⟩); all_goals ((try apply hK); clear hK K)) | fail); first | (exact r_.o; fail_if_success have := trivial) | (revert h; exact r_.hA1; fail_if_success have := trivial) | (revert h; exact r_.hA2; revert h; exact r_.hB2; fail_if_success have := trivial) | (exact r_.tA2; exact r_.tB2; fail_if_success have := trivial) | (revert h; exact r_.hA3; revert h; exact r_.hB3; revert h; exact r_.hC3; fail_if_success have := trivial) | (exact r_.tA3; exact r_.tB3; exact r_.tC3; fail_if_success have := trivial) | (revert h; exact r_.hA4; revert h; exact r_.hB4; revert h; exact r_.hC4; revert h; exact r_.hD4; fail_if_success have := trivial) | (exact r_.tA4; exact r_.tB4; exact r_.tC4; exact r_.tD4; fail_if_success have := trivial) | fail_if_success have := trivial) : P := h ⟨r⟩
theorem wX {X Q P : Prop} (x : X) (r : Q) (h : X -> Rs Q -> P := by intro x_ r_; (repeat' first | refine St.go ?_ | ((with_reducible refine cn ?_ ?_) <;> intro h <;> (try simp [x_] at h) <;> try omega) | (refine Ru.go ?_; intro K hK; simp [go_sem, x_]; (try simp (disch := omega) only [wx, z_h, z_i]); (first | apply hK | refine ⟨by first | omega | (simp [z_f, z_g, x_]; first | done | omega), ?_⟩ | refine ⟨hK _ ?_, fun h => ?_⟩ | refine ⟨?_, ?_⟩); all_goals ((try apply hK); clear hK K)) | fail); first | (exact r_.o; fail_if_success have := trivial) | (revert h; exact r_.hA1; fail_if_success have := trivial) | (revert h; exact r_.hA2; revert h; exact r_.hB2; fail_if_success have := trivial) | (exact r_.tA2; exact r_.tB2; fail_if_success have := trivial) | (revert h; exact r_.hA3; revert h; exact r_.hB3; revert h; exact r_.hC3; fail_if_success have := trivial) | (exact r_.tA3; exact r_.tB3; exact r_.tC3; fail_if_success have := trivial) | (revert h; exact r_.hA4; revert h; exact r_.hB4; revert h; exact r_.hC4; revert h; exact r_.hD4; fail_if_success have := trivial) | (exact r_.tA4; exact r_.tB4; exact r_.tC4; exact r_.tD4; fail_if_success have := trivial) | fail_if_success have := trivial) : P := h x ⟨r⟩
theorem wC {C Q P : Prop} (c : C) (r : Q) (h : C -> Rs Q -> P := by intro c_ r_; (repeat' first | refine St.go ?_ | ((with_reducible refine cn ?_ ?_) <;> intro h <;> (try simp at h) <;> try omega) | (refine Ru.go ?_; intro K hK; simp [go_sem]; (try simp (disch := omega) only [wx, z_h, z_i]); (first | apply hK | ((first | ((try refine .inl ?_); refine ⟨_, by (try intro hc); (repeat' first | exact c_ | exact c_.1 | exact c_.2.1 | exact c_.2.2.1 | exact c_.2 | exact c_.2.2 | exact c_.2.2.2 | exact hc | refine And.intro ?_ ?_ | simp [go_sem] | exact c_.2.2.2.1 | exact c_.2.2.2.2.1 | exact c_.2.2.2.2 | exact c_.2.2.2.2.2 | exact c_.2.2.2.2.2.1 | exact c_.2.2.2.2.2.2); first | done | omega, ?_⟩) | refine .inr (.inl ⟨_, by (try intro hc); (repeat' first | exact c_ | exact c_.1 | exact c_.2.1 | exact c_.2.2.1 | exact c_.2 | exact c_.2.2 | exact c_.2.2.2 | exact hc | refine And.intro ?_ ?_ | simp [go_sem] | exact c_.2.2.2.1 | exact c_.2.2.2.2.1 | exact c_.2.2.2.2 | exact c_.2.2.2.2.2 | exact c_.2.2.2.2.2.1 | exact c_.2.2.2.2.2.2); first | done | omega, ?_⟩) | refine .inr (.inr ⟨_, by (try intro hc); (repeat' first | exact c_ | exact c_.1 | exact c_.2.1 | exact c_.2.2.1 | exact c_.2 | exact c_.2.2 | exact c_.2.2.2 | exact hc | refine And.intro ?_ ?_ | simp [go_sem] | exact c_.2.2.2.1 | exact c_.2.2.2.2.1 | exact c_.2.2.2.2 | exact c_.2.2.2.2.2 | exact c_.2.2.2.2.2.1 | exact c_.2.2.2.2.2.2); first | done | omega, ?_⟩)); first | apply hK | (refine ⟨by simp [go_sem], ?_⟩; first | apply hK | refine ⟨by simp [go_sem], hK _ _ ?_⟩)) | refine ⟨.one (.one (.bool false)), by simp [go_sem], hK _ _ ?_⟩ | refine ⟨by first | omega | (simp [z_f, z_g]; first | done | omega), ?_⟩ | refine ⟨hK _ ?_, fun h => ?_⟩ | refine ⟨?_, ?_⟩); all_goals ((try apply hK); clear hK K)) | fail); first | (exact r_.o; fail_if_success have := trivial) | (revert h; exact r_.hA1; fail_if_success have := trivial) | (revert h; exact r_.hA2; revert h; exact r_.hB2; fail_if_success have := trivial) | (exact r_.tA2; exact r_.tB2; fail_if_success have := trivial) | (revert h; exact r_.hA3; revert h; exact r_.hB3; revert h; exact r_.hC3; fail_if_success have := trivial) | (exact r_.tA3; exact r_.tB3; exact r_.tC3; fail_if_success have := trivial) | (revert h; exact r_.hA4; revert h; exact r_.hB4; revert h; exact r_.hC4; revert h; exact r_.hD4; fail_if_success have := trivial) | (exact r_.tA4; exact r_.tB4; exact r_.tC4; exact r_.tD4; fail_if_success have := trivial) | fail_if_success have := trivial) : P := h c ⟨r⟩
theorem wV {X C Q P : Prop} (x : X) (c : C) (r : Q) (h : X -> C -> Rs Q -> P := by intro x_ c_ r_; (repeat' first | refine St.go ?_ | ((with_reducible refine cn ?_ ?_) <;> intro h <;> (try simp [x_] at h) <;> try omega) | (refine Ru.go ?_; intro K hK; simp [go_sem, x_]; (try simp (disch := omega) only [wx, z_h, z_i]); (first | apply hK | ((first | ((try refine .inl ?_); refine ⟨_, by (try intro hc); (repeat' first | exact c_ | exact c_.1 | exact c_.2.1 | exact c_.2.2.1 | exact c_.2 | exact c_.2.2 | exact c_.2.2.2 | exact hc | refine And.intro ?_ ?_ | simp [go_sem, x_] | exact c_.2.2.2.1 | exact c_.2.2.2.2.1 | exact c_.2.2.2.2 | exact c_.2.2.2.2.2 | exact c_.2.2.2.2.2.1 | exact c_.2.2.2.2.2.2); first | done | omega, ?_⟩) | refine .inr (.inl ⟨_, by (try intro hc); (repeat' first | exact c_ | exact c_.1 | exact c_.2.1 | exact c_.2.2.1 | exact c_.2 | exact c_.2.2 | exact c_.2.2.2 | exact hc | refine And.intro ?_ ?_ | simp [go_sem, x_] | exact c_.2.2.2.1 | exact c_.2.2.2.2.1 | exact c_.2.2.2.2 | exact c_.2.2.2.2.2 | exact c_.2.2.2.2.2.1 | exact c_.2.2.2.2.2.2); first | done | omega, ?_⟩) | refine .inr (.inr ⟨_, by (try intro hc); (repeat' first | exact c_ | exact c_.1 | exact c_.2.1 | exact c_.2.2.1 | exact c_.2 | exact c_.2.2 | exact c_.2.2.2 | exact hc | refine And.intro ?_ ?_ | simp [go_sem, x_] | exact c_.2.2.2.1 | exact c_.2.2.2.2.1 | exact c_.2.2.2.2 | exact c_.2.2.2.2.2 | exact c_.2.2.2.2.2.1 | exact c_.2.2.2.2.2.2); first | done | omega, ?_⟩)); first | apply hK | (refine ⟨by simp [go_sem, x_], ?_⟩; first | apply hK | refine ⟨by simp [go_sem, x_], hK _ _ ?_⟩)) | refine ⟨.one (.one (.bool false)), by simp [go_sem, x_], hK _ _ ?_⟩ | refine ⟨by first | omega | (simp [z_f, z_g, x_]; first | done | omega), ?_⟩ | refine ⟨hK _ ?_, fun h => ?_⟩ | refine ⟨?_, ?_⟩); all_goals ((try apply hK); clear hK K)) | fail); first | (exact r_.o; fail_if_success have := trivial) | (revert h; exact r_.hA1; fail_if_success have := trivial) | (revert h; exact r_.hA2; revert h; exact r_.hB2; fail_if_success have := trivial) | (exact r_.tA2; exact r_.tB2; fail_if_success have := trivial) | (revert h; exact r_.hA3; revert h; exact r_.hB3; revert h; exact r_.hC3; fail_if_success have := trivial) | (exact r_.tA3; exact r_.tB3; exact r_.tC3; fail_if_success have := trivial) | (revert h; exact r_.hA4; revert h; exact r_.hB4; revert h; exact r_.hC4; revert h; exact r_.hD4; fail_if_success have := trivial) | (exact r_.tA4; exact r_.tB4; exact r_.tC4; exact r_.tD4; fail_if_success have := trivial) | fail_if_success have := trivial) : P := h x c ⟨r⟩
end Go.Av

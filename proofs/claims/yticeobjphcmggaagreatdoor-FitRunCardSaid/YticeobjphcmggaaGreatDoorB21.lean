/- The law FitRun returns true. -/
import Derived.Test.YticeobjphcmggaaGreatDoorB20
set_option linter.unusedVariables false
set_option linter.unusedSimpArgs false
set_option maxHeartbeats 64000000
set_option maxRecDepth 8000
namespace Go.Av
open Go Go.RowKit Go.Proofs
theorem sum_mem : ∀ {l : List Nat} {n : Nat}, n ∈ l -> n <= l.sum
 | a :: l, n, h => by
   rw [List.sum_cons]
   rcases List.mem_cons.1 h with rfl | h
   ·omega
   ·have := sum_mem h; omega
theorem units_mem {l : List Dcl} {d : Dcl} (h : d ∈ l) : d.fields.length + (d.diffs.length + d.equals.length) <= units l l.length := by
 unfold units
 rw [List.take_length]
 exact sum_mem (List.mem_map_of_mem (f := fun d : Dcl => d.fields.length + (d.diffs.length + d.equals.length)) h)
theorem few_small {g : Glob} (h : fewG g = true) (hn : ∀ d ∈ g.decls, d.name.size <= 1000000000000000) : Small g := by
 simp only [fewG, fewD, Bool.and_eq_true, decide_eq_true_eq] at h
 obtain ⟨⟨⟨⟨h1, h2⟩, h3⟩, h4⟩, h5, h6⟩ := h
 refine ⟨by omega, by omega, fun d hd => ?_, fun d hd => ?_, by omega, by omega⟩
 ·have := units_mem hd; omega
 ·have := units_mem hd; have := hn d hd; omega
def GlobA (g : Glob) : Prop := g.decls.length <= 1000000000000000 /\ ∀ d ∈ g.decls, d.name.size <= 1000000000000000 /\ d.fields.length <= 1000000000000000 /\ d.diffs.length <= 1000000000000000 /\ d.equals.length <= 1000000000000000
def HistA (H : List (List Ev)) : Prop := H.length <= 1000000000000000 /\ ∀ l ∈ H, l.length <= 1000000000000000
theorem sl_toward {w : World} {S : Nat -> Prop} {v : Value} {els els' : List (List DV)} {r : List Nat} (hl : els.map List.length = els'.map List.length) (ht : towardD els.flatten els'.flatten) (h : Cz w S v (.sl els) r) : Cz w S v (.sl els') r := by
 have hlen : els.length = els'.length := by simpa using congrArg List.length hl
 cases h with
 | shNil a c =>
   have : els' = [] := List.eq_nil_of_length_eq_zero (by simpa using hlen.symm)
   subst this
   exact .shNil _ _
 | sh ad n c z _ vs hS hn hc hm hz hcell hcl =>
   refine .sh ad n c z els' vs hS (by omega) hc hm ?_ hcell (towardD_ok hcl ht)
   intro e he
   have : e.length ∈ els'.map List.length := List.mem_map.2 ⟨e, he, rfl⟩
   rw [<- hl] at this
   obtain ⟨e', he', h'⟩ := List.mem_map.1 this
   rw [<- h']; exact hz e' he'
def dR : List (List DV) := [[.str ⟨#[120]⟩, .nil, .int .i64 0, .nil, .nil], [.str ⟨#[121]⟩, .nil, .int .i64 0, .nil, .nil]]
def hR : List (List DV) := [[.sl [[.int .i64 0, .bool true, .int .i64 1, .int .i64 0, .nil]]], [.nil], [.sl [[.int .i64 2, .bool false, .int .i64 0, .int .i64 1, .nil]]]]
def gR : List DV := [.str ⟨#[80]⟩, .sl [[.str ⟨#[65]⟩], [.str ⟨#[66]⟩], [.str ⟨#[67]⟩]], .sl dR, .int .i64 3, .int .i64 0, .int .i64 2, .sl gE, .nil]
theorem raw_enc {w : World} {S : Nat -> Prop} {v : Value} {r : List Nat} (h : CzS w S v (.ag gR) r) : CzS w S v (.ag (encG exG)) r := by
 rw [exG_enc]
 cases h with
 | ag vs l r hl =>
   refine .ag _ _ _ ?_
   unfold gR at hl
   generalize vs.toList = vl at hl
   cases hl with
   | cons _ _ _ _ _ _ h1 hl =>
     cases hl with
     | cons _ _ _ _ _ _ h2 hl =>
       cases hl with
       | cons _ _ _ _ _ _ h3 hl =>
         refine .cons _ _ _ _ _ _ h1 (.cons _ _ _ _ _ _ h2 (.cons _ _ _ _ _ _ (sl_toward (els := dR) (els' := dE) rfl ?_ h3) (towardD_ok hl ?_)))
         ·simp [dR, dE, towardD, DV.toward]
         ·simp [towardD, DV.toward]
theorem raw_args {f : FuncId} {xs : List SV} {r : RV} (h : Impl Tryz.prog f (.ag (encG exG) :: .one (.sl hE) :: xs) r) : Impl Tryz.prog f (.ag gR :: .one (.sl hR) :: xs) r := by
 refine ⟨h.1, fun w S vs hS hcz => h.2 w S vs hS ?_⟩
 generalize hz : ([] : List Nat) = z at hcz
 cases hcz with
 | cons v x r vs xs rs h1 hs =>
   cases hs with
   | cons v x r vs xs rs h2 hs => exact CzSL.cons _ _ _ _ _ _ (raw_enc h1) (CzSL.cons _ _ _ _ _ _ (.one _ _ _ (sl_toward (els := hR) (els' := hE) rfl (by simp [hR, hE, towardD, DV.toward]) h2.one_inv)) hs)
theorem small_ex : Small exG := ⟨by decide, by decide, by simp [exG, exD], by simp [exG, exD]; decide, by decide, by decide⟩
theorem f9 (h109 : H109) : Impl Tryz.prog 9 [] (.one (.one (.bool true))) := by
 have k11 := f11 h109 exG exH small_ex (by decide) (by decide)
 have k14 := f14 h109 exG exH 0 small_ex (by decide) (by decide)
 have k17 := f17x h109
 rw [search_ex] at k11
 rw [next_ex] at k14
 rw [exH_enc] at k11 k14 k17
 have k11 := raw_args k11
 have k14 := raw_args k14
 have k17 := raw_args k17
 have e1 : (actsF exG (some [0, 1])).map encI = [[.int .i64 0, .int .i64 1, .int .i64 0], [.int .i64 0, .int .i64 2, .int .i64 1]] := rfl
 have e2 : resE (some [⟨0, true, 2, 1, none⟩]) = .ow 5 [[.int .i64 0, .bool true, .int .i64 2, .int .i64 1, .nil]] := rfl
 simp only [e1] at k11
 simp only [e2] at k14
 simp only [gR, hR, dR, gE] at k11 k14 k17
 refine impl_z Tryz.func9 z9 Tryz.ntmps9 (by simp) ?_
 simp only [c9, slotsOf]
 repeat' first | refine St.go ?_ | (refine Ru.go ?_; intro K hK; simp [go_sem]; (first | apply hK | ((try refine .inl ?_); refine ⟨_, by (try intro hc); (repeat' first | exact k11 | exact k14 | exact k17 | exact hc | refine And.intro ?_ ?_ | simp [go_sem]); first | done | omega, ?_⟩; first | apply hK | (refine ⟨by simp [go_sem], ?_⟩; apply hK)) | refine ⟨.one (.one (.bool false)), by simp [go_sem], hK _ _ ?_⟩ | refine ⟨ob, ?_⟩ | refine ⟨hK _ ?_, fun h => ?_⟩ | refine ⟨?_, ?_⟩); all_goals ((try apply hK); clear hK K))
 simp [go_sem]
theorem few_facts {g : Glob} {H : List (List Ev)} {n : Int} (h : fewF g H n = true) : fewG g = true /\ H.length <= 8 /\ (sumH H : Int) <= n := by
 unfold fewF at h
 simp only [Bool.and_eq_true, decide_eq_true_eq] at h
 exact ⟨h.1, h.2.2.2.1, h.2.2.2.2⟩
theorem sumH_mem {H : List (List Ev)} {l : List Ev} (h : l ∈ H) : l.length <= sumH H := sum_mem (List.mem_map_of_mem (f := List.length) h)
theorem search_one {g : Glob} {H : List (List Ev)} (h : (searchF g H).2 = 1) : (searchF g H).1 = none := by
 obtain ⟨⟨o, c⟩, he⟩ : ∃ v, searchF g H = v := ⟨_, rfl⟩
 rw [he] at h ⊢
 cases o with
 | none => rfl
 | some l =>
   have := (search_ok he).2.2
   simp only at h
   omega
theorem f3 (h109 : H109) (g : Glob) (H : List (List Ev)) (hg : GlobA g) (hH : HistA H) : Impl Tryz.prog 3 [.ag (encG g), .one (.sl (H.map encH))] (.one (.one (.bool true))) := by
 have k9 := f9 h109
 have k10 := f10 g H 12 hg.1 (fun d hd => (hg.2 d hd).2) hH.1 hH.2
 simp only [encG] at k10
 refine impl_w Tryz.func3 z3 Tryz.ntmps3 (by simp) ?_
 simp only [slotsOf]
 conv => arg 2; reduce
 cases hf : fewF g H 12 with
 | false =>
   rw [hf] at k10
   repeat' first | refine St.go ?_ | ((with_reducible refine cn ?_ ?_) <;> intro h <;> (try simp at h) <;> try omega) | (refine Ru.go ?_; intro K hK; simp [go_sem, encG]; (first | apply hK | ((try refine .inl ?_); refine ⟨_, by (try intro hc); (repeat' first | exact k9 | exact k10 | exact hc | refine And.intro ?_ ?_ | simp [go_sem, encG]); first | done | omega, ?_⟩; first | apply hK | (refine ⟨by simp [go_sem, encG], ?_⟩; apply hK)) | refine ⟨.one (.one (.bool false)), by simp [go_sem, encG], hK _ _ ?_⟩ | refine ⟨ob, ?_⟩ | refine ⟨hK _ ?_, fun h => ?_⟩ | refine ⟨?_, ?_⟩); all_goals ((try apply hK); clear hK K))
   simp [go_sem]
 | true =>
   rw [hf] at k10
   obtain ⟨f1, f2, f3⟩ := few_facts hf
   have sg := few_small f1 fun d hd => (hg.2 d hd).1
   have hl : H.length <= 1000000 := by omega
   have hh : ∀ l ∈ H, l.length <= 1000000 := fun l hl' => by have := sumH_mem hl'; omega
   have k11 := f11 h109 g H sg hl hh
   have k12 := f12 g H sg hl hh
   have hso : ∀ l c, searchF g H = (some l, c) -> _ := fun l c => search_ok
   have h1 := search_one (g := g) (H := H)
   have hal : (actsF g (searchF g H).1).length <= 20000 := by
    obtain ⟨⟨o, c⟩, he⟩ : ∃ v, searchF g H = v := ⟨_, rfl⟩
    rw [he]
    cases o with
    | none => simp [actsF]
    | some l =>
      have := (search_ok he).2.1
      simp [actsF]
      omega
   have k13 := f13 (actsF g (searchF g H).1) (actsF g (searchF g H).1) (by omega) (by omega)
   have hA1 : (searchF g H).2 = 1 -> actsF g (searchF g H).1 = [] := fun e => by rw [h1 e]; rfl
   simp only [encG] at k11 k12
   generalize actsF g (searchF g H).1 = A at *
   generalize (searchF g H).2 = c at *
   simp only [decide_true] at k13
   by_cases hc : c = 1
   ·have hA := hA1 hc
    subst hc
    subst hA
    simp only [rawA, if_true, List.map_nil] at k11 k12 k13
    repeat' first | refine St.go ?_ | ((with_reducible refine cn ?_ ?_) <;> intro h <;> (try simp at h) <;> try omega) | (refine Ru.go ?_; intro K hK; simp [go_sem, encG]; (first | apply hK | ((try refine .inl ?_); refine ⟨_, by (try intro hc); (repeat' first | exact k9 | exact k10 | exact k11 | exact k12 | exact k13 | exact hc | refine And.intro ?_ ?_ | simp [go_sem, encG]); first | done | omega, ?_⟩; first | apply hK | (refine ⟨by simp [go_sem, encG], ?_⟩; apply hK)) | refine ⟨.one (.one (.bool false)), by simp [go_sem, encG], hK _ _ ?_⟩ | refine ⟨ob, ?_⟩ | refine ⟨hK _ ?_, fun h => ?_⟩ | refine ⟨?_, ?_⟩); all_goals ((try apply hK); clear hK K))
    simp [go_sem]
   ·simp only [rawA, if_neg hc] at k12
    repeat' first | refine St.go ?_ | ((with_reducible refine cn ?_ ?_) <;> intro h <;> (try simp at h) <;> try omega) | (refine Ru.go ?_; intro K hK; simp [go_sem, encG]; (first | apply hK | ((try refine .inl ?_); refine ⟨_, by (try intro hc); (repeat' first | exact k9 | exact k10 | exact k11 | exact k12 | exact k13 | exact hc | refine And.intro ?_ ?_ | simp [go_sem, encG]); first | done | omega, ?_⟩; first | apply hK | (refine ⟨by simp [go_sem, encG], ?_⟩; apply hK)) | refine ⟨.one (.one (.bool false)), by simp [go_sem, encG], hK _ _ ?_⟩ | refine ⟨ob, ?_⟩ | refine ⟨hK _ ?_, fun h => ?_⟩ | refine ⟨?_, ?_⟩); all_goals ((try apply hK); clear hK K))
    simp [go_sem]
end Go.Av

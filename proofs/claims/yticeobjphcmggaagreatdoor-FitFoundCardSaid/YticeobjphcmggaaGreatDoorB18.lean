/- Part of a proof. -/
import Derived.Test.YticeobjphcmggaaGreatDoorAvR
import Derived.Test.YticeobjphcmggaaGreatDoorB17
import Derived.Test.YticeobjphcmggaaGreatDoorB15
set_option linter.unusedVariables false
set_option linter.unusedSimpArgs false
set_option maxHeartbeats 64000000
set_option maxRecDepth 8000
namespace Go.Av
open Go Go.RowKit Go.Proofs
set_option maxHeartbeats 64000000
theorem sum_mem : ∀ {l : List Nat} {n : Nat}, n ∈ l -> n <= l.sum
 | a :: l, n, h => by
   rw [List.sum_cons]
   rcases List.mem_cons.1 h with rfl | h
   ·omega
   ·have := sum_mem h; omega
theorem units_mem {l : List Dcl} {d : Dcl} (h : d ∈ l) : d.fields.length + (d.diffs.length + d.equals.length) <= units l l.length := by
 unfold units
 rw [List.take_length]
 exact sum_mem (List.mem_map_of_mem (f := fun d : Dcl => d.fields.length + (d.diffs.length + d.equals.length)) h)
theorem few_small {g : Glob} (h : fewG g = true) (hn : ∀ d ∈ g.decls, d.name.size <= 1000000000000000) : Small g := by
 simp only [fewG, fewD, Bool.and_eq_true, decide_eq_true_eq] at h
 obtain ⟨⟨⟨⟨h1, h2⟩, h3⟩, h4⟩, h5, h6⟩ := h
 refine ⟨by omega, by omega, fun d hd => ?_, fun d hd => ?_, by omega, by omega⟩
 ·have := units_mem hd; omega
 ·have := units_mem hd; have := hn d hd; omega
def GlobA (g : Glob) : Prop := g.decls.length <= 1000000000000000 /\ ∀ d ∈ g.decls, d.name.size <= 1000000000000000 /\ d.fields.length <= 1000000000000000 /\ d.diffs.length <= 1000000000000000 /\ d.equals.length <= 1000000000000000
def HistA (H : List (List Ev)) : Prop := H.length <= 1000000000000000 /\ ∀ l ∈ H, l.length <= 1000000000000000
theorem sl_toward {w : World} {S : Nat -> Prop} {v : Value} {els els' : List (List DV)} {r : List Nat} (hl : els.map List.length = els'.map List.length) (ht : towardD els.flatten els'.flatten) (h : Cz w S v (.sl els) r) : Cz w S v (.sl els') r := by
 have hlen : els.length = els'.length := by simpa using congrArg List.length hl
 cases h with
 | shNil a c =>
   have : els' = [] := List.eq_nil_of_length_eq_zero (by simpa using hlen.symm)
   subst this
   exact .shNil _ _
 | sh ad n c z _ vs hS hn hc hm hz hcell hcl =>
   refine .sh ad n c z els' vs hS (by omega) hc hm ?_ hcell (towardD_ok hcl ht)
   intro e he
   have : e.length ∈ els'.map List.length := List.mem_map.2 ⟨e, he, rfl⟩
   rw [<- hl] at this
   obtain ⟨e', he', h'⟩ := List.mem_map.1 this
   rw [<- h']; exact hz e' he'
def dR : List (List DV) := [[.str ⟨#[120]⟩, .nil, .int .i64 0, .nil, .nil], [.str ⟨#[121]⟩, .nil, .int .i64 0, .nil, .nil]]
def hR : List (List DV) := [[.sl [[.int .i64 0, .bool true, .int .i64 1, .int .i64 0, .nil]]], [.nil], [.sl [[.int .i64 2, .bool false, .int .i64 0, .int .i64 1, .nil]]]]
def gR : List DV := [.str ⟨#[80]⟩, .sl [[.str ⟨#[65]⟩], [.str ⟨#[66]⟩], [.str ⟨#[67]⟩]], .sl dR, .int .i64 3, .int .i64 0, .int .i64 2, .sl gE, .nil]
theorem raw_enc {w : World} {S : Nat -> Prop} {v : Value} {r : List Nat} (h : CzS w S v (.ag gR) r) : CzS w S v (.ag (encG exG)) r := by
 rw [exG_enc]
 cases h with
 | ag vs l r hl =>
   refine .ag _ _ _ ?_
   unfold gR at hl
   generalize vs.toList = vl at hl
   cases hl with
   | cons _ _ _ _ _ _ h1 hl =>
     cases hl with
     | cons _ _ _ _ _ _ h2 hl =>
       cases hl with
       | cons _ _ _ _ _ _ h3 hl =>
         refine .cons _ _ _ _ _ _ h1 (.cons _ _ _ _ _ _ h2 (.cons _ _ _ _ _ _ (sl_toward (els := dR) (els' := dE) rfl ?_ h3) (towardD_ok hl ?_)))
         ·simp [dR, dE, towardD, DV.toward]
         ·simp [towardD, DV.toward]
theorem raw_args {f : FuncId} {xs : List SV} {r : RV} (h : Impl Tryz.prog f (.ag (encG exG) :: .one (.sl hE) :: xs) r) : Impl Tryz.prog f (.ag gR :: .one (.sl hR) :: xs) r := by
 refine ⟨h.1, fun w S vs hS hcz => h.2 w S vs hS ?_⟩
 generalize hz : ([] : List Nat) = z at hcz
 cases hcz with
 | cons v x r vs xs rs h1 hs =>
   cases hs with
   | cons v x r vs xs rs h2 hs => exact CzSL.cons _ _ _ _ _ _ (raw_enc h1) (CzSL.cons _ _ _ _ _ _ (.one _ _ _ (sl_toward (els := hR) (els' := hE) rfl (by simp [hR, hE, towardD, DV.toward]) h2.one_inv)) hs)
theorem small_ex : Small exG := ⟨by decide, by decide, by simp [exG, exD], by simp [exG, exD]; decide, by decide, by decide⟩
theorem f9 (h109 : H109) : Impl Tryz.prog 9 [] (.one (.one (.bool true))) := by
 have k11 := f11 h109 exG exH small_ex (by decide) (by decide)
 have k14 := f14 h109 exG exH 0 small_ex (by decide) (by decide)
 have k17 := f17x h109
 rw [search_ex] at k11
 rw [next_ex] at k14
 rw [exH_enc] at k11 k14 k17
 have k11 := raw_args k11
 have k14 := raw_args k14
 have k17 := raw_args k17
 have e1 : (actsF exG (some [0, 1])).map encI = [[.int .i64 0, .int .i64 1, .int .i64 0], [.int .i64 0, .int .i64 2, .int .i64 1]] := rfl
 have e2 : resE (some [⟨0, true, 2, 1, none⟩]) = .ow 5 [[.int .i64 0, .bool true, .int .i64 2, .int .i64 1, .nil]] := rfl
 simp only [e1] at k11
 simp only [e2] at k14
 simp only [gR, hR, dR, gE] at k11 k14 k17
 refine impl_z Tryz.func9 z9 Tryz.ntmps9 (by simp) ?_
 simp only [c9, slotsOf]
 refine wC (aN k11 <| aN k14 k17) ?_
 simp [go_sem]
theorem few_facts {g : Glob} {H : List (List Ev)} {n : Int} (h : fewF g H n = true) : fewG g = true /\ H.length <= 8 /\ (sumH H : Int) <= n := by
 unfold fewF at h
 simp only [Bool.and_eq_true, decide_eq_true_eq] at h
 exact ⟨h.1, h.2.2.2.1, h.2.2.2.2⟩
theorem sumH_mem {H : List (List Ev)} {l : List Ev} (h : l ∈ H) : l.length <= sumH H := sum_mem (List.mem_map_of_mem (f := List.length) h)
theorem search_one {g : Glob} {H : List (List Ev)} (h : (searchF g H).2 = 1) : (searchF g H).1 = none := by
 obtain ⟨⟨o, c⟩, he⟩ : ∃ v, searchF g H = v := ⟨_, rfl⟩
 rw [he] at h ⊢
 cases o with
 | none => rfl
 | some l =>
   have := (search_ok he).2.2
   simp only at h
   omega
theorem f3 (h109 : H109) (g : Glob) (H : List (List Ev)) (hg : GlobA g) (hH : HistA H) : Impl Tryz.prog 3 [.ag (encG g), .one (.sl (H.map encH))] (.one (.one (.bool true))) := by
 have k9 := f9 h109
 have k10 := f10 g H 12 hg.1 (fun d hd => (hg.2 d hd).2) hH.1 hH.2
 simp only [encG] at k10
 refine impl_v ?_
 cases hf : fewF g H 12 with
 | false =>
   rw [hf] at k10
   refine wV encG.eq_1 (aN k9 k10) ?_
   simp [go_sem]
 | true =>
   rw [hf] at k10
   obtain ⟨f1, f2, f3⟩ := few_facts hf
   have sg := few_small f1 fun d hd => (hg.2 d hd).1
   have hl : H.length <= 1000000 := by omega
   have hh : ∀ l ∈ H, l.length <= 1000000 := fun l hl' => by have := sumH_mem hl'; omega
   have k11 := f11 h109 g H sg hl hh
   have k12 := f12 g H sg hl hh
   have hso : ∀ l c, searchF g H = (some l, c) -> _ := fun l c => search_ok
   have h1 := search_one (g := g) (H := H)
   have hal : (actsF g (searchF g H).1).length <= 20000 := by
    obtain ⟨⟨o, c⟩, he⟩ : ∃ v, searchF g H = v := ⟨_, rfl⟩
    rw [he]
    cases o with
    | none => simp [actsF]
    | some l =>
      have := (search_ok he).2.1
      simp [actsF]
      omega
   have k13 := f13 (actsF g (searchF g H).1) (actsF g (searchF g H).1) (by omega) (by omega)
   have hA1 : (searchF g H).2 = 1 -> actsF g (searchF g H).1 = [] := fun e => by rw [h1 e]; rfl
   simp only [encG] at k11 k12
   generalize actsF g (searchF g H).1 = A at *
   generalize (searchF g H).2 = c at *
   simp only [decide_true] at k13
   by_cases hc : c = 1
   ·have hA := hA1 hc
    subst hc
    subst hA
    simp only [rawA, if_true, List.map_nil] at k11 k12 k13
    refine wV encG.eq_1 (aN k9 <| aN k10 <| aN k11 <| aN k12 k13) ?_
    simp [go_sem]
   ·simp only [rawA, if_neg hc] at k12
    refine wV encG.eq_1 (aN k9 <| aN k10 <| aN k11 <| aN k12 k13) ?_
    simp [go_sem]
set_option maxHeartbeats 64000000
theorem Impl.frz {P : Program} {f : FuncId} {xs : List SV} {r : RV} (h : Impl P f xs r) : Impl P f xs r.frz := by
 refine ⟨h.1, fun w S vs hS hcz => (h.2 w S vs hS hcz).mono fun e w' => ?_⟩
 rintro ⟨v, rs, he, hb, hr, hnd, hcr⟩
 refine ⟨v, [], he, hb, by simp, by simp, ?_⟩
 have hS' : ∀ b, (S b \/ (w.heap.size <= b /\ b < w'.heap.size /\ b ∉ rs)) -> (S b \/ (w.heap.size <= b /\ b < w'.heap.size /\ b ∉ ([] : List Nat))) := fun b h => h.imp_right fun ⟨h1, h2, _⟩ => ⟨h1, h2, by simp⟩
 have hr' : ∀ b ∈ rs, S b \/ (w.heap.size <= b /\ b < w'.heap.size /\ b ∉ ([] : List Nat)) := fun b hb => .inr ⟨(hr b hb).1, (hr b hb).2, by simp⟩
 cases hcr with
 | one v x r h => exact .one _ _ _ (h.freeze hS' hr')
 | tup vs l r h => exact .tup _ _ _ (h.freeze hS' hr')
theorem appendOk_h {l : List (List Ev)} (h : l.length <= 100000000) : z_f 1 24 [] (l.map encH) := by
 refine ⟨?_, ?_, by omega, ?_, ?_⟩
 ·intro e he
  obtain ⟨z, _, rfl⟩ := List.mem_map.1 he
  rfl
 ·intro e he
  obtain ⟨z, _, rfl⟩ := List.mem_map.1 he
  rfl
 ·simp only [List.length_map, List.length_nil, maxLen]; omega
 ·simp only [List.length_map, List.length_nil]; omega
theorem f33 (H : List (List Ev)) (rn : Nat) (s : Bool) (p l : Int) (h0 : List Ev) (hrn : rn < H.length) (hh0 : H[rn] = h0) (hl : H.length <= 1000000) (hl0 : h0.length <= 1000000) :
  Impl Tryz.prog 33 [.one (.sl (H.map encH)), .ag [.int .i64 rn, .bool s, .int .i64 p, .int .i64 l, .nil]] (.one (.one (.ow 1 ((H.map encH).set rn [.ow 5 (h0.map encE ++ [[.int .i64 rn, .bool s, .int .i64 p, .int .i64 l, .nil]])])))) := by
 refine impl_v ?_
 have hap1 := appendOk_h (l := H) (by omega)
 have hap2 : z_f 5 56 [] (h0.map encE) := appendOk_e (l := []) (m := h0) (by simp; omega)
 have hap3 : z_f 5 56 (h0.map encE) [[.int .i64 rn, .bool s, .int .i64 p, .int .i64 l, .nil]] := appendOk_e (l := h0) (m := [⟨rn, s, p, l, none⟩]) (by simp; omega)
 refine z_l [(4, .sv (.one .nil)), (3, .sv (.one (.bx [.int .i64 rn, .bool s, .int .i64 p, .int .i64 l, .nil]))), (0, .sv (.one (.sl (H.map encH))))] ?_ ?_
 ·refine wN ?_
  refine z_m ?_
  simp [go_sem]
 refine z_l [(5, .sv (.one (.ow 1 (H.map encH)))), (4, .sv (.one .nil)), (3, .sv (.one (.bx [.int .i64 rn, .bool s, .int .i64 p, .int .i64 l, .nil])))] ?_ ?_
 ·refine wX hap1 ?_
  refine z_m ?_
  simp [go_sem]
 refine z_l [(5, .sv (.one (.ow 1 ((H.map encH).set rn [.ow 5 (h0.map encE ++ [[.int .i64 rn, .bool s, .int .i64 p, .int .i64 l, .nil]])]))))] ?_ ?_
 ·refine wX (aN hrn <| aN hh0 <| aN hap2 <| aN hap3 encH.eq_1) ?_
  refine z_m ?_
  simp [go_sem]
 refine wN ?_
 simp [go_sem]
set_option maxHeartbeats 64000000
structure NextOk (g : Glob) (H : List (List Ev)) (rn : Nat) : Prop where
 good : ∀ (s : Bool) (p l : Nat), p < g.roles.length -> p ≠ rn -> goodF g (moreT H rn (evT rn s p l)) = true
 few : ∀ (s : Bool) (p l : Nat), (searchF g (moreT H rn (evT rn s p l))).2 ≠ 6
 none : ∀ (s : Bool) (p l : Nat), g.edges.any (hasA (actT rn s p l)) = false -> (searchF g (moreT H rn (evT rn s p l))).2 ≠ 0
 self : ∀ (s : Bool) (l : Nat), g.edges.any (hasA (actT rn s rn l)) = false
theorem foldLb_self {g : Glob} {H : List (List Ev)} {rn : Nat} (h : NextOk g H rn) (s : Bool) (out : List Ev) : foldLb g H rn s (some out) rn = some out := by
 unfold foldLb
 have key : ∀ n : Nat, (List.range n).foldl (stepT g H rn s rn) (some out) = some out := by
  intro n
  induction n with
  | zero => rfl
  | succ n ih =>
    rw [foldl_range1, ih]
    simp only [stepT, h.self s n, Bool.false_eq_true, if_false]
 exact key _
theorem stepT_ok {g : Glob} {H : List (List Ev)} {rn : Nat} (h : NextOk g H rn) (s : Bool) (p : Nat) (out : List Ev) (l : Nat) : stepT g H rn s p (some out) l = if (searchF g (moreT H rn (evT rn s p l))).2 = 0 then some (out ++ [evT rn s p l]) else some out := by
 simp only [stepT]
 have h6 := h.few s p l
 cases hA : g.edges.any (hasA (actT rn s p l)) with
 | true => simp only [if_true, if_neg h6]
 | false => simp only [Bool.false_eq_true, if_false, if_neg (h.none s p l hA)]
theorem f15 (g : Glob) (H : List (List Ev)) (r : Int) (hs : Small g) (hl : H.length <= 1000000) (hh : ∀ l ∈ H, l.length <= 100000) (hok : ∀ rn : Nat, (searchF g H).2 = 0 -> rn < g.roles.length -> NextOk g H rn) :
  Impl Tryz.prog 15 [.ag (encG g), .one (.sl (H.map encH)), .one (.int .i64 r)] (.tup [.one (resE (nextV g H r).1), .one (.int .i64 (nextV g H r).2)]) := by
 have hh2 : ∀ l ∈ H, l.length <= 1000000 := fun l h => by have := hh l h; omega
 have k12 := f12 g H hs hl hh2
 have hel := hs.edges
 have hdl := hs.decls
 have hmh : ∀ (rn : Nat) (e : Ev), ∀ l ∈ moreT H rn e, l.length <= 1000000 := fun rn e l hl' => by
  rcases List.mem_or_eq_of_mem_set hl' with h | h
  ·exact hh2 l h
  ·subst h
   cases hq : H[rn]? with
   | none => simp
   | some z =>
     have := hh z (List.mem_of_getElem? hq)
     simp
     omega
 have k28 := fun (rn : Nat) (e : Ev) (hg : goodF g (moreT H rn e) = true) => f28 g (moreT H rn e) hs (hmh rn e) hg
 simp only [encG] at k12 k28
 obtain ⟨V, hV⟩ : ∃ V, nextV g H r = V := ⟨_, rfl⟩
 rw [hV]
 have hV' := hV
 unfold nextV at hV'
 refine impl_v ?_
 obtain ⟨A, hA⟩ : ∃ A, actsF g (searchF g H).1 = A := ⟨_, rfl⟩
 rw [hA] at k12
 by_cases hc : (searchF g H).2 = 0
 rotate_left
 ·rw [if_neg hc] at hV'
  rw [<- hV']
  obtain ⟨c, he⟩ : ∃ c, (searchF g H).2 = c := ⟨_, rfl⟩
  rw [he] at hc k12 ⊢
  by_cases hc1 : c = 1
  ·simp only [rawA, if_pos hc1] at k12
   refine wV (aN encG.eq_1 hc) k12 ?_
   simp [go_sem, resE]
  ·simp only [rawA, if_neg hc1] at k12
   refine wV (aN encG.eq_1 hc) k12 ?_
   simp [go_sem, resE]
 rw [if_pos hc] at hV'
 have hok := hok
 have hgo : goodF g H = true := by
  cases hg : goodF g H with
  | true => rfl
  | false =>
    unfold searchF at hc
    rw [hg] at hc
    simp at hc
 obtain ⟨hn, hlr, h6, _⟩ := valid_roles hgo
 have hok2 := fun rn => hok rn hc
 rw [hc] at k12
 have hr0 : rawA A 0 = .ow 3 (A.map encI) := rfl
 rw [hr0] at k12
 refine z_l [(7, .sv (.one (.int .i64 0))), (6, .sv (.one .nil)), (3, .sv (.one (.bx (encG g)))), (2, .sv (.one (.int .i64 r))), (1, .sv (.one (.sl (H.map encH))))] ?_ ?_
 ·refine wX encG.eq_1 ?_
  refine z_m ?_
  simp [go_sem, encG]
 refine z_l [(7, .sv (.one (.int .i64 0))), (6, .sv (.one .nil)), (3, .sv (.one (.bx (encG g)))), (2, .sv (.one (.int .i64 r))), (1, .sv (.one (.sl (H.map encH))))] ?_ ?_
 ·refine wV encG.eq_1 k12 ?_
  refine z_m ?_
  simp [go_sem, encG]
 by_cases hr : 0 <= r /\ r < g.roles.length
 rotate_left
 ·rw [if_neg hr] at hV'
  rw [<- hV']
  by_cases hr0 : r < 0
  ·refine wX (aN encG.eq_1 hr0) ?_
   simp [go_sem, resE]
  ·have hr1 : (g.roles.length : Int) <= r := by omega
   refine wX (aN encG.eq_1 <| aN hr0 hr1) ?_
   simp [go_sem, resE]
 rw [if_pos hr] at hV'
 obtain ⟨rn, rfl⟩ : ∃ rn : Nat, r = rn := ⟨r.toNat, by omega⟩
 rw [Int.toNat_natCast] at hV'
 have hrn : rn < H.length := by omega
 obtain ⟨hr0', hr1'⟩ := hr
 have nok := hok2 rn (by omega)
 have hr2 : ¬ (g.roles.length : Int) <= rn := by omega
 have hr3 : ¬ g.roles.length <= rn := by omega
 refine z_l [(7, .sv (.one (.int .i64 0))), (6, .sv (.one .nil)), (3, .sv (.one (.bx (encG g)))), (2, .sv (.one (.int .i64 rn))), (1, .sv (.one (.sl (H.map encH))))] ?_ ?_
 ·refine wX (aN encG.eq_1 <| aN hr2 hr3) ?_
  refine z_m ?_
  simp [go_sem, encG]
 refine wX encG.eq_1 ?_
 refine z_k (fun n e => ∃ (i : Nat) (out : List Ev), i + n = 2 /\ (sendsL.take i).foldl (foldPr g H rn) (some []) = some out /\ out.length <= 6000 * i /\ e = [(11, .sv (.one (.int .i64 (1 - (i : Int))))), (10, .sv (.one (.ow 5 (out.map encE)))), (7, .sv (.one (.int .i64 0))), (6, .sv (.one .nil)), (3, .sv (.one (.bx (encG g)))), (2, .sv (.one (.int .i64 rn))), (1, .sv (.one (.sl (H.map encH))))]) 2 _ ⟨0, [], by simp, rfl, by simp, rfl⟩ (by simp [go_sem, encG]) ?_
 rintro n e ⟨i, out, hi, hfo, hol, rfl⟩
 by_cases hlt : i < 2
 rotate_left
 ·have hi2 : i = 2 := by omega
  subst hi2
  have hno : nextO g H rn = some out := hfo
  rw [hno] at hV'
  rw [<- hV']
  refine wX encG.eq_1 ?_
  simp [go_sem, resE]
 obtain ⟨s, hs⟩ : ∃ s, sendsL[i]? = some s := by
  rcases Nat.lt_or_ge i 1 with h | h
  ·have : i = 0 := by omega
   subst this
   exact ⟨true, rfl⟩
  ·have : i = 1 := by omega
   subst this
   exact ⟨false, rfl⟩
 have hsn : (sendsL.take (i + 1)).foldl (foldPr g H rn) (some []) = foldPr g H rn (some out) s := by
  have hi' : i < sendsL.length := hlt
  have : sendsL[i] = s := by
   rw [List.getElem?_eq_getElem hi'] at hs
   exact Option.some.inj hs
  rw [foldl_take1 _ _ hi', hfo, this]
 have hend : foldPr g H rn (some out) s = none -> nextO g H rn = none := by
  intro h
  rw [h] at hsn
  unfold nextO
  rcases Nat.lt_or_ge i 1 with h1 | h1
  ·have : i = 0 := by omega
   subst this
   have e1 : sendsL.foldl (foldPr g H rn) (some []) = foldPr g H rn ((sendsL.take 1).foldl (foldPr g H rn) (some [])) false := rfl
   rw [e1, hsn]
   exact foldPr_none g H rn false
  ·have : i = 1 := by omega
   subst this
   exact hsn
 have hsi : (0 : Int) <= 1 - (i : Int) := by omega
 have hsi2 : ¬ (1 : Int) < (i : Int) := by omega
 refine z_l [(11, .sv (.one (.int .i64 (1 - (i : Int))))), (10, .sv (.one (.ow 5 (out.map encE)))), (7, .sv (.one (.int .i64 0))), (6, .sv (.one .nil)), (3, .sv (.one (.bx (encG g)))), (2, .sv (.one (.int .i64 rn))), (1, .sv (.one (.sl (H.map encH))))] ?_ ?_
 ·refine wX (aN hsi encG.eq_1) ?_
  refine z_m ?_
  simp [go_sem, encG]
 refine z_A ?_
 refine z_C ?_
 refine wX encG.eq_1 ?_
 refine z_k (fun m e => ∃ (p : Nat) (out' : List Ev), p + m = g.roles.length /\ (List.range p).foldl (foldLb g H rn s) (some out) = some out' /\ out'.length <= 6000 * i + 1000 * p /\ e = [(12, .sv (.one (.int .i64 p))), (11, .sv (.one (.int .i64 (1 - (i : Int))))), (10, .sv (.one (.ow 5 (out'.map encE)))), (7, .sv (.one (.int .i64 0))), (6, .sv (.one .nil)), (3, .sv (.one (.bx (encG g)))), (2, .sv (.one (.int .i64 rn))), (1, .sv (.one (.sl (H.map encH))))]) g.roles.length _ ⟨0, out, by simp, rfl, by simpa using hol, rfl⟩ (by simp [go_sem, encG]) ?_
 rintro m e ⟨p, out', hp, hfp, hol', rfl⟩
 by_cases hpl : p < g.roles.length
 rotate_left
 ·have hpe : p = g.roles.length := by omega
  subst hpe
  have hfe : foldPr g H rn (some out) s = some out' := hfp
  have hdec : (1 : Int) - (i : Int) - 1 = 1 - ((i + 1 : Nat) : Int) := by omega
  refine wX (aN hpl encG.eq_1) ?_
  refine z_j (n - 1) _ (by omega) ⟨i + 1, out', by omega, by rw [hsn, hfe], by omega, rfl⟩ ?_
  simp [go_sem, encG]
  try omega
 refine z_l [(12, .sv (.one (.int .i64 p))), (11, .sv (.one (.int .i64 (1 - (i : Int))))), (10, .sv (.one (.ow 5 (out'.map encE)))), (7, .sv (.one (.int .i64 0))), (6, .sv (.one .nil)), (3, .sv (.one (.bx (encG g)))), (2, .sv (.one (.int .i64 rn))), (1, .sv (.one (.sl (H.map encH))))] ?_ ?_
 ·refine wX (aN hpl encG.eq_1) ?_
  refine z_m ?_
  simp [go_sem, encG]
 refine z_A ?_
 refine z_C ?_
 refine wX encG.eq_1 ?_
 refine z_k (fun q e => ∃ (l : Nat) (o3 : List Ev), l + q = g.decls.length /\ ((List.range l).foldl (stepT g H rn s p) (some out') = some o3 /\ (p = rn -> l = 0 /\ o3 = out')) /\ o3.length <= 6000 * i + 1000 * p + l /\ e = [(13, .sv (.one (.int .i64 l))), (12, .sv (.one (.int .i64 p))), (11, .sv (.one (.int .i64 (1 - (i : Int))))), (10, .sv (.one (.ow 5 (o3.map encE)))), (7, .sv (.one (.int .i64 0))), (6, .sv (.one .nil)), (3, .sv (.one (.bx (encG g)))), (2, .sv (.one (.int .i64 rn))), (1, .sv (.one (.sl (H.map encH))))]) g.decls.length _ ⟨0, out', by simp, ⟨rfl, fun _ => ⟨rfl, rfl⟩⟩, by simpa using hol', rfl⟩ (by simp [go_sem, encG]) ?_
 rintro q e ⟨l, o3, hlq, ⟨hfl, hself⟩, hol3, rfl⟩
 by_cases hend : l < g.decls.length /\ p ≠ rn
 rotate_left
 ·have hfe : foldLb g H rn s (some out') p = some o3 := by
   by_cases hpr : p = rn
   ·rw [(hself hpr).2, hpr]
    exact foldLb_self nok s out'
   ·have hle : l = g.decls.length := by
     rcases Nat.lt_or_ge l g.decls.length with h | h
     ·exact (hend ⟨h, hpr⟩).elim
     ·omega
    unfold foldLb
    rw [<- hle]
    exact hfl
  by_cases hll : l < g.decls.length
  ·have hpr : p = rn := by
    by_cases h : p = rn
    ·exact h
    ·exact (hend ⟨hll, h⟩).elim
   have hpr2 : (p : Int) = rn := by omega
   refine wX (aN hll <| aN hpr2 encG.eq_1) ?_
   refine z_j (m - 1) _ (by omega) ⟨p + 1, o3, by omega, by rw [foldl_range1, hfp, hfe], by omega, rfl⟩ ?_
   simp [go_sem, encG, hpr2]
  ·refine wX (aN hll encG.eq_1) ?_
   refine z_j (m - 1) _ (by omega) ⟨p + 1, o3, by omega, by rw [foldl_range1, hfp, hfe], by omega, rfl⟩ ?_
   simp [go_sem, encG]
 obtain ⟨hll, hpr⟩ := hend
 have hpr2 : ¬ (p : Int) = rn := by omega
 have hst : (List.range (l + 1)).foldl (stepT g H rn s p) (some out') = stepT g H rn s p (some o3) l := by rw [foldl_range1, hfl]
 rw [stepT_ok nok] at hst
 refine z_l [(13, .sv (.one (.int .i64 l))), (12, .sv (.one (.int .i64 p))), (11, .sv (.one (.int .i64 (1 - (i : Int))))), (10, .sv (.one (.ow 5 (o3.map encE)))), (7, .sv (.one (.int .i64 0))), (6, .sv (.one .nil)), (3, .sv (.one (.bx (encG g)))), (2, .sv (.one (.int .i64 rn))), (1, .sv (.one (.sl (H.map encH))))] ?_ ?_
 ·refine wX (aN hll <| aN hpr <| aN hpr2 encG.eq_1) ?_
  refine z_m ?_
  simp [go_sem, encG]
 refine z_A ?_
 refine z_C ?_
 refine z_l [(14, .sv (.one (.bx [.int .i64 rn, .bool s, .int .i64 p, .int .i64 l, .nil]))), (13, .sv (.one (.int .i64 l))), (12, .sv (.one (.int .i64 p))), (11, .sv (.one (.int .i64 (1 - (i : Int))))), (10, .sv (.one (.ow 5 (o3.map encE)))), (7, .sv (.one (.int .i64 0))), (6, .sv (.one .nil)), (3, .sv (.one (.bx (encG g)))), (2, .sv (.one (.int .i64 rn))), (1, .sv (.one (.sl (H.map encH))))] ?_ ?_
 ·rcases Nat.lt_or_ge i 1 with h1 | h1
  ·have : i = 0 := by omega
   subst this
   cases Option.some.inj hs
   refine wX encG.eq_1 ?_
   refine z_m ?_
   simp [go_sem, encG]
  ·have : i = 1 := by omega
   subst this
   cases Option.some.inj hs
   refine wX encG.eq_1 ?_
   refine z_m ?_
   simp [go_sem, encG]
 obtain ⟨h0, hh0⟩ : ∃ h, H[rn] = h := ⟨_, rfl⟩
 have hl0 : h0.length <= 100000 := hh _ (hh0 ▸ List.getElem_mem hrn)
 have j33 := f33 H rn s p l h0 hrn hh0 hl (by omega)
 have hap3 : z_f 5 56 (o3.map encE) [[.int .i64 rn, .bool s, .int .i64 p, .int .i64 l, .nil]] := appendOk_e (l := o3) (m := [evT rn s p l]) (by simp; omega)
 have ho3 : o3.map encE ++ [[.int .i64 rn, .bool s, .int .i64 p, .int .i64 l, .nil]] = (o3 ++ [evT rn s p l]).map encE := by
  rw [List.map_append]
  rfl
 obtain ⟨mm, hmm⟩ : ∃ mm, h0 ++ [evT rn s p l] = mm := ⟨_, rfl⟩
 have hm2 : h0.map encE ++ [[.int .i64 rn, .bool s, .int .i64 p, .int .i64 l, .nil]] = mm.map encE := by
  rw [<- hmm, List.map_append]
  rfl
 have hmo : moreT H rn (evT rn s p l) = H.set rn mm := by
  unfold moreT
  rw [List.getElem?_eq_getElem hrn, hh0, <- hmm]
  rfl
 have hgm := nok.good s p l hpl hpr
 have j28 := k28 rn (evT rn s p l) hgm
 have hsr : findL g (moreT H rn (evT rn s p l)) 20001 0 [firstN g (moreT H rn (evT rn s p l))] = searchF g (moreT H rn (evT rn s p l)) := by
  unfold searchF
  rw [hgm]
  rfl
 have h6c := nok.few s p l
 rw [hsr] at j28
 rw [hmo] at j28 hst h6c
 rw [hm2] at j33
 have hfr := frz_more H rn mm
 obtain ⟨⟨o, c⟩, hcc⟩ : ∃ v, searchF g (H.set rn mm) = v := ⟨_, rfl⟩
 rw [hcc] at j28 hst h6c
 simp only [List.map_set] at j28
 simp only at h6c
 refine z_l [(16, .sv (.one (.int .i64 c))), (14, .sv (.one (.bx [.int .i64 rn, .bool s, .int .i64 p, .int .i64 l, .nil]))), (13, .sv (.one (.int .i64 l))), (12, .sv (.one (.int .i64 p))), (11, .sv (.one (.int .i64 (1 - (i : Int))))), (10, .sv (.one (.ow 5 (o3.map encE)))), (7, .sv (.one (.int .i64 0))), (6, .sv (.one .nil)), (3, .sv (.one (.bx (encG g)))), (2, .sv (.one (.int .i64 rn))), (1, .sv (.one (.sl (H.map encH))))] ?_ ?_
 ·cases o with
  | none =>
    simp only [resS] at j28
    refine wV (aN hfr encG.eq_1) (aN j33 j28) ?_
    refine z_m ?_
    simp [go_sem, encG]
  | some lo =>
    simp only [resS] at j28
    refine wV (aN hfr encG.eq_1) (aN j33 j28) ?_
    refine z_m ?_
    simp [go_sem, encG]
 by_cases h0c : c = 0
 ·rw [if_pos h0c] at hst
  refine wX (aN h0c <| aN h6c hap3) ?_
  refine z_j (q - 1) _ (by omega) ⟨l + 1, o3 ++ [evT rn s p l], by omega, ⟨hst, fun e => (hpr e).elim⟩, by simp; omega, rfl⟩ ?_
  simp [go_sem, encG, ho3]
 ·rw [if_neg h0c] at hst
  refine wX (aN h0c h6c) ?_
  refine z_j (q - 1) _ (by omega) ⟨l + 1, o3, by omega, ⟨hst, fun e => (hpr e).elim⟩, by omega, rfl⟩ ?_
  simp [go_sem, encG]
set_option maxHeartbeats 64000000
def codeP : List Nat -> List Nat -> Nat
 | p :: ps, b :: bs => p + b * codeP ps bs
 | _, _ => 0
def prodL : List Nat -> Nat
 | [] => 1
 | b :: bs => b * prodL bs
def boxP : List Nat -> List Nat -> Prop
 | [], [] => True
 | p :: ps, b :: bs => p < b /\ boxP ps bs
 | _, _ => False
theorem codeP_lt : ∀ {ps bs : List Nat}, boxP ps bs -> codeP ps bs < prodL bs
 | [], [], _ => Nat.one_pos
 | p :: ps, b :: bs, ⟨h1, h2⟩ => by
   have ih := codeP_lt h2
   simp only [codeP, prodL]
   have : b * (codeP ps bs + 1) <= b * prodL bs := Nat.mul_le_mul (Nat.le_refl b) ih
   rw [Nat.mul_add] at this
   omega
 | [], _ :: _, h => h.elim
 | _ :: _, [], h => h.elim
theorem codeP_inj : ∀ {ps qs bs : List Nat}, boxP ps bs -> boxP qs bs -> codeP ps bs = codeP qs bs -> ps = qs
 | [], [], [], _, _, _ => rfl
 | p :: ps, q :: qs, b :: bs, ⟨h1, h2⟩, ⟨h3, h4⟩, e => by
   simp only [codeP] at e
   have e1 : p = q := by
    have := congrArg (· % b) e
    simp only [Nat.add_mul_mod_self_left, Nat.mod_eq_of_lt h1, Nat.mod_eq_of_lt h3] at this
    exact this
   subst e1
   have hb : 0 < b := by omega
   have e2 : b * codeP ps bs = b * codeP qs bs := by omega
   rw [codeP_inj h2 h4 (Nat.eq_of_mul_eq_mul_left hb e2)]
 | [], _, _ :: _, h, _, _ => h.elim
 | _ :: _, _, [], h, _, _ => h.elim
 | [], _ :: _, [], _, h, _ => h.elim
 | _ :: _, [], _ :: _, _, h, _ => h.elim
def topP : Nat -> Nat -> Nat
 | 0, _ => 1
 | k + 1, s => (List.range (s + 1)).foldl (fun m j => max m ((j + 1) * topP k (s - j))) 1
theorem foldl_max_le (f : Nat -> Nat) : ∀ (l : List Nat) (m : Nat), m <= l.foldl (fun m j => max m (f j)) m /\ ∀ j ∈ l, f j <= l.foldl (fun m j => max m (f j)) m
 | [], m => ⟨Nat.le_refl m, fun _ h => by cases h⟩
 | x :: l, m => by
   obtain ⟨h1, h2⟩ := foldl_max_le f l (max m (f x))
   rw [List.foldl_cons]
   refine ⟨by omega, fun j hj => ?_⟩
   rcases List.mem_cons.1 hj with rfl | hj
   ·omega
   ·exact h2 j hj
theorem topP_pos : ∀ (k s : Nat), 1 <= topP k s
 | 0, _ => Nat.le_refl 1
 | k + 1, s => (foldl_max_le (fun j => (j + 1) * topP k (s - j)) _ 1).1
theorem topP_mono : ∀ (k : Nat) {s t : Nat}, s <= t -> topP k s <= topP k t
 | 0, _, _, _ => Nat.le_refl 1
 | k + 1, s, t, h => by
   have hall := (foldl_max_le (fun j => (j + 1) * topP k (t - j)) (List.range (t + 1)) 1)
   have key : ∀ (l : List Nat) (m : Nat), m <= topP (k + 1) t -> (∀ j ∈ l, j <= s) -> l.foldl (fun m j => max m ((j + 1) * topP k (s - j))) m <= topP (k + 1) t := by
    intro l
    induction l with
    | nil => intro m hm _; exact hm
    | cons x l ih =>
      intro m hm hl
      rw [List.foldl_cons]
      refine ih _ ?_ fun j hj => hl j (List.mem_cons_of_mem _ hj)
      have hx := hl x (by simp)
      have h1 : (x + 1) * topP k (s - x) <= (x + 1) * topP k (t - x) := Nat.mul_le_mul (Nat.le_refl _) (topP_mono k (by omega))
      have h2 : (x + 1) * topP k (t - x) <= topP (k + 1) t := hall.2 x (List.mem_range.2 (by omega))
      omega
   exact key _ _ (topP_pos _ _) fun j hj => by have := List.mem_range.1 hj; omega
theorem prod_le : ∀ (ls : List Nat), prodL (ls.map (· + 1)) <= topP ls.length ls.sum
 | [] => Nat.le_refl 1
 | x :: ls => by
   have ih := prod_le ls
   simp only [List.map_cons, prodL, List.length_cons, List.sum_cons]
   have h1 : (x + 1) * topP ls.length (x + ls.sum - x) <= topP (ls.length + 1) (x + ls.sum) := (foldl_max_le (fun j => (j + 1) * topP ls.length (x + ls.sum - j)) (List.range (x + ls.sum + 1)) 1).2 x (List.mem_range.2 (by omega))
   rw [Nat.add_sub_cancel_left] at h1
   exact Nat.le_trans (Nat.mul_le_mul (Nat.le_refl _) ih) h1
theorem topP_k : ∀ (k s : Nat), topP k s <= topP (k + 1) s := fun k s => by
 have h : (0 + 1) * topP k (s - 0) <= topP (k + 1) s := (foldl_max_le (fun j => (j + 1) * topP k (s - j)) (List.range (s + 1)) 1).2 0 (List.mem_range.2 (by omega))
 rw [Nat.zero_add, Nat.one_mul, Nat.sub_zero] at h
 exact h
theorem topP_le6 : ∀ {k : Nat}, k <= 6 -> ∀ s, topP k s <= topP 6 s := fun {k} h s => by
 have h' : k = 0 \/ k = 1 \/ k = 2 \/ k = 3 \/ k = 4 \/ k = 5 \/ k = 6 := by omega
 have a0 : topP 0 s <= topP 1 s := topP_k 0 s
 have a1 : topP 1 s <= topP 2 s := topP_k 1 s
 have a2 : topP 2 s <= topP 3 s := topP_k 2 s
 have a3 : topP 3 s <= topP 4 s := topP_k 3 s
 have a4 : topP 4 s <= topP 5 s := topP_k 4 s
 have a5 : topP 5 s <= topP 6 s := topP_k 5 s
 rcases h' with rfl | rfl | rfl | rfl | rfl | rfl | rfl <;> omega
theorem top_729 : topP 6 13 <= 1000 := by decide +kernel
theorem nodup_le : ∀ (n : Nat) (l : List Nat), l.Nodup -> (∀ x ∈ l, x < n) -> l.length <= n
 | 0, l, _, h => by
   cases l with
   | nil => simp
   | cons x l => exact absurd (h x (by simp)) (by omega)
 | n + 1, l, hd, h => by
   have h1 := nodup_le n (l.erase n) (hd.erase n) fun x hx => by
    have hx1 := h x (List.mem_of_mem_erase hx)
    have hx2 : x ≠ n := fun e => by
     subst e
     exact (List.Nodup.not_mem_erase hd) hx
    omega
   by_cases hm : n ∈ l
   ·rw [List.length_erase_of_mem hm] at h1
    omega
   ·rw [List.erase_of_not_mem hm] at h1
    omega
theorem box_of {g : Glob} {H : List (List Ev)} {i : Nat} {n : Nd} (h : NdOk g H i n) : boxP n.ps ((lensH H).map (· + 1)) := by
 have key : ∀ (ps : List Nat) (Hs : List (List Ev)), ps.length = Hs.length -> (∀ r (h1 : r < ps.length) (h2 : r < Hs.length), ps[r] <= Hs[r].length) -> boxP ps ((lensH Hs).map (· + 1)) := by
  intro ps
  induction ps with
  | nil =>
    intro Hs hl _
    cases Hs with
    | nil => trivial
    | cons _ _ => cases hl
  | cons p ps ih =>
    intro Hs hl hle
    cases Hs with
    | nil => cases hl
    | cons x Hs =>
      refine ⟨?_, ih Hs (by simpa using hl) fun r h1 h2 => ?_⟩
      ·have := hle 0 (by simp) (by simp)
       simp only [List.getElem_cons_zero] at this
       show p < x.length + 1
       omega
      ·have := hle (r + 1) (by simpa using h1) (by simpa using h2)
       simpa using this
 refine key _ _ h.len fun r h1 h2 => ?_
 have := h.le r (by omega) (by omega)
 simpa [psAt, histAt, h1, h2] using this
def Apart (all : List Nd) : Prop := all.Pairwise fun a b => sameN a b = false
theorem addN_apart {g : Glob} {H : List (List Ev)} {i : Nat} {p : Nd} {all : List Nd} {k : Int} (h : Apart all) : Apart (addN g H i p all k) := by
 unfold addN
 split
 ·exact h
 ·rename_i q _
  split
  ·exact h
  ·rename_i hany
   refine List.pairwise_append.2 ⟨h, List.pairwise_singleton _ _, fun a ha b hb => ?_⟩
   rw [List.mem_singleton.1 hb]
   have : all.any (sameN q) = false := by simpa using hany
   have hs := List.any_eq_false.1 this a ha
   cases hq : sameN a q with
   | false => rfl
   | true =>
     exfalso
     apply hs
     simp only [sameN, Bool.and_eq_true, beq_iff_eq] at hq ⊢
     exact ⟨hq.1.symm, hq.2.symm⟩
theorem fold_apart {g : Glob} {H : List (List Ev)} {i : Nat} {p : Nd} : ∀ (ks : List Int) {all : List Nd}, Apart all -> Apart (ks.foldl (addN g H i p) all)
 | [], _, h => h
 | _ :: ks, _, h => fold_apart ks (addN_apart h)
theorem all_len {g : Glob} {H : List (List Ev)} {all : List Nd} {S : Nat} (hS : g.states = S) (ha : AllOk g H all) (hd : Apart all) : all.length <= S * prodL ((lensH H).map (· + 1)) := by
 have hm : (all.map fun n => n.st.toNat + S * codeP n.ps ((lensH H).map (· + 1))).Nodup := by
  rw [List.Nodup, List.pairwise_map]
  refine List.Pairwise.imp_of_mem ?_ hd
  intro a b h1 h2 hne he
  obtain ⟨i, hi⟩ := List.getElem?_of_mem h1
  obtain ⟨j, hj⟩ := List.getElem?_of_mem h2
  have na := ha i a hi
  have nb := ha j b hj
  have s1 := na.st0
  have s2 := na.st1
  have s3 := nb.st0
  have s4 := nb.st1
  have hSp : 0 < S := by omega
  have e1 : a.st.toNat = b.st.toNat := by
   have := congrArg (· % S) he
   simp only [Nat.add_mul_mod_self_left] at this
   rwa [Nat.mod_eq_of_lt (by omega), Nat.mod_eq_of_lt (by omega)] at this
  have e2 : S * codeP a.ps ((lensH H).map (· + 1)) = S * codeP b.ps ((lensH H).map (· + 1)) := by
   omega
  have e3 := codeP_inj (box_of na) (box_of nb) (Nat.eq_of_mul_eq_mul_left hSp e2)
  have : sameN a b = true := by
   simp only [sameN, Bool.and_eq_true, beq_iff_eq]
   exact ⟨by omega, e3⟩
  rw [this] at hne
  cases hne
 have hl := nodup_le (S * prodL ((lensH H).map (· + 1))) _ hm fun x hx => by
  obtain ⟨n, hn, rfl⟩ := List.mem_map.1 hx
  obtain ⟨i, hi⟩ := List.getElem?_of_mem hn
  have na := ha i n hi
  have s1 := na.st0
  have s2 := na.st1
  have hc := codeP_lt (box_of na)
  have : S * (codeP n.ps ((lensH H).map (· + 1)) + 1) <= S * prodL ((lensH H).map (· + 1)) := Nat.mul_le_mul (Nat.le_refl S) hc
  rw [Nat.mul_add] at this
  omega
 rwa [List.length_map] at hl
theorem findL_small {g : Glob} {H : List (List Ev)} (he : EdOk g H) {S : Nat} (hS : g.states = S) (hb : S * prodL ((lensH H).map (· + 1)) <= 20000) : ∀ (f i : Nat) {all : List Nd}, AllOk g H all -> Apart all -> (findL g H f i all).2 ≠ 6
 | 0, _, _, _, _ => by simp [findL]
 | f + 1, i, all, ha, hd => by
   simp only [findL]
   split
   ·simp
   ·rename_i p hp
    have hi := (List.getElem?_eq_some_iff.1 hp).1
    have hl := all_len hS ha hd
    rw [if_neg (by omega)]
    split
    ·simp
    ·exact findL_small he hS hb f (i + 1) (fold_ok he (ha i p hp) _ sorted_pos ha hi) (fold_apart _ hd)
theorem search_small {g : Glob} {H : List (List Ev)} (hs : g.states <= 20) (h13 : (lensH H).sum <= 13) : (searchF g H).2 ≠ 6 := by
 unfold searchF
 split
 ·rename_i hg
  obtain ⟨hn, hl, h6, _⟩ := valid_roles hg
  obtain ⟨n1, _⟩ := numbered_facts hn
  obtain ⟨S, hS⟩ : ∃ S : Nat, g.states = S := ⟨g.states.toNat, by omega⟩
  refine findL_small (edges_ok hg) hS ?_ _ _ (first_ok hg) (List.pairwise_singleton _ _)
  have h1 := prod_le (lensH H)
  have h2 : (lensH H).length <= 6 := by simp only [lensH, List.length_map]; exact h6
  have h3 := topP_le6 h2 (lensH H).sum
  have h4 := topP_mono 6 h13
  have h5 := top_729
  have : S * prodL ((lensH H).map (· + 1)) <= 20 * 1000 := Nat.mul_le_mul (by omega) (by omega)
  omega
 ·simp
set_option maxHeartbeats 64000000
theorem fold_keep {g : Glob} {H : List (List Ev)} {i : Nat} {p : Nd} {Q : Nd -> Prop} (hs : ∀ k q, stepN g H i p k = some q -> Q q) : ∀ (ks : List Int) {all : List Nd}, (∀ n ∈ all, Q n) -> ∀ n ∈ ks.foldl (addN g H i p) all, Q n
 | [], _, h => h
 | k :: ks, all, h => by
   refine fold_keep hs ks (fun n hn => ?_)
   unfold addN at hn
   split at hn
   ·exact h n hn
   ·rename_i q hq
    split at hn
    ·exact h n hn
    ·rcases List.mem_append.1 hn with hn | hn
     ·exact h n hn
     ·rw [List.mem_singleton.1 hn]
      exact hs k q hq
theorem findL_open {g : Glob} {H : List (List Ev)} {Q : Nd -> Prop} (hd : ∀ n, Q n -> n.ps ≠ lensH H) (hs : ∀ i p k q, Q p -> stepN g H i p k = some q -> Q q) : ∀ (f i : Nat) {all : List Nd}, (∀ n ∈ all, Q n) -> (findL g H f i all).2 ≠ 0
 | 0, _, _, _ => by simp [findL]
 | f + 1, i, all, ha => by
   simp only [findL]
   split
   ·simp
   ·rename_i p hp
    have hq := ha p (List.mem_of_getElem? hp)
    split
    ·simp
    ·rw [if_neg (hd p hq)]
     exact findL_open hd hs f (i + 1) (fold_keep (hs i p · · hq) _ ha)
theorem more_at {H : List (List Ev)} {rn : Nat} (h : rn < H.length) (e : Ev) : (moreT H rn e)[rn]? = some (H[rn] ++ [e]) := by
 unfold moreT
 rw [List.getElem?_set, if_pos rfl, if_pos h, List.getElem?_eq_getElem h]
 rfl
theorem search_far {g : Glob} {H : List (List Ev)} {rn : Nat} (h : rn < H.length) {x : Ev} (hA : ∀ y ∈ g.edges, ¬ (x.send = true /\ y.act.from_ = rn /\ y.act.to = x.peer /\ y.act.label = x.label) /\ ¬ (x.send = false /\ y.act.to = rn /\ y.act.from_ = x.peer /\ y.act.label = x.label)) : (searchF g (moreT H rn x)).2 ≠ 0 := by
 unfold searchF
 split
 rotate_left
 ·simp
 rename_i hg
 have hed := edges_ok hg
 obtain ⟨M, hM⟩ : ∃ M, moreT H rn x = M := ⟨_, rfl⟩
 have hat := more_at h x
 rw [hM] at hat hed ⊢
 have hrM : rn < M.length := (List.getElem?_eq_some_iff.1 hat).1
 have hH : histAt M rn = H[rn] ++ [x] := by
  unfold histAt
  rw [Int.toNat_natCast, hat]
  rfl
 have hpass : ∀ (n : Nat) (sd : Bool) (pe la : Int), n < (histAt M rn).length -> (passV (histAt M rn) n sd pe la).2 = true -> ¬ (sd = x.send /\ pe = x.peer /\ la = x.label) -> (passV (histAt M rn) n sd pe la).1 < (histAt M rn).length := by
  intro n sd pe la hn hok hne
  rw [hH] at hn hok ⊢
  rw [passV_at hn rfl] at hok ⊢
  simp only at hok ⊢
  by_cases hl : n < H[rn].length
  ·simp only [List.length_append, List.length_singleton]
   omega
  ·exfalso
   have hn2 : n = H[rn].length := by
    simp only [List.length_append, List.length_singleton] at hn
    omega
   subst hn2
   rw [List.getElem_append_right (Nat.le_refl _)] at hok
   simp only [Nat.sub_self, List.getElem_cons_zero, Bool.and_eq_true, beq_iff_eq] at hok
   exact hne ⟨hok.1.symm, hok.2.1.symm, hok.2.2.symm⟩
 refine findL_open (Q := fun n => n.ps.length = M.length /\ psAt n.ps rn < (histAt M rn).length) ?_ ?_ _ _ ?_
 ·rintro n ⟨hn1, hn2⟩ hd
  rw [hd] at hn2
  have : psAt (lensH M) rn = (histAt M rn).length := by
   unfold psAt histAt lensH
   rw [Int.toNat_natCast, List.getElem?_map, hat]
   rfl
  omega
 ·rintro i q k q' ⟨hq1, hq2⟩ hst
  unfold stepN at hst
  split at hst
  ·cases hst
  ·rename_i y hy
   have hxm := List.mem_of_getElem? hy
   obtain ⟨e1, e2, e3, e4, e5, e6⟩ := hed y hxm
   obtain ⟨hn1, hn2⟩ := hA y hxm
   split at hst
   ·rename_i hok
    simp only [Bool.and_eq_true] at hok
    injection hst with hst
    subst hst
    refine ⟨by simp [hq1], ?_⟩
    show psAt ((q.ps.set _ _).set _ _) rn < _
    rw [psAt_set (by omega) e5 (by rw [List.length_set]; omega)]
    split
    ·rename_i hr
     rw [<- hr]
     refine hpass _ _ _ _ hq2 ?_ ?_
     ·have := hok.2
      rw [<- hr] at this
      exact this
     ·rintro ⟨h1, h2, h3⟩
      exact hn2 ⟨h1.symm, hr.symm, h2, h3⟩
    ·rw [psAt_set (by omega) e3 (by omega)]
     split
     ·rename_i hr
      rw [<- hr]
      refine hpass _ _ _ _ hq2 ?_ ?_
      ·have := hok.1
       rw [<- hr] at this
       exact this
      ·rintro ⟨h1, h2, h3⟩
       exact hn1 ⟨h1.symm, hr.symm, h2, h3⟩
     ·exact hq2
   ·cases hst
 ·intro n hn
  rw [List.mem_singleton.1 hn]
  refine ⟨by simp [firstN], ?_⟩
  have : psAt (firstN g M).ps rn = 0 := by
   unfold psAt firstN
   simp only
   rw [List.getElem?_replicate]
   split <;> simp
  rw [this, hH]
  simp
theorem search_none {g : Glob} {H : List (List Ev)} {rn : Nat} (h : rn < H.length) {s : Bool} {p l : Nat} (hA : g.edges.any (hasA (actT rn s p l)) = false) : (searchF g (moreT H rn (evT rn s p l))).2 ≠ 0 := by
 have hno : ∀ x ∈ g.edges, hasA (actT rn s p l) x = false := by
  simpa [List.any_eq_false] using hA
 refine search_far h fun y hy => ?_
 have := hno y hy
 constructor
 ·rintro ⟨h1, h2, h3, h4⟩
  simp only [evT] at h1 h3 h4
  subst h1
  simp [hasA, actT, h2, h3, h4] at this
 ·rintro ⟨h1, h2, h3, h4⟩
  simp only [evT] at h1 h3 h4
  subst h1
  simp [hasA, actT, h2, h3, h4] at this
theorem good_more {g : Glob} {H : List (List Ev)} (hg : goodF g H = true) {rn : Nat} {s : Bool} {p l : Nat} (hr : rn < g.roles.length) (hp : p < g.roles.length) (hpr : p ≠ rn) : goodF g (moreT H rn (evT rn s p l)) = true := by
 have hg' := hg
 unfold goodF at hg ⊢
 simp only [Bool.and_eq_true, decide_eq_true_eq] at hg ⊢
 obtain ⟨⟨hv, hl⟩, hpr'⟩ := hg
 have hml : (moreT H rn (evT rn s p l)).length = H.length := by simp [moreT]
 refine ⟨⟨hv, by rw [hml, hl]⟩, ?_⟩
 have h6 : H.length <= 6 := (valid_roles hg').2.2.1
 rw [properH_yes fun i hi => ?_]
 ·rw [hml]
  exact decide_eq_true h6
 ·have hi' : i < H.length := by omega
  unfold properH at hpr'
  simp only [Bool.and_eq_true, List.all_eq_true, List.mem_range] at hpr'
  have hoi := hpr'.1 i hi'
  rw [List.getElem?_eq_getElem hi'] at hoi
  simp only [Option.getD_some] at hoi
  rw [hml]
  by_cases e : rn = i
  ·subst e
   have h1 : (moreT H rn (evT rn s p l))[rn] = H[rn] ++ [evT rn s p l] := by
    have := more_at hi' (evT rn s p l)
    rw [List.getElem?_eq_getElem hi] at this
    exact Option.some.inj this
   rw [h1]
   unfold okH at hoi ⊢
   rw [List.all_append, hoi]
   have hmr : (moreT H rn (evT rn s p l)).length = g.roles.length := by omega
   simp only [List.all_cons, List.all_nil, okE, evT, Bool.and_true, Bool.true_and, Bool.and_eq_true, decide_eq_true_eq, hl]
   exact ⟨⟨⟨trivial, by omega⟩, by omega⟩, by omega⟩
  ·have h1 : (moreT H rn (evT rn s p l))[i] = H[i] := by
    have : (moreT H rn (evT rn s p l))[i]? = H[i]? := by
     unfold moreT
     rw [List.getElem?_set_ne e]
    rw [List.getElem?_eq_getElem hi, List.getElem?_eq_getElem hi'] at this
    exact Option.some.inj this
   rw [h1]
   exact hoi
theorem lens_more {H : List (List Ev)} {rn : Nat} (h : rn < H.length) (e : Ev) : (lensH (moreT H rn e)).sum = (lensH H).sum + 1 := by
 have key : ∀ (l : List Nat) (i x : Nat) (hi : i < l.length), l[i] + 1 = x -> (l.set i x).sum = l.sum + 1 := by
  intro l
  induction l with
  | nil => intro i x hi; cases hi
  | cons a l ih =>
    intro i x hi hx
    cases i with
    | zero =>
      simp only [List.getElem_cons_zero] at hx
      simp only [List.set_cons_zero, List.sum_cons]
      omega
    | succ i =>
      simp only [List.set_cons_succ, List.sum_cons]
      rw [ih i x (by simpa using hi) (by simpa using hx)]
      omega
 have h1 : lensH (moreT H rn e) = (lensH H).set rn (H[rn].length + 1) := by
  unfold lensH moreT
  rw [List.map_set, List.getElem?_eq_getElem h]
  simp
 rw [h1]
 exact key _ _ _ (by simpa [lensH] using h) (by simp [lensH])
theorem next_ok {g : Glob} {H : List (List Ev)} (hs : g.states <= 20) (h12 : (lensH H).sum <= 12) {rn : Nat} (hc : (searchF g H).2 = 0) (hr : rn < g.roles.length) : NextOk g H rn := by
 have hgo : goodF g H = true := by
  cases hg : goodF g H with
  | true => rfl
  | false =>
    unfold searchF at hc
    rw [hg] at hc
    simp at hc
 obtain ⟨hn, hlr, h6, _⟩ := valid_roles hgo
 obtain ⟨_, _, _, _, _, _, n7⟩ := numbered_facts hn
 have hrn : rn < H.length := by omega
 refine ⟨fun s p l hp hpr => good_more hgo hr hp hpr, fun s p l => search_small hs (by rw [lens_more hrn]; omega), fun s p l hA => search_none hrn hA, fun s l => ?_⟩
 rw [List.any_eq_false]
 intro x hx
 have := n7 x hx
 simp only [okEdge, Bool.and_eq_true, decide_eq_true_eq] at this
 simp only [hasA, actT]
 cases s <;> simp <;> omega
set_option maxHeartbeats 64000000
def evSame (a b : Ev) : Bool := decide (a.role = b.role) && (a.send == b.send) && decide (a.peer = b.peer) && decide (a.label = b.label)
def evsSame (a b : List Ev) : Bool := decide (a.length = b.length) && ((a.zip b).all fun x => evSame x.1 x.2)
theorem evsSame_succ {a b : List Ev} {k : Nat} (ha : k < a.length) (hb : k < b.length) (hl : a.length = b.length) (h : evsSame (a.take k) (b.take k) = true) : evsSame (a.take (k + 1)) (b.take (k + 1)) = evSame a[k] b[k] := by
 unfold evsSame at *
 simp only [Bool.and_eq_true] at h
 rw [List.take_succ_eq_append_getElem ha, List.take_succ_eq_append_getElem hb, List.zip_append (by simp [hl]), List.all_append, h.2]
 simp [hl]
theorem evsSame_not {a b : List Ev} {k : Nat} (ha : k < a.length) (hb : k < b.length) (h : evSame a[k] b[k] = false) : evsSame a b = false := by
 unfold evsSame
 rw [Bool.and_eq_false_iff]
 right
 rw [List.all_eq_false]
 refine ⟨(a[k], b[k]), ?_, by simp [h]⟩
 rw [List.mem_iff_getElem]
 exact ⟨k, by simp; omega, by simp⟩
theorem f16 (a b : List Ev) (ha : a.length <= 1000000) (hb : b.length <= 1000000) : Impl Tryz.prog 16 [.one (.sl (a.map encE)), .one (.sl (b.map encE))] (.one (.one (.bool (evsSame a b)))) := by
 refine impl_v ?_
 repeat' first | refine St.go ?_ | ((with_reducible refine cn ?_ ?_) <;> intro h <;> (try simp at h) <;> try omega) | (refine Ru.go ?_; intro K hK; simp [go_sem]; (try simp (disch := omega) only [wx, z_i]); (first | apply hK | refine ⟨by first | omega | (simp [z_f, z_g]; first | done | omega), ?_⟩ | refine ⟨hK _ ?_, fun h => ?_⟩ | refine ⟨?_, ?_⟩); all_goals ((try apply hK); clear hK K))
 ·simp [go_sem, evsSame]
  omega
 ·have hab : a.length = b.length := by omega
  refine z_k (fun n e => ∃ k, k + n = a.length /\ evsSame (a.take k) (b.take k) = true /\ e = [(5, .sv (.one (.int .i64 (k : Nat)))), (4, .sv (.one (.bool false))), (0, .sv (.one (.sl (a.map encE)))), (1, .sv (.one (.sl (b.map encE))))]) a.length _ ⟨0, by simp, by simp [evsSame], rfl⟩ (by simp [go_sem]) ?_
  rintro n e ⟨k, hk, htk, rfl⟩
  by_cases hlt : k < a.length
  ·have hlt' : k < b.length := by omega
   repeat' first | refine St.go ?_ | ((with_reducible refine cn ?_ ?_) <;> intro h <;> (try simp at h) <;> try omega) | (refine Ru.go ?_; intro K hK; simp [go_sem, hlt, hlt', encE]; (try simp (disch := omega) only [wx, z_i]); (first | apply hK | refine ⟨by first | omega | (simp [z_f, z_g, hlt, hlt', encE]; first | done | omega), ?_⟩ | refine ⟨hK _ ?_, fun h => ?_⟩ | refine ⟨?_, ?_⟩); all_goals ((try apply hK); clear hK K))
   ·have hne : evSame a[k] b[k] = false := by
     rw [Bool.eq_false_iff]
     intro hc
     simp only [evSame, Bool.and_eq_true, decide_eq_true_eq, beq_iff_eq] at hc
     simp_all
    simp [go_sem, evsSame_not hlt hlt' hne]
   ·have hkk : evSame a[k] b[k] = true := by
     simp only [evSame, Bool.and_eq_true, decide_eq_true_eq, beq_iff_eq]
     simp_all
    refine z_j (n - 1) _ (by omega) ⟨k + 1, by omega, ?_, rfl⟩ ?_
    ·rw [evsSame_succ hlt hlt' hab htk, hkk]
    ·simp [go_sem]
  ·have hkl : a.take k = a := List.take_of_length_le (by omega)
   have hkl' : b.take k = b := List.take_of_length_le (by omega)
   refine wX hlt ?_
   simp [go_sem]
   rw [<- hkl, <- hkl', htk]
theorem evsSame_self (a : List Ev) : evsSame a a = true := by
 unfold evsSame
 simp only [decide_true, Bool.true_and, List.all_eq_true]
 intro x hx
 rw [List.mem_iff_getElem] at hx
 obtain ⟨i, hi, rfl⟩ := hx
 simp [evSame]
theorem fold_len {α β : Type} {f : Option (List α) -> β -> Option (List α)} {c : Nat} (hn : ∀ x, f none x = none) (hf : ∀ out x out', f (some out) x = some out' -> out'.length <= out.length + c) : ∀ (l : List β) (out out' : List α), l.foldl f (some out) = some out' -> out'.length <= out.length + c * l.length
 | [], out, out', h => by
   cases h
   simp
 | x :: l, out, out', h => by
   rw [List.foldl_cons] at h
   cases hx : f (some out) x with
   | none =>
     rw [hx, foldl_none hn] at h
     cases h
   | some o =>
     rw [hx] at h
     have h1 := hf out x o hx
     have h2 := fold_len hn hf l o out' h
     simp only [List.length_cons, Nat.mul_add, Nat.mul_one]
     omega
theorem next_len {g : Glob} {H : List (List Ev)} {r : Nat} {out : List Ev} (h : nextO g H r = some out) : out.length <= g.decls.length * g.roles.length * 2 := by
 have hp : ∀ s o p o', foldLb g H r s (some o) p = some o' -> o'.length <= o.length + g.decls.length := fun s o p o' hp => by
  have := fold_len (c := 1) (stepT_none g H r s p) (fun o l o' hl => by
   simp only [stepT] at hl
   split at hl
   ·split at hl
    ·cases hl
     simp
    ·split at hl
     ·cases hl
     ·cases hl
      omega
   ·cases hl
    omega) _ _ _ hp
  simpa using this
 have hs : ∀ o s o', foldPr g H r (some o) s = some o' -> o'.length <= o.length + g.decls.length * g.roles.length := fun o s o' hs => by
  have := fold_len (foldLb_none g H r s) (hp s) _ _ _ hs
  simpa using this
 have h3 := fold_len (foldPr_none g H r) hs _ _ _ h
 simpa [sendsL] using h3
theorem f4 (h109 : H109) (g : Glob) (H : List (List Ev)) (r : Int) (hg : GlobA g) (hH : HistA H) : Impl Tryz.prog 4 [.ag (encG g), .one (.sl (H.map encH)), .one (.int .i64 r)] (.one (.one (.bool true))) := by
 have k9 := f9 h109
 have k10 := f10 g H 8 hg.1 (fun d hd => (hg.2 d hd).2) hH.1 hH.2
 simp only [encG] at k10
 refine impl_v ?_
 cases hf : fewF g H 8 with
 | false =>
   rw [hf] at k10
   refine wV encG.eq_1 (aN k9 k10) ?_
   simp [go_sem]
 | true =>
   rw [hf] at k10
   obtain ⟨f1, f2, f3⟩ := few_facts hf
   have hst : g.states <= 20 /\ g.decls.length <= 8 /\ g.roles.length <= 10 := by
    unfold fewF fewG at hf
    simp only [Bool.and_eq_true, decide_eq_true_eq] at hf
    omega
   have sg := few_small f1 fun d hd => (hg.2 d hd).1
   have hl : H.length <= 1000000 := by omega
   have hh : ∀ l ∈ H, l.length <= 100000 := fun l hl' => by have := sumH_mem hl'; omega
   have k14 := f14 h109 g H r sg hl hh
   have hsum : (lensH H).sum <= 12 := by
    have : (lensH H).sum = sumH H := rfl
    omega
   have k15 := f15 g H r sg hl hh fun rn hc hr => next_ok hst.1 hsum hc hr
   simp only [encG] at k14 k15
   have hb : ∀ out, (nextV g H r).1 = some out -> out.length <= 1000000 := by
    intro out ho
    unfold nextV at ho
    split at ho
    ·split at ho
     ·split at ho
      ·rename_i o hq
       cases ho
       have := next_len hq
       have : g.decls.length * g.roles.length <= 8 * 10 := Nat.mul_le_mul (by omega) (by omega)
       omega
      ·cases ho
     ·cases ho
    ·cases ho
   generalize nextV g H r = V at *
   obtain ⟨o, c⟩ := V
   cases o with
   | none =>
     simp only [resE] at k14 k15
     have k16 := f16 [] [] (by simp) (by simp)
     rw [evsSame_self] at k16
     simp only [List.map_nil] at k16
     refine wV encG.eq_1 (aN k9 <| aN k10 <| aN k14 <| aN k15 k16) ?_
     simp [go_sem]
   | some out =>
     have hbo := hb out rfl
     simp only [resE] at k14 k15
     have k16 := f16 out out hbo hbo
     rw [evsSame_self] at k16
     refine wV encG.eq_1 (aN k9 <| aN k10 <| aN k14 <| aN k15 k16) ?_
     simp [go_sem]
end Go.Av

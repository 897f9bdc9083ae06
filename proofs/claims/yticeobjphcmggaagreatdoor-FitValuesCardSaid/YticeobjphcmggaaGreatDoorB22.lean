/- Part of a proof. -/
import Derived.Test.YticeobjphcmggaaGreatDoorAvR
import Derived.Test.YticeobjphcmggaaGreatDoorB21
import Derived.Test.YticeobjphcmggaaGreatDoorB19
import Derived.Test.YticeobjphcmggaaGreatDoorB18
import Derived.Test.YticeobjphcmggaaGreatDoorB15
import Derived.Test.YticeobjphcmggaaGreatDoorB20
import Derived.Test.YticeobjphcmggaaGreatDoorB05
import Derived.Test.YticeobjphcmggaaGreatDoorB06
set_option linter.unusedVariables false
set_option linter.unusedSimpArgs false
set_option maxHeartbeats 64000000
set_option maxRecDepth 8000
namespace Go.Av
open Go Go.RowKit Go.Proofs
set_option maxHeartbeats 64000000
theorem sum_mem : ∀ {l : List Nat} {n : Nat}, n ∈ l -> n <= l.sum
 | a :: l, n, h => by
   rw [List.sum_cons]
   rcases List.mem_cons.1 h with rfl | h
   ·omega
   ·have := sum_mem h; omega
theorem units_mem {l : List Dcl} {d : Dcl} (h : d ∈ l) : d.fields.length + (d.diffs.length + d.equals.length) <= units l l.length := by
 unfold units
 rw [List.take_length]
 exact sum_mem (List.mem_map_of_mem (f := fun d : Dcl => d.fields.length + (d.diffs.length + d.equals.length)) h)
theorem few_small {g : Glob} (h : fewG g = true) (hn : ∀ d ∈ g.decls, d.name.size <= 1000000000000000) : Small g := by
 simp only [fewG, fewD, Bool.and_eq_true, decide_eq_true_eq] at h
 obtain ⟨⟨⟨⟨h1, h2⟩, h3⟩, h4⟩, h5, h6⟩ := h
 refine ⟨by omega, by omega, fun d hd => ?_, fun d hd => ?_, by omega, by omega⟩
 ·have := units_mem hd; omega
 ·have := units_mem hd; have := hn d hd; omega
def GlobA (g : Glob) : Prop := g.decls.length <= 1000000000000000 /\ ∀ d ∈ g.decls, d.name.size <= 1000000000000000 /\ d.fields.length <= 1000000000000000 /\ d.diffs.length <= 1000000000000000 /\ d.equals.length <= 1000000000000000
def HistA (H : List (List Ev)) : Prop := H.length <= 1000000000000000 /\ ∀ l ∈ H, l.length <= 1000000000000000
theorem sl_toward {w : World} {S : Nat -> Prop} {v : Value} {els els' : List (List DV)} {r : List Nat} (hl : els.map List.length = els'.map List.length) (ht : towardD els.flatten els'.flatten) (h : Cz w S v (.sl els) r) : Cz w S v (.sl els') r := by
 have hlen : els.length = els'.length := by simpa using congrArg List.length hl
 cases h with
 | shNil a c =>
   have : els' = [] := List.eq_nil_of_length_eq_zero (by simpa using hlen.symm)
   subst this
   exact .shNil _ _
 | sh ad n c z _ vs hS hn hc hm hz hcell hcl =>
   refine .sh ad n c z els' vs hS (by omega) hc hm ?_ hcell (towardD_ok hcl ht)
   intro e he
   have : e.length ∈ els'.map List.length := List.mem_map.2 ⟨e, he, rfl⟩
   rw [<- hl] at this
   obtain ⟨e', he', h'⟩ := List.mem_map.1 this
   rw [<- h']; exact hz e' he'
def dR : List (List DV) := [[.str ⟨#[120]⟩, .nil, .int .i64 0, .nil, .nil], [.str ⟨#[121]⟩, .nil, .int .i64 0, .nil, .nil]]
def hR : List (List DV) := [[.sl [[.int .i64 0, .bool true, .int .i64 1, .int .i64 0, .nil]]], [.nil], [.sl [[.int .i64 2, .bool false, .int .i64 0, .int .i64 1, .nil]]]]
def gR : List DV := [.str ⟨#[80]⟩, .sl [[.str ⟨#[65]⟩], [.str ⟨#[66]⟩], [.str ⟨#[67]⟩]], .sl dR, .int .i64 3, .int .i64 0, .int .i64 2, .sl gE, .nil]
theorem raw_enc {w : World} {S : Nat -> Prop} {v : Value} {r : List Nat} (h : CzS w S v (.ag gR) r) : CzS w S v (.ag (encG exG)) r := by
 rw [exG_enc]
 cases h with
 | ag vs l r hl =>
   refine .ag _ _ _ ?_
   unfold gR at hl
   generalize vs.toList = vl at hl
   cases hl with
   | cons _ _ _ _ _ _ h1 hl =>
     cases hl with
     | cons _ _ _ _ _ _ h2 hl =>
       cases hl with
       | cons _ _ _ _ _ _ h3 hl =>
         refine .cons _ _ _ _ _ _ h1 (.cons _ _ _ _ _ _ h2 (.cons _ _ _ _ _ _ (sl_toward (els := dR) (els' := dE) rfl ?_ h3) (towardD_ok hl ?_)))
         ·simp [dR, dE, towardD, DV.toward]
         ·simp [towardD, DV.toward]
theorem raw_args {f : FuncId} {xs : List SV} {r : RV} (h : Impl Tryz.prog f (.ag (encG exG) :: .one (.sl hE) :: xs) r) : Impl Tryz.prog f (.ag gR :: .one (.sl hR) :: xs) r := by
 refine ⟨h.1, fun w S vs hS hcz => h.2 w S vs hS ?_⟩
 generalize hz : ([] : List Nat) = z at hcz
 cases hcz with
 | cons v x r vs xs rs h1 hs =>
   cases hs with
   | cons v x r vs xs rs h2 hs => exact CzSL.cons _ _ _ _ _ _ (raw_enc h1) (CzSL.cons _ _ _ _ _ _ (.one _ _ _ (sl_toward (els := hR) (els' := hE) rfl (by simp [hR, hE, towardD, DV.toward]) h2.one_inv)) hs)
theorem small_ex : Small exG := ⟨by decide, by decide, by simp [exG, exD], by simp [exG, exD]; decide, by decide, by decide⟩
theorem f9 (h109 : H109) : Impl Tryz.prog 9 [] (.one (.one (.bool true))) := by
 have k11 := f11 h109 exG exH small_ex (by decide) (by decide)
 have k14 := f14 h109 exG exH 0 small_ex (by decide) (by decide)
 have k17 := f17x h109
 rw [search_ex] at k11
 rw [next_ex] at k14
 rw [exH_enc] at k11 k14 k17
 have k11 := raw_args k11
 have k14 := raw_args k14
 have k17 := raw_args k17
 have e1 : (actsF exG (some [0, 1])).map encI = [[.int .i64 0, .int .i64 1, .int .i64 0], [.int .i64 0, .int .i64 2, .int .i64 1]] := rfl
 have e2 : resE (some [⟨0, true, 2, 1, none⟩]) = .ow 5 [[.int .i64 0, .bool true, .int .i64 2, .int .i64 1, .nil]] := rfl
 simp only [e1] at k11
 simp only [e2] at k14
 simp only [gR, hR, dR, gE] at k11 k14 k17
 refine impl_z Tryz.func9 z9 Tryz.ntmps9 (by simp) ?_
 simp only [c9, slotsOf]
 refine wC (aN k11 <| aN k14 k17) ?_
 simp [go_sem]
theorem few_facts {g : Glob} {H : List (List Ev)} {n : Int} (h : fewF g H n = true) : fewG g = true /\ H.length <= 8 /\ (sumH H : Int) <= n := by
 unfold fewF at h
 simp only [Bool.and_eq_true, decide_eq_true_eq] at h
 exact ⟨h.1, h.2.2.2.1, h.2.2.2.2⟩
theorem sumH_mem {H : List (List Ev)} {l : List Ev} (h : l ∈ H) : l.length <= sumH H := sum_mem (List.mem_map_of_mem (f := List.length) h)
theorem search_one {g : Glob} {H : List (List Ev)} (h : (searchF g H).2 = 1) : (searchF g H).1 = none := by
 obtain ⟨⟨o, c⟩, he⟩ : ∃ v, searchF g H = v := ⟨_, rfl⟩
 rw [he] at h ⊢
 cases o with
 | none => rfl
 | some l =>
   have := (search_ok he).2.2
   simp only at h
   omega
theorem f3 (h109 : H109) (g : Glob) (H : List (List Ev)) (hg : GlobA g) (hH : HistA H) : Impl Tryz.prog 3 [.ag (encG g), .one (.sl (H.map encH))] (.one (.one (.bool true))) := by
 have k9 := f9 h109
 have k10 := f10 g H 12 hg.1 (fun d hd => (hg.2 d hd).2) hH.1 hH.2
 simp only [encG] at k10
 refine impl_v ?_
 cases hf : fewF g H 12 with
 | false =>
   rw [hf] at k10
   refine wV encG.eq_1 (aN k9 k10) ?_
   simp [go_sem]
 | true =>
   rw [hf] at k10
   obtain ⟨f1, f2, f3⟩ := few_facts hf
   have sg := few_small f1 fun d hd => (hg.2 d hd).1
   have hl : H.length <= 1000000 := by omega
   have hh : ∀ l ∈ H, l.length <= 1000000 := fun l hl' => by have := sumH_mem hl'; omega
   have k11 := f11 h109 g H sg hl hh
   have k12 := f12 g H sg hl hh
   have hso : ∀ l c, searchF g H = (some l, c) -> _ := fun l c => search_ok
   have h1 := search_one (g := g) (H := H)
   have hal : (actsF g (searchF g H).1).length <= 20000 := by
    obtain ⟨⟨o, c⟩, he⟩ : ∃ v, searchF g H = v := ⟨_, rfl⟩
    rw [he]
    cases o with
    | none => simp [actsF]
    | some l =>
      have := (search_ok he).2.1
      simp [actsF]
      omega
   have k13 := f13 (actsF g (searchF g H).1) (actsF g (searchF g H).1) (by omega) (by omega)
   have hA1 : (searchF g H).2 = 1 -> actsF g (searchF g H).1 = [] := fun e => by rw [h1 e]; rfl
   simp only [encG] at k11 k12
   generalize actsF g (searchF g H).1 = A at *
   generalize (searchF g H).2 = c at *
   simp only [decide_true] at k13
   by_cases hc : c = 1
   ·have hA := hA1 hc
    subst hc
    subst hA
    simp only [rawA, if_true, List.map_nil] at k11 k12 k13
    refine wV encG.eq_1 (aN k9 <| aN k10 <| aN k11 <| aN k12 k13) ?_
    simp [go_sem]
   ·simp only [rawA, if_neg hc] at k12
    refine wV encG.eq_1 (aN k9 <| aN k10 <| aN k11 <| aN k12 k13) ?_
    simp [go_sem]
set_option maxHeartbeats 64000000
theorem Impl.frz {P : Program} {f : FuncId} {xs : List SV} {r : RV} (h : Impl P f xs r) : Impl P f xs r.frz := by
 refine ⟨h.1, fun w S vs hS hcz => (h.2 w S vs hS hcz).mono fun e w' => ?_⟩
 rintro ⟨v, rs, he, hb, hr, hnd, hcr⟩
 refine ⟨v, [], he, hb, by simp, by simp, ?_⟩
 have hS' : ∀ b, (S b \/ (w.heap.size <= b /\ b < w'.heap.size /\ b ∉ rs)) -> (S b \/ (w.heap.size <= b /\ b < w'.heap.size /\ b ∉ ([] : List Nat))) := fun b h => h.imp_right fun ⟨h1, h2, _⟩ => ⟨h1, h2, by simp⟩
 have hr' : ∀ b ∈ rs, S b \/ (w.heap.size <= b /\ b < w'.heap.size /\ b ∉ ([] : List Nat)) := fun b hb => .inr ⟨(hr b hb).1, (hr b hb).2, by simp⟩
 cases hcr with
 | one v x r h => exact .one _ _ _ (h.freeze hS' hr')
 | tup vs l r h => exact .tup _ _ _ (h.freeze hS' hr')
set_option maxHeartbeats 64000000
structure NextOk (g : Glob) (H : List (List Ev)) (rn : Nat) : Prop where
 good : ∀ (s : Bool) (p l : Nat), p < g.roles.length -> p ≠ rn -> goodF g (moreT H rn (evT rn s p l)) = true
 few : ∀ (s : Bool) (p l : Nat), (searchF g (moreT H rn (evT rn s p l))).2 ≠ 6
 none : ∀ (s : Bool) (p l : Nat), g.edges.any (hasA (actT rn s p l)) = false -> (searchF g (moreT H rn (evT rn s p l))).2 ≠ 0
 self : ∀ (s : Bool) (l : Nat), g.edges.any (hasA (actT rn s rn l)) = false
set_option maxHeartbeats 64000000
def codeP : List Nat -> List Nat -> Nat
 | p :: ps, b :: bs => p + b * codeP ps bs
 | _, _ => 0
def prodL : List Nat -> Nat
 | [] => 1
 | b :: bs => b * prodL bs
def boxP : List Nat -> List Nat -> Prop
 | [], [] => True
 | p :: ps, b :: bs => p < b /\ boxP ps bs
 | _, _ => False
theorem codeP_lt : ∀ {ps bs : List Nat}, boxP ps bs -> codeP ps bs < prodL bs
 | [], [], _ => Nat.one_pos
 | p :: ps, b :: bs, ⟨h1, h2⟩ => by
   have ih := codeP_lt h2
   simp only [codeP, prodL]
   have : b * (codeP ps bs + 1) <= b * prodL bs := Nat.mul_le_mul (Nat.le_refl b) ih
   rw [Nat.mul_add] at this
   omega
 | [], _ :: _, h => h.elim
 | _ :: _, [], h => h.elim
theorem codeP_inj : ∀ {ps qs bs : List Nat}, boxP ps bs -> boxP qs bs -> codeP ps bs = codeP qs bs -> ps = qs
 | [], [], [], _, _, _ => rfl
 | p :: ps, q :: qs, b :: bs, ⟨h1, h2⟩, ⟨h3, h4⟩, e => by
   simp only [codeP] at e
   have e1 : p = q := by
    have := congrArg (· % b) e
    simp only [Nat.add_mul_mod_self_left, Nat.mod_eq_of_lt h1, Nat.mod_eq_of_lt h3] at this
    exact this
   subst e1
   have hb : 0 < b := by omega
   have e2 : b * codeP ps bs = b * codeP qs bs := by omega
   rw [codeP_inj h2 h4 (Nat.eq_of_mul_eq_mul_left hb e2)]
 | [], _, _ :: _, h, _, _ => h.elim
 | _ :: _, _, [], h, _, _ => h.elim
 | [], _ :: _, [], _, h, _ => h.elim
 | _ :: _, [], _ :: _, _, h, _ => h.elim
def topP : Nat -> Nat -> Nat
 | 0, _ => 1
 | k + 1, s => (List.range (s + 1)).foldl (fun m j => max m ((j + 1) * topP k (s - j))) 1
theorem foldl_max_le (f : Nat -> Nat) : ∀ (l : List Nat) (m : Nat), m <= l.foldl (fun m j => max m (f j)) m /\ ∀ j ∈ l, f j <= l.foldl (fun m j => max m (f j)) m
 | [], m => ⟨Nat.le_refl m, fun _ h => by cases h⟩
 | x :: l, m => by
   obtain ⟨h1, h2⟩ := foldl_max_le f l (max m (f x))
   rw [List.foldl_cons]
   refine ⟨by omega, fun j hj => ?_⟩
   rcases List.mem_cons.1 hj with rfl | hj
   ·omega
   ·exact h2 j hj
theorem topP_pos : ∀ (k s : Nat), 1 <= topP k s
 | 0, _ => Nat.le_refl 1
 | k + 1, s => (foldl_max_le (fun j => (j + 1) * topP k (s - j)) _ 1).1
theorem topP_mono : ∀ (k : Nat) {s t : Nat}, s <= t -> topP k s <= topP k t
 | 0, _, _, _ => Nat.le_refl 1
 | k + 1, s, t, h => by
   have hall := (foldl_max_le (fun j => (j + 1) * topP k (t - j)) (List.range (t + 1)) 1)
   have key : ∀ (l : List Nat) (m : Nat), m <= topP (k + 1) t -> (∀ j ∈ l, j <= s) -> l.foldl (fun m j => max m ((j + 1) * topP k (s - j))) m <= topP (k + 1) t := by
    intro l
    induction l with
    | nil => intro m hm _; exact hm
    | cons x l ih =>
      intro m hm hl
      rw [List.foldl_cons]
      refine ih _ ?_ fun j hj => hl j (List.mem_cons_of_mem _ hj)
      have hx := hl x (by simp)
      have h1 : (x + 1) * topP k (s - x) <= (x + 1) * topP k (t - x) := Nat.mul_le_mul (Nat.le_refl _) (topP_mono k (by omega))
      have h2 : (x + 1) * topP k (t - x) <= topP (k + 1) t := hall.2 x (List.mem_range.2 (by omega))
      omega
   exact key _ _ (topP_pos _ _) fun j hj => by have := List.mem_range.1 hj; omega
theorem prod_le : ∀ (ls : List Nat), prodL (ls.map (· + 1)) <= topP ls.length ls.sum
 | [] => Nat.le_refl 1
 | x :: ls => by
   have ih := prod_le ls
   simp only [List.map_cons, prodL, List.length_cons, List.sum_cons]
   have h1 : (x + 1) * topP ls.length (x + ls.sum - x) <= topP (ls.length + 1) (x + ls.sum) := (foldl_max_le (fun j => (j + 1) * topP ls.length (x + ls.sum - j)) (List.range (x + ls.sum + 1)) 1).2 x (List.mem_range.2 (by omega))
   rw [Nat.add_sub_cancel_left] at h1
   exact Nat.le_trans (Nat.mul_le_mul (Nat.le_refl _) ih) h1
theorem topP_k : ∀ (k s : Nat), topP k s <= topP (k + 1) s := fun k s => by
 have h : (0 + 1) * topP k (s - 0) <= topP (k + 1) s := (foldl_max_le (fun j => (j + 1) * topP k (s - j)) (List.range (s + 1)) 1).2 0 (List.mem_range.2 (by omega))
 rw [Nat.zero_add, Nat.one_mul, Nat.sub_zero] at h
 exact h
theorem topP_le6 : ∀ {k : Nat}, k <= 6 -> ∀ s, topP k s <= topP 6 s := fun {k} h s => by
 have h' : k = 0 \/ k = 1 \/ k = 2 \/ k = 3 \/ k = 4 \/ k = 5 \/ k = 6 := by omega
 have a0 : topP 0 s <= topP 1 s := topP_k 0 s
 have a1 : topP 1 s <= topP 2 s := topP_k 1 s
 have a2 : topP 2 s <= topP 3 s := topP_k 2 s
 have a3 : topP 3 s <= topP 4 s := topP_k 3 s
 have a4 : topP 4 s <= topP 5 s := topP_k 4 s
 have a5 : topP 5 s <= topP 6 s := topP_k 5 s
 rcases h' with rfl | rfl | rfl | rfl | rfl | rfl | rfl <;> omega
theorem top_729 : topP 6 13 <= 1000 := by decide +kernel
theorem nodup_le : ∀ (n : Nat) (l : List Nat), l.Nodup -> (∀ x ∈ l, x < n) -> l.length <= n
 | 0, l, _, h => by
   cases l with
   | nil => simp
   | cons x l => exact absurd (h x (by simp)) (by omega)
 | n + 1, l, hd, h => by
   have h1 := nodup_le n (l.erase n) (hd.erase n) fun x hx => by
    have hx1 := h x (List.mem_of_mem_erase hx)
    have hx2 : x ≠ n := fun e => by
     subst e
     exact (List.Nodup.not_mem_erase hd) hx
    omega
   by_cases hm : n ∈ l
   ·rw [List.length_erase_of_mem hm] at h1
    omega
   ·rw [List.erase_of_not_mem hm] at h1
    omega
theorem box_of {g : Glob} {H : List (List Ev)} {i : Nat} {n : Nd} (h : NdOk g H i n) : boxP n.ps ((lensH H).map (· + 1)) := by
 have key : ∀ (ps : List Nat) (Hs : List (List Ev)), ps.length = Hs.length -> (∀ r (h1 : r < ps.length) (h2 : r < Hs.length), ps[r] <= Hs[r].length) -> boxP ps ((lensH Hs).map (· + 1)) := by
  intro ps
  induction ps with
  | nil =>
    intro Hs hl _
    cases Hs with
    | nil => trivial
    | cons _ _ => cases hl
  | cons p ps ih =>
    intro Hs hl hle
    cases Hs with
    | nil => cases hl
    | cons x Hs =>
      refine ⟨?_, ih Hs (by simpa using hl) fun r h1 h2 => ?_⟩
      ·have := hle 0 (by simp) (by simp)
       simp only [List.getElem_cons_zero] at this
       show p < x.length + 1
       omega
      ·have := hle (r + 1) (by simpa using h1) (by simpa using h2)
       simpa using this
 refine key _ _ h.len fun r h1 h2 => ?_
 have := h.le r (by omega) (by omega)
 simpa [psAt, histAt, h1, h2] using this
def Apart (all : List Nd) : Prop := all.Pairwise fun a b => sameN a b = false
theorem addN_apart {g : Glob} {H : List (List Ev)} {i : Nat} {p : Nd} {all : List Nd} {k : Int} (h : Apart all) : Apart (addN g H i p all k) := by
 unfold addN
 split
 ·exact h
 ·rename_i q _
  split
  ·exact h
  ·rename_i hany
   refine List.pairwise_append.2 ⟨h, List.pairwise_singleton _ _, fun a ha b hb => ?_⟩
   rw [List.mem_singleton.1 hb]
   have : all.any (sameN q) = false := by simpa using hany
   have hs := List.any_eq_false.1 this a ha
   cases hq : sameN a q with
   | false => rfl
   | true =>
     exfalso
     apply hs
     simp only [sameN, Bool.and_eq_true, beq_iff_eq] at hq ⊢
     exact ⟨hq.1.symm, hq.2.symm⟩
theorem fold_apart {g : Glob} {H : List (List Ev)} {i : Nat} {p : Nd} : ∀ (ks : List Int) {all : List Nd}, Apart all -> Apart (ks.foldl (addN g H i p) all)
 | [], _, h => h
 | _ :: ks, _, h => fold_apart ks (addN_apart h)
theorem all_len {g : Glob} {H : List (List Ev)} {all : List Nd} {S : Nat} (hS : g.states = S) (ha : AllOk g H all) (hd : Apart all) : all.length <= S * prodL ((lensH H).map (· + 1)) := by
 have hm : (all.map fun n => n.st.toNat + S * codeP n.ps ((lensH H).map (· + 1))).Nodup := by
  rw [List.Nodup, List.pairwise_map]
  refine List.Pairwise.imp_of_mem ?_ hd
  intro a b h1 h2 hne he
  obtain ⟨i, hi⟩ := List.getElem?_of_mem h1
  obtain ⟨j, hj⟩ := List.getElem?_of_mem h2
  have na := ha i a hi
  have nb := ha j b hj
  have s1 := na.st0
  have s2 := na.st1
  have s3 := nb.st0
  have s4 := nb.st1
  have hSp : 0 < S := by omega
  have e1 : a.st.toNat = b.st.toNat := by
   have := congrArg (· % S) he
   simp only [Nat.add_mul_mod_self_left] at this
   rwa [Nat.mod_eq_of_lt (by omega), Nat.mod_eq_of_lt (by omega)] at this
  have e2 : S * codeP a.ps ((lensH H).map (· + 1)) = S * codeP b.ps ((lensH H).map (· + 1)) := by
   omega
  have e3 := codeP_inj (box_of na) (box_of nb) (Nat.eq_of_mul_eq_mul_left hSp e2)
  have : sameN a b = true := by
   simp only [sameN, Bool.and_eq_true, beq_iff_eq]
   exact ⟨by omega, e3⟩
  rw [this] at hne
  cases hne
 have hl := nodup_le (S * prodL ((lensH H).map (· + 1))) _ hm fun x hx => by
  obtain ⟨n, hn, rfl⟩ := List.mem_map.1 hx
  obtain ⟨i, hi⟩ := List.getElem?_of_mem hn
  have na := ha i n hi
  have s1 := na.st0
  have s2 := na.st1
  have hc := codeP_lt (box_of na)
  have : S * (codeP n.ps ((lensH H).map (· + 1)) + 1) <= S * prodL ((lensH H).map (· + 1)) := Nat.mul_le_mul (Nat.le_refl S) hc
  rw [Nat.mul_add] at this
  omega
 rwa [List.length_map] at hl
theorem findL_small {g : Glob} {H : List (List Ev)} (he : EdOk g H) {S : Nat} (hS : g.states = S) (hb : S * prodL ((lensH H).map (· + 1)) <= 20000) : ∀ (f i : Nat) {all : List Nd}, AllOk g H all -> Apart all -> (findL g H f i all).2 ≠ 6
 | 0, _, _, _, _ => by simp [findL]
 | f + 1, i, all, ha, hd => by
   simp only [findL]
   split
   ·simp
   ·rename_i p hp
    have hi := (List.getElem?_eq_some_iff.1 hp).1
    have hl := all_len hS ha hd
    rw [if_neg (by omega)]
    split
    ·simp
    ·exact findL_small he hS hb f (i + 1) (fold_ok he (ha i p hp) _ sorted_pos ha hi) (fold_apart _ hd)
theorem search_small {g : Glob} {H : List (List Ev)} (hs : g.states <= 20) (h13 : (lensH H).sum <= 13) : (searchF g H).2 ≠ 6 := by
 unfold searchF
 split
 ·rename_i hg
  obtain ⟨hn, hl, h6, _⟩ := valid_roles hg
  obtain ⟨n1, _⟩ := numbered_facts hn
  obtain ⟨S, hS⟩ : ∃ S : Nat, g.states = S := ⟨g.states.toNat, by omega⟩
  refine findL_small (edges_ok hg) hS ?_ _ _ (first_ok hg) (List.pairwise_singleton _ _)
  have h1 := prod_le (lensH H)
  have h2 : (lensH H).length <= 6 := by simp only [lensH, List.length_map]; exact h6
  have h3 := topP_le6 h2 (lensH H).sum
  have h4 := topP_mono 6 h13
  have h5 := top_729
  have : S * prodL ((lensH H).map (· + 1)) <= 20 * 1000 := Nat.mul_le_mul (by omega) (by omega)
  omega
 ·simp
set_option maxHeartbeats 64000000
set_option maxHeartbeats 64000000
def evSame (a b : Ev) : Bool := decide (a.role = b.role) && (a.send == b.send) && decide (a.peer = b.peer) && decide (a.label = b.label)
def evsSame (a b : List Ev) : Bool := decide (a.length = b.length) && ((a.zip b).all fun x => evSame x.1 x.2)
set_option maxHeartbeats 64000000
def pathE (es : List Edg) : List Inter -> Int -> Option Int
 | [], s => some s
 | a :: ws, s => match nextE es s a with
   | some t => pathE es ws t
   | none => none
set_option maxHeartbeats 64000000
def Traced (g : Glob) (H : List (List Ev)) (all : List Nd) : Prop := ∀ (j : Nat) n, all[j]? = some n -> (j = 0 /\ n = firstN g H) \/ (∃ p, n.fr.toNat < j /\ all[n.fr.toNat]? = some p /\ stepN g H n.fr.toNat p n.ed = some n /\ n.ed ∈ sortedE g.edges p.st)
theorem step_from {g : Glob} {H : List (List Ev)} {i : Nat} {p q : Nd} {k : Int} (h : stepN g H i p k = some q) : q.fr.toNat = i /\ q.ed = k := by
 unfold stepN at h
 split at h
 ·cases h
 ·split at h
  ·injection h with h
   subst h
   exact ⟨Int.toNat_natCast i, rfl⟩
  ·cases h
theorem addN_traced {g : Glob} {H : List (List Ev)} {i : Nat} {p : Nd} {all : List Nd} {k : Int} (ha : Traced g H all) (hp : all[i]? = some p) (hk : k ∈ sortedE g.edges p.st) : Traced g H (addN g H i p all k) /\ (addN g H i p all k)[i]? = some p := by
 have hi : i < all.length := (List.getElem?_eq_some_iff.1 hp).1
 unfold addN
 split
 ·exact ⟨ha, hp⟩
 ·rename_i q hq
  split
  ·exact ⟨ha, hp⟩
  ·refine ⟨fun j n hj => ?_, by rw [List.getElem?_append_left hi]; exact hp⟩
   rw [List.getElem?_append] at hj
   split at hj
   ·rename_i hjl
    rcases ha j n hj with h | ⟨p', h1, h2, h3, h4⟩
    ·exact .inl h
    ·exact .inr ⟨p', h1, by rw [List.getElem?_append_left (by omega)]; exact h2, h3, h4⟩
   ·rename_i hjl
    have hjz : j - all.length = 0 := by
     cases h : j - all.length with
     | zero => rfl
     | succ z => rw [h] at hj; cases hj
    rw [hjz] at hj
    simp only [List.getElem?_cons_zero, Option.some.injEq] at hj
    subst hj
    obtain ⟨e1, e2⟩ := step_from hq
    refine .inr ⟨p, by omega, ?_, ?_, ?_⟩
    ·rw [e1, List.getElem?_append_left hi]
     exact hp
    ·rw [e1, e2]
     exact hq
    ·rw [e2]
     exact hk
theorem fold_traced {g : Glob} {H : List (List Ev)} {i : Nat} {p : Nd} : ∀ (ks : List Int) {all : List Nd}, (∀ k ∈ ks, k ∈ sortedE g.edges p.st) -> Traced g H all -> all[i]? = some p -> Traced g H (ks.foldl (addN g H i p) all)
 | [], _, _, ha, _ => ha
 | k :: ks, all, hk, ha, hp => by
   obtain ⟨h1, h2⟩ := addN_traced ha hp (hk k (by simp))
   exact fold_traced ks (fun k' h' => hk k' (List.mem_cons_of_mem _ h')) h1 h2
inductive RunN (g : Glob) (H : List (List Ev)) : List Int -> Nd -> Prop
 | nil : RunN g H [] (firstN g H)
 | snoc {L : List Int} {p q : Nd} {k : Int} {i : Nat} : RunN g H L p -> k ∈ sortedE g.edges p.st -> stepN g H i p k = some q -> RunN g H (L ++ [k]) q
theorem back_run {g : Glob} {H : List (List Ev)} {all : List Nd} (ha : Traced g H all) : ∀ (f j : Nat) {n : Nd}, j <= f -> all[j]? = some n -> RunN g H (backN all f j).reverse n
 | f, 0, n, _, hn => by
   rcases ha 0 n hn with h | ⟨p, h1, _⟩
   ·have : backN all f 0 = [] := by cases f <;> rfl
    rw [this, h.2]
    exact .nil
   ·omega
 | 0, j + 1, _, hj, _ => by omega
 | f + 1, j + 1, n, hj, hn => by
   rcases ha (j + 1) n hn with h | ⟨p, h1, h2, h3, h4⟩
   ·omega
   ·simp only [backN, hn, List.reverse_cons]
    exact .snoc (back_run ha f n.fr.toNat (by omega) h2) h4 h3
theorem findL_run {g : Glob} {H : List (List Ev)} : ∀ (f i : Nat) {all : List Nd} {l : List Int} {c : Int}, Traced g H all -> findL g H f i all = (some l, c) -> ∃ n, RunN g H l n /\ n.ps = lensH H
 | 0, _, _, _, _, _, h => by cases h
 | f + 1, i, all, l, c, ha, h => by
   simp only [findL] at h
   split at h
   ·cases h
   ·rename_i p hp
    split at h
    ·cases h
    ·split at h
     ·rename_i hd
      injection h with h1 h2
      injection h1 with h1
      subst h1
      exact ⟨p, back_run ha i i (Nat.le_refl i) hp, hd⟩
     ·exact findL_run f (i + 1) (fold_traced _ (fun _ h => h) ha hp) h
theorem search_run {g : Glob} {H : List (List Ev)} {l : List Int} {c : Int} (h : searchF g H = (some l, c)) : ∃ n, RunN g H l n /\ n.ps = lensH H := by
 unfold searchF at h
 split at h
 ·refine findL_run _ _ (fun j n hj => ?_) h
  cases j with
  | zero =>
    simp only [List.getElem?_cons_zero, Option.some.injEq] at hj
    exact .inl ⟨rfl, hj.symm⟩
  | succ j => cases hj
 ·cases h
theorem next_find (es : List Edg) (s : Int) (a : Inter) : nextE es s a = (es.find? fun x => x.from_ == s && actEq x.act a).map (·.to) := by
 induction es with
 | nil => rfl
 | cons x es ih =>
   simp only [nextE, List.find?_cons]
   by_cases h : x.from_ = s /\ actEq x.act a = true
   ·rw [if_pos h]
    simp [h.1, h.2]
   ·rw [if_neg h, ih]
    have : (x.from_ == s && actEq x.act a) = false := by
     rw [Bool.eq_false_iff]
     intro hc
     simp only [Bool.and_eq_true, beq_iff_eq] at hc
     exact h hc
    rw [this]
theorem next_det {g : Glob} {e : Bool} (ho : orderedB g e = true) {k : Nat} {x : Edg} (hx : g.edges[k]? = some x) : nextE g.edges x.from_ x.act = some x.to := by
 rw [next_find]
 have hself : (x.from_ == x.from_ && actEq x.act x.act) = true := by simp [actEq]
 cases hf : g.edges.find? (fun y => y.from_ == x.from_ && actEq y.act x.act) with
 | none =>
   have := List.find?_eq_none.1 hf x (List.mem_of_getElem? hx)
   simp only [hself, not_true_eq_false] at this
 | some y =>
   have hy := List.find?_some hf
   have hym := List.mem_of_find?_eq_some hf
   obtain ⟨j, hj, hjy⟩ := List.mem_iff_getElem.1 hym
   by_cases hjk : j = k
   ·subst hjk
    rw [List.getElem?_eq_getElem hj] at hx
    have : y = x := by rw [<- hjy]; exact Option.some.inj hx
    rw [this]
    rfl
   ·exfalso
    have hk : k < g.edges.length := (List.getElem?_eq_some_iff.1 hx).1
    unfold orderedB at ho
    have h1 := List.all_eq_true.1 ho j (List.mem_range.2 hj)
    rw [ordAt_get hj, hjy] at h1
    simp only [Bool.and_eq_true] at h1
    have h2 := List.all_eq_true.1 h1.2 k (List.mem_range.2 hk)
    unfold okPr at h2
    rw [hx] at h2
    simp only [Bool.and_eq_true, bad1] at h2 hy
    have : (j == k) = false := by simpa using hjk
    rw [this] at h2
    simp [hy.1, hy.2] at h2
theorem path_snoc (es : List Edg) : ∀ (ws : List Inter) (w : Inter) (s : Int), pathE es (ws ++ [w]) s = match pathE es ws s with | some t => nextE es t w | none => none
 | [], w, s => by
   simp only [List.nil_append, pathE]
   cases nextE es s w <;> rfl
 | v :: ws, w, s => by
   simp only [List.cons_append, pathE]
   cases nextE es s v with
   | none => rfl
   | some t => exact path_snoc es ws w t
theorem run_path {g : Glob} {H : List (List Ev)} {e : Bool} (ho : orderedB g e = true) {L : List Int} {n : Nd} (h : RunN g H L n) : pathE g.edges (L.map (actAt g)) g.start = some n.st := by
 induction h with
 | nil => rfl
 | @snoc L p q k i hr hk hst ih =>
   rw [List.map_append, List.map_cons, List.map_nil, path_snoc, ih]
   obtain ⟨x, hx, h0, hs⟩ := mem_sortedE.1 hk
   have ha : actAt g k = x.act := by
    unfold actAt
    rw [hx]
   have hto : q.st = x.to := by
    unfold stepN at hst
    rw [hx] at hst
    simp only at hst
    split at hst
    ·injection hst with hst
     subst hst
     rfl
    ·cases hst
   rw [ha, hto, <- hs]
   exact next_det ho hx
def fits (h P : List Ev) : Prop := ∀ (j : Nat) a b, P[j]? = some a -> h[j]? = some b -> evSame a b = true
theorem fits_snoc {h P : List Ev} {e : Ev} (hf : fits h P) (he : ∀ b, h[P.length]? = some b -> evSame e b = true) : fits h (P ++ [e]) := by
 intro j a b ha hb
 rw [List.getElem?_append] at ha
 split at ha
 ·exact hf j a b ha hb
 ·rename_i hj
  have hz : j - P.length = 0 := by
   cases hz : j - P.length with
   | zero => rfl
   | succ z => rw [hz] at ha; cases ha
  rw [hz] at ha
  simp only [List.getElem?_cons_zero, Option.some.injEq] at ha
  subst ha
  have : j = P.length := by omega
  subst this
  exact he b hb
theorem pass_fits {h P : List Ev} {r : Int} (hr : ∀ b ∈ h, b.role = r) (hf : fits h P) {s : Bool} {p l : Int} (hok : (passV h (min P.length h.length) s p l).2 = true) : (passV h (min P.length h.length) s p l).1 = min (P.length + 1) h.length /\ fits h (P ++ [⟨r, s, p, l, none⟩]) := by
 by_cases hl : P.length < h.length
 ·have hm : min P.length h.length = P.length := by omega
  rw [hm] at hok ⊢
  rw [passV_at hl rfl] at hok ⊢
  simp only [Bool.and_eq_true, beq_iff_eq] at hok
  refine ⟨by simp only; omega, fits_snoc hf fun b hb => ?_⟩
  rw [List.getElem?_eq_getElem hl] at hb
  injection hb with hb
  subst hb
  have := hr _ (List.getElem_mem hl)
  simp [evSame, this, hok.1, hok.2.1, hok.2.2]
 ·have hm : min P.length h.length = h.length := by omega
  rw [hm, passV_end rfl]
  refine ⟨by simp only; omega, fits_snoc hf fun b hb => ?_⟩
  have := (List.getElem?_eq_some_iff.1 hb).1
  omega
theorem project_snoc (ws : List Inter) (w : Inter) (r : Int) : project (ws ++ [w]) r = project ws r ++ ev1 r w := by
 unfold project
 rw [List.flatMap_append]
 simp
theorem run_fits {g : Glob} {H : List (List Ev)} (hg : goodF g H = true) {L : List Int} {n : Nd} (h : RunN g H L n) : n.ps.length = H.length /\ ∀ r : Nat, r < H.length -> psAt n.ps r = min (project (L.map (actAt g)) r).length (histAt H r).length /\ fits (histAt H r) (project (L.map (actAt g)) r) := by
 have hed := edges_ok hg
 obtain ⟨hn, hlr, h6, hpp⟩ := valid_roles hg
 obtain ⟨_, _, _, _, _, _, n7⟩ := numbered_facts hn
 have hroles : ∀ r : Nat, r < H.length -> ∀ b ∈ histAt H r, b.role = (r : Int) := by
  intro r hr b hb
  unfold properH at hpp
  simp only [Bool.and_eq_true, List.all_eq_true, List.mem_range] at hpp
  have := hpp.1 r hr
  unfold okH at this
  have h1 := List.all_eq_true.1 this b (by unfold histAt at hb; rw [Int.toNat_natCast] at hb; exact hb)
  simp only [okE, Bool.and_eq_true, decide_eq_true_eq] at h1
  exact h1.1.1.1
 induction h with
 | nil =>
   refine ⟨by simp [firstN], fun r hr => ⟨?_, fun j a b ha => by cases ha⟩⟩
   unfold psAt firstN
   simp only [Int.toNat_natCast, List.map_nil]
   rw [List.getElem?_replicate, if_pos hr]
   simp [project]
 | @snoc L p q k i hrun hk hst ih =>
   obtain ⟨hpl, ihr⟩ := ih
   obtain ⟨x, hx, h0, hs⟩ := mem_sortedE.1 hk
   have hxm := List.mem_of_getElem? hx
   obtain ⟨e1, e2, e3, e4, e5, e6⟩ := hed x hxm
   have hne : x.act.from_ ≠ x.act.to := by
    have := n7 x hxm
    simp only [okEdge, Bool.and_eq_true, decide_eq_true_eq] at this
    omega
   have ha : actAt g k = x.act := by
    unfold actAt
    rw [hx]
   unfold stepN at hst
   rw [hx] at hst
   simp only at hst
   split at hst
   rotate_left
   ·cases hst
   rename_i hok
   simp only [Bool.and_eq_true] at hok
   injection hst with hst
   subst hst
   refine ⟨by simp [hpl], fun r hr => ?_⟩
   obtain ⟨i1, i2⟩ := ihr r hr
   rw [List.map_append, List.map_cons, List.map_nil, project_snoc, ha]
   rw [psAt_set (Int.natCast_nonneg r) e5 (by rw [List.length_set]; omega)]
   by_cases h1 : (r : Int) = x.act.to
   ·rw [if_pos h1]
    have hev : ev1 (r : Int) x.act = [⟨r, false, x.act.from_, x.act.label, none⟩] := by
     unfold ev1
     rw [if_neg (by omega), if_pos h1.symm]
     rfl
    have hok2 := hok.2
    rw [<- h1] at hok2 ⊢
    rw [i1] at hok2 ⊢
    obtain ⟨j1, j2⟩ := pass_fits (hroles r hr) i2 hok2
    rw [hev]
    refine ⟨?_, j2⟩
    rw [j1]
    simp
   ·rw [if_neg h1, psAt_set (Int.natCast_nonneg r) e3 (by omega)]
    by_cases h2 : (r : Int) = x.act.from_
    ·rw [if_pos h2]
     have hev : ev1 (r : Int) x.act = [⟨r, true, x.act.to, x.act.label, none⟩] := by
      unfold ev1
      rw [if_pos h2.symm, if_neg (by omega)]
      rfl
     have hok1 := hok.1
     rw [<- h2] at hok1 ⊢
     rw [i1] at hok1 ⊢
     obtain ⟨j1, j2⟩ := pass_fits (hroles r hr) i2 hok1
     rw [hev]
     refine ⟨?_, j2⟩
     rw [j1]
     simp
    ·rw [if_neg h2]
     have hev : ev1 (r : Int) x.act = [] := by
      unfold ev1
      rw [if_neg (fun h => h2 h.symm), if_neg (fun h => h1 h.symm)]
      rfl
     rw [hev, List.append_nil]
     exact ⟨i1, i2⟩
theorem fits_same {h P : List Ev} (hf : fits h P) (hl : h.length <= P.length) : evsSame (P.take h.length) h = true := by
 unfold evsSame
 simp only [Bool.and_eq_true, decide_eq_true_eq, List.all_eq_true]
 refine ⟨by simp; omega, fun x hx => ?_⟩
 obtain ⟨j, hj, rfl⟩ := List.mem_iff_getElem.1 hx
 simp only [List.length_zip, List.length_take] at hj
 have h1 : j < P.length := by omega
 have h2 : j < h.length := by omega
 simp only [List.getElem_zip, List.getElem_take]
 exact hf j _ _ (List.getElem?_eq_getElem h1) (List.getElem?_eq_getElem h2)
theorem findL_zero {g : Glob} {H : List (List Ev)} : ∀ (f i : Nat) (all : List Nd), findL g H f i all ≠ (none, 0)
 | 0, _, _ => by simp [findL]
 | f + 1, i, all => by
   simp only [findL]
   split
   ·simp
   ·split
    ·simp
    ·split
     ·simp
     ·exact findL_zero f (i + 1) _
theorem search_zero {g : Glob} {H : List (List Ev)} (h : searchF g H = (none, 0)) : False := by
 unfold searchF at h
 split at h
 ·exact findL_zero _ _ _ h
 ·simp at h
theorem found_ok {g : Glob} {H : List (List Ev)} {l : List Int} {c : Int} (h : searchF g H = (some l, c)) : (∃ t, pathE g.edges (l.map (actAt g)) g.start = some t) /\ valid26 g = true /\ ∀ r : Nat, r < H.length -> (histAt H r).length <= (project (l.map (actAt g)) r).length /\ evsSame ((project (l.map (actAt g)) r).take (histAt H r).length) (histAt H r) = true := by
 have hg : goodF g H = true := by
  cases hg : goodF g H with
  | true => rfl
  | false =>
    unfold searchF at h
    rw [hg] at h
    simp at h
 have hv : valid29 g = true := by
  unfold goodF at hg
  simp only [Bool.and_eq_true] at hg
  exact hg.1.1
 obtain ⟨n, hn, hd⟩ := search_run h
 have ho : orderedB g true = true := by
  have := hv
  unfold valid29 at this
  simp only [Bool.and_eq_true] at this
  exact this.1.1.1.2
 refine ⟨⟨n.st, run_path ho hn⟩, by rw [<- valid_eq]; exact hv, fun r hr => ?_⟩
 obtain ⟨i1, i2⟩ := (run_fits hg hn).2 r hr
 have hps : psAt n.ps r = (histAt H r).length := by
  rw [hd]
  unfold psAt histAt lensH
  rw [Int.toNat_natCast, List.getElem?_map, List.getElem?_eq_getElem hr]
  rfl
 have hle : (histAt H r).length <= (project (l.map (actAt g)) r).length := by omega
 exact ⟨hle, fits_same i2 hle⟩
set_option maxHeartbeats 64000000
theorem good_ordered {g : Glob} {H : List (List Ev)} (hg : goodF g H = true) : orderedB g true = true := by
 unfold goodF valid29 at hg
 simp only [Bool.and_eq_true] at hg
 exact hg.1.1.1.1.1.2
theorem good_decls {g : Glob} {H : List (List Ev)} (hg : goodF g H = true) : validD g.decls = true := by
 unfold goodF valid29 at hg
 simp only [Bool.and_eq_true] at hg
 exact hg.1.1.1.1.1.1.2
theorem again_snoc (g : Glob) (L : List Int) (k : Int) (r : Nat) : againV g (L ++ [k]) r = againV g L r ++ againE g r k := by
 unfold againV
 rw [List.flatMap_append]
 simp
theorem run_last {g : Glob} {H : List (List Ev)} {L : List Int} {n : Nd} (h : RunN g H L n) : (L = [] /\ n.st = g.start) \/ ∃ (L0 : List Int) (k : Int) (y : Edg), L = L0 ++ [k] /\ g.edges[k.toNat]? = some y /\ y.to = n.st := by
 cases h with
 | nil => exact .inl ⟨rfl, rfl⟩
 | @snoc L p q k i hrun hk hst =>
   obtain ⟨x, hx, h0, hs⟩ := mem_sortedE.1 hk
   refine .inr ⟨L, k, x, rfl, hx, ?_⟩
   unfold stepN at hst
   rw [hx] at hst
   simp only at hst
   split at hst
   ·injection hst with hst
    subst hst
    rfl
   ·cases hst
theorem run_again {g : Glob} {H : List (List Ev)} (ho : orderedB g true = true) {L : List Int} {n : Nd} (h : RunN g H L n) (r : Nat) : (againV g L r)[0]? ≠ some true := by
 induction h with
 | nil => simp [againV]
 | @snoc L p q k i hrun hk hst ih =>
   rw [again_snoc]
   cases hA : againV g L r with
   | cons a A =>
     rw [hA] at ih
     simpa using ih
   | nil =>
     rw [List.nil_append]
     intro hc
     obtain ⟨x, hx, h0, hs⟩ := mem_sortedE.1 hk
     have hkl := (List.getElem?_eq_some_iff.1 hx).1
     have hx2 : g.edges[k.toNat] = x := (List.getElem?_eq_some_iff.1 hx).2
     have hae : againE g r k = (if x.act.from_ = (r : Int) then [x.again] else []) ++ (if x.act.to = (r : Int) then [false] else []) := by
      unfold againE
      rw [hx]
      simp
     rw [hae] at hc
     have hag : x.again = true /\ x.act.from_ = r := by
      by_cases h1 : x.act.from_ = r
      ·rw [if_pos h1] at hc
       simp only [List.cons_append, List.getElem?_cons_zero, Option.some.injEq] at hc
       exact ⟨hc, h1⟩
      ·rw [if_neg h1, List.nil_append] at hc
       split at hc <;> simp at hc
     have h1 := List.all_eq_true.1 ho k.toNat (List.mem_range.2 hkl)
     rw [ordAt_get hkl, hx2] at h1
     simp only [Bool.and_eq_true, hag.1, Bool.true_and] at h1
     rcases run_last hrun with ⟨rfl, hp⟩ | ⟨L0, j, y, rfl, hy, hyp⟩
     ·have h2 := h1.1.2
      rw [hs, hp] at h2
      simp at h2
     ·have hjl := (List.getElem?_eq_some_iff.1 hy).1
      have h2 := List.all_eq_true.1 h1.2 j.toNat (List.mem_range.2 hjl)
      unfold okPr at h2
      rw [hy] at h2
      simp only [Bool.and_eq_true, bad2, hag.1, Bool.true_and] at h2
      have h3 := h2.2
      rw [hyp, hs] at h3
      have h4 : y.act.from_ = x.act.from_ := by
       simp at h3
       omega
      rw [again_snoc] at hA
      have h5 := (List.append_eq_nil_iff.1 hA).2
      unfold againE at h5
      rw [hy] at h5
      simp [h4, hag.2] at h5
theorem again_project {g : Glob} {r : Nat} : ∀ {l : List Int}, (∀ k ∈ l, edgeOk g k) -> (againV g l r).length = (project (l.map (actAt g)) r).length
 | [], _ => rfl
 | k :: l, h => by
   have ih := again_project (g := g) (r := r) (l := l) fun k hk => h k (List.mem_cons_of_mem _ hk)
   have hk := h k (by simp)
   obtain ⟨x, hx⟩ : ∃ x, g.edges[k.toNat]'hk.2 = x := ⟨_, rfl⟩
   have h1 : (againE g r k).length = (ev1 r (actAt g k)).length := by
    rw [actAt_eq hk.2 hx]
    unfold againE ev1
    rw [List.getElem?_eq_getElem hk.2, hx]
    simp only [List.length_append, beq_iff_eq]
    split <;> split <;> rfl
   simp only [againV, project, List.map_cons, List.flatMap_cons, List.length_append] at ih ⊢
   rw [h1, ih]
structure RunOk (g : Glob) (H : List (List Ev)) (l : List Int) : Prop where
 good : goodF g H = true
 edges : ∀ k ∈ l, edgeOk g k
 len : l.length <= 20000
 again : ∀ r : Nat, r < H.length -> (histAt H r).length <= (againV g l r).length /\ (againV g l r)[0]? ≠ some true
 peer : ∀ r : Nat, r < H.length -> ∀ x ∈ histAt H r, 0 <= x.peer /\ x.peer < H.length
 label : ∀ r : Nat, r < H.length -> ∀ x ∈ histAt H r, 0 <= x.label /\ x.label < g.decls.length
theorem project_mem {l : List Inter} {r : Int} {e : Ev} (h : e ∈ project l r) : ∃ w ∈ l, e.label = w.label := by
 unfold project at h
 obtain ⟨w, hw, he⟩ := List.mem_flatMap.1 h
 refine ⟨w, hw, ?_⟩
 unfold ev1 at he
 rcases List.mem_append.1 he with he | he
 ·split at he
  ·rw [List.mem_singleton.1 he]
  ·cases he
 ·split at he
  ·rw [List.mem_singleton.1 he]
  ·cases he
theorem evs_at {a b : List Ev} (h : evsSame a b = true) {j : Nat} (hj : j < b.length) : ∃ e ∈ a, evSame e b[j] = true := by
 unfold evsSame at h
 simp only [Bool.and_eq_true, decide_eq_true_eq, List.all_eq_true] at h
 have hja : j < a.length := by omega
 refine ⟨a[j], List.getElem_mem hja, h.2 (a[j], b[j]) ?_⟩
 rw [List.mem_iff_getElem]
 exact ⟨j, by simp; omega, by simp⟩
theorem run_ok {g : Glob} {H : List (List Ev)} {l : List Int} {c : Int} (h : searchF g H = (some l, c)) : RunOk g H l := by
 have hg : goodF g H = true := by
  cases hg : goodF g H with
  | true => rfl
  | false =>
    unfold searchF at h
    rw [hg] at h
    simp at h
 obtain ⟨s1, s2, s3⟩ := search_ok h
 obtain ⟨_, _, g3⟩ := found_ok h
 obtain ⟨n, hrun, _⟩ := search_run h
 obtain ⟨hn, hlr, h6, hpp⟩ := valid_roles hg
 obtain ⟨_, _, _, _, _, _, n7⟩ := numbered_facts hn
 refine ⟨hg, s1, s2, fun r hr => ⟨?_, run_again (good_ordered hg) hrun r⟩, fun r hr x hx => ?_, fun r hr x hx => ?_⟩
 ·rw [again_project s1]
  exact (g3 r hr).1
 ·unfold properH at hpp
  simp only [Bool.and_eq_true, List.all_eq_true, List.mem_range] at hpp
  have := hpp.1 r hr
  unfold okH at this
  have h1 := List.all_eq_true.1 this x (by unfold histAt at hx; rw [Int.toNat_natCast] at hx; exact hx)
  simp only [okE, Bool.and_eq_true, decide_eq_true_eq] at h1
  omega
 ·obtain ⟨j, hj, rfl⟩ := List.mem_iff_getElem.1 hx
  obtain ⟨e, he, hes⟩ := evs_at (g3 r hr).2 hj
  obtain ⟨w, hw, hl⟩ := project_mem (List.mem_of_mem_take he)
  obtain ⟨k, hk, rfl⟩ := List.mem_map.1 hw
  have hke := s1 k hk
  obtain ⟨x, hx2⟩ : ∃ x, g.edges[k.toNat]'hke.2 = x := ⟨_, rfl⟩
  rw [actAt_eq hke.2 hx2] at hl
  have h7 := n7 x (hx2 ▸ List.getElem_mem hke.2)
  simp only [okEdge, Bool.and_eq_true, decide_eq_true_eq] at h7
  simp only [evSame, Bool.and_eq_true, decide_eq_true_eq] at hes
  omega
theorem histV_take {ds : List Dcl} {H : List (List Ev)} {h : List Ev} {r : Nat} {ag : List Bool} {n : Nat} : ∀ (l : List Ev) (k : Nat) (kn : List Vl) (got : List Nat), k + l.length <= n -> histV ds H h r (ag.take n) l k kn got = histV ds H h r ag l k kn got
 | [], _, _, _, _ => rfl
 | x :: l, k, kn, got, hk => by
   rw [List.length_cons] at hk
   have he : evtV ds H h r (ag.take n) k x kn got = evtV ds H h r ag k x kn got := by
    unfold evtV
    rw [List.getElem?_take_of_lt (by omega)]
   rw [histV, histV, he]
   split
   ·exact histV_take l _ _ _ (by omega)
   ·rfl
theorem hist0_take {ds : List Dcl} {H : List (List Ev)} {h : List Ev} {r : Nat} {ag : List Bool} : hist0 ds H h r (ag.take h.length) = hist0 ds H h r ag := histV_take _ _ _ _ (by omega)
def rolesV (g : Glob) (H : List (List Ev)) (l : List Int) : List Nat -> Int
 | [] => 0
 | r :: rs => if hist0 g.decls H (histAt H r) r (againV g l r) = 0 then rolesV g H l rs else hist0 g.decls H (histAt H r) r (againV g l r)
def valuesF (g : Glob) (H : List (List Ev)) : Int := match searchF g H with
 | (none, c) => c
 | (some l, _) => rolesV g H l (List.range H.length)
theorem rolesV_at {g : Glob} {H : List (List Ev)} {l : List Int} {n k : Nat} (hk : k < n) : rolesV g H l ((List.range n).drop k) = if hist0 g.decls H (histAt H k) k (againV g l k) = 0 then rolesV g H l ((List.range n).drop (k + 1)) else hist0 g.decls H (histAt H k) k (againV g l k) := by
 rw [List.drop_eq_getElem_cons (by simpa using hk), List.getElem_range]
 rfl
theorem rolesV_end {g : Glob} {H : List (List Ev)} {l : List Int} {n : Nat} : rolesV g H l ((List.range n).drop n) = 0 := by
 rw [List.drop_of_length_le (by simp)]
 rfl
theorem hist_at_nat {H : List (List Ev)} {k : Nat} (h : k < H.length) : histAt H k = H[k] := by
 unfold histAt
 rw [Int.toNat_natCast, List.getElem?_eq_getElem h]
 rfl
set_option maxHeartbeats 64000000
theorem valid_field {l : List Dcl} (hv : validD l = true) {d : Dcl} (hd : d ∈ l) : d.fields.length <= 4 := by
 obtain ⟨i, hi, rfl⟩ := List.mem_iff_getElem.1 hd
 unfold validD at hv
 simp only [Bool.and_eq_true, decide_eq_true_eq, List.all_eq_true, List.mem_range] at hv
 have h1 := hv.2 i hi
 rw [okDeclAt_get hi] at h1
 simp only [Bool.and_eq_true, decide_eq_true_eq] at h1
 exact h1.1.1.1.1.2
theorem f17 (h109 : H109) (h138 : H138) (g : Glob) (H : List (List Ev)) (hs : Small g) (hl : H.length <= 1000000) (hh : ∀ l ∈ H, l.length <= 100000) (hev : ∀ l ∈ H, ∀ x ∈ l, EvOk x) :
  Impl Tryz.prog 17 [.ag (encG g), .one (.sl (H.map encH))] (.one (.one (.int .i64 (valuesF g H)))) := by
 have k26 := f26 h109 g H hs hl (fun l hl' => by have := hh l hl'; omega)
 obtain ⟨V, hV⟩ : ∃ V, valuesF g H = V := ⟨_, rfl⟩
 rw [hV]
 unfold valuesF at hV
 obtain ⟨⟨o, c⟩, he⟩ : ∃ q, searchF g H = q := ⟨_, rfl⟩
 rw [he] at k26 hV
 refine impl_v ?_
 refine z_l [(4, .sv (.one (.int .i64 0))), (2, .sv (.one (.bx (encG g)))), (1, .sv (.one (.sl (H.map encH))))] ?_ ?_
 ·refine wX encG.eq_1 ?_
  refine z_m ?_
  simp [go_sem, encG]
 cases o with
 | none =>
   have hc : c ≠ 0 := by
    rintro rfl
    exact search_zero he
   simp only [resS] at k26
   simp only at hV
   subst hV
   refine wV (aN encG.eq_1 hc) k26 ?_
   simp [go_sem]
 | some l =>
   have hro := run_ok he
   obtain ⟨_, _, rfl⟩ := search_ok he
   simp only [resS] at k26
   simp only at hV
   have hvd := good_decls hro.good
   obtain ⟨hn, hlr, h6, hpp⟩ := valid_roles hro.good
   have hft : ∀ x ∈ g.edges, x.act.from_ ≠ x.act.to := fun x hx => by
    obtain ⟨_, _, _, _, _, _, n7⟩ := numbered_facts hn
    have := n7 x hx
    simp only [okEdge, Bool.and_eq_true, decide_eq_true_eq] at this
    omega
   refine z_l [(6, .sv (.one (.int .i64 0))), (5, .sv (.one (.sl (l.map encN)))), (4, .sv (.one (.int .i64 0))), (2, .sv (.one (.bx (encG g)))), (1, .sv (.one (.sl (H.map encH))))] ?_ ?_
   ·refine wV encG.eq_1 k26 ?_
    refine cutQ_all 5 ?_
    simp [go_sem, encG]
   refine z_l [(5, .sv (.one (.sl (l.map encN)))), (4, .sv (.one (.int .i64 0))), (2, .sv (.one (.bx (encG g)))), (1, .sv (.one (.sl (H.map encH))))] ?_ ?_
   ·refine wN ?_
    refine z_m ?_
    simp [go_sem]
   refine wN ?_
   refine z_k (fun n e => ∃ k : Nat, k + n = H.length /\ rolesV g H l ((List.range H.length).drop k) = V /\ e = [(24, .sv (.one (.int .i64 k))), (23, .sv (.one (.int .i64 H.length))), (5, .sv (.one (.sl (l.map encN)))), (4, .sv (.one (.int .i64 0))), (2, .sv (.one (.bx (encG g)))), (1, .sv (.one (.sl (H.map encH))))]) H.length _ ⟨0, by simp, by rw [List.drop_zero]; exact hV, rfl⟩ (by simp [go_sem]) ?_
   rintro n e ⟨k, hk, hVk, rfl⟩
   by_cases hlt : k < H.length
   rotate_left
   ·have hke : k = H.length := by omega
    subst hke
    rw [rolesV_end] at hVk
    subst hVk
    refine wN ?_
    simp [go_sem]
   have hll := hro.len
   refine z_l [(25, .sv (.one (.bool true))), (24, .sv (.one (.int .i64 k))), (23, .sv (.one (.int .i64 H.length))), (5, .sv (.one (.sl (l.map encN)))), (4, .sv (.one (.int .i64 0))), (2, .sv (.one (.bx (encG g)))), (1, .sv (.one (.sl (H.map encH))))] ?_ ?_
   ·refine wX hlt ?_
    refine z_m ?_
    simp [go_sem]
   refine z_l [(24, .sv (.one (.int .i64 k))), (23, .sv (.one (.int .i64 H.length))), (5, .sv (.one (.sl (l.map encN)))), (4, .sv (.one (.int .i64 0))), (2, .sv (.one (.bx (encG g)))), (1, .sv (.one (.sl (H.map encH))))] ?_ ?_
   ·refine wN ?_
    refine z_m ?_
    simp [go_sem]
   refine z_A ?_
   refine z_C ?_
   refine z_l [(7, .sv (.one (.int .i64 k))), (24, .sv (.one (.int .i64 k))), (23, .sv (.one (.int .i64 H.length))), (5, .sv (.one (.sl (l.map encN)))), (4, .sv (.one (.int .i64 0))), (2, .sv (.one (.bx (encG g)))), (1, .sv (.one (.sl (H.map encH))))] ?_ ?_
   ·refine wN ?_
    refine z_m ?_
    simp [go_sem]
   refine z_l [(8, .sv (.one .nil)), (7, .sv (.one (.int .i64 k))), (24, .sv (.one (.int .i64 k))), (23, .sv (.one (.int .i64 H.length))), (5, .sv (.one (.sl (l.map encN)))), (4, .sv (.one (.int .i64 0))), (2, .sv (.one (.bx (encG g)))), (1, .sv (.one (.sl (H.map encH))))] ?_ ?_
   ·refine wN ?_
    refine z_m ?_
    simp [go_sem]
   refine z_l [(8, .sv (.one (.sl ((againV g l k).map encBo2)))), (7, .sv (.one (.int .i64 k))), (24, .sv (.one (.int .i64 k))), (23, .sv (.one (.int .i64 H.length))), (5, .sv (.one (.sl (l.map encN)))), (4, .sv (.one (.int .i64 0))), (2, .sv (.one (.bx (encG g)))), (1, .sv (.one (.sl (H.map encH))))] ?_ ?_
   ·refine wN ?_
    refine z_k (fun m e => ∃ (j : Nat) (A : List Bool), j + m = l.length /\ againV g (l.take j) k = A /\ e = [(29, .sv (.one (.int .i64 j))), (28, .sv (.one (.int .i64 l.length))), (27, .sv (.one (.sl (l.map encN)))), (8, .sv (.one (.ow 1 (A.map encBo2)))), (7, .sv (.one (.int .i64 k))), (24, .sv (.one (.int .i64 k))), (23, .sv (.one (.int .i64 H.length))), (5, .sv (.one (.sl (l.map encN)))), (4, .sv (.one (.int .i64 0))), (2, .sv (.one (.bx (encG g)))), (1, .sv (.one (.sl (H.map encH))))]) l.length _ ⟨0, [], by simp, by simp [againV], rfl⟩ (by simp [go_sem, encG]) ?_
    rintro m e ⟨j, A, hj, hA, rfl⟩
    by_cases hjl : j < l.length
    rotate_left
    ·have hje : j = l.length := by omega
     subst hje
     rw [List.take_length] at hA
     subst hA
     refine wN ?_
     refine cutQ_all 8 ?_
     simp [go_sem, encG]
    obtain ⟨z, hz⟩ : ∃ z, l[j] = z := ⟨_, rfl⟩
    obtain ⟨hz0, hz1⟩ := hro.edges z (hz ▸ List.getElem_mem hjl)
    obtain ⟨x, hx⟩ : ∃ x, g.edges[z.toNat] = x := ⟨_, rfl⟩
    have hne := hft x (hx ▸ List.getElem_mem hz1)
    have hst := again_step (g := g) (r := k) hjl
    rw [hA, hz] at hst
    have hae : againE g k z = (if x.act.from_ == (k : Int) then [x.again] else []) ++ (if x.act.to == (k : Int) then [false] else []) := by
     unfold againE
     rw [List.getElem?_eq_getElem hz1, hx]
    have hAl := again_len g k (l.take j)
    rw [hA, List.length_take] at hAl
    have hap := fun b => appendOk_b A b (by omega)
    rw [hae] at hst
    have k20 := f20 [x.act] k (by simp)
    have hpr : project [x.act] k = ev1 k x.act := by simp [project]
    rw [hpr] at k20
    simp only [List.map_cons, List.map_nil, encI] at k20
    by_cases c1 : x.act.from_ = k
    ·have c2 : ¬ x.act.to = k := fun h => hne (c1.trans h.symm)
     have c2b : (x.act.to == (k : Int)) = false := by simpa using c2
     have c1b : (x.act.from_ == (k : Int)) = true := by simpa using c1
     rw [c1b, c2b] at hst
     simp only [if_true, Bool.false_eq_true, if_false, List.append_nil] at hst
     have hev1 : ev1 k x.act = [⟨k, true, x.act.to, x.act.label, none⟩] := by
      unfold ev1
      rw [if_pos c1, if_neg c2]
      rfl
     rw [hev1] at k20
     simp only [List.map_cons, List.map_nil, encE, valsDV, c1] at k20
     cases hxa : x.again with
     | true =>
       rw [hxa] at hst
       refine wV (aN hjl <| aN hz <| aN hz0 <| aN hz1 <| aN hx <| aN encN.eq_1 <| aN encEd.eq_1 <| aN encG.eq_1 <| aN hap <| aN c1b <| aN c2b <| aN c1 hxa) k20 ?_
       refine z_j (m - 1) _ (by omega) ⟨j + 1, A ++ [true], by omega, hst, rfl⟩ ?_
       simp [go_sem, encG, encBo2]
     | false =>
       rw [hxa] at hst
       refine wV (aN hjl <| aN hz <| aN hz0 <| aN hz1 <| aN hx <| aN encN.eq_1 <| aN encEd.eq_1 <| aN encG.eq_1 <| aN hap <| aN c1b <| aN c2b <| aN c1 hxa) k20 ?_
       refine z_j (m - 1) _ (by omega) ⟨j + 1, A ++ [false], by omega, hst, rfl⟩ ?_
       simp [go_sem, encG, encBo2]
    ·have c1b : (x.act.from_ == (k : Int)) = false := by simpa using c1
     by_cases c2 : x.act.to = k
     ·have c2b : (x.act.to == (k : Int)) = true := by simpa using c2
      rw [c1b, c2b] at hst
      simp only [if_true, Bool.false_eq_true, if_false, List.nil_append] at hst
      have hev1 : ev1 k x.act = [⟨k, false, x.act.from_, x.act.label, none⟩] := by
       unfold ev1
       rw [if_neg c1, if_pos c2]
       rfl
      rw [hev1] at k20
      simp only [List.map_cons, List.map_nil, encE, valsDV] at k20
      cases hxa : x.again with
      | true =>
        refine wV (aN hjl <| aN hz <| aN hz0 <| aN hz1 <| aN hx <| aN encN.eq_1 <| aN encEd.eq_1 <| aN encG.eq_1 <| aN hap <| aN c1b <| aN c2b <| aN c1 hxa) k20 ?_
        refine z_j (m - 1) _ (by omega) ⟨j + 1, A ++ [false], by omega, hst, rfl⟩ ?_
        simp [go_sem, encG, encBo2]
      | false =>
        refine wV (aN hjl <| aN hz <| aN hz0 <| aN hz1 <| aN hx <| aN encN.eq_1 <| aN encEd.eq_1 <| aN encG.eq_1 <| aN hap <| aN c1b <| aN c2b <| aN c1 hxa) k20 ?_
        refine z_j (m - 1) _ (by omega) ⟨j + 1, A ++ [false], by omega, hst, rfl⟩ ?_
        simp [go_sem, encG, encBo2]
     ·have c2b : (x.act.to == (k : Int)) = false := by simpa using c2
      rw [c1b, c2b] at hst
      simp only [Bool.false_eq_true, if_false, List.append_nil] at hst
      have hev1 : ev1 k x.act = [] := by
       unfold ev1
       rw [if_neg c1, if_neg c2]
       rfl
      rw [hev1] at k20
      simp only [List.map_nil] at k20
      refine wV (aN hjl <| aN hz <| aN hz0 <| aN hz1 <| aN hx <| aN encN.eq_1 <| aN encEd.eq_1 <| aN encG.eq_1 <| aN hap <| aN c1b <| aN c2b c1) k20 ?_
      refine z_j (m - 1) _ (by omega) ⟨j + 1, A, by omega, hst, rfl⟩ ?_
      simp [go_sem, encG, encBo2]
   obtain ⟨ag1, ag2⟩ := hro.again k hlt
   have hHk := hist_at_nat hlt
   rw [hHk] at ag1
   have k34 := f34 h138 g H H[k] k (againV g l k) hlt rfl (by omega) hh ag1 ag2 hev (fun x hx => hro.peer k hlt x (by rw [hHk]; exact hx)) (by have := hs.decls; omega) (fun d hd => by have := valid_field hvd hd; omega)
   have hst := rolesV_at (g := g) (H := H) (l := l) hlt
   rw [hHk, hVk] at hst
   obtain ⟨u, hu⟩ : ∃ u, hist0 g.decls H H[k] k (againV g l k) = u := ⟨_, rfl⟩
   rw [hu] at k34 hst
   by_cases hu0 : u = 0
   ·subst hu0
    rw [if_pos rfl] at hst
    refine wV encG.eq_1 k34 ?_
    refine z_j (n - 1) _ (by omega) ⟨k + 1, by omega, hst.symm, rfl⟩ ?_
    simp [go_sem, encG]
   ·rw [if_neg hu0] at hst
    subst hst
    refine wV (aN encG.eq_1 hu0) k34 ?_
    simp [go_sem]
set_option maxHeartbeats 64000000
theorem f18 (g : Glob) (H : List (List Ev)) (hs : Small g) (hl : H.length <= 1000000) (hh : ∀ l ∈ H, l.length <= 100000) (hev : ∀ l ∈ H, ∀ x ∈ l, EvOk x /\ TxtOk (evV x)) :
  Impl Tryz.prog 18 [.ag (encG g), .one (.sl (H.map encH))] (.one (.one (.int .i64 (valuesF g H)))) := by
 have hh1 : ∀ l ∈ H, l.length <= 1000000 := fun l hl' => by have := hh l hl'; omega
 have k27 := f27 g H hs hl hh1
 have k28 := f28 g H hs hh1
 obtain ⟨V, hV⟩ : ∃ V, valuesF g H = V := ⟨_, rfl⟩
 rw [hV]
 unfold valuesF at hV
 refine impl_v ?_
 refine z_l [(4, .sv (.one (.int .i64 0))), (2, .sv (.one (.bx (encG g)))), (1, .sv (.one (.sl (H.map encH))))] ?_ ?_
 ·refine wX encG.eq_1 ?_
  refine z_m ?_
  simp [go_sem, encG]
 cases hg : goodF g H with
 | false =>
   rw [hg] at k27
   have hr : searchF g H = (none, 1) := by unfold searchF; rw [hg]; rfl
   rw [hr] at hV
   simp only at hV
   subst hV
   refine wV encG.eq_1 k27 ?_
   simp [go_sem]
 | true =>
   rw [hg] at k27
   have k28 := k28 hg
   have hr : searchF g H = findL g H 20001 0 [firstN g H] := by unfold searchF; rw [hg]; rfl
   rw [<- hr] at k28
   obtain ⟨⟨o, c⟩, he⟩ : ∃ q, searchF g H = q := ⟨_, rfl⟩
   rw [he] at k28 hV
   cases o with
   | none =>
     have hc : c ≠ 0 := by
      rintro rfl
      exact search_zero he
     simp only [resS] at k28
     simp only at hV
     subst hV
     refine wV (aN encG.eq_1 hc) (aN k27 k28) ?_
     simp [go_sem]
   | some l =>
     have hro := run_ok he
     obtain ⟨_, _, rfl⟩ := search_ok he
     simp only [resS] at k28
     simp only at hV
     have hvd := good_decls hro.good
     obtain ⟨hn, hlr, h6, hpp⟩ := valid_roles hro.good
     have hft : ∀ x ∈ g.edges, x.act.from_ ≠ x.act.to := fun x hx => by
      obtain ⟨_, _, _, _, _, _, n7⟩ := numbered_facts hn
      have := n7 x hx
      simp only [okEdge, Bool.and_eq_true, decide_eq_true_eq] at this
      omega
     have hll := hro.len
     refine z_l [(4, .sv (.one (.int .i64 0))), (2, .sv (.one (.bx (encG g)))), (1, .sv (.one (.sl (H.map encH))))] ?_ ?_
     ·refine wV encG.eq_1 k27 ?_
      refine z_m ?_
      simp [go_sem, encG]
     refine z_l [(6, .sv (.one (.int .i64 0))), (5, .sv (.one (.sl (l.map encN)))), (4, .sv (.one (.int .i64 0))), (2, .sv (.one (.bx (encG g)))), (1, .sv (.one (.sl (H.map encH))))] ?_ ?_
     ·refine wV encG.eq_1 k28 ?_
      refine cutQ_all 5 ?_
      simp [go_sem, encG]
     refine wN ?_
     refine z_k (fun n e => ∃ k : Nat, k + n = H.length /\ rolesV g H l ((List.range H.length).drop k) = V /\ e = [(7, .sv (.one (.int .i64 k))), (5, .sv (.one (.sl (l.map encN)))), (4, .sv (.one (.int .i64 0))), (2, .sv (.one (.bx (encG g)))), (1, .sv (.one (.sl (H.map encH))))]) H.length _ ⟨0, by simp, by rw [List.drop_zero]; exact hV, rfl⟩ (by simp [go_sem]) ?_
     rintro n e ⟨k, hk, hVk, rfl⟩
     by_cases hlt : k < H.length
     rotate_left
     ·have hke : k = H.length := by omega
      subst hke
      rw [rolesV_end] at hVk
      subst hVk
      refine wN ?_
      simp [go_sem]
     obtain ⟨ag1, ag2⟩ := hro.again k hlt
     have hHk := hist_at_nat hlt
     rw [hHk] at ag1
     obtain ⟨h, hh0⟩ : ∃ h, H[k] = h := ⟨_, rfl⟩
     rw [hh0] at hHk ag1
     have hhl : h.length <= 100000 := hh h (hh0 ▸ List.getElem_mem hlt)
     have k36 := (f36 g l k h.length (by omega) hro.edges hft ag1).frz
     obtain ⟨B, hB⟩ : ∃ B, (againV g l k).take h.length = B := ⟨_, rfl⟩
     have hBl : h.length <= B.length := by rw [<- hB, List.length_take]; omega
     have hB0 : B[0]? ≠ some true := by
      rw [<- hB]
      intro hc
      rw [List.getElem?_take] at hc
      split at hc
      ·exact ag2 hc
      ·cases hc
     have hB2 : hist0 g.decls H h k B = hist0 g.decls H h k (againV g l k) := by rw [<- hB]; exact hist0_take
     rw [hB] at k36
     have k35 := f35 g H h k B hlt hh0 (by omega) hh hBl hB0 hev (fun x hx => hro.peer k hlt x (by rw [hHk]; exact hx)) (fun x hx => hro.label k hlt x (by rw [hHk]; exact hx)) ⟨hs.decls, hs.fields, hs.parts⟩ hvd
     rw [hB2] at k35
     have hst := rolesV_at (g := g) (H := H) (l := l) hlt
     rw [hHk, hVk] at hst
     obtain ⟨u, hu⟩ : ∃ u, hist0 g.decls H h k (againV g l k) = u := ⟨_, rfl⟩
     rw [hu] at k35 hst
     simp only [go_sem] at k36
     by_cases hu0 : u = 0
     ·subst hu0
      rw [if_pos rfl] at hst
      refine wV (aN hlt <| aN hh0 <| aN encG.eq_1 encH.eq_1) (aN k36 k35) ?_
      refine z_j (n - 1) _ (by omega) ⟨k + 1, by omega, hst.symm, rfl⟩ ?_
      simp [go_sem, encG]
     ·rw [if_neg hu0] at hst
      subst hst
      refine wV (aN hlt <| aN hh0 <| aN encG.eq_1 <| aN encH.eq_1 hu0) (aN k36 k35) ?_
      simp [go_sem]
end Go.Av

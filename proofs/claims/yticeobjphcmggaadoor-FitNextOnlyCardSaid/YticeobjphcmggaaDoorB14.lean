/- Part of a proof. -/
import Derived.Test.YticeobjphcmggaaDoorAvR
import Derived.Test.YticeobjphcmggaaDoorB13
import Derived.Test.YticeobjphcmggaaDoorB12
import Derived.Test.YticeobjphcmggaaDoorB11
import Derived.Test.YticeobjphcmggaaDoorB10
import Derived.Test.YticeobjphcmggaaDoorB08
set_option linter.unusedVariables false
set_option linter.unusedSimpArgs false
set_option maxHeartbeats 64000000
set_option maxRecDepth 8000
namespace Go.Av
open Go Go.RowKit Go.Proofs
set_option maxHeartbeats 64000000
theorem sum_mem : ∀ {l : List Nat} {n : Nat}, n ∈ l -> n <= l.sum
 | a :: l, n, h => by
   rw [List.sum_cons]
   rcases List.mem_cons.1 h with rfl | h
   ·omega
   ·have := sum_mem h; omega
theorem units_mem {l : List Dcl} {d : Dcl} (h : d ∈ l) : d.fields.length + (d.diffs.length + d.equals.length) <= units l l.length := by
 unfold units
 rw [List.take_length]
 exact sum_mem (List.mem_map_of_mem (f := fun d : Dcl => d.fields.length + (d.diffs.length + d.equals.length)) h)
theorem few_small {g : Glob} (h : fewG g = true) (hn : ∀ d ∈ g.decls, d.name.size <= 1000000000000000) : Small g := by
 simp only [fewG, fewD, Bool.and_eq_true, decide_eq_true_eq] at h
 obtain ⟨⟨⟨⟨h1, h2⟩, h3⟩, h4⟩, h5, h6⟩ := h
 refine ⟨by omega, by omega, fun d hd => ?_, fun d hd => ?_, by omega, by omega⟩
 ·have := units_mem hd; omega
 ·have := units_mem hd; have := hn d hd; omega
def GlobA (g : Glob) : Prop := g.decls.length <= 1000000000000000 /\ ∀ d ∈ g.decls, d.name.size <= 1000000000000000 /\ d.fields.length <= 1000000000000000 /\ d.diffs.length <= 1000000000000000 /\ d.equals.length <= 1000000000000000
def HistA (H : List (List Ev)) : Prop := H.length <= 1000000000000000 /\ ∀ l ∈ H, l.length <= 1000000000000000
theorem sl_toward {w : World} {S : Nat -> Prop} {v : Value} {els els' : List (List DV)} {r : List Nat} (hl : els.map List.length = els'.map List.length) (ht : towardD els.flatten els'.flatten) (h : Cz w S v (.sl els) r) : Cz w S v (.sl els') r := by
 have hlen : els.length = els'.length := by simpa using congrArg List.length hl
 cases h with
 | shNil a c =>
   have : els' = [] := List.eq_nil_of_length_eq_zero (by simpa using hlen.symm)
   subst this
   exact .shNil _ _
 | sh ad n c z _ vs hS hn hc hm hz hcell hcl =>
   refine .sh ad n c z els' vs hS (by omega) hc hm ?_ hcell (towardD_ok hcl ht)
   intro e he
   have : e.length ∈ els'.map List.length := List.mem_map.2 ⟨e, he, rfl⟩
   rw [<- hl] at this
   obtain ⟨e', he', h'⟩ := List.mem_map.1 this
   rw [<- h']; exact hz e' he'
def dR : List (List DV) := [[.str ⟨#[120]⟩, .nil, .int .i64 0, .nil, .nil], [.str ⟨#[121]⟩, .nil, .int .i64 0, .nil, .nil]]
def hR : List (List DV) := [[.sl [[.int .i64 0, .bool true, .int .i64 1, .int .i64 0, .nil]]], [.nil], [.sl [[.int .i64 2, .bool false, .int .i64 0, .int .i64 1, .nil]]]]
def gR : List DV := [.str ⟨#[80]⟩, .sl [[.str ⟨#[65]⟩], [.str ⟨#[66]⟩], [.str ⟨#[67]⟩]], .sl dR, .int .i64 3, .int .i64 0, .int .i64 2, .sl gE, .nil]
theorem raw_enc {w : World} {S : Nat -> Prop} {v : Value} {r : List Nat} (h : CzS w S v (.ag gR) r) : CzS w S v (.ag (encG exG)) r := by
 rw [exG_enc]
 cases h with
 | ag vs l r hl =>
   refine .ag _ _ _ ?_
   unfold gR at hl
   generalize vs.toList = vl at hl
   cases hl with
   | cons _ _ _ _ _ _ h1 hl =>
     cases hl with
     | cons _ _ _ _ _ _ h2 hl =>
       cases hl with
       | cons _ _ _ _ _ _ h3 hl =>
         refine .cons _ _ _ _ _ _ h1 (.cons _ _ _ _ _ _ h2 (.cons _ _ _ _ _ _ (sl_toward (els := dR) (els' := dE) rfl ?_ h3) (towardD_ok hl ?_)))
         ·simp [dR, dE, towardD, DV.toward]
         ·simp [towardD, DV.toward]
theorem raw_args {f : FuncId} {xs : List SV} {r : RV} (h : Impl Tryd.prog f (.ag (encG exG) :: .one (.sl hE) :: xs) r) : Impl Tryd.prog f (.ag gR :: .one (.sl hR) :: xs) r := by
 refine ⟨h.1, fun w S vs hS hcz => h.2 w S vs hS ?_⟩
 generalize hz : ([] : List Nat) = z at hcz
 cases hcz with
 | cons v x r vs xs rs h1 hs =>
   cases hs with
   | cons v x r vs xs rs h2 hs => exact CzSL.cons _ _ _ _ _ _ (raw_enc h1) (CzSL.cons _ _ _ _ _ _ (.one _ _ _ (sl_toward (els := hR) (els' := hE) rfl (by simp [hR, hE, towardD, DV.toward]) h2.one_inv)) hs)
theorem small_ex : Small exG := ⟨by decide, by decide, by simp [exG, exD], by simp [exG, exD]; decide, by decide, by decide⟩
theorem f5 (h109 : H109) : Impl Tryd.prog 5 [] (.one (.one (.bool true))) := by
 have k11 := f7 h109 exG exH small_ex (by decide) (by decide)
 have k14 := f9 h109 exG exH 0 small_ex (by decide) (by decide)
 have k17 := f17x h109
 rw [search_ex] at k11
 rw [next_ex] at k14
 rw [exH_enc] at k11 k14 k17
 have k11 := raw_args k11
 have k14 := raw_args k14
 have k17 := raw_args k17
 have e1 : (actsF exG (some [0, 1])).map encI = [[.int .i64 0, .int .i64 1, .int .i64 0], [.int .i64 0, .int .i64 2, .int .i64 1]] := rfl
 have e2 : resE (some [⟨0, true, 2, 1, none⟩]) = .ow 5 [[.int .i64 0, .bool true, .int .i64 2, .int .i64 1, .nil]] := rfl
 simp only [e1] at k11
 simp only [e2] at k14
 simp only [gR, hR, dR, gE] at k11 k14 k17
 refine impl_z Tryd.func5 z5 Tryd.ntmps5 (by simp) ?_
 simp only [c5, slotsOf]
 refine wC (aN k11 <| aN k14 k17) ?_
 simp [go_sem]
theorem few_facts {g : Glob} {H : List (List Ev)} {n : Int} (h : fewF g H n = true) : fewG g = true /\ H.length <= 8 /\ (sumH H : Int) <= n := by
 unfold fewF at h
 simp only [Bool.and_eq_true, decide_eq_true_eq] at h
 exact ⟨h.1, h.2.2.2.1, h.2.2.2.2⟩
theorem sumH_mem {H : List (List Ev)} {l : List Ev} (h : l ∈ H) : l.length <= sumH H := sum_mem (List.mem_map_of_mem (f := List.length) h)
set_option maxHeartbeats 64000000
structure NextOk (g : Glob) (H : List (List Ev)) (rn : Nat) : Prop where
 good : ∀ (s : Bool) (p l : Nat), p < g.roles.length -> p ≠ rn -> goodF g (moreT H rn (evT rn s p l)) = true
 few : ∀ (s : Bool) (p l : Nat), (searchF g (moreT H rn (evT rn s p l))).2 ≠ 6
 none : ∀ (s : Bool) (p l : Nat), g.edges.any (hasA (actT rn s p l)) = false -> (searchF g (moreT H rn (evT rn s p l))).2 ≠ 0
 self : ∀ (s : Bool) (l : Nat), g.edges.any (hasA (actT rn s rn l)) = false
set_option maxHeartbeats 64000000
def codeP : List Nat -> List Nat -> Nat
 | p :: ps, b :: bs => p + b * codeP ps bs
 | _, _ => 0
def prodL : List Nat -> Nat
 | [] => 1
 | b :: bs => b * prodL bs
def boxP : List Nat -> List Nat -> Prop
 | [], [] => True
 | p :: ps, b :: bs => p < b /\ boxP ps bs
 | _, _ => False
theorem codeP_lt : ∀ {ps bs : List Nat}, boxP ps bs -> codeP ps bs < prodL bs
 | [], [], _ => Nat.one_pos
 | p :: ps, b :: bs, ⟨h1, h2⟩ => by
   have ih := codeP_lt h2
   simp only [codeP, prodL]
   have : b * (codeP ps bs + 1) <= b * prodL bs := Nat.mul_le_mul (Nat.le_refl b) ih
   rw [Nat.mul_add] at this
   omega
 | [], _ :: _, h => h.elim
 | _ :: _, [], h => h.elim
theorem codeP_inj : ∀ {ps qs bs : List Nat}, boxP ps bs -> boxP qs bs -> codeP ps bs = codeP qs bs -> ps = qs
 | [], [], [], _, _, _ => rfl
 | p :: ps, q :: qs, b :: bs, ⟨h1, h2⟩, ⟨h3, h4⟩, e => by
   simp only [codeP] at e
   have e1 : p = q := by
    have := congrArg (· % b) e
    simp only [Nat.add_mul_mod_self_left, Nat.mod_eq_of_lt h1, Nat.mod_eq_of_lt h3] at this
    exact this
   subst e1
   have hb : 0 < b := by omega
   have e2 : b * codeP ps bs = b * codeP qs bs := by omega
   rw [codeP_inj h2 h4 (Nat.eq_of_mul_eq_mul_left hb e2)]
 | [], _, _ :: _, h, _, _ => h.elim
 | _ :: _, _, [], h, _, _ => h.elim
 | [], _ :: _, [], _, h, _ => h.elim
 | _ :: _, [], _ :: _, _, h, _ => h.elim
def topP : Nat -> Nat -> Nat
 | 0, _ => 1
 | k + 1, s => (List.range (s + 1)).foldl (fun m j => max m ((j + 1) * topP k (s - j))) 1
theorem foldl_max_le (f : Nat -> Nat) : ∀ (l : List Nat) (m : Nat), m <= l.foldl (fun m j => max m (f j)) m /\ ∀ j ∈ l, f j <= l.foldl (fun m j => max m (f j)) m
 | [], m => ⟨Nat.le_refl m, fun _ h => by cases h⟩
 | x :: l, m => by
   obtain ⟨h1, h2⟩ := foldl_max_le f l (max m (f x))
   rw [List.foldl_cons]
   refine ⟨by omega, fun j hj => ?_⟩
   rcases List.mem_cons.1 hj with rfl | hj
   ·omega
   ·exact h2 j hj
theorem topP_pos : ∀ (k s : Nat), 1 <= topP k s
 | 0, _ => Nat.le_refl 1
 | k + 1, s => (foldl_max_le (fun j => (j + 1) * topP k (s - j)) _ 1).1
theorem topP_mono : ∀ (k : Nat) {s t : Nat}, s <= t -> topP k s <= topP k t
 | 0, _, _, _ => Nat.le_refl 1
 | k + 1, s, t, h => by
   have hall := (foldl_max_le (fun j => (j + 1) * topP k (t - j)) (List.range (t + 1)) 1)
   have key : ∀ (l : List Nat) (m : Nat), m <= topP (k + 1) t -> (∀ j ∈ l, j <= s) -> l.foldl (fun m j => max m ((j + 1) * topP k (s - j))) m <= topP (k + 1) t := by
    intro l
    induction l with
    | nil => intro m hm _; exact hm
    | cons x l ih =>
      intro m hm hl
      rw [List.foldl_cons]
      refine ih _ ?_ fun j hj => hl j (List.mem_cons_of_mem _ hj)
      have hx := hl x (by simp)
      have h1 : (x + 1) * topP k (s - x) <= (x + 1) * topP k (t - x) := Nat.mul_le_mul (Nat.le_refl _) (topP_mono k (by omega))
      have h2 : (x + 1) * topP k (t - x) <= topP (k + 1) t := hall.2 x (List.mem_range.2 (by omega))
      omega
   exact key _ _ (topP_pos _ _) fun j hj => by have := List.mem_range.1 hj; omega
theorem prod_le : ∀ (ls : List Nat), prodL (ls.map (· + 1)) <= topP ls.length ls.sum
 | [] => Nat.le_refl 1
 | x :: ls => by
   have ih := prod_le ls
   simp only [List.map_cons, prodL, List.length_cons, List.sum_cons]
   have h1 : (x + 1) * topP ls.length (x + ls.sum - x) <= topP (ls.length + 1) (x + ls.sum) := (foldl_max_le (fun j => (j + 1) * topP ls.length (x + ls.sum - j)) (List.range (x + ls.sum + 1)) 1).2 x (List.mem_range.2 (by omega))
   rw [Nat.add_sub_cancel_left] at h1
   exact Nat.le_trans (Nat.mul_le_mul (Nat.le_refl _) ih) h1
theorem topP_k : ∀ (k s : Nat), topP k s <= topP (k + 1) s := fun k s => by
 have h : (0 + 1) * topP k (s - 0) <= topP (k + 1) s := (foldl_max_le (fun j => (j + 1) * topP k (s - j)) (List.range (s + 1)) 1).2 0 (List.mem_range.2 (by omega))
 rw [Nat.zero_add, Nat.one_mul, Nat.sub_zero] at h
 exact h
theorem topP_le6 : ∀ {k : Nat}, k <= 6 -> ∀ s, topP k s <= topP 6 s := fun {k} h s => by
 have h' : k = 0 \/ k = 1 \/ k = 2 \/ k = 3 \/ k = 4 \/ k = 5 \/ k = 6 := by omega
 have a0 : topP 0 s <= topP 1 s := topP_k 0 s
 have a1 : topP 1 s <= topP 2 s := topP_k 1 s
 have a2 : topP 2 s <= topP 3 s := topP_k 2 s
 have a3 : topP 3 s <= topP 4 s := topP_k 3 s
 have a4 : topP 4 s <= topP 5 s := topP_k 4 s
 have a5 : topP 5 s <= topP 6 s := topP_k 5 s
 rcases h' with rfl | rfl | rfl | rfl | rfl | rfl | rfl <;> omega
theorem top_729 : topP 6 13 <= 1000 := by decide +kernel
theorem nodup_le : ∀ (n : Nat) (l : List Nat), l.Nodup -> (∀ x ∈ l, x < n) -> l.length <= n
 | 0, l, _, h => by
   cases l with
   | nil => simp
   | cons x l => exact absurd (h x (by simp)) (by omega)
 | n + 1, l, hd, h => by
   have h1 := nodup_le n (l.erase n) (hd.erase n) fun x hx => by
    have hx1 := h x (List.mem_of_mem_erase hx)
    have hx2 : x ≠ n := fun e => by
     subst e
     exact (List.Nodup.not_mem_erase hd) hx
    omega
   by_cases hm : n ∈ l
   ·rw [List.length_erase_of_mem hm] at h1
    omega
   ·rw [List.erase_of_not_mem hm] at h1
    omega
theorem box_of {g : Glob} {H : List (List Ev)} {i : Nat} {n : Nd} (h : NdOk g H i n) : boxP n.ps ((lensH H).map (· + 1)) := by
 have key : ∀ (ps : List Nat) (Hs : List (List Ev)), ps.length = Hs.length -> (∀ r (h1 : r < ps.length) (h2 : r < Hs.length), ps[r] <= Hs[r].length) -> boxP ps ((lensH Hs).map (· + 1)) := by
  intro ps
  induction ps with
  | nil =>
    intro Hs hl _
    cases Hs with
    | nil => trivial
    | cons _ _ => cases hl
  | cons p ps ih =>
    intro Hs hl hle
    cases Hs with
    | nil => cases hl
    | cons x Hs =>
      refine ⟨?_, ih Hs (by simpa using hl) fun r h1 h2 => ?_⟩
      ·have := hle 0 (by simp) (by simp)
       simp only [List.getElem_cons_zero] at this
       show p < x.length + 1
       omega
      ·have := hle (r + 1) (by simpa using h1) (by simpa using h2)
       simpa using this
 refine key _ _ h.len fun r h1 h2 => ?_
 have := h.le r (by omega) (by omega)
 simpa [psAt, histAt, h1, h2] using this
def Apart (all : List Nd) : Prop := all.Pairwise fun a b => sameN a b = false
theorem addN_apart {g : Glob} {H : List (List Ev)} {i : Nat} {p : Nd} {all : List Nd} {k : Int} (h : Apart all) : Apart (addN g H i p all k) := by
 unfold addN
 split
 ·exact h
 ·rename_i q _
  split
  ·exact h
  ·rename_i hany
   refine List.pairwise_append.2 ⟨h, List.pairwise_singleton _ _, fun a ha b hb => ?_⟩
   rw [List.mem_singleton.1 hb]
   have : all.any (sameN q) = false := by simpa using hany
   have hs := List.any_eq_false.1 this a ha
   cases hq : sameN a q with
   | false => rfl
   | true =>
     exfalso
     apply hs
     simp only [sameN, Bool.and_eq_true, beq_iff_eq] at hq ⊢
     exact ⟨hq.1.symm, hq.2.symm⟩
theorem fold_apart {g : Glob} {H : List (List Ev)} {i : Nat} {p : Nd} : ∀ (ks : List Int) {all : List Nd}, Apart all -> Apart (ks.foldl (addN g H i p) all)
 | [], _, h => h
 | _ :: ks, _, h => fold_apart ks (addN_apart h)
theorem all_len {g : Glob} {H : List (List Ev)} {all : List Nd} {S : Nat} (hS : g.states = S) (ha : AllOk g H all) (hd : Apart all) : all.length <= S * prodL ((lensH H).map (· + 1)) := by
 have hm : (all.map fun n => n.st.toNat + S * codeP n.ps ((lensH H).map (· + 1))).Nodup := by
  rw [List.Nodup, List.pairwise_map]
  refine List.Pairwise.imp_of_mem ?_ hd
  intro a b h1 h2 hne he
  obtain ⟨i, hi⟩ := List.getElem?_of_mem h1
  obtain ⟨j, hj⟩ := List.getElem?_of_mem h2
  have na := ha i a hi
  have nb := ha j b hj
  have s1 := na.st0
  have s2 := na.st1
  have s3 := nb.st0
  have s4 := nb.st1
  have hSp : 0 < S := by omega
  have e1 : a.st.toNat = b.st.toNat := by
   have := congrArg (· % S) he
   simp only [Nat.add_mul_mod_self_left] at this
   rwa [Nat.mod_eq_of_lt (by omega), Nat.mod_eq_of_lt (by omega)] at this
  have e2 : S * codeP a.ps ((lensH H).map (· + 1)) = S * codeP b.ps ((lensH H).map (· + 1)) := by
   omega
  have e3 := codeP_inj (box_of na) (box_of nb) (Nat.eq_of_mul_eq_mul_left hSp e2)
  have : sameN a b = true := by
   simp only [sameN, Bool.and_eq_true, beq_iff_eq]
   exact ⟨by omega, e3⟩
  rw [this] at hne
  cases hne
 have hl := nodup_le (S * prodL ((lensH H).map (· + 1))) _ hm fun x hx => by
  obtain ⟨n, hn, rfl⟩ := List.mem_map.1 hx
  obtain ⟨i, hi⟩ := List.getElem?_of_mem hn
  have na := ha i n hi
  have s1 := na.st0
  have s2 := na.st1
  have hc := codeP_lt (box_of na)
  have : S * (codeP n.ps ((lensH H).map (· + 1)) + 1) <= S * prodL ((lensH H).map (· + 1)) := Nat.mul_le_mul (Nat.le_refl S) hc
  rw [Nat.mul_add] at this
  omega
 rwa [List.length_map] at hl
theorem findL_small {g : Glob} {H : List (List Ev)} (he : EdOk g H) {S : Nat} (hS : g.states = S) (hb : S * prodL ((lensH H).map (· + 1)) <= 20000) : ∀ (f i : Nat) {all : List Nd}, AllOk g H all -> Apart all -> (findL g H f i all).2 ≠ 6
 | 0, _, _, _, _ => by simp [findL]
 | f + 1, i, all, ha, hd => by
   simp only [findL]
   split
   ·simp
   ·rename_i p hp
    have hi := (List.getElem?_eq_some_iff.1 hp).1
    have hl := all_len hS ha hd
    rw [if_neg (by omega)]
    split
    ·simp
    ·exact findL_small he hS hb f (i + 1) (fold_ok he (ha i p hp) _ sorted_pos ha hi) (fold_apart _ hd)
theorem search_small {g : Glob} {H : List (List Ev)} (hs : g.states <= 20) (h13 : (lensH H).sum <= 13) : (searchF g H).2 ≠ 6 := by
 unfold searchF
 split
 ·rename_i hg
  obtain ⟨hn, hl, h6, _⟩ := valid_roles hg
  obtain ⟨n1, _⟩ := numbered_facts hn
  obtain ⟨S, hS⟩ : ∃ S : Nat, g.states = S := ⟨g.states.toNat, by omega⟩
  refine findL_small (edges_ok hg) hS ?_ _ _ (first_ok hg) (List.pairwise_singleton _ _)
  have h1 := prod_le (lensH H)
  have h2 : (lensH H).length <= 6 := by simp only [lensH, List.length_map]; exact h6
  have h3 := topP_le6 h2 (lensH H).sum
  have h4 := topP_mono 6 h13
  have h5 := top_729
  have : S * prodL ((lensH H).map (· + 1)) <= 20 * 1000 := Nat.mul_le_mul (by omega) (by omega)
  omega
 ·simp
set_option maxHeartbeats 64000000
theorem fold_keep {g : Glob} {H : List (List Ev)} {i : Nat} {p : Nd} {Q : Nd -> Prop} (hs : ∀ k q, stepN g H i p k = some q -> Q q) : ∀ (ks : List Int) {all : List Nd}, (∀ n ∈ all, Q n) -> ∀ n ∈ ks.foldl (addN g H i p) all, Q n
 | [], _, h => h
 | k :: ks, all, h => by
   refine fold_keep hs ks (fun n hn => ?_)
   unfold addN at hn
   split at hn
   ·exact h n hn
   ·rename_i q hq
    split at hn
    ·exact h n hn
    ·rcases List.mem_append.1 hn with hn | hn
     ·exact h n hn
     ·rw [List.mem_singleton.1 hn]
      exact hs k q hq
theorem findL_open {g : Glob} {H : List (List Ev)} {Q : Nd -> Prop} (hd : ∀ n, Q n -> n.ps ≠ lensH H) (hs : ∀ i p k q, Q p -> stepN g H i p k = some q -> Q q) : ∀ (f i : Nat) {all : List Nd}, (∀ n ∈ all, Q n) -> (findL g H f i all).2 ≠ 0
 | 0, _, _, _ => by simp [findL]
 | f + 1, i, all, ha => by
   simp only [findL]
   split
   ·simp
   ·rename_i p hp
    have hq := ha p (List.mem_of_getElem? hp)
    split
    ·simp
    ·rw [if_neg (hd p hq)]
     exact findL_open hd hs f (i + 1) (fold_keep (hs i p · · hq) _ ha)
theorem more_at {H : List (List Ev)} {rn : Nat} (h : rn < H.length) (e : Ev) : (moreT H rn e)[rn]? = some (H[rn] ++ [e]) := by
 unfold moreT
 rw [List.getElem?_set, if_pos rfl, if_pos h, List.getElem?_eq_getElem h]
 rfl
theorem search_far {g : Glob} {H : List (List Ev)} {rn : Nat} (h : rn < H.length) {x : Ev} (hA : ∀ y ∈ g.edges, ¬ (x.send = true /\ y.act.from_ = rn /\ y.act.to = x.peer /\ y.act.label = x.label) /\ ¬ (x.send = false /\ y.act.to = rn /\ y.act.from_ = x.peer /\ y.act.label = x.label)) : (searchF g (moreT H rn x)).2 ≠ 0 := by
 unfold searchF
 split
 rotate_left
 ·simp
 rename_i hg
 have hed := edges_ok hg
 obtain ⟨M, hM⟩ : ∃ M, moreT H rn x = M := ⟨_, rfl⟩
 have hat := more_at h x
 rw [hM] at hat hed ⊢
 have hrM : rn < M.length := (List.getElem?_eq_some_iff.1 hat).1
 have hH : histAt M rn = H[rn] ++ [x] := by
  unfold histAt
  rw [Int.toNat_natCast, hat]
  rfl
 have hpass : ∀ (n : Nat) (sd : Bool) (pe la : Int), n < (histAt M rn).length -> (passV (histAt M rn) n sd pe la).2 = true -> ¬ (sd = x.send /\ pe = x.peer /\ la = x.label) -> (passV (histAt M rn) n sd pe la).1 < (histAt M rn).length := by
  intro n sd pe la hn hok hne
  rw [hH] at hn hok ⊢
  rw [passV_at hn rfl] at hok ⊢
  simp only at hok ⊢
  by_cases hl : n < H[rn].length
  ·simp only [List.length_append, List.length_singleton]
   omega
  ·exfalso
   have hn2 : n = H[rn].length := by
    simp only [List.length_append, List.length_singleton] at hn
    omega
   subst hn2
   rw [List.getElem_append_right (Nat.le_refl _)] at hok
   simp only [Nat.sub_self, List.getElem_cons_zero, Bool.and_eq_true, beq_iff_eq] at hok
   exact hne ⟨hok.1.symm, hok.2.1.symm, hok.2.2.symm⟩
 refine findL_open (Q := fun n => n.ps.length = M.length /\ psAt n.ps rn < (histAt M rn).length) ?_ ?_ _ _ ?_
 ·rintro n ⟨hn1, hn2⟩ hd
  rw [hd] at hn2
  have : psAt (lensH M) rn = (histAt M rn).length := by
   unfold psAt histAt lensH
   rw [Int.toNat_natCast, List.getElem?_map, hat]
   rfl
  omega
 ·rintro i q k q' ⟨hq1, hq2⟩ hst
  unfold stepN at hst
  split at hst
  ·cases hst
  ·rename_i y hy
   have hxm := List.mem_of_getElem? hy
   obtain ⟨e1, e2, e3, e4, e5, e6⟩ := hed y hxm
   obtain ⟨hn1, hn2⟩ := hA y hxm
   split at hst
   ·rename_i hok
    simp only [Bool.and_eq_true] at hok
    injection hst with hst
    subst hst
    refine ⟨by simp [hq1], ?_⟩
    show psAt ((q.ps.set _ _).set _ _) rn < _
    rw [psAt_set (by omega) e5 (by rw [List.length_set]; omega)]
    split
    ·rename_i hr
     rw [<- hr]
     refine hpass _ _ _ _ hq2 ?_ ?_
     ·have := hok.2
      rw [<- hr] at this
      exact this
     ·rintro ⟨h1, h2, h3⟩
      exact hn2 ⟨h1.symm, hr.symm, h2, h3⟩
    ·rw [psAt_set (by omega) e3 (by omega)]
     split
     ·rename_i hr
      rw [<- hr]
      refine hpass _ _ _ _ hq2 ?_ ?_
      ·have := hok.1
       rw [<- hr] at this
       exact this
      ·rintro ⟨h1, h2, h3⟩
       exact hn1 ⟨h1.symm, hr.symm, h2, h3⟩
     ·exact hq2
   ·cases hst
 ·intro n hn
  rw [List.mem_singleton.1 hn]
  refine ⟨by simp [firstN], ?_⟩
  have : psAt (firstN g M).ps rn = 0 := by
   unfold psAt firstN
   simp only
   rw [List.getElem?_replicate]
   split <;> simp
  rw [this, hH]
  simp
theorem search_none {g : Glob} {H : List (List Ev)} {rn : Nat} (h : rn < H.length) {s : Bool} {p l : Nat} (hA : g.edges.any (hasA (actT rn s p l)) = false) : (searchF g (moreT H rn (evT rn s p l))).2 ≠ 0 := by
 have hno : ∀ x ∈ g.edges, hasA (actT rn s p l) x = false := by
  simpa [List.any_eq_false] using hA
 refine search_far h fun y hy => ?_
 have := hno y hy
 constructor
 ·rintro ⟨h1, h2, h3, h4⟩
  simp only [evT] at h1 h3 h4
  subst h1
  simp [hasA, actT, h2, h3, h4] at this
 ·rintro ⟨h1, h2, h3, h4⟩
  simp only [evT] at h1 h3 h4
  subst h1
  simp [hasA, actT, h2, h3, h4] at this
set_option maxHeartbeats 64000000
def evSame (a b : Ev) : Bool := decide (a.role = b.role) && (a.send == b.send) && decide (a.peer = b.peer) && decide (a.label = b.label)
theorem fold_len {α β : Type} {f : Option (List α) -> β -> Option (List α)} {c : Nat} (hn : ∀ x, f none x = none) (hf : ∀ out x out', f (some out) x = some out' -> out'.length <= out.length + c) : ∀ (l : List β) (out out' : List α), l.foldl f (some out) = some out' -> out'.length <= out.length + c * l.length
 | [], out, out', h => by
   cases h
   simp
 | x :: l, out, out', h => by
   rw [List.foldl_cons] at h
   cases hx : f (some out) x with
   | none =>
     rw [hx, foldl_none hn] at h
     cases h
   | some o =>
     rw [hx] at h
     have h1 := hf out x o hx
     have h2 := fold_len hn hf l o out' h
     simp only [List.length_cons, Nat.mul_add, Nat.mul_one]
     omega
theorem next_len {g : Glob} {H : List (List Ev)} {r : Nat} {out : List Ev} (h : nextO g H r = some out) : out.length <= g.decls.length * g.roles.length * 2 := by
 have hp : ∀ s o p o', foldLb g H r s (some o) p = some o' -> o'.length <= o.length + g.decls.length := fun s o p o' hp => by
  have := fold_len (c := 1) (stepT_none g H r s p) (fun o l o' hl => by
   simp only [stepT] at hl
   split at hl
   ·split at hl
    ·cases hl
     simp
    ·split at hl
     ·cases hl
     ·cases hl
      omega
   ·cases hl
    omega) _ _ _ hp
  simpa using this
 have hs : ∀ o s o', foldPr g H r (some o) s = some o' -> o'.length <= o.length + g.decls.length * g.roles.length := fun o s o' hs => by
  have := fold_len (foldLb_none g H r s) (hp s) _ _ _ hs
  simpa using this
 have h3 := fold_len (foldPr_none g H r) hs _ _ _ h
 simpa [sendsL] using h3
set_option maxHeartbeats 64000000
set_option maxHeartbeats 64000000
def Traced (g : Glob) (H : List (List Ev)) (all : List Nd) : Prop := ∀ (j : Nat) n, all[j]? = some n -> (j = 0 /\ n = firstN g H) \/ (∃ p, n.fr.toNat < j /\ all[n.fr.toNat]? = some p /\ stepN g H n.fr.toNat p n.ed = some n /\ n.ed ∈ sortedE g.edges p.st)
theorem step_from {g : Glob} {H : List (List Ev)} {i : Nat} {p q : Nd} {k : Int} (h : stepN g H i p k = some q) : q.fr.toNat = i /\ q.ed = k := by
 unfold stepN at h
 split at h
 ·cases h
 ·split at h
  ·injection h with h
   subst h
   exact ⟨Int.toNat_natCast i, rfl⟩
  ·cases h
theorem addN_traced {g : Glob} {H : List (List Ev)} {i : Nat} {p : Nd} {all : List Nd} {k : Int} (ha : Traced g H all) (hp : all[i]? = some p) (hk : k ∈ sortedE g.edges p.st) : Traced g H (addN g H i p all k) /\ (addN g H i p all k)[i]? = some p := by
 have hi : i < all.length := (List.getElem?_eq_some_iff.1 hp).1
 unfold addN
 split
 ·exact ⟨ha, hp⟩
 ·rename_i q hq
  split
  ·exact ⟨ha, hp⟩
  ·refine ⟨fun j n hj => ?_, by rw [List.getElem?_append_left hi]; exact hp⟩
   rw [List.getElem?_append] at hj
   split at hj
   ·rename_i hjl
    rcases ha j n hj with h | ⟨p', h1, h2, h3, h4⟩
    ·exact .inl h
    ·exact .inr ⟨p', h1, by rw [List.getElem?_append_left (by omega)]; exact h2, h3, h4⟩
   ·rename_i hjl
    have hjz : j - all.length = 0 := by
     cases h : j - all.length with
     | zero => rfl
     | succ z => rw [h] at hj; cases hj
    rw [hjz] at hj
    simp only [List.getElem?_cons_zero, Option.some.injEq] at hj
    subst hj
    obtain ⟨e1, e2⟩ := step_from hq
    refine .inr ⟨p, by omega, ?_, ?_, ?_⟩
    ·rw [e1, List.getElem?_append_left hi]
     exact hp
    ·rw [e1, e2]
     exact hq
    ·rw [e2]
     exact hk
theorem fold_traced {g : Glob} {H : List (List Ev)} {i : Nat} {p : Nd} : ∀ (ks : List Int) {all : List Nd}, (∀ k ∈ ks, k ∈ sortedE g.edges p.st) -> Traced g H all -> all[i]? = some p -> Traced g H (ks.foldl (addN g H i p) all)
 | [], _, _, ha, _ => ha
 | k :: ks, all, hk, ha, hp => by
   obtain ⟨h1, h2⟩ := addN_traced ha hp (hk k (by simp))
   exact fold_traced ks (fun k' h' => hk k' (List.mem_cons_of_mem _ h')) h1 h2
inductive RunN (g : Glob) (H : List (List Ev)) : List Int -> Nd -> Prop
 | nil : RunN g H [] (firstN g H)
 | snoc {L : List Int} {p q : Nd} {k : Int} {i : Nat} : RunN g H L p -> k ∈ sortedE g.edges p.st -> stepN g H i p k = some q -> RunN g H (L ++ [k]) q
theorem back_run {g : Glob} {H : List (List Ev)} {all : List Nd} (ha : Traced g H all) : ∀ (f j : Nat) {n : Nd}, j <= f -> all[j]? = some n -> RunN g H (backN all f j).reverse n
 | f, 0, n, _, hn => by
   rcases ha 0 n hn with h | ⟨p, h1, _⟩
   ·have : backN all f 0 = [] := by cases f <;> rfl
    rw [this, h.2]
    exact .nil
   ·omega
 | 0, j + 1, _, hj, _ => by omega
 | f + 1, j + 1, n, hj, hn => by
   rcases ha (j + 1) n hn with h | ⟨p, h1, h2, h3, h4⟩
   ·omega
   ·simp only [backN, hn, List.reverse_cons]
    exact .snoc (back_run ha f n.fr.toNat (by omega) h2) h4 h3
theorem findL_run {g : Glob} {H : List (List Ev)} : ∀ (f i : Nat) {all : List Nd} {l : List Int} {c : Int}, Traced g H all -> findL g H f i all = (some l, c) -> ∃ n, RunN g H l n /\ n.ps = lensH H
 | 0, _, _, _, _, _, h => by cases h
 | f + 1, i, all, l, c, ha, h => by
   simp only [findL] at h
   split at h
   ·cases h
   ·rename_i p hp
    split at h
    ·cases h
    ·split at h
     ·rename_i hd
      injection h with h1 h2
      injection h1 with h1
      subst h1
      exact ⟨p, back_run ha i i (Nat.le_refl i) hp, hd⟩
     ·exact findL_run f (i + 1) (fold_traced _ (fun _ h => h) ha hp) h
theorem search_run {g : Glob} {H : List (List Ev)} {l : List Int} {c : Int} (h : searchF g H = (some l, c)) : ∃ n, RunN g H l n /\ n.ps = lensH H := by
 unfold searchF at h
 split at h
 ·refine findL_run _ _ (fun j n hj => ?_) h
  cases j with
  | zero =>
    simp only [List.getElem?_cons_zero, Option.some.injEq] at hj
    exact .inl ⟨rfl, hj.symm⟩
  | succ j => cases hj
 ·cases h
def fits (h P : List Ev) : Prop := ∀ (j : Nat) a b, P[j]? = some a -> h[j]? = some b -> evSame a b = true
theorem fits_snoc {h P : List Ev} {e : Ev} (hf : fits h P) (he : ∀ b, h[P.length]? = some b -> evSame e b = true) : fits h (P ++ [e]) := by
 intro j a b ha hb
 rw [List.getElem?_append] at ha
 split at ha
 ·exact hf j a b ha hb
 ·rename_i hj
  have hz : j - P.length = 0 := by
   cases hz : j - P.length with
   | zero => rfl
   | succ z => rw [hz] at ha; cases ha
  rw [hz] at ha
  simp only [List.getElem?_cons_zero, Option.some.injEq] at ha
  subst ha
  have : j = P.length := by omega
  subst this
  exact he b hb
theorem pass_fits {h P : List Ev} {r : Int} (hr : ∀ b ∈ h, b.role = r) (hf : fits h P) {s : Bool} {p l : Int} (hok : (passV h (min P.length h.length) s p l).2 = true) : (passV h (min P.length h.length) s p l).1 = min (P.length + 1) h.length /\ fits h (P ++ [⟨r, s, p, l, none⟩]) := by
 by_cases hl : P.length < h.length
 ·have hm : min P.length h.length = P.length := by omega
  rw [hm] at hok ⊢
  rw [passV_at hl rfl] at hok ⊢
  simp only [Bool.and_eq_true, beq_iff_eq] at hok
  refine ⟨by simp only; omega, fits_snoc hf fun b hb => ?_⟩
  rw [List.getElem?_eq_getElem hl] at hb
  injection hb with hb
  subst hb
  have := hr _ (List.getElem_mem hl)
  simp [evSame, this, hok.1, hok.2.1, hok.2.2]
 ·have hm : min P.length h.length = h.length := by omega
  rw [hm, passV_end rfl]
  refine ⟨by simp only; omega, fits_snoc hf fun b hb => ?_⟩
  have := (List.getElem?_eq_some_iff.1 hb).1
  omega
theorem project_snoc (ws : List Inter) (w : Inter) (r : Int) : project (ws ++ [w]) r = project ws r ++ ev1 r w := by
 unfold project
 rw [List.flatMap_append]
 simp
theorem run_fits {g : Glob} {H : List (List Ev)} (hg : goodF g H = true) {L : List Int} {n : Nd} (h : RunN g H L n) : n.ps.length = H.length /\ ∀ r : Nat, r < H.length -> psAt n.ps r = min (project (L.map (actAt g)) r).length (histAt H r).length /\ fits (histAt H r) (project (L.map (actAt g)) r) := by
 have hed := edges_ok hg
 obtain ⟨hn, hlr, h6, hpp⟩ := valid_roles hg
 obtain ⟨_, _, _, _, _, _, n7⟩ := numbered_facts hn
 have hroles : ∀ r : Nat, r < H.length -> ∀ b ∈ histAt H r, b.role = (r : Int) := by
  intro r hr b hb
  unfold properH at hpp
  simp only [Bool.and_eq_true, List.all_eq_true, List.mem_range] at hpp
  have := hpp.1 r hr
  unfold okH at this
  have h1 := List.all_eq_true.1 this b (by unfold histAt at hb; rw [Int.toNat_natCast] at hb; exact hb)
  simp only [okE, Bool.and_eq_true, decide_eq_true_eq] at h1
  exact h1.1.1.1
 induction h with
 | nil =>
   refine ⟨by simp [firstN], fun r hr => ⟨?_, fun j a b ha => by cases ha⟩⟩
   unfold psAt firstN
   simp only [Int.toNat_natCast, List.map_nil]
   rw [List.getElem?_replicate, if_pos hr]
   simp [project]
 | @snoc L p q k i hrun hk hst ih =>
   obtain ⟨hpl, ihr⟩ := ih
   obtain ⟨x, hx, h0, hs⟩ := mem_sortedE.1 hk
   have hxm := List.mem_of_getElem? hx
   obtain ⟨e1, e2, e3, e4, e5, e6⟩ := hed x hxm
   have hne : x.act.from_ ≠ x.act.to := by
    have := n7 x hxm
    simp only [okEdge, Bool.and_eq_true, decide_eq_true_eq] at this
    omega
   have ha : actAt g k = x.act := by
    unfold actAt
    rw [hx]
   unfold stepN at hst
   rw [hx] at hst
   simp only at hst
   split at hst
   rotate_left
   ·cases hst
   rename_i hok
   simp only [Bool.and_eq_true] at hok
   injection hst with hst
   subst hst
   refine ⟨by simp [hpl], fun r hr => ?_⟩
   obtain ⟨i1, i2⟩ := ihr r hr
   rw [List.map_append, List.map_cons, List.map_nil, project_snoc, ha]
   rw [psAt_set (Int.natCast_nonneg r) e5 (by rw [List.length_set]; omega)]
   by_cases h1 : (r : Int) = x.act.to
   ·rw [if_pos h1]
    have hev : ev1 (r : Int) x.act = [⟨r, false, x.act.from_, x.act.label, none⟩] := by
     unfold ev1
     rw [if_neg (by omega), if_pos h1.symm]
     rfl
    have hok2 := hok.2
    rw [<- h1] at hok2 ⊢
    rw [i1] at hok2 ⊢
    obtain ⟨j1, j2⟩ := pass_fits (hroles r hr) i2 hok2
    rw [hev]
    refine ⟨?_, j2⟩
    rw [j1]
    simp
   ·rw [if_neg h1, psAt_set (Int.natCast_nonneg r) e3 (by omega)]
    by_cases h2 : (r : Int) = x.act.from_
    ·rw [if_pos h2]
     have hev : ev1 (r : Int) x.act = [⟨r, true, x.act.to, x.act.label, none⟩] := by
      unfold ev1
      rw [if_pos h2.symm, if_neg (by omega)]
      rfl
     have hok1 := hok.1
     rw [<- h2] at hok1 ⊢
     rw [i1] at hok1 ⊢
     obtain ⟨j1, j2⟩ := pass_fits (hroles r hr) i2 hok1
     rw [hev]
     refine ⟨?_, j2⟩
     rw [j1]
     simp
    ·rw [if_neg h2]
     have hev : ev1 (r : Int) x.act = [] := by
      unfold ev1
      rw [if_neg (fun h => h2 h.symm), if_neg (fun h => h1 h.symm)]
      rfl
     rw [hev, List.append_nil]
     exact ⟨i1, i2⟩
theorem findL_zero {g : Glob} {H : List (List Ev)} : ∀ (f i : Nat) (all : List Nd), findL g H f i all ≠ (none, 0)
 | 0, _, _ => by simp [findL]
 | f + 1, i, all => by
   simp only [findL]
   split
   ·simp
   ·split
    ·simp
    ·split
     ·simp
     ·exact findL_zero f (i + 1) _
theorem search_zero {g : Glob} {H : List (List Ev)} (h : searchF g H = (none, 0)) : False := by
 unfold searchF at h
 split at h
 ·exact findL_zero _ _ _ h
 ·simp at h
set_option maxHeartbeats 64000000
def bareE (e : Ev) : Ev := ⟨e.role, e.send, e.peer, e.label, none⟩
def bareH (H : List (List Ev)) : List (List Ev) := H.map (·.map bareE)
theorem bare_at (H : List (List Ev)) (r : Int) : histAt (bareH H) r = (histAt H r).map bareE := by
 unfold histAt bareH
 rw [List.getElem?_map]
 cases H[r.toNat]? <;> rfl
theorem bare_pass (h : List Ev) (n : Nat) (s : Bool) (p l : Int) : passV (h.map bareE) n s p l = passV h n s p l := by
 unfold passV
 rw [List.getElem?_map]
 cases h[n]? <;> rfl
theorem bare_step (g : Glob) (H : List (List Ev)) (i : Nat) (p : Nd) (k : Int) : stepN g (bareH H) i p k = stepN g H i p k := by
 unfold stepN
 simp only [bare_at, bare_pass]
theorem bare_add (g : Glob) (H : List (List Ev)) (i : Nat) (p : Nd) : addN g (bareH H) i p = addN g H i p := by
 funext all k
 unfold addN
 rw [bare_step]
theorem bare_lens (H : List (List Ev)) : lensH (bareH H) = lensH H := by
 unfold lensH bareH
 simp
theorem bare_find (g : Glob) (H : List (List Ev)) : ∀ (f i : Nat) (all : List Nd), findL g (bareH H) f i all = findL g H f i all
 | 0, _, _ => rfl
 | f + 1, i, all => by
   simp only [findL, bare_lens, bare_add]
   split
   ·rfl
   ·split
    ·rfl
    ·split
     ·rfl
     ·exact bare_find g H f (i + 1) _
theorem bare_good (g : Glob) (H : List (List Ev)) : goodF g (bareH H) = goodF g H := by
 have h1 : (bareH H).length = H.length := by simp [bareH]
 unfold goodF properH
 rw [h1]
 have : ∀ i, okH H.length i ((bareH H)[i]?.getD []) = okH H.length i (H[i]?.getD []) := by
  intro i
  unfold bareH
  rw [List.getElem?_map]
  cases H[i]? with
  | none => rfl
  | some l =>
    simp only [Option.map_some, Option.getD_some, okH, List.all_map]
    rfl
 simp only [this]
theorem bare_search (g : Glob) (H : List (List Ev)) : searchF g (bareH H) = searchF g H := by
 unfold searchF
 rw [bare_good, bare_find]
 have : firstN g (bareH H) = firstN g H := by
  unfold firstN bareH
  simp
 rw [this]
theorem bare_more {H : List (List Ev)} {r : Nat} (x : Ev) {s : Bool} {p l : Nat} (h1 : x.role = r) (h2 : x.send = s) (h3 : x.peer = p) (h4 : x.label = l) : bareH (moreT H r x) = bareH (moreT H r (evT r s p l)) := by
 unfold bareH moreT
 rw [List.map_set, List.map_set]
 congr 1
 simp [bareE, evT, h1, h2, h3, h4]
def isNext (g : Glob) (H : List (List Ev)) (r : Nat) (s : Bool) (p l : Nat) : Prop := g.edges.any (hasA (actT r s p l)) = true /\ (searchF g (moreT H r (evT r s p l))).2 = 0
theorem stepT_mem {g : Glob} {H : List (List Ev)} {r : Nat} {s : Bool} {p : Nat} : ∀ (ls : List Nat) {out out' : List Ev}, ls.foldl (stepT g H r s p) (some out) = some out' -> ∀ y, y ∈ out' ↔ y ∈ out \/ ∃ l ∈ ls, isNext g H r s p l /\ y = evT r s p l
 | [], out, out', h, y => by
   cases h
   simp
 | l :: ls, out, out', h, y => by
   rw [List.foldl_cons] at h
   cases hx : stepT g H r s p (some out) l with
   | none =>
     rw [hx, foldl_none (stepT_none g H r s p)] at h
     cases h
   | some o =>
     rw [hx] at h
     rw [stepT_mem ls h y]
     have ho : ∀ y, y ∈ o ↔ y ∈ out \/ (isNext g H r s p l /\ y = evT r s p l) := by
      intro y
      simp only [stepT] at hx
      unfold isNext
      split at hx
      ·rename_i hA
       split at hx
       ·rename_i hz
        cases hx
        simp [hA, hz]
       ·rename_i hz
        split at hx
        ·cases hx
        ·cases hx
         simp [hz]
      ·rename_i hA
       cases hx
       simp [hA]
     rw [ho]
     simp only [List.mem_cons, exists_eq_or_imp, or_assoc]
theorem foldLb_mem {g : Glob} {H : List (List Ev)} {r : Nat} {s : Bool} : ∀ (ps : List Nat) {out out' : List Ev}, ps.foldl (foldLb g H r s) (some out) = some out' -> ∀ y, y ∈ out' ↔ y ∈ out \/ ∃ p ∈ ps, ∃ l ∈ List.range g.decls.length, isNext g H r s p l /\ y = evT r s p l
 | [], out, out', h, y => by
   cases h
   simp
 | p :: ps, out, out', h, y => by
   rw [List.foldl_cons] at h
   cases hx : foldLb g H r s (some out) p with
   | none =>
     rw [hx, foldl_none (foldLb_none g H r s)] at h
     cases h
   | some o =>
     rw [hx] at h
     rw [foldLb_mem ps h y, stepT_mem _ hx y]
     simp only [List.mem_cons, exists_eq_or_imp, or_assoc]
theorem foldPr_mem {g : Glob} {H : List (List Ev)} {r : Nat} : ∀ (ss : List Bool) {out out' : List Ev}, ss.foldl (foldPr g H r) (some out) = some out' -> ∀ y, y ∈ out' ↔ y ∈ out \/ ∃ s ∈ ss, ∃ p ∈ List.range g.roles.length, ∃ l ∈ List.range g.decls.length, isNext g H r s p l /\ y = evT r s p l
 | [], out, out', h, y => by
   cases h
   simp
 | s :: ss, out, out', h, y => by
   rw [List.foldl_cons] at h
   cases hx : foldPr g H r (some out) s with
   | none =>
     rw [hx, foldl_none (foldPr_none g H r)] at h
     cases h
   | some o =>
     rw [hx] at h
     rw [foldPr_mem ss h y, foldLb_mem _ hx y]
     simp only [List.mem_cons, exists_eq_or_imp, or_assoc]
theorem next_mem {g : Glob} {H : List (List Ev)} {r : Nat} {out : List Ev} (h : nextO g H r = some out) (y : Ev) : y ∈ out ↔ ∃ s, ∃ p < g.roles.length, ∃ l < g.decls.length, isNext g H r s p l /\ y = evT r s p l := by
 rw [foldPr_mem _ h y]
 simp [sendsL]
def sameX (x y : Ev) : Bool := y.send == x.send && (y.peer == x.peer && y.label == x.label)
theorem next_only {g : Glob} {H : List (List Ev)} {x : Ev} {r : Nat} (hxr : x.role = r) {out : List Ev} (hn : nextV g H r = (some out, 0)) : out.any (sameX x) = true ↔ (searchF g (moreT H r x)).2 = 0 := by
 unfold nextV at hn
 split at hn
 rotate_left
 ·cases hn
 rename_i hc
 split at hn
 rotate_left
 ·cases hn
 rename_i hr
 rw [Int.toNat_natCast] at hn
 have hr2 : r < g.roles.length := by omega
 split at hn
 rotate_left
 ·cases hn
 rename_i o ho
 injection hn with hn _
 injection hn with hn
 subst hn
 have hgo : goodF g H = true := by
  cases hg : goodF g H with
  | true => rfl
  | false =>
    unfold searchF at hc
    rw [hg] at hc
    simp at hc
 obtain ⟨hnm, hlr, h6, _⟩ := valid_roles hgo
 obtain ⟨_, _, _, _, _, _, n7⟩ := numbered_facts hnm
 rw [List.any_eq_true]
 constructor
 ·rintro ⟨y, hy, hs⟩
  obtain ⟨s, p, hp, l, hl, hi, rfl⟩ := (next_mem ho y).1 hy
  simp only [sameX, evT, Bool.and_eq_true, beq_iff_eq] at hs
  rw [<- bare_search, bare_more x hxr hs.1.symm hs.2.1.symm hs.2.2.symm, bare_search]
  exact hi.2
 ·intro hz
  have hgm : goodF g (moreT H r x) = true := by
   cases hg : goodF g (moreT H r x) with
   | true => rfl
   | false =>
     unfold searchF at hz
     rw [hg] at hz
     simp at hz
  obtain ⟨_, _, _, hpp⟩ := valid_roles hgm
  have hrl : r < H.length := by omega
  have hx : okE (moreT H r x).length r x = true := by
   unfold properH at hpp
   simp only [Bool.and_eq_true, List.all_eq_true, List.mem_range] at hpp
   have hrm : r < (moreT H r x).length := by simp [moreT, hrl]
   have := hpp.1 r hrm
   rw [more_at hrl] at this
   simp only [Option.getD_some, okH, List.all_append, Bool.and_eq_true, List.all_cons] at this
   exact this.2.1
  have hml : (moreT H r x).length = g.roles.length := by simp [moreT]; omega
  rw [hml] at hx
  simp only [okE, Bool.and_eq_true, decide_eq_true_eq] at hx
  obtain ⟨p, hp⟩ : ∃ p : Nat, x.peer = p := ⟨x.peer.toNat, by omega⟩
  by_cases hl : 0 <= x.label /\ x.label < g.decls.length
  ·obtain ⟨l, hl'⟩ : ∃ l : Nat, x.label = l := ⟨x.label.toNat, by omega⟩
   have hz2 : (searchF g (moreT H r (evT r x.send p l))).2 = 0 := by
    rw [<- bare_search, <- bare_more x hxr rfl hp hl', bare_search]
    exact hz
   refine ⟨evT r x.send p l, (next_mem ho _).2 ⟨x.send, p, by omega, l, by omega, ⟨?_, hz2⟩, rfl⟩, by simp [sameX, evT, hp, hl']⟩
   cases hA : g.edges.any (hasA (actT r x.send p l)) with
   | true => rfl
   | false => exact absurd hz2 (search_none hrl hA)
  ·exfalso
   refine search_far hrl ?_ hz
   intro y hy
   have := n7 y hy
   simp only [okEdge, Bool.and_eq_true, decide_eq_true_eq] at this
   refine ⟨?_, ?_⟩ <;> rintro ⟨_, _, _, h4⟩ <;> omega
set_option maxHeartbeats 64000000
theorem search_good {g : Glob} {H : List (List Ev)} (h : (searchF g H).2 = 0) : goodF g H = true := by
 cases hg : goodF g H with
 | true => rfl
 | false =>
   unfold searchF at h
   rw [hg] at h
   simp at h
theorem step_like {g : Glob} {H : List (List Ev)} {i i' : Nat} {p p' q : Nd} {k : Int} (hp : p.ps = p'.ps) (h : stepN g H i p k = some q) : ∃ q', stepN g H i' p' k = some q' /\ q.st = q'.st /\ q.ps = q'.ps := by
 unfold stepN at h ⊢
 rw [<- hp]
 split at h
 ·cases h
 ·split at h
  ·rename_i hok
   injection h with h
   subst h
   exact ⟨_, if_pos hok, rfl, rfl⟩
  ·cases h
structure Seen (g : Glob) (H : List (List Ev)) (i : Nat) (all : List Nd) : Prop where
 first : ∃ m ∈ all, (firstN g H).st = m.st /\ (firstN g H).ps = m.ps
 done : ∀ (j : Nat) p, j < i -> all[j]? = some p -> p.ps ≠ lensH H
 next : ∀ (j : Nat) p, j < i -> all[j]? = some p -> ∀ k ∈ sortedE g.edges p.st, ∀ q, stepN g H 0 p k = some q -> ∃ m ∈ all, q.st = m.st /\ q.ps = m.ps
 le : i <= all.length
theorem addN_more {g : Glob} {H : List (List Ev)} {i : Nat} {p : Nd} {all : List Nd} {k : Int} : (∃ t, addN g H i p all k = all ++ t) /\ ∀ q, stepN g H i p k = some q -> ∃ m ∈ addN g H i p all k, q.st = m.st /\ q.ps = m.ps := by
 unfold addN
 split
 ·rename_i hq
  refine ⟨⟨[], by simp⟩, fun q h => ?_⟩
  rw [hq] at h
  cases h
 ·rename_i q hq
  split
  ·rename_i hs
   refine ⟨⟨[], by simp⟩, fun q' h => ?_⟩
   rw [hq] at h
   cases h
   obtain ⟨m, hm, hs⟩ := List.any_eq_true.1 hs
   simp only [sameN, Bool.and_eq_true, beq_iff_eq] at hs
   exact ⟨m, hm, hs⟩
  ·refine ⟨⟨[q], rfl⟩, fun q' h => ?_⟩
   rw [hq] at h
   cases h
   exact ⟨q, by simp, rfl, rfl⟩
theorem fold_more {g : Glob} {H : List (List Ev)} {i : Nat} {p : Nd} : ∀ (ks : List Int) (all : List Nd), (∃ t, ks.foldl (addN g H i p) all = all ++ t) /\ ∀ k ∈ ks, ∀ q, stepN g H i p k = some q -> ∃ m ∈ ks.foldl (addN g H i p) all, q.st = m.st /\ q.ps = m.ps
 | [], all => ⟨⟨[], by simp⟩, fun k hk => by cases hk⟩
 | k :: ks, all => by
   obtain ⟨⟨t, ht⟩, h1⟩ := addN_more (g := g) (H := H) (i := i) (p := p) (all := all) (k := k)
   obtain ⟨⟨u, hu⟩, h2⟩ := fold_more ks (addN g H i p all k)
   rw [List.foldl_cons]
   refine ⟨⟨t ++ u, by rw [hu, ht, List.append_assoc]⟩, fun k' hk' q hq => ?_⟩
   rcases List.mem_cons.1 hk' with rfl | hk'
   ·obtain ⟨m, hm, he⟩ := h1 q hq
    exact ⟨m, by rw [hu]; exact List.mem_append_left _ hm, he⟩
   ·exact h2 k' hk' q hq
theorem seen_step {g : Glob} {H : List (List Ev)} {i : Nat} {all : List Nd} {p : Nd} (hs : Seen g H i all) (hp : all[i]? = some p) (hd : p.ps ≠ lensH H) : Seen g H (i + 1) ((sortedE g.edges p.st).foldl (addN g H i p) all) := by
 obtain ⟨⟨t, ht⟩, h2⟩ := fold_more (g := g) (H := H) (i := i) (p := p) (sortedE g.edges p.st) all
 have hi : i < all.length := (List.getElem?_eq_some_iff.1 hp).1
 have hat : ∀ j, j < i + 1 -> ((sortedE g.edges p.st).foldl (addN g H i p) all)[j]? = all[j]? := fun j hj => by
  rw [ht, List.getElem?_append_left (by omega)]
 refine ⟨?_, fun j q hj hq => ?_, fun j q hj hq k hk z hz => ?_, ?_⟩
 ·obtain ⟨m, hm, he⟩ := hs.first
  exact ⟨m, by rw [ht]; exact List.mem_append_left _ hm, he⟩
 ·rw [hat j hj] at hq
  by_cases e : j = i
  ·subst e
   rw [hp] at hq
   cases hq
   exact hd
  ·exact hs.done j q (by omega) hq
 ·rw [hat j hj] at hq
  by_cases e : j = i
  ·subst e
   rw [hp] at hq
   cases hq
   obtain ⟨z', hz', e1, e2⟩ := step_like (i' := j) rfl hz
   obtain ⟨m, hm, e3, e4⟩ := h2 k hk z' hz'
   exact ⟨m, hm, e1.trans e3, e2.trans e4⟩
  ·obtain ⟨m, hm, he⟩ := hs.next j q (by omega) hq k hk z hz
   exact ⟨m, by rw [ht]; exact List.mem_append_left _ hm, he⟩
 ·rw [ht, List.length_append]
  omega
theorem seen_run {g : Glob} {H : List (List Ev)} {all : List Nd} (hs : Seen g H all.length all) {L : List Int} {n : Nd} (h : RunN g H L n) : ∃ m ∈ all, n.st = m.st /\ n.ps = m.ps := by
 induction h with
 | nil => exact hs.first
 | @snoc L p q k i hr hk hst ih =>
   obtain ⟨m, hm, e1, e2⟩ := ih
   obtain ⟨j, hj, rfl⟩ := List.mem_iff_getElem.1 hm
   obtain ⟨q', hq', e3, e4⟩ := step_like (i' := 0) e2 hst
   obtain ⟨z, hz, e5, e6⟩ := hs.next j _ hj (List.getElem?_eq_getElem hj) k (by rw [<- e1]; exact hk) q' hq'
   exact ⟨z, hz, e3.trans e5, e4.trans e6⟩
theorem findL_all {g : Glob} {H : List (List Ev)} {L : List Int} {n : Nd} (hr : RunN g H L n) (hd : n.ps = lensH H) : ∀ (f i : Nat) {all : List Nd}, f + i = 20001 -> i <= 20000 -> Seen g H i all -> (findL g H f i all).2 = 0 \/ (findL g H f i all).2 = 6
 | 0, i, all, hf, hi, _ => by omega
 | f + 1, i, all, hf, hi, hs => by
   simp only [findL]
   split
   ·rename_i hp
    exfalso
    have hl : i = all.length := by
     have := List.getElem?_eq_none_iff.1 hp
     have := hs.le
     omega
    subst hl
    obtain ⟨m, hm, e1, e2⟩ := seen_run hs hr
    obtain ⟨j, hj, rfl⟩ := List.mem_iff_getElem.1 hm
    exact hs.done j _ hj (List.getElem?_eq_getElem hj) (e2.symm.trans hd)
   ·rename_i p hp
    split
    ·exact .inr rfl
    ·rename_i h2
     split
     ·exact .inl rfl
     ·rename_i hnd
      exact findL_all hr hd f (i + 1) (by omega) (by omega) (seen_step hs hp hnd)
theorem search_all {g : Glob} {H : List (List Ev)} (hg : goodF g H = true) {L : List Int} {n : Nd} (hr : RunN g H L n) (hd : n.ps = lensH H) : (searchF g H).2 = 0 \/ (searchF g H).2 = 6 := by
 unfold searchF
 rw [if_pos hg]
 exact findL_all hr hd _ _ rfl (by omega) ⟨⟨_, by simp, rfl, rfl⟩, fun j p hj => by omega, fun j p hj => by omega, by simp⟩
structure CutOf (H C : List (List Ev)) : Prop where
 len : C.length = H.length
 at_ : ∀ r : Nat, r < H.length -> ∃ m, histAt C r = (histAt H r).take m
theorem cut_good {g : Glob} {H C : List (List Ev)} (hc : CutOf H C) (hg : goodF g H = true) : goodF g C = true := by
 unfold goodF at hg ⊢
 simp only [Bool.and_eq_true, decide_eq_true_eq] at hg ⊢
 refine ⟨⟨hg.1.1, by rw [hc.len]; exact hg.1.2⟩, ?_⟩
 have hp := hg.2
 unfold properH at hp ⊢
 simp only [Bool.and_eq_true, List.all_eq_true, List.mem_range, decide_eq_true_eq] at hp ⊢
 rw [hc.len]
 refine ⟨fun r hr => ?_, hp.2⟩
 have h1 := hp.1 r hr
 obtain ⟨m, hm⟩ := hc.at_ r hr
 unfold histAt at hm
 rw [Int.toNat_natCast] at hm
 rw [hm]
 unfold okH at h1 ⊢
 rw [List.all_eq_true] at h1 ⊢
 exact fun e he => h1 e (List.mem_of_mem_take he)
theorem pass_cut {h : List Ev} {m a : Nat} {s : Bool} {p l : Int} (hok : (passV h (min a h.length) s p l).2 = true) : (passV (h.take m) (min a (h.take m).length) s p l).2 = true := by
 by_cases hl : a < (h.take m).length
 ·have h1 : a < h.length := by
   rw [List.length_take] at hl
   omega
  have e1 : min a (h.take m).length = a := by omega
  have e2 : min a h.length = a := by omega
  rw [e2, passV_at h1 rfl] at hok
  rw [e1, passV_at hl rfl, List.getElem_take]
  exact hok
 ·have e1 : min a (h.take m).length = (h.take m).length := by omega
  rw [e1, passV_end rfl]
theorem run_cut {g : Glob} {H C : List (List Ev)} (hc : CutOf H C) (hg : goodF g H = true) {L : List Int} {n : Nd} (h : RunN g H L n) : ∃ n', RunN g C L n' /\ n'.st = n.st := by
 have hed := edges_ok hg
 have hgc := cut_good hc hg
 induction h with
 | nil => exact ⟨_, .nil, rfl⟩
 | @snoc L p q k i hrun hk hst ih =>
   obtain ⟨p', hr', e1⟩ := ih
   have f1 := (run_fits hg hrun).2
   have f2 := (run_fits hgc hr').2
   have hk' : k ∈ sortedE g.edges p'.st := by rw [e1]; exact hk
   have hst' := hst
   unfold stepN at hst
   split at hst
   ·cases hst
   rename_i x hx
   have hxm := List.mem_of_getElem? hx
   obtain ⟨_, _, e3, e4, e5, e6⟩ := hed x hxm
   split at hst
   rotate_left
   ·cases hst
   rename_i hok
   simp only [Bool.and_eq_true] at hok
   injection hst with hst
   obtain ⟨a, ha⟩ : ∃ a : Nat, x.act.from_ = a := ⟨x.act.from_.toNat, by omega⟩
   obtain ⟨b, hb⟩ : ∃ b : Nat, x.act.to = b := ⟨x.act.to.toNat, by omega⟩
   have hal : a < H.length := by omega
   have hbl : b < H.length := by omega
   rw [ha, hb] at hok
   obtain ⟨m1, hm1⟩ := hc.at_ a hal
   obtain ⟨m2, hm2⟩ := hc.at_ b hbl
   rw [(f1 a hal).1, (f1 b hbl).1] at hok
   have o1 := pass_cut (m := m1) hok.1
   have o2 := pass_cut (m := m2) hok.2
   rw [<- hm1, <- (f2 a (by rw [hc.len]; exact hal)).1] at o1
   rw [<- hm2, <- (f2 b (by rw [hc.len]; exact hbl)).1] at o2
   obtain ⟨q', hq'⟩ : ∃ q', stepN g C 0 p' k = some q' := by
    unfold stepN
    rw [hx]
    simp only
    rw [ha, hb, o1, o2]
    exact ⟨_, rfl⟩
   refine ⟨q', .snoc hr' hk' hq', ?_⟩
   unfold stepN at hq'
   rw [hx] at hq'
   simp only at hq'
   split at hq'
   ·injection hq' with hq'
    rw [<- hq', <- hst]
   ·cases hq'
theorem search_cut {g : Glob} {H C : List (List Ev)} (hc : CutOf H C) (hs : g.states <= 20) (h13 : (lensH C).sum <= 13) (h : (searchF g H).2 = 0) : (searchF g C).2 = 0 := by
 have hg := search_good h
 have hgc := cut_good hc hg
 obtain ⟨⟨o, c⟩, hv⟩ : ∃ v, searchF g H = v := ⟨_, rfl⟩
 rw [hv] at h
 simp only at h
 subst h
 cases o with
 | none => exact (search_zero hv).elim
 | some l =>
   obtain ⟨n, hn, hd⟩ := search_run hv
   obtain ⟨n', hn', _⟩ := run_cut hc hg hn
   have f1 := (run_fits hg hn).2
   obtain ⟨len2, f2⟩ := run_fits hgc hn'
   have hd' : n'.ps = lensH C := by
    refine List.ext_getElem (by rw [len2]; simp [lensH]) fun r h1 h2 => ?_
    have hrC : r < C.length := by rw [len2] at h1; exact h1
    have hrH : r < H.length := by rw [<- hc.len]; exact hrC
    have g2 := (f2 r hrC).1
    have g1 := (f1 r hrH).1
    obtain ⟨m, hm⟩ := hc.at_ r hrH
    have e1 : psAt n'.ps r = n'.ps[r] := by
     unfold psAt
     rw [Int.toNat_natCast, List.getElem?_eq_getElem h1]
     rfl
    have e2 : psAt n.ps r = (histAt H r).length := by
     rw [hd]
     unfold psAt histAt lensH
     rw [Int.toNat_natCast, List.getElem?_map, List.getElem?_eq_getElem hrH]
     rfl
    have e3 : (lensH C)[r] = (histAt C r).length := by
     unfold histAt lensH
     rw [Int.toNat_natCast, List.getElem?_eq_getElem hrC]
     exact List.getElem_map _
    have e4 : (histAt C r).length <= (histAt H r).length := by
     rw [hm, List.length_take]
     omega
    rw [e3, <- e1, g2]
    omega
   rcases search_all hgc hn' hd' with h | h
   ·exact h
   ·exact absurd h (search_small hs h13)
set_option maxHeartbeats 64000000
theorem cut_of (H : List (List Ev)) (B : List Int) : CutOf H (cutK H B H.length) where
 len := cutK_len ..
 at_ r hr := by
  refine ⟨((H[r].length : Int) - (byAt B r).tmod (H[r].length + 1)).toNat, ?_⟩
  unfold histAt cutK
  simp only [Int.toNat_natCast, List.getElem?_map, List.getElem?_range hr, Option.map_some, Option.getD_some, List.getElem?_eq_getElem hr]
  rfl
theorem cut_sum (H : List (List Ev)) (B : List Int) : ∀ k, k <= H.length -> sumH (cutK H B k) <= sumH (H.take k)
 | 0, _ => by simp [cutK, sumH]
 | k + 1, hk => by
   have ih := cut_sum H B k (by omega)
   have h1 := sumH_succ (H := H) (k := k) (by omega)
   rw [cutK_succ H B (by omega), h1]
   have h2 : sumH (cutK H B k ++ [cutL H[k] (byAt B k)]) = sumH (cutK H B k) + (cutL H[k] (byAt B k)).length := by simp [sumH]
   have h3 : (cutL H[k] (byAt B k)).length <= H[k].length := List.length_take_le' ..
   omega
theorem f3 (h109 : H109) (g : Glob) (H : List (List Ev)) (B : List Int) (hg : GlobA g) (hH : HistA H) (hB : B.length = 6) (hb : ∀ b ∈ B, 0 <= b /\ b < 256) : Impl Tryd.prog 3 [.ag (encG g), .one (.sl (H.map encH)), .ag (B.map encU)] (.one (.one (.bool true))) := by
 have k5 := f5 h109
 have k6 := f6 g H 10 hg.1 (fun d hd => (hg.2 d hd).2) hH.1 hH.2
 simp only [encG] at k6
 obtain ⟨b1, b2, b3, b4, b5, b6, hB6⟩ : ∃ a b c d e f, B = [a, b, c, d, e, f] := by
  match B, hB with
  | [a, b, c, d, e, f], _ => exact ⟨a, b, c, d, e, f, rfl⟩
 refine impl_v ?_
 rw [hB6]
 simp only [List.map_cons, List.map_nil, encU]
 cases hf : fewF g H 10 with
 | false =>
   rw [hf] at k6
   refine wV encG.eq_1 (aN k5 k6) ?_
   simp [go_sem]
 | true =>
   rw [hf] at k6
   obtain ⟨f1, f2, f3⟩ := few_facts hf
   have hst : g.states <= 20 := by
    unfold fewF fewG at hf
    simp only [Bool.and_eq_true, decide_eq_true_eq] at hf
    omega
   have sg := few_small f1 fun d hd => (hg.2 d hd).1
   have hl : H.length <= 1000000 := by omega
   have hh : ∀ l ∈ H, l.length <= 1000000 := fun l hl' => by have := sumH_mem hl'; omega
   obtain ⟨C, hC⟩ : ∃ C, cutK H B H.length = C := ⟨_, rfl⟩
   have hco := cut_of H B
   have hcs := cut_sum H B H.length (Nat.le_refl _)
   rw [List.take_length] at hcs
   have k8 := f8 H B hB hb hl hh
   rw [hC] at hco hcs k8
   rw [hB6] at k8
   simp only [List.map_cons, List.map_nil, encU] at k8
   have hcl : C.length <= 1000000 := by rw [hco.len]; exact hl
   have hch : ∀ l ∈ C, l.length <= 1000000 := fun l hl' => by have := sumH_mem hl'; omega
   have hcut := search_cut hco hst (by have : (lensH C).sum = sumH C := rfl; omega)
   have k7 := f7 h109 g H sg hl hh
   have j7 := f7 h109 g C sg hcl hch
   generalize searchF g H = V at *
   generalize searchF g C = W at *
   obtain ⟨o, c⟩ := V
   obtain ⟨o', c'⟩ := W
   simp only at hcut
   obtain ⟨A, hA⟩ : ∃ A, actsF g o = A := ⟨_, rfl⟩
   obtain ⟨A', hA'⟩ : ∃ A, actsF g o' = A := ⟨_, rfl⟩
   simp only [hA, hA', encG] at k7 j7
   by_cases hc : c = 0
   ·have hc' := hcut hc
    subst hc
    subst hc'
    refine wV encG.eq_1 (aN k5 <| aN k6 <| aN k7 <| aN k8 j7) ?_
    simp [go_sem]
   ·refine wV (aN encG.eq_1 hc) (aN k5 <| aN k6 <| aN k7 <| aN k8 j7) ?_
    all_goals simp [go_sem, hc]
end Go.Av

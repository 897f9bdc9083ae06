/- Part of a proof. -/
import Derived.Test.YticeobjphcmggaaGreatDoorAvR
import Derived.Test.YticeobjphcmggaaGreatDoorB17
import Derived.Test.YticeobjphcmggaaGreatDoorB16
import Derived.Test.YticeobjphcmggaaGreatDoorB15
import Derived.Test.YticeobjphcmggaaGreatDoorB14
import Derived.Test.YticeobjphcmggaaGreatDoorB11
import Derived.Test.YticeobjphcmggaaGreatDoorB01
import Derived.Test.YticeobjphcmggaaGreatDoorB00
set_option linter.unusedVariables false
set_option linter.unusedSimpArgs false
set_option maxHeartbeats 64000000
set_option maxRecDepth 8000
namespace Go.Av
open Go Go.RowKit Go.Proofs
set_option maxHeartbeats 64000000
theorem sum_mem : ∀ {l : List Nat} {n : Nat}, n ∈ l -> n <= l.sum
 | a :: l, n, h => by
   rw [List.sum_cons]
   rcases List.mem_cons.1 h with rfl | h
   ·omega
   ·have := sum_mem h; omega
theorem units_mem {l : List Dcl} {d : Dcl} (h : d ∈ l) : d.fields.length + (d.diffs.length + d.equals.length) <= units l l.length := by
 unfold units
 rw [List.take_length]
 exact sum_mem (List.mem_map_of_mem (f := fun d : Dcl => d.fields.length + (d.diffs.length + d.equals.length)) h)
theorem few_small {g : Glob} (h : fewG g = true) (hn : ∀ d ∈ g.decls, d.name.size <= 1000000000000000) : Small g := by
 simp only [fewG, fewD, Bool.and_eq_true, decide_eq_true_eq] at h
 obtain ⟨⟨⟨⟨h1, h2⟩, h3⟩, h4⟩, h5, h6⟩ := h
 refine ⟨by omega, by omega, fun d hd => ?_, fun d hd => ?_, by omega, by omega⟩
 ·have := units_mem hd; omega
 ·have := units_mem hd; have := hn d hd; omega
def GlobA (g : Glob) : Prop := g.decls.length <= 1000000000000000 /\ ∀ d ∈ g.decls, d.name.size <= 1000000000000000 /\ d.fields.length <= 1000000000000000 /\ d.diffs.length <= 1000000000000000 /\ d.equals.length <= 1000000000000000
def HistA (H : List (List Ev)) : Prop := H.length <= 1000000000000000 /\ ∀ l ∈ H, l.length <= 1000000000000000
theorem sl_toward {w : World} {S : Nat -> Prop} {v : Value} {els els' : List (List DV)} {r : List Nat} (hl : els.map List.length = els'.map List.length) (ht : towardD els.flatten els'.flatten) (h : Cz w S v (.sl els) r) : Cz w S v (.sl els') r := by
 have hlen : els.length = els'.length := by simpa using congrArg List.length hl
 cases h with
 | shNil a c =>
   have : els' = [] := List.eq_nil_of_length_eq_zero (by simpa using hlen.symm)
   subst this
   exact .shNil _ _
 | sh ad n c z _ vs hS hn hc hm hz hcell hcl =>
   refine .sh ad n c z els' vs hS (by omega) hc hm ?_ hcell (towardD_ok hcl ht)
   intro e he
   have : e.length ∈ els'.map List.length := List.mem_map.2 ⟨e, he, rfl⟩
   rw [<- hl] at this
   obtain ⟨e', he', h'⟩ := List.mem_map.1 this
   rw [<- h']; exact hz e' he'
def dR : List (List DV) := [[.str ⟨#[120]⟩, .nil, .int .i64 0, .nil, .nil], [.str ⟨#[121]⟩, .nil, .int .i64 0, .nil, .nil]]
def hR : List (List DV) := [[.sl [[.int .i64 0, .bool true, .int .i64 1, .int .i64 0, .nil]]], [.nil], [.sl [[.int .i64 2, .bool false, .int .i64 0, .int .i64 1, .nil]]]]
def gR : List DV := [.str ⟨#[80]⟩, .sl [[.str ⟨#[65]⟩], [.str ⟨#[66]⟩], [.str ⟨#[67]⟩]], .sl dR, .int .i64 3, .int .i64 0, .int .i64 2, .sl gE, .nil]
theorem raw_enc {w : World} {S : Nat -> Prop} {v : Value} {r : List Nat} (h : CzS w S v (.ag gR) r) : CzS w S v (.ag (encG exG)) r := by
 rw [exG_enc]
 cases h with
 | ag vs l r hl =>
   refine .ag _ _ _ ?_
   unfold gR at hl
   generalize vs.toList = vl at hl
   cases hl with
   | cons _ _ _ _ _ _ h1 hl =>
     cases hl with
     | cons _ _ _ _ _ _ h2 hl =>
       cases hl with
       | cons _ _ _ _ _ _ h3 hl =>
         refine .cons _ _ _ _ _ _ h1 (.cons _ _ _ _ _ _ h2 (.cons _ _ _ _ _ _ (sl_toward (els := dR) (els' := dE) rfl ?_ h3) (towardD_ok hl ?_)))
         ·simp [dR, dE, towardD, DV.toward]
         ·simp [towardD, DV.toward]
theorem raw_args {f : FuncId} {xs : List SV} {r : RV} (h : Impl Tryz.prog f (.ag (encG exG) :: .one (.sl hE) :: xs) r) : Impl Tryz.prog f (.ag gR :: .one (.sl hR) :: xs) r := by
 refine ⟨h.1, fun w S vs hS hcz => h.2 w S vs hS ?_⟩
 generalize hz : ([] : List Nat) = z at hcz
 cases hcz with
 | cons v x r vs xs rs h1 hs =>
   cases hs with
   | cons v x r vs xs rs h2 hs => exact CzSL.cons _ _ _ _ _ _ (raw_enc h1) (CzSL.cons _ _ _ _ _ _ (.one _ _ _ (sl_toward (els := hR) (els' := hE) rfl (by simp [hR, hE, towardD, DV.toward]) h2.one_inv)) hs)
theorem small_ex : Small exG := ⟨by decide, by decide, by simp [exG, exD], by simp [exG, exD]; decide, by decide, by decide⟩
theorem f9 (h109 : H109) : Impl Tryz.prog 9 [] (.one (.one (.bool true))) := by
 have k11 := f11 h109 exG exH small_ex (by decide) (by decide)
 have k14 := f14 h109 exG exH 0 small_ex (by decide) (by decide)
 have k17 := f17x h109
 rw [search_ex] at k11
 rw [next_ex] at k14
 rw [exH_enc] at k11 k14 k17
 have k11 := raw_args k11
 have k14 := raw_args k14
 have k17 := raw_args k17
 have e1 : (actsF exG (some [0, 1])).map encI = [[.int .i64 0, .int .i64 1, .int .i64 0], [.int .i64 0, .int .i64 2, .int .i64 1]] := rfl
 have e2 : resE (some [⟨0, true, 2, 1, none⟩]) = .ow 5 [[.int .i64 0, .bool true, .int .i64 2, .int .i64 1, .nil]] := rfl
 simp only [e1] at k11
 simp only [e2] at k14
 simp only [gR, hR, dR, gE] at k11 k14 k17
 refine impl_z Tryz.func9 z9 Tryz.ntmps9 (by simp) ?_
 simp only [c9, slotsOf]
 refine wC (aN k11 <| aN k14 k17) ?_
 simp [go_sem]
theorem few_facts {g : Glob} {H : List (List Ev)} {n : Int} (h : fewF g H n = true) : fewG g = true /\ H.length <= 8 /\ (sumH H : Int) <= n := by
 unfold fewF at h
 simp only [Bool.and_eq_true, decide_eq_true_eq] at h
 exact ⟨h.1, h.2.2.2.1, h.2.2.2.2⟩
theorem sumH_mem {H : List (List Ev)} {l : List Ev} (h : l ∈ H) : l.length <= sumH H := sum_mem (List.mem_map_of_mem (f := List.length) h)
theorem search_one {g : Glob} {H : List (List Ev)} (h : (searchF g H).2 = 1) : (searchF g H).1 = none := by
 obtain ⟨⟨o, c⟩, he⟩ : ∃ v, searchF g H = v := ⟨_, rfl⟩
 rw [he] at h ⊢
 cases o with
 | none => rfl
 | some l =>
   have := (search_ok he).2.2
   simp only at h
   omega
theorem f3 (h109 : H109) (g : Glob) (H : List (List Ev)) (hg : GlobA g) (hH : HistA H) : Impl Tryz.prog 3 [.ag (encG g), .one (.sl (H.map encH))] (.one (.one (.bool true))) := by
 have k9 := f9 h109
 have k10 := f10 g H 12 hg.1 (fun d hd => (hg.2 d hd).2) hH.1 hH.2
 simp only [encG] at k10
 refine impl_v ?_
 cases hf : fewF g H 12 with
 | false =>
   rw [hf] at k10
   refine wV encG.eq_1 (aN k9 k10) ?_
   simp [go_sem]
 | true =>
   rw [hf] at k10
   obtain ⟨f1, f2, f3⟩ := few_facts hf
   have sg := few_small f1 fun d hd => (hg.2 d hd).1
   have hl : H.length <= 1000000 := by omega
   have hh : ∀ l ∈ H, l.length <= 1000000 := fun l hl' => by have := sumH_mem hl'; omega
   have k11 := f11 h109 g H sg hl hh
   have k12 := f12 g H sg hl hh
   have hso : ∀ l c, searchF g H = (some l, c) -> _ := fun l c => search_ok
   have h1 := search_one (g := g) (H := H)
   have hal : (actsF g (searchF g H).1).length <= 20000 := by
    obtain ⟨⟨o, c⟩, he⟩ : ∃ v, searchF g H = v := ⟨_, rfl⟩
    rw [he]
    cases o with
    | none => simp [actsF]
    | some l =>
      have := (search_ok he).2.1
      simp [actsF]
      omega
   have k13 := f13 (actsF g (searchF g H).1) (actsF g (searchF g H).1) (by omega) (by omega)
   have hA1 : (searchF g H).2 = 1 -> actsF g (searchF g H).1 = [] := fun e => by rw [h1 e]; rfl
   simp only [encG] at k11 k12
   generalize actsF g (searchF g H).1 = A at *
   generalize (searchF g H).2 = c at *
   simp only [decide_true] at k13
   by_cases hc : c = 1
   ·have hA := hA1 hc
    subst hc
    subst hA
    simp only [rawA, if_true, List.map_nil] at k11 k12 k13
    refine wV encG.eq_1 (aN k9 <| aN k10 <| aN k11 <| aN k12 k13) ?_
    simp [go_sem]
   ·simp only [rawA, if_neg hc] at k12
    refine wV encG.eq_1 (aN k9 <| aN k10 <| aN k11 <| aN k12 k13) ?_
    simp [go_sem]
set_option maxHeartbeats 64000000
structure NextOk (g : Glob) (H : List (List Ev)) (rn : Nat) : Prop where
 good : ∀ (s : Bool) (p l : Nat), p < g.roles.length -> p ≠ rn -> goodF g (moreT H rn (evT rn s p l)) = true
 few : ∀ (s : Bool) (p l : Nat), (searchF g (moreT H rn (evT rn s p l))).2 ≠ 6
 none : ∀ (s : Bool) (p l : Nat), g.edges.any (hasA (actT rn s p l)) = false -> (searchF g (moreT H rn (evT rn s p l))).2 ≠ 0
 self : ∀ (s : Bool) (l : Nat), g.edges.any (hasA (actT rn s rn l)) = false
set_option maxHeartbeats 64000000
def codeP : List Nat -> List Nat -> Nat
 | p :: ps, b :: bs => p + b * codeP ps bs
 | _, _ => 0
def prodL : List Nat -> Nat
 | [] => 1
 | b :: bs => b * prodL bs
def boxP : List Nat -> List Nat -> Prop
 | [], [] => True
 | p :: ps, b :: bs => p < b /\ boxP ps bs
 | _, _ => False
theorem codeP_lt : ∀ {ps bs : List Nat}, boxP ps bs -> codeP ps bs < prodL bs
 | [], [], _ => Nat.one_pos
 | p :: ps, b :: bs, ⟨h1, h2⟩ => by
   have ih := codeP_lt h2
   simp only [codeP, prodL]
   have : b * (codeP ps bs + 1) <= b * prodL bs := Nat.mul_le_mul (Nat.le_refl b) ih
   rw [Nat.mul_add] at this
   omega
 | [], _ :: _, h => h.elim
 | _ :: _, [], h => h.elim
theorem codeP_inj : ∀ {ps qs bs : List Nat}, boxP ps bs -> boxP qs bs -> codeP ps bs = codeP qs bs -> ps = qs
 | [], [], [], _, _, _ => rfl
 | p :: ps, q :: qs, b :: bs, ⟨h1, h2⟩, ⟨h3, h4⟩, e => by
   simp only [codeP] at e
   have e1 : p = q := by
    have := congrArg (· % b) e
    simp only [Nat.add_mul_mod_self_left, Nat.mod_eq_of_lt h1, Nat.mod_eq_of_lt h3] at this
    exact this
   subst e1
   have hb : 0 < b := by omega
   have e2 : b * codeP ps bs = b * codeP qs bs := by omega
   rw [codeP_inj h2 h4 (Nat.eq_of_mul_eq_mul_left hb e2)]
 | [], _, _ :: _, h, _, _ => h.elim
 | _ :: _, _, [], h, _, _ => h.elim
 | [], _ :: _, [], _, h, _ => h.elim
 | _ :: _, [], _ :: _, _, h, _ => h.elim
def topP : Nat -> Nat -> Nat
 | 0, _ => 1
 | k + 1, s => (List.range (s + 1)).foldl (fun m j => max m ((j + 1) * topP k (s - j))) 1
theorem foldl_max_le (f : Nat -> Nat) : ∀ (l : List Nat) (m : Nat), m <= l.foldl (fun m j => max m (f j)) m /\ ∀ j ∈ l, f j <= l.foldl (fun m j => max m (f j)) m
 | [], m => ⟨Nat.le_refl m, fun _ h => by cases h⟩
 | x :: l, m => by
   obtain ⟨h1, h2⟩ := foldl_max_le f l (max m (f x))
   rw [List.foldl_cons]
   refine ⟨by omega, fun j hj => ?_⟩
   rcases List.mem_cons.1 hj with rfl | hj
   ·omega
   ·exact h2 j hj
theorem topP_pos : ∀ (k s : Nat), 1 <= topP k s
 | 0, _ => Nat.le_refl 1
 | k + 1, s => (foldl_max_le (fun j => (j + 1) * topP k (s - j)) _ 1).1
theorem topP_mono : ∀ (k : Nat) {s t : Nat}, s <= t -> topP k s <= topP k t
 | 0, _, _, _ => Nat.le_refl 1
 | k + 1, s, t, h => by
   have hall := (foldl_max_le (fun j => (j + 1) * topP k (t - j)) (List.range (t + 1)) 1)
   have key : ∀ (l : List Nat) (m : Nat), m <= topP (k + 1) t -> (∀ j ∈ l, j <= s) -> l.foldl (fun m j => max m ((j + 1) * topP k (s - j))) m <= topP (k + 1) t := by
    intro l
    induction l with
    | nil => intro m hm _; exact hm
    | cons x l ih =>
      intro m hm hl
      rw [List.foldl_cons]
      refine ih _ ?_ fun j hj => hl j (List.mem_cons_of_mem _ hj)
      have hx := hl x (by simp)
      have h1 : (x + 1) * topP k (s - x) <= (x + 1) * topP k (t - x) := Nat.mul_le_mul (Nat.le_refl _) (topP_mono k (by omega))
      have h2 : (x + 1) * topP k (t - x) <= topP (k + 1) t := hall.2 x (List.mem_range.2 (by omega))
      omega
   exact key _ _ (topP_pos _ _) fun j hj => by have := List.mem_range.1 hj; omega
theorem prod_le : ∀ (ls : List Nat), prodL (ls.map (· + 1)) <= topP ls.length ls.sum
 | [] => Nat.le_refl 1
 | x :: ls => by
   have ih := prod_le ls
   simp only [List.map_cons, prodL, List.length_cons, List.sum_cons]
   have h1 : (x + 1) * topP ls.length (x + ls.sum - x) <= topP (ls.length + 1) (x + ls.sum) := (foldl_max_le (fun j => (j + 1) * topP ls.length (x + ls.sum - j)) (List.range (x + ls.sum + 1)) 1).2 x (List.mem_range.2 (by omega))
   rw [Nat.add_sub_cancel_left] at h1
   exact Nat.le_trans (Nat.mul_le_mul (Nat.le_refl _) ih) h1
theorem topP_k : ∀ (k s : Nat), topP k s <= topP (k + 1) s := fun k s => by
 have h : (0 + 1) * topP k (s - 0) <= topP (k + 1) s := (foldl_max_le (fun j => (j + 1) * topP k (s - j)) (List.range (s + 1)) 1).2 0 (List.mem_range.2 (by omega))
 rw [Nat.zero_add, Nat.one_mul, Nat.sub_zero] at h
 exact h
theorem topP_le6 : ∀ {k : Nat}, k <= 6 -> ∀ s, topP k s <= topP 6 s := fun {k} h s => by
 have h' : k = 0 \/ k = 1 \/ k = 2 \/ k = 3 \/ k = 4 \/ k = 5 \/ k = 6 := by omega
 have a0 : topP 0 s <= topP 1 s := topP_k 0 s
 have a1 : topP 1 s <= topP 2 s := topP_k 1 s
 have a2 : topP 2 s <= topP 3 s := topP_k 2 s
 have a3 : topP 3 s <= topP 4 s := topP_k 3 s
 have a4 : topP 4 s <= topP 5 s := topP_k 4 s
 have a5 : topP 5 s <= topP 6 s := topP_k 5 s
 rcases h' with rfl | rfl | rfl | rfl | rfl | rfl | rfl <;> omega
theorem top_729 : topP 6 13 <= 1000 := by decide +kernel
theorem nodup_le : ∀ (n : Nat) (l : List Nat), l.Nodup -> (∀ x ∈ l, x < n) -> l.length <= n
 | 0, l, _, h => by
   cases l with
   | nil => simp
   | cons x l => exact absurd (h x (by simp)) (by omega)
 | n + 1, l, hd, h => by
   have h1 := nodup_le n (l.erase n) (hd.erase n) fun x hx => by
    have hx1 := h x (List.mem_of_mem_erase hx)
    have hx2 : x ≠ n := fun e => by
     subst e
     exact (List.Nodup.not_mem_erase hd) hx
    omega
   by_cases hm : n ∈ l
   ·rw [List.length_erase_of_mem hm] at h1
    omega
   ·rw [List.erase_of_not_mem hm] at h1
    omega
theorem box_of {g : Glob} {H : List (List Ev)} {i : Nat} {n : Nd} (h : NdOk g H i n) : boxP n.ps ((lensH H).map (· + 1)) := by
 have key : ∀ (ps : List Nat) (Hs : List (List Ev)), ps.length = Hs.length -> (∀ r (h1 : r < ps.length) (h2 : r < Hs.length), ps[r] <= Hs[r].length) -> boxP ps ((lensH Hs).map (· + 1)) := by
  intro ps
  induction ps with
  | nil =>
    intro Hs hl _
    cases Hs with
    | nil => trivial
    | cons _ _ => cases hl
  | cons p ps ih =>
    intro Hs hl hle
    cases Hs with
    | nil => cases hl
    | cons x Hs =>
      refine ⟨?_, ih Hs (by simpa using hl) fun r h1 h2 => ?_⟩
      ·have := hle 0 (by simp) (by simp)
       simp only [List.getElem_cons_zero] at this
       show p < x.length + 1
       omega
      ·have := hle (r + 1) (by simpa using h1) (by simpa using h2)
       simpa using this
 refine key _ _ h.len fun r h1 h2 => ?_
 have := h.le r (by omega) (by omega)
 simpa [psAt, histAt, h1, h2] using this
def Apart (all : List Nd) : Prop := all.Pairwise fun a b => sameN a b = false
theorem addN_apart {g : Glob} {H : List (List Ev)} {i : Nat} {p : Nd} {all : List Nd} {k : Int} (h : Apart all) : Apart (addN g H i p all k) := by
 unfold addN
 split
 ·exact h
 ·rename_i q _
  split
  ·exact h
  ·rename_i hany
   refine List.pairwise_append.2 ⟨h, List.pairwise_singleton _ _, fun a ha b hb => ?_⟩
   rw [List.mem_singleton.1 hb]
   have : all.any (sameN q) = false := by simpa using hany
   have hs := List.any_eq_false.1 this a ha
   cases hq : sameN a q with
   | false => rfl
   | true =>
     exfalso
     apply hs
     simp only [sameN, Bool.and_eq_true, beq_iff_eq] at hq ⊢
     exact ⟨hq.1.symm, hq.2.symm⟩
theorem fold_apart {g : Glob} {H : List (List Ev)} {i : Nat} {p : Nd} : ∀ (ks : List Int) {all : List Nd}, Apart all -> Apart (ks.foldl (addN g H i p) all)
 | [], _, h => h
 | _ :: ks, _, h => fold_apart ks (addN_apart h)
theorem all_len {g : Glob} {H : List (List Ev)} {all : List Nd} {S : Nat} (hS : g.states = S) (ha : AllOk g H all) (hd : Apart all) : all.length <= S * prodL ((lensH H).map (· + 1)) := by
 have hm : (all.map fun n => n.st.toNat + S * codeP n.ps ((lensH H).map (· + 1))).Nodup := by
  rw [List.Nodup, List.pairwise_map]
  refine List.Pairwise.imp_of_mem ?_ hd
  intro a b h1 h2 hne he
  obtain ⟨i, hi⟩ := List.getElem?_of_mem h1
  obtain ⟨j, hj⟩ := List.getElem?_of_mem h2
  have na := ha i a hi
  have nb := ha j b hj
  have s1 := na.st0
  have s2 := na.st1
  have s3 := nb.st0
  have s4 := nb.st1
  have hSp : 0 < S := by omega
  have e1 : a.st.toNat = b.st.toNat := by
   have := congrArg (· % S) he
   simp only [Nat.add_mul_mod_self_left] at this
   rwa [Nat.mod_eq_of_lt (by omega), Nat.mod_eq_of_lt (by omega)] at this
  have e2 : S * codeP a.ps ((lensH H).map (· + 1)) = S * codeP b.ps ((lensH H).map (· + 1)) := by
   omega
  have e3 := codeP_inj (box_of na) (box_of nb) (Nat.eq_of_mul_eq_mul_left hSp e2)
  have : sameN a b = true := by
   simp only [sameN, Bool.and_eq_true, beq_iff_eq]
   exact ⟨by omega, e3⟩
  rw [this] at hne
  cases hne
 have hl := nodup_le (S * prodL ((lensH H).map (· + 1))) _ hm fun x hx => by
  obtain ⟨n, hn, rfl⟩ := List.mem_map.1 hx
  obtain ⟨i, hi⟩ := List.getElem?_of_mem hn
  have na := ha i n hi
  have s1 := na.st0
  have s2 := na.st1
  have hc := codeP_lt (box_of na)
  have : S * (codeP n.ps ((lensH H).map (· + 1)) + 1) <= S * prodL ((lensH H).map (· + 1)) := Nat.mul_le_mul (Nat.le_refl S) hc
  rw [Nat.mul_add] at this
  omega
 rwa [List.length_map] at hl
theorem findL_small {g : Glob} {H : List (List Ev)} (he : EdOk g H) {S : Nat} (hS : g.states = S) (hb : S * prodL ((lensH H).map (· + 1)) <= 20000) : ∀ (f i : Nat) {all : List Nd}, AllOk g H all -> Apart all -> (findL g H f i all).2 ≠ 6
 | 0, _, _, _, _ => by simp [findL]
 | f + 1, i, all, ha, hd => by
   simp only [findL]
   split
   ·simp
   ·rename_i p hp
    have hi := (List.getElem?_eq_some_iff.1 hp).1
    have hl := all_len hS ha hd
    rw [if_neg (by omega)]
    split
    ·simp
    ·exact findL_small he hS hb f (i + 1) (fold_ok he (ha i p hp) _ sorted_pos ha hi) (fold_apart _ hd)
theorem search_small {g : Glob} {H : List (List Ev)} (hs : g.states <= 20) (h13 : (lensH H).sum <= 13) : (searchF g H).2 ≠ 6 := by
 unfold searchF
 split
 ·rename_i hg
  obtain ⟨hn, hl, h6, _⟩ := valid_roles hg
  obtain ⟨n1, _⟩ := numbered_facts hn
  obtain ⟨S, hS⟩ : ∃ S : Nat, g.states = S := ⟨g.states.toNat, by omega⟩
  refine findL_small (edges_ok hg) hS ?_ _ _ (first_ok hg) (List.pairwise_singleton _ _)
  have h1 := prod_le (lensH H)
  have h2 : (lensH H).length <= 6 := by simp only [lensH, List.length_map]; exact h6
  have h3 := topP_le6 h2 (lensH H).sum
  have h4 := topP_mono 6 h13
  have h5 := top_729
  have : S * prodL ((lensH H).map (· + 1)) <= 20 * 1000 := Nat.mul_le_mul (by omega) (by omega)
  omega
 ·simp
set_option maxHeartbeats 64000000
set_option maxHeartbeats 64000000
def evSame (a b : Ev) : Bool := decide (a.role = b.role) && (a.send == b.send) && decide (a.peer = b.peer) && decide (a.label = b.label)
def evsSame (a b : List Ev) : Bool := decide (a.length = b.length) && ((a.zip b).all fun x => evSame x.1 x.2)
set_option maxHeartbeats 64000000
def pathE (es : List Edg) : List Inter -> Int -> Option Int
 | [], s => some s
 | a :: ws, s => match nextE es s a with
   | some t => pathE es ws t
   | none => none
def pathG (g : Glob) (ws : List Inter) : RV := nextR (if valid26 g then pathE g.edges ws g.start else none)
theorem pathE_at {es : List Edg} {ws : List Inter} {s : Int} {k : Nat} (h : k < ws.length) : pathE es (ws.drop k) s = match nextE es s ws[k] with | some t => pathE es (ws.drop (k + 1)) t | none => none := by
 rw [List.drop_eq_getElem_cons h]
 rfl
theorem f19 (h109 : H109) (g : Glob) (hs : Small g) (ws : List Inter) (hl : ws.length <= 1000000000000000) : Impl Tryz.prog 19 [.ag (encG g), .one (.sl (ws.map encI))] (pathG g ws) := by
 have c1 := f37 h109 g hs
 have c2 := fun s a => f38 g s a hs
 refine impl_v ?_
 rw [valid_eq] at c1
 simp only [encG] at c1 c2
 unfold pathG
 cases hv : valid26 g with
 | false =>
   rw [hv] at c1
   refine wV encG.eq_1 c1 ?_
   simp [go_sem, nextR]
 | true =>
   rw [hv] at c1
   refine wV encG.eq_1 c1 ?_
   refine z_k (fun n e => ∃ (i : Nat) (s : Int), i + n = ws.length /\ pathE g.edges (ws.drop i) s = pathE g.edges ws g.start /\ e = [(18, .sv (.one (.int .i64 i))), (17, .sv (.one (.int .i64 ws.length))), (16, .sv (.one (.sl (ws.map encI)))), (6, .sv (.one (.int .i64 s))), (2, .sv (.one (.bx (encG g)))), (1, .sv (.one (.sl (ws.map encI))))]) ws.length _ ⟨0, g.start, by simp, by simp, rfl⟩ (by simp [go_sem, encG]) ?_
   rintro n e ⟨i, s, hi, hp, rfl⟩
   by_cases hlt : i < ws.length
   ·obtain ⟨a, ha⟩ : ∃ a, ws[i] = a := ⟨_, rfl⟩
    have hpa := pathE_at (es := g.edges) (s := s) hlt
    rw [ha] at hpa
    have c3 := c2 s a
    simp only [encI] at c3
    cases hnx : nextE g.edges s a with
    | none =>
      rw [hnx] at hpa c3
      have hf : pathE g.edges ws g.start = none := by rw [<- hp, hpa]
      rw [hf]
      simp only [nextR] at c3
      refine wV (aN hlt <| aN ha <| aN encG.eq_1 encI.eq_1) c3 ?_
      simp [go_sem, nextR]
    | some t =>
      rw [hnx] at hpa c3
      simp only [nextR] at c3
      refine wV (aN hlt <| aN ha <| aN encG.eq_1 encI.eq_1) c3 ?_
      refine z_j (n - 1) _ (by omega) ⟨i + 1, t, by omega, by rw [<- hp, hpa], rfl⟩ ?_
      simp [go_sem, encG]
   ·have hie : i = ws.length := by omega
    have hf : pathE g.edges ws g.start = some s := by
     rw [<- hp, hie, List.drop_length]
     rfl
    rw [hf]
    refine wX (aN hlt encG.eq_1) ?_
    simp [go_sem, nextR]
set_option maxHeartbeats 64000000
def Traced (g : Glob) (H : List (List Ev)) (all : List Nd) : Prop := ∀ (j : Nat) n, all[j]? = some n -> (j = 0 /\ n = firstN g H) \/ (∃ p, n.fr.toNat < j /\ all[n.fr.toNat]? = some p /\ stepN g H n.fr.toNat p n.ed = some n /\ n.ed ∈ sortedE g.edges p.st)
theorem step_from {g : Glob} {H : List (List Ev)} {i : Nat} {p q : Nd} {k : Int} (h : stepN g H i p k = some q) : q.fr.toNat = i /\ q.ed = k := by
 unfold stepN at h
 split at h
 ·cases h
 ·split at h
  ·injection h with h
   subst h
   exact ⟨Int.toNat_natCast i, rfl⟩
  ·cases h
theorem addN_traced {g : Glob} {H : List (List Ev)} {i : Nat} {p : Nd} {all : List Nd} {k : Int} (ha : Traced g H all) (hp : all[i]? = some p) (hk : k ∈ sortedE g.edges p.st) : Traced g H (addN g H i p all k) /\ (addN g H i p all k)[i]? = some p := by
 have hi : i < all.length := (List.getElem?_eq_some_iff.1 hp).1
 unfold addN
 split
 ·exact ⟨ha, hp⟩
 ·rename_i q hq
  split
  ·exact ⟨ha, hp⟩
  ·refine ⟨fun j n hj => ?_, by rw [List.getElem?_append_left hi]; exact hp⟩
   rw [List.getElem?_append] at hj
   split at hj
   ·rename_i hjl
    rcases ha j n hj with h | ⟨p', h1, h2, h3, h4⟩
    ·exact .inl h
    ·exact .inr ⟨p', h1, by rw [List.getElem?_append_left (by omega)]; exact h2, h3, h4⟩
   ·rename_i hjl
    have hjz : j - all.length = 0 := by
     cases h : j - all.length with
     | zero => rfl
     | succ z => rw [h] at hj; cases hj
    rw [hjz] at hj
    simp only [List.getElem?_cons_zero, Option.some.injEq] at hj
    subst hj
    obtain ⟨e1, e2⟩ := step_from hq
    refine .inr ⟨p, by omega, ?_, ?_, ?_⟩
    ·rw [e1, List.getElem?_append_left hi]
     exact hp
    ·rw [e1, e2]
     exact hq
    ·rw [e2]
     exact hk
theorem fold_traced {g : Glob} {H : List (List Ev)} {i : Nat} {p : Nd} : ∀ (ks : List Int) {all : List Nd}, (∀ k ∈ ks, k ∈ sortedE g.edges p.st) -> Traced g H all -> all[i]? = some p -> Traced g H (ks.foldl (addN g H i p) all)
 | [], _, _, ha, _ => ha
 | k :: ks, all, hk, ha, hp => by
   obtain ⟨h1, h2⟩ := addN_traced ha hp (hk k (by simp))
   exact fold_traced ks (fun k' h' => hk k' (List.mem_cons_of_mem _ h')) h1 h2
inductive RunN (g : Glob) (H : List (List Ev)) : List Int -> Nd -> Prop
 | nil : RunN g H [] (firstN g H)
 | snoc {L : List Int} {p q : Nd} {k : Int} {i : Nat} : RunN g H L p -> k ∈ sortedE g.edges p.st -> stepN g H i p k = some q -> RunN g H (L ++ [k]) q
theorem back_run {g : Glob} {H : List (List Ev)} {all : List Nd} (ha : Traced g H all) : ∀ (f j : Nat) {n : Nd}, j <= f -> all[j]? = some n -> RunN g H (backN all f j).reverse n
 | f, 0, n, _, hn => by
   rcases ha 0 n hn with h | ⟨p, h1, _⟩
   ·have : backN all f 0 = [] := by cases f <;> rfl
    rw [this, h.2]
    exact .nil
   ·omega
 | 0, j + 1, _, hj, _ => by omega
 | f + 1, j + 1, n, hj, hn => by
   rcases ha (j + 1) n hn with h | ⟨p, h1, h2, h3, h4⟩
   ·omega
   ·simp only [backN, hn, List.reverse_cons]
    exact .snoc (back_run ha f n.fr.toNat (by omega) h2) h4 h3
theorem findL_run {g : Glob} {H : List (List Ev)} : ∀ (f i : Nat) {all : List Nd} {l : List Int} {c : Int}, Traced g H all -> findL g H f i all = (some l, c) -> ∃ n, RunN g H l n /\ n.ps = lensH H
 | 0, _, _, _, _, _, h => by cases h
 | f + 1, i, all, l, c, ha, h => by
   simp only [findL] at h
   split at h
   ·cases h
   ·rename_i p hp
    split at h
    ·cases h
    ·split at h
     ·rename_i hd
      injection h with h1 h2
      injection h1 with h1
      subst h1
      exact ⟨p, back_run ha i i (Nat.le_refl i) hp, hd⟩
     ·exact findL_run f (i + 1) (fold_traced _ (fun _ h => h) ha hp) h
theorem search_run {g : Glob} {H : List (List Ev)} {l : List Int} {c : Int} (h : searchF g H = (some l, c)) : ∃ n, RunN g H l n /\ n.ps = lensH H := by
 unfold searchF at h
 split at h
 ·refine findL_run _ _ (fun j n hj => ?_) h
  cases j with
  | zero =>
    simp only [List.getElem?_cons_zero, Option.some.injEq] at hj
    exact .inl ⟨rfl, hj.symm⟩
  | succ j => cases hj
 ·cases h
theorem next_find (es : List Edg) (s : Int) (a : Inter) : nextE es s a = (es.find? fun x => x.from_ == s && actEq x.act a).map (·.to) := by
 induction es with
 | nil => rfl
 | cons x es ih =>
   simp only [nextE, List.find?_cons]
   by_cases h : x.from_ = s /\ actEq x.act a = true
   ·rw [if_pos h]
    simp [h.1, h.2]
   ·rw [if_neg h, ih]
    have : (x.from_ == s && actEq x.act a) = false := by
     rw [Bool.eq_false_iff]
     intro hc
     simp only [Bool.and_eq_true, beq_iff_eq] at hc
     exact h hc
    rw [this]
theorem next_det {g : Glob} {e : Bool} (ho : orderedB g e = true) {k : Nat} {x : Edg} (hx : g.edges[k]? = some x) : nextE g.edges x.from_ x.act = some x.to := by
 rw [next_find]
 have hself : (x.from_ == x.from_ && actEq x.act x.act) = true := by simp [actEq]
 cases hf : g.edges.find? (fun y => y.from_ == x.from_ && actEq y.act x.act) with
 | none =>
   have := List.find?_eq_none.1 hf x (List.mem_of_getElem? hx)
   simp only [hself, not_true_eq_false] at this
 | some y =>
   have hy := List.find?_some hf
   have hym := List.mem_of_find?_eq_some hf
   obtain ⟨j, hj, hjy⟩ := List.mem_iff_getElem.1 hym
   by_cases hjk : j = k
   ·subst hjk
    rw [List.getElem?_eq_getElem hj] at hx
    have : y = x := by rw [<- hjy]; exact Option.some.inj hx
    rw [this]
    rfl
   ·exfalso
    have hk : k < g.edges.length := (List.getElem?_eq_some_iff.1 hx).1
    unfold orderedB at ho
    have h1 := List.all_eq_true.1 ho j (List.mem_range.2 hj)
    rw [ordAt_get hj, hjy] at h1
    simp only [Bool.and_eq_true] at h1
    have h2 := List.all_eq_true.1 h1.2 k (List.mem_range.2 hk)
    unfold okPr at h2
    rw [hx] at h2
    simp only [Bool.and_eq_true, bad1] at h2 hy
    have : (j == k) = false := by simpa using hjk
    rw [this] at h2
    simp [hy.1, hy.2] at h2
theorem path_snoc (es : List Edg) : ∀ (ws : List Inter) (w : Inter) (s : Int), pathE es (ws ++ [w]) s = match pathE es ws s with | some t => nextE es t w | none => none
 | [], w, s => by
   simp only [List.nil_append, pathE]
   cases nextE es s w <;> rfl
 | v :: ws, w, s => by
   simp only [List.cons_append, pathE]
   cases nextE es s v with
   | none => rfl
   | some t => exact path_snoc es ws w t
theorem run_path {g : Glob} {H : List (List Ev)} {e : Bool} (ho : orderedB g e = true) {L : List Int} {n : Nd} (h : RunN g H L n) : pathE g.edges (L.map (actAt g)) g.start = some n.st := by
 induction h with
 | nil => rfl
 | @snoc L p q k i hr hk hst ih =>
   rw [List.map_append, List.map_cons, List.map_nil, path_snoc, ih]
   obtain ⟨x, hx, h0, hs⟩ := mem_sortedE.1 hk
   have ha : actAt g k = x.act := by
    unfold actAt
    rw [hx]
   have hto : q.st = x.to := by
    unfold stepN at hst
    rw [hx] at hst
    simp only at hst
    split at hst
    ·injection hst with hst
     subst hst
     rfl
    ·cases hst
   rw [ha, hto, <- hs]
   exact next_det ho hx
def fits (h P : List Ev) : Prop := ∀ (j : Nat) a b, P[j]? = some a -> h[j]? = some b -> evSame a b = true
theorem fits_snoc {h P : List Ev} {e : Ev} (hf : fits h P) (he : ∀ b, h[P.length]? = some b -> evSame e b = true) : fits h (P ++ [e]) := by
 intro j a b ha hb
 rw [List.getElem?_append] at ha
 split at ha
 ·exact hf j a b ha hb
 ·rename_i hj
  have hz : j - P.length = 0 := by
   cases hz : j - P.length with
   | zero => rfl
   | succ z => rw [hz] at ha; cases ha
  rw [hz] at ha
  simp only [List.getElem?_cons_zero, Option.some.injEq] at ha
  subst ha
  have : j = P.length := by omega
  subst this
  exact he b hb
theorem pass_fits {h P : List Ev} {r : Int} (hr : ∀ b ∈ h, b.role = r) (hf : fits h P) {s : Bool} {p l : Int} (hok : (passV h (min P.length h.length) s p l).2 = true) : (passV h (min P.length h.length) s p l).1 = min (P.length + 1) h.length /\ fits h (P ++ [⟨r, s, p, l, none⟩]) := by
 by_cases hl : P.length < h.length
 ·have hm : min P.length h.length = P.length := by omega
  rw [hm] at hok ⊢
  rw [passV_at hl rfl] at hok ⊢
  simp only [Bool.and_eq_true, beq_iff_eq] at hok
  refine ⟨by simp only; omega, fits_snoc hf fun b hb => ?_⟩
  rw [List.getElem?_eq_getElem hl] at hb
  injection hb with hb
  subst hb
  have := hr _ (List.getElem_mem hl)
  simp [evSame, this, hok.1, hok.2.1, hok.2.2]
 ·have hm : min P.length h.length = h.length := by omega
  rw [hm, passV_end rfl]
  refine ⟨by simp only; omega, fits_snoc hf fun b hb => ?_⟩
  have := (List.getElem?_eq_some_iff.1 hb).1
  omega
theorem project_snoc (ws : List Inter) (w : Inter) (r : Int) : project (ws ++ [w]) r = project ws r ++ ev1 r w := by
 unfold project
 rw [List.flatMap_append]
 simp
theorem run_fits {g : Glob} {H : List (List Ev)} (hg : goodF g H = true) {L : List Int} {n : Nd} (h : RunN g H L n) : n.ps.length = H.length /\ ∀ r : Nat, r < H.length -> psAt n.ps r = min (project (L.map (actAt g)) r).length (histAt H r).length /\ fits (histAt H r) (project (L.map (actAt g)) r) := by
 have hed := edges_ok hg
 obtain ⟨hn, hlr, h6, hpp⟩ := valid_roles hg
 obtain ⟨_, _, _, _, _, _, n7⟩ := numbered_facts hn
 have hroles : ∀ r : Nat, r < H.length -> ∀ b ∈ histAt H r, b.role = (r : Int) := by
  intro r hr b hb
  unfold properH at hpp
  simp only [Bool.and_eq_true, List.all_eq_true, List.mem_range] at hpp
  have := hpp.1 r hr
  unfold okH at this
  have h1 := List.all_eq_true.1 this b (by unfold histAt at hb; rw [Int.toNat_natCast] at hb; exact hb)
  simp only [okE, Bool.and_eq_true, decide_eq_true_eq] at h1
  exact h1.1.1.1
 induction h with
 | nil =>
   refine ⟨by simp [firstN], fun r hr => ⟨?_, fun j a b ha => by cases ha⟩⟩
   unfold psAt firstN
   simp only [Int.toNat_natCast, List.map_nil]
   rw [List.getElem?_replicate, if_pos hr]
   simp [project]
 | @snoc L p q k i hrun hk hst ih =>
   obtain ⟨hpl, ihr⟩ := ih
   obtain ⟨x, hx, h0, hs⟩ := mem_sortedE.1 hk
   have hxm := List.mem_of_getElem? hx
   obtain ⟨e1, e2, e3, e4, e5, e6⟩ := hed x hxm
   have hne : x.act.from_ ≠ x.act.to := by
    have := n7 x hxm
    simp only [okEdge, Bool.and_eq_true, decide_eq_true_eq] at this
    omega
   have ha : actAt g k = x.act := by
    unfold actAt
    rw [hx]
   unfold stepN at hst
   rw [hx] at hst
   simp only at hst
   split at hst
   rotate_left
   ·cases hst
   rename_i hok
   simp only [Bool.and_eq_true] at hok
   injection hst with hst
   subst hst
   refine ⟨by simp [hpl], fun r hr => ?_⟩
   obtain ⟨i1, i2⟩ := ihr r hr
   rw [List.map_append, List.map_cons, List.map_nil, project_snoc, ha]
   rw [psAt_set (Int.natCast_nonneg r) e5 (by rw [List.length_set]; omega)]
   by_cases h1 : (r : Int) = x.act.to
   ·rw [if_pos h1]
    have hev : ev1 (r : Int) x.act = [⟨r, false, x.act.from_, x.act.label, none⟩] := by
     unfold ev1
     rw [if_neg (by omega), if_pos h1.symm]
     rfl
    have hok2 := hok.2
    rw [<- h1] at hok2 ⊢
    rw [i1] at hok2 ⊢
    obtain ⟨j1, j2⟩ := pass_fits (hroles r hr) i2 hok2
    rw [hev]
    refine ⟨?_, j2⟩
    rw [j1]
    simp
   ·rw [if_neg h1, psAt_set (Int.natCast_nonneg r) e3 (by omega)]
    by_cases h2 : (r : Int) = x.act.from_
    ·rw [if_pos h2]
     have hev : ev1 (r : Int) x.act = [⟨r, true, x.act.to, x.act.label, none⟩] := by
      unfold ev1
      rw [if_pos h2.symm, if_neg (by omega)]
      rfl
     have hok1 := hok.1
     rw [<- h2] at hok1 ⊢
     rw [i1] at hok1 ⊢
     obtain ⟨j1, j2⟩ := pass_fits (hroles r hr) i2 hok1
     rw [hev]
     refine ⟨?_, j2⟩
     rw [j1]
     simp
    ·rw [if_neg h2]
     have hev : ev1 (r : Int) x.act = [] := by
      unfold ev1
      rw [if_neg (fun h => h2 h.symm), if_neg (fun h => h1 h.symm)]
      rfl
     rw [hev, List.append_nil]
     exact ⟨i1, i2⟩
theorem fits_same {h P : List Ev} (hf : fits h P) (hl : h.length <= P.length) : evsSame (P.take h.length) h = true := by
 unfold evsSame
 simp only [Bool.and_eq_true, decide_eq_true_eq, List.all_eq_true]
 refine ⟨by simp; omega, fun x hx => ?_⟩
 obtain ⟨j, hj, rfl⟩ := List.mem_iff_getElem.1 hx
 simp only [List.length_zip, List.length_take] at hj
 have h1 : j < P.length := by omega
 have h2 : j < h.length := by omega
 simp only [List.getElem_zip, List.getElem_take]
 exact hf j _ _ (List.getElem?_eq_getElem h1) (List.getElem?_eq_getElem h2)
theorem findL_zero {g : Glob} {H : List (List Ev)} : ∀ (f i : Nat) (all : List Nd), findL g H f i all ≠ (none, 0)
 | 0, _, _ => by simp [findL]
 | f + 1, i, all => by
   simp only [findL]
   split
   ·simp
   ·split
    ·simp
    ·split
     ·simp
     ·exact findL_zero f (i + 1) _
theorem search_zero {g : Glob} {H : List (List Ev)} (h : searchF g H = (none, 0)) : False := by
 unfold searchF at h
 split at h
 ·exact findL_zero _ _ _ h
 ·simp at h
theorem found_ok {g : Glob} {H : List (List Ev)} {l : List Int} {c : Int} (h : searchF g H = (some l, c)) : (∃ t, pathE g.edges (l.map (actAt g)) g.start = some t) /\ valid26 g = true /\ ∀ r : Nat, r < H.length -> (histAt H r).length <= (project (l.map (actAt g)) r).length /\ evsSame ((project (l.map (actAt g)) r).take (histAt H r).length) (histAt H r) = true := by
 have hg : goodF g H = true := by
  cases hg : goodF g H with
  | true => rfl
  | false =>
    unfold searchF at h
    rw [hg] at h
    simp at h
 have hv : valid29 g = true := by
  unfold goodF at hg
  simp only [Bool.and_eq_true] at hg
  exact hg.1.1
 obtain ⟨n, hn, hd⟩ := search_run h
 have ho : orderedB g true = true := by
  have := hv
  unfold valid29 at this
  simp only [Bool.and_eq_true] at this
  exact this.1.1.1.2
 refine ⟨⟨n.st, run_path ho hn⟩, by rw [<- valid_eq]; exact hv, fun r hr => ?_⟩
 obtain ⟨i1, i2⟩ := (run_fits hg hn).2 r hr
 have hps : psAt n.ps r = (histAt H r).length := by
  rw [hd]
  unfold psAt histAt lensH
  rw [Int.toNat_natCast, List.getElem?_map, List.getElem?_eq_getElem hr]
  rfl
 have hle : (histAt H r).length <= (project (l.map (actAt g)) r).length := by omega
 exact ⟨hle, fits_same i2 hle⟩
set_option maxHeartbeats 64000000
set_option maxHeartbeats 64000000
theorem step_like {g : Glob} {H : List (List Ev)} {i i' : Nat} {p p' q : Nd} {k : Int} (hp : p.ps = p'.ps) (h : stepN g H i p k = some q) : ∃ q', stepN g H i' p' k = some q' /\ q.st = q'.st /\ q.ps = q'.ps := by
 unfold stepN at h ⊢
 rw [<- hp]
 split at h
 ·cases h
 ·split at h
  ·rename_i hok
   injection h with h
   subst h
   exact ⟨_, if_pos hok, rfl, rfl⟩
  ·cases h
structure Seen (g : Glob) (H : List (List Ev)) (i : Nat) (all : List Nd) : Prop where
 first : ∃ m ∈ all, (firstN g H).st = m.st /\ (firstN g H).ps = m.ps
 done : ∀ (j : Nat) p, j < i -> all[j]? = some p -> p.ps ≠ lensH H
 next : ∀ (j : Nat) p, j < i -> all[j]? = some p -> ∀ k ∈ sortedE g.edges p.st, ∀ q, stepN g H 0 p k = some q -> ∃ m ∈ all, q.st = m.st /\ q.ps = m.ps
 le : i <= all.length
theorem addN_more {g : Glob} {H : List (List Ev)} {i : Nat} {p : Nd} {all : List Nd} {k : Int} : (∃ t, addN g H i p all k = all ++ t) /\ ∀ q, stepN g H i p k = some q -> ∃ m ∈ addN g H i p all k, q.st = m.st /\ q.ps = m.ps := by
 unfold addN
 split
 ·rename_i hq
  refine ⟨⟨[], by simp⟩, fun q h => ?_⟩
  rw [hq] at h
  cases h
 ·rename_i q hq
  split
  ·rename_i hs
   refine ⟨⟨[], by simp⟩, fun q' h => ?_⟩
   rw [hq] at h
   cases h
   obtain ⟨m, hm, hs⟩ := List.any_eq_true.1 hs
   simp only [sameN, Bool.and_eq_true, beq_iff_eq] at hs
   exact ⟨m, hm, hs⟩
  ·refine ⟨⟨[q], rfl⟩, fun q' h => ?_⟩
   rw [hq] at h
   cases h
   exact ⟨q, by simp, rfl, rfl⟩
theorem fold_more {g : Glob} {H : List (List Ev)} {i : Nat} {p : Nd} : ∀ (ks : List Int) (all : List Nd), (∃ t, ks.foldl (addN g H i p) all = all ++ t) /\ ∀ k ∈ ks, ∀ q, stepN g H i p k = some q -> ∃ m ∈ ks.foldl (addN g H i p) all, q.st = m.st /\ q.ps = m.ps
 | [], all => ⟨⟨[], by simp⟩, fun k hk => by cases hk⟩
 | k :: ks, all => by
   obtain ⟨⟨t, ht⟩, h1⟩ := addN_more (g := g) (H := H) (i := i) (p := p) (all := all) (k := k)
   obtain ⟨⟨u, hu⟩, h2⟩ := fold_more ks (addN g H i p all k)
   rw [List.foldl_cons]
   refine ⟨⟨t ++ u, by rw [hu, ht, List.append_assoc]⟩, fun k' hk' q hq => ?_⟩
   rcases List.mem_cons.1 hk' with rfl | hk'
   ·obtain ⟨m, hm, he⟩ := h1 q hq
    exact ⟨m, by rw [hu]; exact List.mem_append_left _ hm, he⟩
   ·exact h2 k' hk' q hq
theorem seen_step {g : Glob} {H : List (List Ev)} {i : Nat} {all : List Nd} {p : Nd} (hs : Seen g H i all) (hp : all[i]? = some p) (hd : p.ps ≠ lensH H) : Seen g H (i + 1) ((sortedE g.edges p.st).foldl (addN g H i p) all) := by
 obtain ⟨⟨t, ht⟩, h2⟩ := fold_more (g := g) (H := H) (i := i) (p := p) (sortedE g.edges p.st) all
 have hi : i < all.length := (List.getElem?_eq_some_iff.1 hp).1
 have hat : ∀ j, j < i + 1 -> ((sortedE g.edges p.st).foldl (addN g H i p) all)[j]? = all[j]? := fun j hj => by
  rw [ht, List.getElem?_append_left (by omega)]
 refine ⟨?_, fun j q hj hq => ?_, fun j q hj hq k hk z hz => ?_, ?_⟩
 ·obtain ⟨m, hm, he⟩ := hs.first
  exact ⟨m, by rw [ht]; exact List.mem_append_left _ hm, he⟩
 ·rw [hat j hj] at hq
  by_cases e : j = i
  ·subst e
   rw [hp] at hq
   cases hq
   exact hd
  ·exact hs.done j q (by omega) hq
 ·rw [hat j hj] at hq
  by_cases e : j = i
  ·subst e
   rw [hp] at hq
   cases hq
   obtain ⟨z', hz', e1, e2⟩ := step_like (i' := j) rfl hz
   obtain ⟨m, hm, e3, e4⟩ := h2 k hk z' hz'
   exact ⟨m, hm, e1.trans e3, e2.trans e4⟩
  ·obtain ⟨m, hm, he⟩ := hs.next j q (by omega) hq k hk z hz
   exact ⟨m, by rw [ht]; exact List.mem_append_left _ hm, he⟩
 ·rw [ht, List.length_append]
  omega
theorem seen_run {g : Glob} {H : List (List Ev)} {all : List Nd} (hs : Seen g H all.length all) {L : List Int} {n : Nd} (h : RunN g H L n) : ∃ m ∈ all, n.st = m.st /\ n.ps = m.ps := by
 induction h with
 | nil => exact hs.first
 | @snoc L p q k i hr hk hst ih =>
   obtain ⟨m, hm, e1, e2⟩ := ih
   obtain ⟨j, hj, rfl⟩ := List.mem_iff_getElem.1 hm
   obtain ⟨q', hq', e3, e4⟩ := step_like (i' := 0) e2 hst
   obtain ⟨z, hz, e5, e6⟩ := hs.next j _ hj (List.getElem?_eq_getElem hj) k (by rw [<- e1]; exact hk) q' hq'
   exact ⟨z, hz, e3.trans e5, e4.trans e6⟩
theorem findL_all {g : Glob} {H : List (List Ev)} {L : List Int} {n : Nd} (hr : RunN g H L n) (hd : n.ps = lensH H) : ∀ (f i : Nat) {all : List Nd}, f + i = 20001 -> i <= 20000 -> Seen g H i all -> (findL g H f i all).2 = 0 \/ (findL g H f i all).2 = 6
 | 0, i, all, hf, hi, _ => by omega
 | f + 1, i, all, hf, hi, hs => by
   simp only [findL]
   split
   ·rename_i hp
    exfalso
    have hl : i = all.length := by
     have := List.getElem?_eq_none_iff.1 hp
     have := hs.le
     omega
    subst hl
    obtain ⟨m, hm, e1, e2⟩ := seen_run hs hr
    obtain ⟨j, hj, rfl⟩ := List.mem_iff_getElem.1 hm
    exact hs.done j _ hj (List.getElem?_eq_getElem hj) (e2.symm.trans hd)
   ·rename_i p hp
    split
    ·exact .inr rfl
    ·rename_i h2
     split
     ·exact .inl rfl
     ·rename_i hnd
      exact findL_all hr hd f (i + 1) (by omega) (by omega) (seen_step hs hp hnd)
theorem search_all {g : Glob} {H : List (List Ev)} (hg : goodF g H = true) {L : List Int} {n : Nd} (hr : RunN g H L n) (hd : n.ps = lensH H) : (searchF g H).2 = 0 \/ (searchF g H).2 = 6 := by
 unfold searchF
 rw [if_pos hg]
 exact findL_all hr hd _ _ rfl (by omega) ⟨⟨_, by simp, rfl, rfl⟩, fun j p hj => by omega, fun j p hj => by omega, by simp⟩
structure CutOf (H C : List (List Ev)) : Prop where
 len : C.length = H.length
 at_ : ∀ r : Nat, r < H.length -> ∃ m, histAt C r = (histAt H r).take m
theorem cut_good {g : Glob} {H C : List (List Ev)} (hc : CutOf H C) (hg : goodF g H = true) : goodF g C = true := by
 unfold goodF at hg ⊢
 simp only [Bool.and_eq_true, decide_eq_true_eq] at hg ⊢
 refine ⟨⟨hg.1.1, by rw [hc.len]; exact hg.1.2⟩, ?_⟩
 have hp := hg.2
 unfold properH at hp ⊢
 simp only [Bool.and_eq_true, List.all_eq_true, List.mem_range, decide_eq_true_eq] at hp ⊢
 rw [hc.len]
 refine ⟨fun r hr => ?_, hp.2⟩
 have h1 := hp.1 r hr
 obtain ⟨m, hm⟩ := hc.at_ r hr
 unfold histAt at hm
 rw [Int.toNat_natCast] at hm
 rw [hm]
 unfold okH at h1 ⊢
 rw [List.all_eq_true] at h1 ⊢
 exact fun e he => h1 e (List.mem_of_mem_take he)
theorem pass_cut {h : List Ev} {m a : Nat} {s : Bool} {p l : Int} (hok : (passV h (min a h.length) s p l).2 = true) : (passV (h.take m) (min a (h.take m).length) s p l).2 = true := by
 by_cases hl : a < (h.take m).length
 ·have h1 : a < h.length := by
   rw [List.length_take] at hl
   omega
  have e1 : min a (h.take m).length = a := by omega
  have e2 : min a h.length = a := by omega
  rw [e2, passV_at h1 rfl] at hok
  rw [e1, passV_at hl rfl, List.getElem_take]
  exact hok
 ·have e1 : min a (h.take m).length = (h.take m).length := by omega
  rw [e1, passV_end rfl]
theorem run_cut {g : Glob} {H C : List (List Ev)} (hc : CutOf H C) (hg : goodF g H = true) {L : List Int} {n : Nd} (h : RunN g H L n) : ∃ n', RunN g C L n' /\ n'.st = n.st := by
 have hed := edges_ok hg
 have hgc := cut_good hc hg
 induction h with
 | nil => exact ⟨_, .nil, rfl⟩
 | @snoc L p q k i hrun hk hst ih =>
   obtain ⟨p', hr', e1⟩ := ih
   have f1 := (run_fits hg hrun).2
   have f2 := (run_fits hgc hr').2
   have hk' : k ∈ sortedE g.edges p'.st := by rw [e1]; exact hk
   have hst' := hst
   unfold stepN at hst
   split at hst
   ·cases hst
   rename_i x hx
   have hxm := List.mem_of_getElem? hx
   obtain ⟨_, _, e3, e4, e5, e6⟩ := hed x hxm
   split at hst
   rotate_left
   ·cases hst
   rename_i hok
   simp only [Bool.and_eq_true] at hok
   injection hst with hst
   obtain ⟨a, ha⟩ : ∃ a : Nat, x.act.from_ = a := ⟨x.act.from_.toNat, by omega⟩
   obtain ⟨b, hb⟩ : ∃ b : Nat, x.act.to = b := ⟨x.act.to.toNat, by omega⟩
   have hal : a < H.length := by omega
   have hbl : b < H.length := by omega
   rw [ha, hb] at hok
   obtain ⟨m1, hm1⟩ := hc.at_ a hal
   obtain ⟨m2, hm2⟩ := hc.at_ b hbl
   rw [(f1 a hal).1, (f1 b hbl).1] at hok
   have o1 := pass_cut (m := m1) hok.1
   have o2 := pass_cut (m := m2) hok.2
   rw [<- hm1, <- (f2 a (by rw [hc.len]; exact hal)).1] at o1
   rw [<- hm2, <- (f2 b (by rw [hc.len]; exact hbl)).1] at o2
   obtain ⟨q', hq'⟩ : ∃ q', stepN g C 0 p' k = some q' := by
    unfold stepN
    rw [hx]
    simp only
    rw [ha, hb, o1, o2]
    exact ⟨_, rfl⟩
   refine ⟨q', .snoc hr' hk' hq', ?_⟩
   unfold stepN at hq'
   rw [hx] at hq'
   simp only at hq'
   split at hq'
   ·injection hq' with hq'
    rw [<- hq', <- hst]
   ·cases hq'
set_option maxHeartbeats 64000000
def encU (b : Int) : DV := .int .u8 b
def byAt (B : List Int) (r : Nat) : Int := B[r % 6]?.getD 0
def cutL (h : List Ev) (b : Int) : List Ev := h.take ((h.length : Int) - b.tmod (h.length + 1)).toNat
def cutK (H : List (List Ev)) (B : List Int) (k : Nat) : List (List Ev) := (List.range k).map fun r => cutL (H[r]?.getD []) (byAt B r)
theorem cutK_succ (H : List (List Ev)) (B : List Int) {k : Nat} (hk : k < H.length) : cutK H B (k + 1) = cutK H B k ++ [cutL H[k] (byAt B k)] := by
 unfold cutK
 rw [List.range_succ, List.map_append, List.map_singleton, List.getElem?_eq_getElem hk]
 rfl
theorem cutK_len (H : List (List Ev)) (B : List Int) (k : Nat) : (cutK H B k).length = k := by simp [cutK]
theorem appendOk_h1 {C : List (List Ev)} {x : List Ev} (h : C.length <= 1000000) : z_f 1 24 (C.map encH) [encH x] := by
 refine ⟨?_, ?_, by omega, ?_, ?_⟩
 ·intro e he
  rw [List.mem_singleton.1 he]
  rfl
 ·intro e he
  rw [List.mem_singleton.1 he]
  rfl
 ·simp only [List.length_map, maxLen, List.length_singleton]; omega
 ·simp only [List.length_map, List.length_singleton]; omega
theorem f21 (H : List (List Ev)) (B : List Int) (hB : B.length = 6) (hb : ∀ b ∈ B, 0 <= b /\ b < 256) (hl : H.length <= 1000000) (hh : ∀ l ∈ H, l.length <= 1000000) :
  Impl Tryz.prog 21 [.one (.sl (H.map encH)), .ag (B.map encU)] (.one (.one (.ow 1 ((cutK H B H.length).map encH)))) := by
 refine impl_v ?_
 have hf1 : (B.map encU).all DV.flat = true := by
  rw [List.all_eq_true]
  intro d hd
  obtain ⟨z, _, rfl⟩ := List.mem_map.1 hd
  rfl
 have hf2 : ∀ (b : Int), b ∈ B -> (encU b).flat = true := fun _ _ => rfl
 refine wX (aN hf1 hf2) ?_
 refine z_k (fun n e => ∃ k : Nat, k + n = H.length /\ e = [(9, .sv (.one (.int .i64 k))), (8, .sv (.one (.int .i64 H.length))), (5, .sv (.one (.ow 1 ((cutK H B k).map encH)))), (4, .sv (.one .nil)), (3, .sv (.one (.bx (B.map encU)))), (0, .sv (.one (.sl (H.map encH))))]) H.length _ ⟨0, by simp, rfl⟩ (by simp [go_sem, cutK]) ?_
 rintro n e ⟨k, hk, rfl⟩
 by_cases hlt : k < H.length
 ·obtain ⟨l, hl1⟩ : ∃ l, H[k] = l := ⟨_, rfl⟩
  have hll : l.length <= 1000000 := hh l (hl1 ▸ List.getElem_mem hlt)
  have hk6 : k % 6 < B.length := by omega
  have hr6 : 0 <= (k : Int).tmod 6 /\ ((k : Int).tmod 6).toNat = k % 6 := by
   rw [Int.tmod_eq_emod_of_nonneg (by omega)]
   omega
  have hbe : B[((k : Int).tmod 6).toNat]? = some B[k % 6] := by rw [hr6.2, List.getElem?_eq_getElem hk6]
  have hby : byAt B k = B[k % 6] := by
   unfold byAt
   rw [List.getElem?_eq_getElem hk6]
   rfl
  have hbb := hb _ (List.getElem_mem hk6)
  generalize B[k % 6] = b at hbe hby hbb
  have hcs := cutK_succ H B hlt
  rw [hl1, hby] at hcs
  unfold cutL at hcs
  have hm0 : 0 <= b.tmod (l.length + 1) /\ b.tmod (l.length + 1) <= l.length := by
   rw [Int.tmod_eq_emod_of_nonneg (by omega)]
   have := Int.emod_lt_of_pos b (show (0 : Int) < l.length + 1 by omega)
   have := Int.emod_nonneg b (show (l.length + 1 : Int) ≠ 0 by omega)
   omega
  have hbw : IntKind.i64.wrap b = b := z_h (by omega) (by omega)
  have hlw : IntKind.i64.wrap (l.length + 1) = l.length + 1 := z_h (by omega) (by omega)
  have hln : ¬ (l.length + 1 : Int) = 0 := by omega
  generalize hm : b.tmod (l.length + 1) = m at hm0 hcs
  have hr0 := hr6.1
  obtain ⟨hm0, hm1⟩ := hm0
  have hel : ∀ a : Ev, (encE a).length = 5 := fun _ => rfl
  have hap := appendOk_h1 (C := cutK H B k) (x := l.take ((l.length : Int) - m).toNat) (by rw [cutK_len]; omega)
  simp only [encH, List.map_take] at hap
  refine wX (aN hlt <| aN hl1 <| aN encH.eq_1 <| aN hbe <| aN hbw <| aN hlw <| aN hln <| aN hm <| aN hr0 <| aN encU.eq_1 <| aN hm0 <| aN hm1 <| aN hel hap) ?_
  refine z_j (n - 1) _ (by omega) ⟨k + 1, by omega, rfl⟩ ?_
  simp [go_sem, hcs, encH]
 ·have hke : k = H.length := by omega
  refine wX hlt ?_
  simp [go_sem, hke]
theorem cut_of (H : List (List Ev)) (B : List Int) : CutOf H (cutK H B H.length) where
 len := cutK_len ..
 at_ r hr := by
  refine ⟨((H[r].length : Int) - (byAt B r).tmod (H[r].length + 1)).toNat, ?_⟩
  unfold histAt cutK
  simp only [Int.toNat_natCast, List.getElem?_map, List.getElem?_range hr, Option.map_some, Option.getD_some, List.getElem?_eq_getElem hr]
  rfl
end Go.Av
namespace Go.Proofs.YticeobjphcmggaaGreatDoor
open Go.ChangeShapes Go.WideShapes Go.ChangeAt Go.RowKit Go.Av
set_option maxRecDepth 100000
theorem six_ofB {n : Nat} {l : List DV} (h : TyLB Tryz.prog (n + 2) 45 l) : ∃ B : List Int, l = B.map encU /\ B.length = 6 /\ ∀ b ∈ B, 0 <= b /\ b < 256 := by
 have hu : Tryz.prog.underlying 45 = some (.array 6 5) := by kernel_rfl
 have h5 : Tryz.prog.underlying 5 = some (.int .u8) := by kernel_rfl
 unfold TyLB at h
 rw [hu] at h
 obtain ⟨els, rfl, hl, hel⟩ := h
 obtain ⟨B, hB, hb⟩ : ∃ B : List Int, els = B.map (fun b => [encU b]) /\ ∀ b ∈ B, 0 <= b /\ b < 256 := by
  clear hl
  induction els with
  | nil => exact ⟨[], rfl, by simp⟩
  | cons e els ih =>
    obtain ⟨B, rfl, hb⟩ := ih fun x hx => hel x (List.mem_cons_of_mem _ hx)
    have he := hel e List.mem_cons_self
    unfold TyLB at he
    rw [h5] at he
    obtain ⟨m, rfl, hw⟩ := he
    refine ⟨m :: B, rfl, fun b hb' => ?_⟩
    rcases List.mem_cons.1 hb' with rfl | hb'
    ·simp only [Lit.wf, decide_eq_true_eq, Bool.and_eq_true] at hw
     have h1 : IntKind.u8.min = 0 := rfl
     have h2 : IntKind.u8.max = 255 := rfl
     omega
    ·exact hb b hb'
 subst hB
 refine ⟨B, ?_, by simpa using hl, hb⟩
 clear hl hb hel
 induction B with
 | nil => rfl
 | cons b B ih => simp only [List.map_cons, List.flatten_cons, ih]; rfl
end Go.Proofs.YticeobjphcmggaaGreatDoor
namespace Go.Av
open Go Go.RowKit Go.Proofs
set_option maxHeartbeats 64000000
theorem mask_all : ∀ n : Fin 201, IntKind.u64.wrap ((BitVec.ofInt IntKind.u64.bits (n.val : Int) &&& BitVec.ofInt IntKind.u64.bits 4294967295).toNat : Int) = (n.val : Int) := by decide +kernel
theorem shift_all : ∀ n : Fin 201, (n.val : Int).fdiv 4294967296 = 0 := by decide +kernel
theorem wrap_all : ∀ n : Fin 201, IntKind.u64.wrap (n.val : Int) = (n.val : Int) := by decide +kernel
theorem f143 (n : Nat) (h : n <= 200) : Impl Tryz.prog 143 [.one (.int .u64 1), .one (.int .u64 n)] (.tup [.one (.int .u64 0), .one (.int .u64 n)]) := by
 have m1 : IntKind.u64.wrap ((BitVec.ofInt IntKind.u64.bits (n : Int) &&& BitVec.ofInt IntKind.u64.bits 4294967295).toNat : Int) = (n : Int) := mask_all ⟨n, by omega⟩
 have m0 : IntKind.u64.wrap ((BitVec.ofInt IntKind.u64.bits (0 : Int) &&& BitVec.ofInt IntKind.u64.bits 4294967295).toNat : Int) = (0 : Int) := mask_all ⟨0, by omega⟩
 simp [go_sem] at m1
 have s1 : (n : Int).fdiv 4294967296 = 0 := shift_all ⟨n, by omega⟩
 have w1 : IntKind.u64.wrap (n : Int) = (n : Int) := wrap_all ⟨n, by omega⟩
 have w2 : IntKind.u64.wrap 0 = 0 := wrap_all ⟨0, by omega⟩
 have w3 : IntKind.u64.wrap 1 = 1 := wrap_all ⟨1, by omega⟩
 refine impl_v ?_
 refine wX (aN m1 <| aN s1 <| aN w1 <| aN w2 w3) ?_
 simp [go_sem, m1, s1, w1, w2, w3]
theorem f122 (n : Nat) (h : n <= 200) : Impl Tryz.prog 122 [.one (.int .u64 1), .one (.int .u64 n)] (.tup [.one (.int .u64 0), .one (.int .u64 n)]) := by
 have k1 := f143 n h
 refine impl_v ?_
 refine wC k1 ?_
 simp [go_sem]
set_option maxHeartbeats 64000000
def half (k n : Nat) : List (List DV) := (List.replicate k (-1 : Int) ++ List.replicate (n - k) 0).map encN
theorem half_len {k n : Nat} (h : k <= n) : (half k n).length = n := by simp [half]; omega
theorem half_flat (k n : Nat) : z_g (half k n) := by
 unfold half
 rw [flatEls_map]
 intro x hx
 rfl
theorem half_one (k n : Nat) : ∀ e ∈ half k n, e.length = 1 := by
 intro e he
 obtain ⟨x, _, rfl⟩ := List.mem_map.1 he
 rfl
theorem flat_take {els : List (List DV)} (h : z_g els) (k : Nat) : z_g (els.take k) := fun e he => h e (List.mem_of_mem_take he)
theorem half_start (n : Nat) : List.take n [[DV.int .i64 (-1)]] ++ List.replicate (n - min 1 n) [DV.int .i64 0] = half (min 1 n) n := by
 cases n with
 | zero => simp [half]
 | succ n =>
   have : min 1 (n + 1) = 1 := by omega
   rw [this]
   simp [half, encN]
theorem half_done (n : Nat) : half n n = (List.replicate n (-1 : Int)).map encN := by simp [half]
theorem half_step {k n : Nat} (h : k <= n) : (half k n).take k ++ (((half k n).take k).take (n - k) ++ (half k n).drop (k + min k (n - k))) = half (k + min k (n - k)) n := by
 have e1 : (half k n).take k = (List.replicate k (-1 : Int)).map encN := by
  unfold half
  rw [<- List.map_take, List.take_left' (by simp)]
 have e2 : (half k n).drop (k + min k (n - k)) = (List.replicate (n - (k + min k (n - k))) (0 : Int)).map encN := by
  unfold half
  rw [<- List.map_drop, <- List.drop_drop, List.drop_left' (by simp)]
  rw [List.drop_replicate]
  congr 2
  omega
 rw [e1, e2]
 unfold half
 rw [<- List.map_take, List.take_replicate, <- List.map_append, <- List.map_append, <- List.append_assoc, List.replicate_append_replicate]
 congr 2
 congr 1
 omega
theorem f104 (n : Nat) (hn : n <= 200) : Impl Tryz.prog 104 [.one (.sl [[.int .i64 (-1)]]), .one (.int .i64 n)] (.one (.one (.ow 1 ((List.replicate n (-1)).map encN)))) := by
 have k1 := f122 n hn
 have w1 : IntKind.u64.wrap (n : Int) = (n : Int) := wrap_all ⟨n, by omega⟩
 have w3 : IntKind.u64.wrap 1 = 1 := wrap_all ⟨1, by omega⟩
 have fr : z_g (List.replicate n [DV.int .i64 0]) := by
  intro e he
  rw [(List.mem_replicate.1 he).2]
  rfl
 have f1 : z_g [[DV.int .i64 (-1)]] := by
  intro e he
  rw [List.mem_singleton.1 he]
  rfl
 have hm : min 1 n <= n := by omega
 have hst := half_start n
 refine impl_z Tryz.func104 z104 Tryz.ntmps104 (by simp) ?_
 simp only [c104, slotsOf]
 repeat' first | refine St.go ?_ | ((with_reducible refine cn ?_ ?_) <;> intro h <;> (try simp at h) <;> try omega) | (refine Ru.go ?_; intro K hK; simp [go_sem, w1, w3]; (try simp (disch := omega) only [wx, z_i]); (first | apply hK | ((first | ((try refine .inl ?_); refine ⟨_, by (try intro hc); (repeat' first | exact k1 | exact hc | refine And.intro ?_ ?_ | simp [go_sem, w1, w3]); first | done | omega, ?_⟩) | refine .inr (.inl ⟨_, by (try intro hc); (repeat' first | exact k1 | exact hc | refine And.intro ?_ ?_ | simp [go_sem, w1, w3]); first | done | omega, ?_⟩) | refine .inr (.inr ⟨_, by (try intro hc); (repeat' first | exact k1 | exact hc | refine And.intro ?_ ?_ | simp [go_sem, w1, w3]); first | done | omega, ?_⟩)); first | apply hK | (refine ⟨by simp [go_sem, w1, w3], ?_⟩; first | apply hK | refine ⟨by simp [go_sem, w1, w3], hK _ _ ?_⟩)) | refine ⟨.one (.one (.bool false)), by simp [go_sem, w1, w3], hK _ _ ?_⟩ | refine ⟨by first | omega | (simp [z_f, z_g, w1, w3, fr, f1]; first | done | omega), ?_⟩ | refine ⟨hK _ ?_, fun h => ?_⟩ | refine ⟨?_, ?_⟩); all_goals ((try apply hK); clear hK K))
 ·exact ⟨fr, f1⟩
 rw [hst]
 refine z_k (fun q e => ∃ k : Nat, k + q = n /\ (n = 0 \/ 1 <= k) /\ e = [(8, .sv (.one (.int .i64 k))), (7, .sv (.one (.ow 1 (half k n))))]) (n - min 1 n) _ ⟨min 1 n, by omega, by omega, rfl⟩ (by simp [go_sem]) ?_
 rintro q e ⟨k, hk, hk1, rfl⟩
 have hl := half_len (show k <= n by omega)
 have hf := half_flat k n
 have hft := flat_take hf k
 have ho := half_one k n
 by_cases hlt : k < n
 ·have hst := half_step (show k <= n by omega)
  repeat' first | refine St.go ?_ | ((with_reducible refine cn ?_ ?_) <;> intro h <;> (try simp at h) <;> try omega) | (refine Ru.go ?_; intro K hK; simp [go_sem, hlt, hl]; (try simp (disch := omega) only [wx, z_i]); (first | apply hK | refine ⟨by first | omega | (simp [z_f, z_g, hlt, hl, hf, hft, ho, hl]; first | done | omega), ?_⟩ | refine ⟨hK _ ?_, fun h => ?_⟩ | refine ⟨?_, ?_⟩); all_goals ((try apply hK); clear hK K))
  ·exact ⟨by omega, ho⟩
  ·exact ⟨by omega, ho⟩
  ·exact ⟨hf, hft, fun e he => ho e (List.mem_of_mem_take he)⟩
  refine z_j (n - (k + min k (n - k))) _ (by omega) ⟨k + min k (n - k), by omega, by omega, rfl⟩ ?_
  simp [go_sem, hst]
 ·have hkn : k = n := by omega
  subst hkn
  rw [half_done] at hl ⊢
  repeat' first | refine St.go ?_ | ((with_reducible refine cn ?_ ?_) <;> intro h <;> (try simp at h) <;> try omega) | (refine Ru.go ?_; intro K hK; simp [go_sem, hl]; (try simp (disch := omega) only [wx, z_i]); (first | apply hK | refine ⟨by first | omega | (simp [z_f, z_g, hl]; first | done | omega), ?_⟩ | refine ⟨hK _ ?_, fun h => ?_⟩ | refine ⟨?_, ?_⟩); all_goals ((try apply hK); clear hK K))
  simp [go_sem]
end Go.Av

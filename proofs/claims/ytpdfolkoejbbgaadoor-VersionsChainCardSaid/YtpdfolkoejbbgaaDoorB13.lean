/- Part of a proof by symbolic walks on plain data. -/
import Derived.Test.YtpdfolkoejbbgaaDoorB12
import Derived.Test.YtpdfolkoejbbgaaDoorB07
set_option linter.unusedVariables false
set_option linter.unusedSimpArgs false
set_option maxHeartbeats 4000000
namespace Go.Av
open Go Go.RowKit Go.Proofs
set_option maxRecDepth 8000
def chainD (two : Bool) : List Dcl := ⟨⟨#[120]⟩, [], 0, [], []⟩ :: (if two then [⟨⟨#[121]⟩, [], 0, [], []⟩] else [])
def chainE (two : Bool) : List Edg := ⟨0, ⟨0, 1, 0⟩, 1, false⟩ :: (if two then [⟨0, ⟨0, 1, 1⟩, 1, false⟩] else [])
def chainG (two : Bool) : Glob := ⟨⟨#[80]⟩, [⟨#[65]⟩, ⟨#[66]⟩], chainD two, 2, 0, 1, chainE two, []⟩
def rawD (d : Dcl) : List DV := [.str d.name, .nil, .int .i64 d.first, .nil, .nil]
def rawG (g : Glob) : List DV := [.str g.name, .sl (g.roles.map encS), .sl (g.decls.map rawD), .int .i64 g.states, .int .i64 g.start, .int .i64 g.end_, .sl (g.edges.map encEd), .nil]
theorem sl_toward {w : World} {S : Nat → Prop} {v : Value} {els els' : List (List DV)} {r : List Nat} (hl : els.map List.length = els'.map List.length) (ht : towardD els.flatten els'.flatten) (h : Cz w S v (.sl els) r) : Cz w S v (.sl els') r := by
 have hlen : els.length = els'.length := by simpa using congrArg List.length hl
 cases h with
 | shNil a c =>
   have : els' = [] := List.eq_nil_of_length_eq_zero (by simpa using hlen.symm)
   subst this
   exact .shNil _ _
 | sh ad n c z _ vs hS hn hc hm hz hcell hcl =>
   refine .sh ad n c z els' vs hS (by omega) hc hm ?_ hcell (towardD_ok hcl ht)
   intro e he
   have : e.length ∈ els'.map List.length := List.mem_map.2 ⟨e, he, rfl⟩
   rw [← hl] at this
   obtain ⟨e', he', h'⟩ := List.mem_map.1 this
   rw [← h']; exact hz e' he'
theorem raw_enc (b : Bool) {w : World} {S : Nat → Prop} {v : Value} {r : List Nat} (h : CzS w S v (.ag (rawG (chainG b))) r) : CzS w S v (.ag (encG (chainG b))) r := by
 cases h with
 | ag vs l r hl =>
   refine .ag _ _ _ ?_
   unfold rawG at hl
   generalize vs.toList = vl at hl
   cases hl with
   | cons _ _ _ _ _ _ h1 hl =>
     cases hl with
     | cons _ _ _ _ _ _ h2 hl =>
       cases hl with
       | cons _ _ _ _ _ _ h3 hl =>
         refine .cons _ _ _ _ _ _ h1 (.cons _ _ _ _ _ _ h2 (.cons _ _ _ _ _ _ (sl_toward ?_ ?_ h3) (towardD_ok hl ?_)))
         ·cases b <;> rfl
         ·cases b <;> simp [chainG, chainD, rawD, encD, towardD, DV.toward]
         ·simp [towardD, DV.toward, chainG]
theorem Impl.less {P : Program} {f : FuncId} {xs ys : List SV} {r : RV} (h : Impl P f xs r) (hxy : ∀ w S vs, CzSL w S vs ys [] → CzSL w S vs xs []) : Impl P f ys r :=
 ⟨h.1, fun w S vs hS hcz => h.2 w S vs hS (hxy w S vs hcz)⟩
theorem raw_pair {f : FuncId} {x y : Bool} {r : RV} (h : Impl Tryd.prog f [.ag (encG (chainG x)), .ag (encG (chainG y))] r) : Impl Tryd.prog f [.ag (rawG (chainG x)), .ag (rawG (chainG y))] r := by
 refine h.less fun w S vs hcz => ?_
 generalize hz : ([] : List Nat) = z at hcz
 cases hcz with
 | cons v x r vs xs rs h1 hs =>
   cases hs with
   | cons v x r vs xs rs h2 hs => exact CzSL.cons _ _ _ _ _ _ (raw_enc _ h1) (CzSL.cons _ _ _ _ _ _ (raw_enc _ h2) hs)
theorem f9 (b : Bool) : Impl Tryd.prog 9 [.one (.bool b)] (.one (.ag (rawG (chainG b)))) := by
 refine impl_z Tryd.func9 z9 Tryd.ntmps9 (by simp) ?_
 simp only [c9, slotsOf]
 cases b with
 | false =>
   repeat' first | refine St.go ?_ | ((with_reducible refine zY (t := ?_) ?hc (fun h => ?_) (fun h => ?_)); (case hc => rfl); all_goals (try simp [go_sem] at h); all_goals try omega) | (refine Ru.go ?_; intro K hK; simp [go_sem]; (first | apply hK | refine ⟨by first | omega | (simp [zf, zg]; first | done | omega), ?_⟩ | refine ⟨hK _ ?_, fun h => ?_⟩ | refine ⟨?_, ?_⟩); all_goals ((try apply hK); clear hK K))
   simp [go_sem, rawG, chainG, chainD, chainE, rawD, encEd, encS]
 | true =>
   have hap1 : zf 5 96 [[.str ⟨#[120]⟩, .nil, .int .i64 0, .nil, .nil]] [[.str ⟨#[121]⟩, .nil, .int .i64 0, .nil, .nil]] := by
    refine ⟨?_, ?_, by omega, ?_, ?_⟩ <;> simp [maxLen, zg, DV.flat]
   have hap2 : zf 6 48 [[.int .i64 0, .int .i64 0, .int .i64 1, .int .i64 0, .int .i64 1, .bool false]] [[.int .i64 0, .int .i64 0, .int .i64 1, .int .i64 1, .int .i64 1, .bool false]] := by
    refine ⟨?_, ?_, by omega, ?_, ?_⟩ <;> simp [maxLen, zg, DV.flat]
   repeat' first | refine St.go ?_ | ((with_reducible refine zY (t := ?_) ?hc (fun h => ?_) (fun h => ?_)); (case hc => rfl); all_goals (try simp [go_sem, hap1, hap2] at h); all_goals try omega) | (refine Ru.go ?_; intro K hK; simp [go_sem, hap1, hap2]; (first | apply hK | refine ⟨by first | omega | (simp [zf, zg, hap1, hap2]; first | done | omega), ?_⟩ | refine ⟨hK _ ?_, fun h => ?_⟩ | refine ⟨?_, ?_⟩); all_goals ((try apply hK); clear hK K))
   simp [go_sem, rawG, chainG, chainD, chainE, rawD, encEd, encS]
theorem cmp_ft : compareV (chainG false) (chainG true) = (cmpTab (chainG false) (chainG true), 0) := by
 kernel_rfl
theorem cmp_tf : compareV (chainG true) (chainG false) = (cmpTab (chainG true) (chainG false), 0) := by
 kernel_rfl
theorem tab_ft : (cmpTab (chainG false) (chainG true)).good = [true, true] ∧ (cmpTab (chainG false) (chainG true)).pairs = [(0, 0), (1, 1)] := by
 constructor <;> kernel_rfl
theorem tab_tf : (cmpTab (chainG true) (chainG false)).good = [false, true, false] := by
 kernel_rfl
end Go.Av
namespace Go.Av
open Go Go.RowKit Go.Proofs
set_option maxRecDepth 8000
theorem sum_mem : ∀ {l : List Nat} {n : Nat}, n ∈ l → n ≤ l.sum
 | a :: l, n, h => by
   rw [List.sum_cons]
   rcases List.mem_cons.1 h with rfl | h
   ·omega
   ·have := sum_mem h; omega
theorem units_mem {l : List Dcl} {d : Dcl} (h : d ∈ l) : d.fields.length + (d.diffs.length + d.equals.length) ≤ units l l.length := by
 unfold units
 rw [List.take_length]
 exact sum_mem (List.mem_map_of_mem (f := fun d : Dcl => d.fields.length + (d.diffs.length + d.equals.length)) h)
theorem few_small {g : Glob} (h : fewG g = true) (hn : ∀ d ∈ g.decls, d.name.size ≤ 1000000000000000) : Small g := by
 simp only [fewG, fewD, Bool.and_eq_true, decide_eq_true_eq] at h
 obtain ⟨⟨⟨⟨h1, h2⟩, h3⟩, h4⟩, h5, h6⟩ := h
 refine ⟨by omega, by omega, fun d hd => ?_, fun d hd => ?_, by omega, by omega⟩
 ·have := units_mem hd; omega
 ·have := units_mem hd; have := hn d hd; omega
theorem few31_small {g : Glob} (h : few31 g = true) (hn : ∀ d ∈ g.decls, d.name.size ≤ 1000000000000000) : Small g := by
 unfold few31 at h
 simp only [Bool.and_eq_true] at h
 exact few_small h.1 hn
theorem chain_small (b : Bool) : Small (chainG b) := by
 constructor <;> cases b <;> (try simp [chainG, chainD, chainE]) <;> decide
theorem interE {x y : Inter} (h1 : x.from_ = y.from_) (h2 : x.to = y.to) (h3 : x.label = y.label) : x = y := by
 cases x; cases y; simp_all
set_option maxHeartbeats 8000000 in
theorem f5 (h109 : H109) : Impl Tryd.prog 5 [] (.one (.one (.bool true))) := by
 have k40 := f9
 have k18a := raw_pair (f7 h109 (chainG false) (chainG true) (chain_small _) (chain_small _))
 have k18b := raw_pair (f7 h109 (chainG true) (chainG false) (chain_small _) (chain_small _))
 rw [cmp_ft] at k18a
 rw [cmp_tf] at k18b
 have k40a := k40 false
 have k40b := k40 true
 have k22 := f8 (cmpTab (chainG false) (chainG true)) 0 ⟨0, 1, 0⟩ (by show (chainE false).length ≤ _; simp [chainE]) (by show (chainE true).length ≤ _; simp [chainE]) (by rw [tab_ft.2]; simp)
 have e8 : afterV (cmpTab (chainG false) (chainG true)) 0 ⟨0, 1, 0⟩ = (1, true) := by kernel_rfl
 rw [e8] at k22
 obtain ⟨T, hT⟩ : ∃ T, cmpTab (chainG false) (chainG true) = T := ⟨_, rfl⟩
 obtain ⟨U, hU⟩ : ∃ U, cmpTab (chainG true) (chainG false) = U := ⟨_, rfl⟩
 have t1 := tab_ft.1
 have t2 := tab_ft.2
 have t3 := tab_tf
 rw [hT] at k18a k22 t1 t2
 rw [hU] at k18b t3
 have eT : encTab T = encG T.old ++ (encG T.new ++ [.sl (T.labels.map encN), .sl [[.int .i64 0, .int .i64 0], [.int .i64 1, .int .i64 1]], .sl [[.bool true], [.bool true]]]) := by
  unfold encTab
  rw [t1, t2]
  rfl
 have eU : encTab U = encG U.old ++ (encG U.new ++ [.sl (U.labels.map encN), .sl (U.pairs.map encEq), .sl [[.bool false], [.bool true], [.bool false]]]) := by
  unfold encTab
  rw [t3]
  rfl
 rw [eT] at k18a k22
 rw [eU] at k18b
 have r1 : rawG (chainG false) = [.str ⟨#[80]⟩, .sl [[.str ⟨#[65]⟩], [.str ⟨#[66]⟩]], .sl [[.str ⟨#[120]⟩, .nil, .int .i64 0, .nil, .nil]], .int .i64 2, .int .i64 0, .int .i64 1, .sl [[.int .i64 0, .int .i64 0, .int .i64 1, .int .i64 0, .int .i64 1, .bool false]], .nil] := rfl
 have r2 : rawG (chainG true) = [.str ⟨#[80]⟩, .sl [[.str ⟨#[65]⟩], [.str ⟨#[66]⟩]], .sl [[.str ⟨#[120]⟩, .nil, .int .i64 0, .nil, .nil], [.str ⟨#[121]⟩, .nil, .int .i64 0, .nil, .nil]], .int .i64 2, .int .i64 0, .int .i64 1, .sl [[.int .i64 0, .int .i64 0, .int .i64 1, .int .i64 0, .int .i64 1, .bool false], [.int .i64 0, .int .i64 0, .int .i64 1, .int .i64 1, .int .i64 1, .bool false]], .nil] := rfl
 rw [r1] at k40a k18a k18b
 rw [r2] at k40b k18a k18b
 simp only [encG, encI, List.cons_append, List.nil_append] at k18a k18b k22
 clear hT hU t1 t2 t3 eT eU k40 e8
 refine impl_z Tryd.func5 z5 Tryd.ntmps5 (by simp) ?_
 simp only [c5, slotsOf]
 repeat' first | refine St.go ?_ | (refine Ru.go ?_; intro K hK; simp [go_sem]; (first | apply hK | ((try refine .inl ?_); refine ⟨_, by (try intro hc); (repeat' first | exact k40a | exact k40b | exact k18a | exact k18b | exact k22 | exact hc | refine And.intro ?_ ?_ | simp [go_sem]); first | done | omega, ?_⟩; first | apply hK | (refine ⟨by simp [go_sem], ?_⟩; first | apply hK | refine ⟨by simp [go_sem], hK _ _ ?_⟩)) | refine ⟨by first | omega | (simp [zf, zg]; first | done | omega), ?_⟩ | refine ⟨hK _ ?_, fun h => ?_⟩ | refine ⟨?_, ?_⟩); all_goals ((try apply hK); clear hK K))
 simp [go_sem]
def GlobA (g : Glob) : Prop := g.decls.length ≤ 1000000000000000 ∧ ∀ d ∈ g.decls, d.name.size ≤ 1000000000000000 ∧ d.fields.length ≤ 1000000000000000 ∧ d.diffs.length ≤ 1000000000000000 ∧ d.equals.length ≤ 1000000000000000
theorem pairs_closed {t : Tab} (hn : numT t) : ∀ p ∈ cmpPairs t, ∀ q ∈ succP t p, q ∈ cmpPairs t := by
 refine bfs_closed (succ_box hn) _ _ _ (by simp) (fun p hp => by rw [List.mem_singleton.1 hp]; exact start_box hn) (fun p hp => by simp at hp) (by simp) ?_
 show sizeP t ≤ _
 omega
theorem pairs_len {t : Tab} (hn : numT t) : (cmpPairs t).length ≤ 40200 := by
 obtain ⟨na1, na2, _⟩ := numbered_facts hn.1
 obtain ⟨nb1, nb2, _⟩ := numbered_facts hn.2
 have h1 : (cmpPairs t).length ≤ sizeP t := box_len (bfs_nodup _ _ _ (by simp)) (bfs_keeps (succ_box hn) _ _ _ (fun p hp => by rw [List.mem_singleton.1 hp]; exact start_box hn))
 have h2 : sizeP t ≤ 40200 := Nat.mul_le_mul (show t.old.states.toNat ≤ 200 by omega) (show t.new.states.toNat + 1 ≤ 201 by omega)
 omega
theorem edge_label {g : Glob} (h : numbered g = true) : ∀ x ∈ g.edges, 0 ≤ x.act.label ∧ x.act.label < g.decls.length := by
 obtain ⟨_, _, _, _, _, _, n7⟩ := numbered_facts h
 intro x hx
 have := n7 x hx
 simp only [okEdge, Bool.and_eq_true, decide_eq_true_eq] at this
 omega
theorem compareV_cases (a b : Glob) : (∃ c, compareV a b = (noTab, c) ∧ c ≠ 0) ∨ (compareV a b = (cmpTab a b, 0) ∧ numT (tab0 a b) ∧ ∀ x ∈ a.edges, 0 ≤ x.act.label ∧ x.act.label < a.decls.length) := by
 unfold compareV
 split
 ·rename_i hv
  split
  ·split
   ·exact .inr ⟨rfl, ⟨(valid_num hv.1).1, (valid_num hv.2).1⟩, edge_label (valid_num hv.1).1⟩
   ·exact .inl ⟨24, rfl, by decide⟩
  ·exact .inl ⟨24, rfl, by decide⟩
 ·exact .inl ⟨1, rfl, by decide⟩
theorem actEq_refl (x : Inter) : actEq x x = true := by simp [actEq]
end Go.Av
namespace Go.Av
open Go Go.RowKit Go.Proofs
set_option maxRecDepth 8000
theorem good_len (t : Tab) (ps : List Pr) : (cmpGood t ps).length = ps.length := by
 unfold cmpGood; rw [del_len]; simp
theorem trues_le (g : List Bool) : trues g ≤ g.length := List.countP_le_length
theorem rows_at {t : Tab} {ps : List Pr} {i : Nat} {p : Pr} (hp : ps[i]? = some p) : (cmpRows t ps)[i]? = some ((succP t p).map (idxP ps)) := by
 unfold cmpRows rowOf
 rw [List.getElem?_map, hp]
 rfl
theorem good_fix {t : Tab} {ps : List Pr} {i : Nat} {p : Pr} (hp : ps[i]? = some p) (hg : (cmpGood t ps)[i]? = some true) :
  initB t p = true ∧ ∀ q ∈ succP t p, (cmpGood t ps)[(idxP ps q).toNat]? = some true := by
 have h1 : (ps.map (initB t))[i]? = some true := del_sub _ _ _ i hg
 rw [List.getElem?_map, hp] at h1
 simp only [Option.map_some, Option.some.injEq] at h1
 refine ⟨h1, fun q hq => ?_⟩
 have hf : firstBad (cmpGood t ps) (cmpRows t ps) = none := del_fix _ _ _ (by have := trues_le (ps.map (initB t)); simpa using this)
 have hb := firstBad_none hf (rows_at (t := t) hp) hg
 unfold badRow at hb
 rw [List.any_eq_false] at hb
 have := hb (idxP ps q) (List.mem_map_of_mem hq)
 cases hd : (cmpGood t ps)[(idxP ps q).toNat]? with
 | none => rw [hd] at this; simp at this
 | some b => rw [hd] at this; simp at this; rw [this]
theorem good_not {t : Tab} {ps : List Pr} {i : Nat} {p : Pr} (hp : ps[i]? = some p) (hi : initB t p = true) (hg : (cmpGood t ps)[i]? = some false) :
  ∃ q ∈ succP t p, (cmpGood t ps)[(idxP ps q).toNat]? ≠ some true := by
 have h1 : (ps.map (initB t))[i]? = some true := by rw [List.getElem?_map, hp]; simp [hi]
 obtain ⟨l, hl, hb⟩ := del_false _ _ _ i h1 hg
 rw [rows_at (t := t) hp] at hl
 injection hl with hl
 subst hl
 unfold badRow at hb
 rw [List.any_eq_true] at hb
 obtain ⟨z, hz, hz2⟩ := hb
 obtain ⟨q, hq, rfl⟩ := List.mem_map.1 hz
 refine ⟨q, hq, fun h => ?_⟩
 have h' : (del (cmpRows t ps) ps.length (ps.map (initB t)))[(idxP ps q).toNat]? = some true := h
 rw [h'] at hz2
 simp at hz2
theorem good_keep {t : Tab} {ps : List Pr} (C : Pr → Prop) (hcl : ∀ p ∈ ps, ∀ q ∈ succP t p, q ∈ ps) (hC : ∀ p ∈ ps, C p → initB t p = true ∧ ∀ q ∈ succP t p, C q) {i : Nat} {p : Pr} (hp : ps[i]? = some p) (h : C p) : (cmpGood t ps)[i]? = some true := by
 refine del_keep (cmpRows t ps) (fun i => ∃ p, ps[i]? = some p ∧ C p) ?_ _ _ ?_ i ⟨p, hp, h⟩
 ·rintro i ⟨p, hp, h⟩ l hl k hk
  rw [rows_at (t := t) hp] at hl
  injection hl with hl
  subst hl
  obtain ⟨q, hq, rfl⟩ := List.mem_map.1 hk
  have hm := List.mem_of_getElem? hp
  exact ⟨q, (idxP_get (hcl p hm q hq)).2.2, (hC p hm h).2 q hq⟩
 ·rintro i ⟨p, hp, h⟩
  rw [List.getElem?_map, hp]
  simp [(hC p (List.mem_of_getElem? hp) h).1]
def goodP (t : Tab) (p : Pr) : Prop := ∃ i : Nat, (cmpPairs t)[i]? = some p ∧ (cmpGood t (cmpPairs t))[i]? = some true
theorem goodP_step {t : Tab} (hn : numT t) {p : Pr} (h : goodP t p) : initB t p = true ∧ ∀ x ∈ t.old.edges, x.from_ = p.1 → goodP t (stepX t p x) := by
 obtain ⟨i, hp, hg⟩ := h
 obtain ⟨h1, h2⟩ := good_fix hp hg
 refine ⟨h1, fun x hx hs => ?_⟩
 have hq : stepX t p x ∈ succP t p := succ_mem.2 ⟨x, hx, hs, rfl⟩
 have hm := pairs_closed hn p (List.mem_of_getElem? hp) _ hq
 exact ⟨_, (idxP_get hm).2.2, h2 _ hq⟩
theorem pairs_zero (t : Tab) : (cmpPairs t)[0]? = some (t.old.start, t.new.start) := by
 unfold cmpPairs
 obtain ⟨l, hl⟩ := bfs_pre (succ := succP t) (sizeP t) 0 [(t.old.start, t.new.start)]
 rw [hl]
 rfl
theorem folE_some {es : List Edg} {s : Int} {a : Inter} {b : Bool} (h : 0 ≤ folE es s a b) : ∃ y ∈ es, y.from_ = s ∧ actEq y.act a = true ∧ y.again = b ∧ y.to = folE es s a b := by
 induction es with
 | nil => exact absurd h (by show ¬ (0 : Int) ≤ -1; decide)
 | cons x es ih =>
   simp only [folE] at h ⊢
   split at h
   ·rename_i hc
    rw [if_pos hc]
    exact ⟨x, by simp, hc.1, hc.2.1, hc.2.2, rfl⟩
   ·rename_i hc
    rw [if_neg hc]
    obtain ⟨y, hy, h'⟩ := ih h
    exact ⟨y, List.mem_cons_of_mem _ hy, h'⟩
theorem actEq_eq {x y : Inter} (h : actEq x y = true) : x = y := by
 simp only [actEq, Bool.and_eq_true, beq_iff_eq] at h
 exact interE h.1.1 h.1.2 h.2
theorem firstB_get {α : Type} {p : α → Bool} {l : List α} (h : 0 ≤ firstB p l) : ∃ x, l[(firstB p l).toNat]? = some x ∧ p x = true := by
 unfold firstB at h ⊢
 cases hf : l.findIdx? p with
 | none => rw [hf] at h; exact absurd h (by decide)
 | some k =>
   have := List.findIdx?_eq_some_iff_getElem.1 hf
   obtain ⟨hk, h1, _⟩ := this
   exact ⟨l[k], by simp [List.getElem?_eq_getElem hk], h1⟩
theorem getD_map {α : Type} (f : α → Int) (l : List α) (i : Nat) (h : i < l.length) : (l.map f).getD i 0 = f l[i] := by
 rw [List.getD_eq_getElem?_getD, List.getElem?_map, List.getElem?_eq_getElem h]
 rfl
theorem ren_two (a b c : Glob) (x : Inter) (h : (renB (tab0 a b).labels x).2 = true) : renB (tab0 b c).labels (renB (tab0 a b).labels x).1 = renB (tab0 a c).labels x := by
 have hr : ∀ (u v : Glob) (y : Inter), renB (tab0 u v).labels y = renB (u.decls.map (labAt v)) y := fun _ _ _ => rfl
 rw [hr] at h
 rw [hr, hr, hr]
 unfold renB at h
 split at h
 ·rename_i hc
  obtain ⟨h1, h2, h3⟩ := hc
  rw [List.length_map] at h2
  have hlt : x.label.toNat < a.decls.length := by omega
  rw [getD_map _ _ _ hlt] at h3
  have e1 : renB (a.decls.map (labAt b)) x = (⟨x.from_, x.to, labAt b a.decls[x.label.toNat]⟩, true) := by
   unfold renB
   rw [getD_map _ _ _ hlt, if_pos ⟨h1, by rw [List.length_map]; exact h2, h3⟩]
  rw [e1]
  obtain ⟨d, hd, hname⟩ := firstB_get (p := fun e : Dcl => e.name == a.decls[x.label.toNat].name) (l := b.decls) h3
  have hd' : b.decls[(labAt b a.decls[x.label.toNat]).toNat]? = some d := hd
  obtain ⟨hk, hkd⟩ := List.getElem?_eq_some_iff.1 hd'
  have hnm : d.name = a.decls[x.label.toNat].name := of_decide_eq_true ((bytes_eq _ _).symm.trans hname)
  have e2 : labAt c d = labAt c a.decls[x.label.toNat] := by unfold labAt; rw [hnm]
  unfold renB
  simp only [List.length_map]
  rw [getD_map _ _ _ hk, getD_map _ _ _ hlt, hkd, e2]
  by_cases h0 : 0 ≤ labAt c a.decls[x.label.toNat]
  ·rw [if_pos ⟨h3, by omega, h0⟩, if_pos ⟨h1, h2, h0⟩]
  ·rw [if_neg (fun hh => h0 hh.2.2), if_neg (fun hh => h0 hh.2.2)]
 ·cases h
theorem chain_good {a b c : Glob} (h1 : numT (tab0 a b)) (h2 : numT (tab0 b c)) (h3 : numT (tab0 a c)) (g1 : (cmpTab a b).good[0]? = some true) (g2 : (cmpTab b c).good[0]? = some true) : (cmpTab a c).good[0]? = some true := by
 refine good_keep (t := tab0 a c) (ps := cmpPairs (tab0 a c)) (fun p => ∃ v, goodP (tab0 a b) (p.1, v) ∧ goodP (tab0 b c) (v, p.2)) (pairs_closed h3) ?_ (pairs_zero _) ⟨b.start, ⟨0, pairs_zero _, g1⟩, ⟨0, pairs_zero _, g2⟩⟩
 rintro ⟨s, u⟩ _ ⟨v, k1, k2⟩
 obtain ⟨i1, s1⟩ := goodP_step h1 k1
 obtain ⟨i2, s2⟩ := goodP_step h2 k2
 refine ⟨?_, ?_⟩
 ·simp only [initB, tab0, Bool.and_eq_true, Bool.or_eq_true, decide_eq_true_eq, Bool.not_eq_true', beq_iff_eq, beq_eq_false_iff_ne] at i1 i2 ⊢
  refine ⟨i2.1, ?_⟩
  by_cases hs : s = a.end_
  ·rcases i1.2 with h | h
   ·exact (h hs).elim
   ·rcases i2.2 with h' | h'
    ·exact (h' h).elim
    ·exact .inr h'
  ·exact .inl hs
 ·intro q hq
  obtain ⟨x, hx, hxs, rfl⟩ := succ_mem.1 hq
  have k3 := s1 x hx hxs
  have i3 := (goodP_step h1 k3).1
  have h0 : 0 ≤ folB (tab0 a b) v x := by
   simp only [initB, stepX, Bool.and_eq_true, decide_eq_true_eq] at i3
   exact of_decide_eq_true i3.1
  have hfb : 0 ≤ v ∧ (renB (tab0 a b).labels x.act).2 = true := by
   unfold folB at h0
   split at h0
   ·assumption
   ·omega
  have hfe : folB (tab0 a b) v x = folE b.edges v (renB (tab0 a b).labels x.act).1 x.again := by
   unfold folB
   rw [if_pos hfb]
   rfl
  rw [hfe] at h0
  obtain ⟨y, hy, y1, y2, y3, y4⟩ := folE_some h0
  have k4 := s2 y hy y1
  have e : folB (tab0 a c) u x = folB (tab0 b c) u y := by
   have hact := actEq_eq y2
   have hr := ren_two a b c x.act hfb.2
   rw [← hact] at hr
   unfold folB
   rw [hr, y3]
   rfl
  refine ⟨y.to, ?_, ?_⟩
  ·show goodP (tab0 a b) (x.to, y.to)
   rw [y4, ← hfe]
   exact k3
  ·show goodP (tab0 b c) (y.to, folB (tab0 a c) u x)
   rw [e]
   exact k4
end Go.Av
namespace Go.Av
open Go Go.RowKit Go.Proofs
set_option maxRecDepth 8000
theorem isP_beq (q x : Pr) : isP q x = (x == q) := by
 rw [Bool.eq_iff_iff]
 simp [isP, Prod.ext_iff]
theorem find_idx {q : Pr} : ∀ {l : List Pr}, q ∈ l → l.findIdx? (isP q) = some (l.idxOf q)
 | x :: l, h => by
   rw [List.findIdx?_cons, List.idxOf_cons, isP_beq]
   cases e : (x == q) with
   | true => simp
   | false =>
     have hne : ¬ x = q := by simpa using e
     have hm : q ∈ l := by
      rcases List.mem_cons.1 h with h | h
      ·exact (hne h.symm).elim
      ·exact h
     rw [find_idx hm]
     simp
theorem placeB_in {t : Tab} {q : Pr} (h : q ∈ t.pairs) : placeB t q = idxP t.pairs q := by
 unfold placeB firstB idxP
 rw [find_idx h]
theorem find_self {g : Glob} (ho : orderedB g true = true) {x : Edg} (hx : x ∈ g.edges) : g.edges.find? (atE x.from_ x.act) = some x := by
 have hself : atE x.from_ x.act x = true := by simp [atE, actEq_refl]
 cases hf : g.edges.find? (atE x.from_ x.act) with
 | none => exact absurd hself (by simpa using List.find?_eq_none.1 hf x hx)
 | some y =>
   have hy := List.mem_of_find?_eq_some hf
   have hya := List.find?_some hf
   obtain ⟨i, hi, rfl⟩ := List.mem_iff_getElem.1 hx
   obtain ⟨k, hk, rfl⟩ := List.mem_iff_getElem.1 hy
   by_cases e : i = k
   ·subst e; rfl
   ·unfold orderedB at ho
    have h1 := List.all_eq_true.1 ho i (List.mem_range.2 hi)
    rw [ordAt_get hi] at h1
    simp only [Bool.and_eq_true] at h1
    have h2 := h1.2
    unfold okRow at h2
    have h3 := List.all_eq_true.1 h2 k (List.mem_range.2 hk)
    unfold okPr at h3
    rw [List.getElem?_eq_getElem hk] at h3
    simp only [Bool.and_eq_true, Bool.not_eq_true'] at h3
    have h4 := h3.1
    simp only [atE, Bool.and_eq_true, beq_iff_eq] at hya
    have e1 := actEq_eq hya.2
    have e2 : (i == k) = false := by simpa using e
    rw [bad1, e2, hya.1, e1, actEq_refl] at h4
    simp at h4
theorem valid_ord {g : Glob} (h : valid29 g = true) : orderedB g true = true := by
 unfold valid29 at h
 simp only [Bool.and_eq_true] at h
 exact h.1.1.1.2
def nextI (T : Tab) (p : Pr) (x : Edg) : Int := idxP T.pairs (stepX T p x)
theorem step_in {a b : Glob} (hn : numT (tab0 a b)) {p : Pr} (hp : p ∈ (cmpTab a b).pairs) {x : Edg} (hx : x ∈ a.edges) (hs : x.from_ = p.1) : stepX (cmpTab a b) p x ∈ (cmpTab a b).pairs :=
 pairs_closed hn p hp _ (succ_mem.2 ⟨x, hx, hs, rfl⟩)
theorem after_at {a b : Glob} (hn : numT (tab0 a b)) (ho : orderedB a true = true) {i : Nat} {p : Pr} (hp : (cmpTab a b).pairs[i]? = some p) {x : Edg} (hx : x ∈ a.edges) (hs : x.from_ = p.1) : afterV (cmpTab a b) i x.act = (nextI (cmpTab a b) p x, true) := by
 have hm := step_in hn (List.mem_of_getElem? hp) hx hs
 have hpl := placeB_in (t := cmpTab a b) hm
 have h0 : 0 ≤ idxP (cmpTab a b).pairs (stepX (cmpTab a b) p x) := (idxP_get hm).1
 have hf : (cmpTab a b).old.edges.find? (atE p.1 x.act) = some x := by rw [← hs]; exact find_self ho hx
 have : afterP (cmpTab a b) i x.act = some (nextI (cmpTab a b) p x) := by
  unfold afterP
  rw [if_pos (by omega : (0 : Int) ≤ (i : Int)), Int.toNat_natCast, hp]
  simp only [hf, Option.map_some]
  exact congrArg some hpl
 unfold afterV
 rw [this]
 show (max (nextI (cmpTab a b) p x) 0, decide (0 ≤ nextI (cmpTab a b) p x)) = _
 have h0' : 0 ≤ nextI (cmpTab a b) p x := h0
 rw [decide_eq_true h0', Int.max_eq_left h0']
theorem next_lt {a b : Glob} (hn : numT (tab0 a b)) {p : Pr} (hp : p ∈ (cmpTab a b).pairs) {x : Edg} (hx : x ∈ a.edges) (hs : x.from_ = p.1) : 0 ≤ nextI (cmpTab a b) p x ∧ (nextI (cmpTab a b) p x).toNat < (cmpTab a b).pairs.length ∧ (cmpTab a b).pairs[(nextI (cmpTab a b) p x).toNat]? = some (stepX (cmpTab a b) p x) :=
 idxP_get (step_in hn hp hx hs)
def edgeG (T : Tab) (p : Pr) (x : Edg) : Bool := !(x.from_ == p.1) || (decide (0 ≤ (stepX T p x).2) && (T.good[(nextI T p x).toNat]?.getD false))
def lawG (T : Tab) (p : Pr) (k : Nat) : Bool := initB T p && (T.old.edges.take k).all (edgeG T p)
theorem lawG_succ {T : Tab} {p : Pr} {k : Nat} (h : k < T.old.edges.length) : lawG T p (k + 1) = (lawG T p k && edgeG T p T.old.edges[k]) := by
 unfold lawG
 rw [List.take_succ_eq_append_getElem h, List.all_append]
 simp [Bool.and_assoc]
theorem lawG_eq {a b : Glob} (hn : numT (tab0 a b)) {i : Nat} {p : Pr} (hp : (cmpTab a b).pairs[i]? = some p) : (cmpTab a b).good[i]? = some (lawG (cmpTab a b) p a.edges.length) := by
 have hp' : (cmpPairs (tab0 a b))[i]? = some p := hp
 obtain ⟨hi, _⟩ := List.getElem?_eq_some_iff.1 hp'
 have hlen := good_len (tab0 a b) (cmpPairs (tab0 a b))
 obtain ⟨g, hg⟩ : ∃ g, (cmpGood (tab0 a b) (cmpPairs (tab0 a b)))[i]? = some g := ⟨_, List.getElem?_eq_getElem (by omega)⟩
 show (cmpGood (tab0 a b) (cmpPairs (tab0 a b)))[i]? = _
 rw [hg]
 congr 1
 have hmem := List.mem_of_getElem? hp'
 have hall : lawG (cmpTab a b) p a.edges.length = (initB (cmpTab a b) p && a.edges.all (edgeG (cmpTab a b) p)) := by
  unfold lawG
  rw [show (cmpTab a b).old.edges.take a.edges.length = a.edges from List.take_length]
 rw [hall]
 cases g with
 | true =>
   obtain ⟨h1, h2⟩ := good_fix hp' hg
   symm
   rw [Bool.and_eq_true, List.all_eq_true]
   refine ⟨h1, fun x hx => ?_⟩
   unfold edgeG
   by_cases hs : x.from_ = p.1
   ·have hq : stepX (tab0 a b) p x ∈ succP (tab0 a b) p := succ_mem.2 ⟨x, hx, hs, rfl⟩
    have h3 := h2 _ hq
    have hm := pairs_closed hn p hmem _ hq
    have h4 := (good_fix (idxP_get hm).2.2 h3).1
    simp only [initB, Bool.and_eq_true, decide_eq_true_eq] at h4
    have h5 : (cmpTab a b).good[(nextI (cmpTab a b) p x).toNat]? = some true := h3
    rw [h5]
    have h6 : 0 ≤ (stepX (cmpTab a b) p x).2 := h4.1
    simp [h6]
   ·simp [hs]
 | false =>
   symm
   cases hl : (initB (cmpTab a b) p && a.edges.all (edgeG (cmpTab a b) p)) with
   | false => rfl
   | true =>
     rw [Bool.and_eq_true, List.all_eq_true] at hl
     obtain ⟨q, hq, hng⟩ := good_not hp' hl.1 hg
     obtain ⟨x, hx, hs, rfl⟩ := succ_mem.1 hq
     have h1 := hl.2 x hx
     unfold edgeG at h1
     simp only [hs, beq_self_eq_true, Bool.not_true, Bool.false_or, Bool.and_eq_true] at h1
     have h2 := h1.2
     refine (hng ?_).elim
     have h3 : (cmpGood (tab0 a b) (cmpPairs (tab0 a b)))[(idxP (cmpPairs (tab0 a b)) (stepX (tab0 a b) p x)).toNat]?.getD false = true := h2
     cases hd : (cmpGood (tab0 a b) (cmpPairs (tab0 a b)))[(idxP (cmpPairs (tab0 a b)) (stepX (tab0 a b) p x)).toNat]? with
     | none => rw [hd] at h3; simp at h3
     | some b' => rw [hd] at h3; simp at h3; rw [h3] at hd; exact hd
end Go.Av
namespace Go.Av
open Go Go.RowKit Go.Proofs
set_option maxRecDepth 8000
set_option maxHeartbeats 16000000 in
theorem f3 (h109 : H109) (a b : Glob) (ha : GlobA a) (hb : GlobA b) : Impl Tryd.prog 3 [.ag (encG a), .ag (encG b)] (.one (.one (.bool true))) := by
 have k5 := f5 h109
 have k6a := f6 a ha.1 (fun d hd => (ha.2 d hd).2)
 have k6b := f6 b hb.1 (fun d hd => (hb.2 d hd).2)
 simp only [encG] at k6a k6b
 refine impl_z Tryd.func3 z3 Tryd.ntmps3 (by simp) ?_
 simp only [c3, slotsOf]
 by_cases hf : few31 a = true ∧ few31 b = true
 rotate_left
 ·cases fa : few31 a with
  | false =>
    rw [fa] at k6a
    repeat' first | refine St.go ?_ | ((with_reducible refine zY (t := ?_) ?hc (fun h => ?_) (fun h => ?_)); (case hc => rfl); all_goals (try simp [go_sem, encG] at h); all_goals try omega) | (refine Ru.go ?_; intro K hK; simp [go_sem, encG]; (try simp (disch := omega) only [zh, zi, eq_self, true_and]); (first | apply hK | ((try refine .inl ?_); refine ⟨_, by (try intro hc); (repeat' first | exact k5 | exact k6a | exact hc | refine And.intro ?_ ?_ | simp [go_sem, encG]); first | done | omega, ?_⟩; first | apply hK | (refine ⟨by simp [go_sem, encG], ?_⟩; first | apply hK | refine ⟨by simp [go_sem, encG], hK _ _ ?_⟩)) | refine ⟨.one (.one (.bool false)), by simp [go_sem, encG], hK _ _ ?_⟩ | refine ⟨by first | omega | (simp [zf, zg, encG]; first | done | omega), ?_⟩ | refine ⟨hK _ ?_, fun h => ?_⟩ | refine ⟨?_, ?_⟩); all_goals ((try apply hK); clear hK K))
    simp [go_sem]
  | true =>
    rw [fa] at k6a
    have fb : few31 b = false := by
     cases h : few31 b
     ·rfl
     ·exact (hf ⟨fa, h⟩).elim
    rw [fb] at k6b
    repeat' first | refine St.go ?_ | ((with_reducible refine zY (t := ?_) ?hc (fun h => ?_) (fun h => ?_)); (case hc => rfl); all_goals (try simp [go_sem, encG] at h); all_goals try omega) | (refine Ru.go ?_; intro K hK; simp [go_sem, encG]; (try simp (disch := omega) only [zh, zi, eq_self, true_and]); (first | apply hK | ((try refine .inl ?_); refine ⟨_, by (try intro hc); (repeat' first | exact k5 | exact k6a | exact k6b | exact hc | refine And.intro ?_ ?_ | simp [go_sem, encG]); first | done | omega, ?_⟩; first | apply hK | (refine ⟨by simp [go_sem, encG], ?_⟩; first | apply hK | refine ⟨by simp [go_sem, encG], hK _ _ ?_⟩)) | refine ⟨.one (.one (.bool false)), by simp [go_sem, encG], hK _ _ ?_⟩ | refine ⟨by first | omega | (simp [zf, zg, encG]; first | done | omega), ?_⟩ | refine ⟨hK _ ?_, fun h => ?_⟩ | refine ⟨?_, ?_⟩); all_goals ((try apply hK); clear hK K))
    simp [go_sem]
 obtain ⟨fa, fb⟩ := hf
 rw [fa] at k6a
 rw [fb] at k6b
 have sa := few31_small (g := a) fa fun d hd => (ha.2 d hd).1
 have sb := few31_small (g := b) fb fun d hd => (hb.2 d hd).1
 have k7 := f7 h109 a b sa sb
 rcases compareV_cases a b with ⟨x, hx, hne⟩ | ⟨hx, hn, _⟩
 ·rw [hx] at k7
  have hne2 : (x != 0) = true := by simpa using hne
  simp only [encTab, noTab, encG, noG, List.cons_append, List.nil_append, List.map_nil] at k7
  repeat' first | refine St.go ?_ | ((with_reducible refine zY (t := ?_) ?hc (fun h => ?_) (fun h => ?_)); (case hc => rfl); all_goals (try simp [go_sem, encG, hne, hne2] at h); all_goals try omega) | (refine Ru.go ?_; intro K hK; simp [go_sem, encG, hne, hne2]; (try simp (disch := omega) only [zh, zi, eq_self, true_and]); (first | apply hK | ((try refine .inl ?_); refine ⟨_, by (try intro hc); (repeat' first | exact k5 | exact k6a | exact k6b | exact k7 | exact hc | refine And.intro ?_ ?_ | simp [go_sem, encG, hne, hne2]); first | done | omega, ?_⟩; first | apply hK | (refine ⟨by simp [go_sem, encG, hne, hne2], ?_⟩; first | apply hK | refine ⟨by simp [go_sem, encG, hne, hne2], hK _ _ ?_⟩)) | refine ⟨.one (.one (.bool false)), by simp [go_sem, encG, hne, hne2], hK _ _ ?_⟩ | refine ⟨by first | omega | (simp [zf, zg, encG, hne, hne2]; first | done | omega), ?_⟩ | refine ⟨hK _ ?_, fun h => ?_⟩ | refine ⟨?_, ?_⟩); all_goals ((try apply hK); clear hK K))
  simp [go_sem]
 have hord : orderedB a true = true := by
  unfold compareV at hx
  split at hx
  ·rename_i hv
   exact valid_ord hv.1
  ·have := congrArg Prod.snd hx
   simp at this
 rw [hx] at k7
 have hgl : (cmpTab a b).good.length = (cmpTab a b).pairs.length := good_len _ _
 have haft := fun (i : Nat) (p : Pr) (hp : (cmpTab a b).pairs[i]? = some p) (x : Edg) (hx : x ∈ a.edges) (hs : x.from_ = p.1) => after_at hn hord hp hx hs
 have hlt := fun (p : Pr) (hp : p ∈ (cmpTab a b).pairs) (x : Edg) (hx : x ∈ a.edges) (hs : x.from_ = p.1) => next_lt hn hp hx hs
 have hlaw := fun (i : Nat) (p : Pr) (hp : (cmpTab a b).pairs[i]? = some p) => lawG_eq hn hp
 have hpl : (cmpTab a b).pairs.length ≤ 1000000 := Nat.le_trans (pairs_len hn) (by decide)
 have ho : (cmpTab a b).old = a := rfl
 have hw : (cmpTab a b).new = b := rfl
 generalize cmpTab a b = T at *
 have k8 : ∀ (q : Nat) (x : Inter), Impl Tryd.prog 8 [.ag (encTab T), .one (.int .i64 q), .ag (encI x)] (.tup [.one (.int .i64 (afterV T q x).1), .one (.bool (afterV T q x).2)]) := fun q x => f8 T q x (by rw [ho]; have := sa.edges; omega) (by rw [hw]; have := sb.edges; omega) hpl
 subst ho
 subst hw
 have se := sa.edges
 simp only [encTab, encG, encI, List.cons_append, List.nil_append] at k7 k8
 repeat' first | refine St.go ?_ | ((with_reducible refine zY (t := ?_) ?hc (fun h => ?_) (fun h => ?_)); (case hc => rfl); all_goals (try simp [go_sem, encG] at h); all_goals try omega) | (refine Ru.go ?_; intro K hK; simp [go_sem, encG]; (try simp (disch := omega) only [zh, zi, eq_self, true_and]); (first | apply hK | ((try refine .inl ?_); refine ⟨_, by (try intro hc); (repeat' first | exact k5 | exact k6a | exact k6b | exact k7 | exact hc | refine And.intro ?_ ?_ | simp [go_sem, encG]); first | done | omega, ?_⟩; first | apply hK | (refine ⟨by simp [go_sem, encG], ?_⟩; first | apply hK | refine ⟨by simp [go_sem, encG], hK _ _ ?_⟩)) | refine ⟨.one (.one (.bool false)), by simp [go_sem, encG], hK _ _ ?_⟩ | refine ⟨by first | omega | (simp [zf, zg, encG]; first | done | omega), ?_⟩ | refine ⟨hK _ ?_, fun h => ?_⟩ | refine ⟨?_, ?_⟩); all_goals ((try apply hK); clear hK K))
 refine zk (fun n e => ∃ i : Nat, i + n = T.pairs.length ∧ e = [(38, .sv (.one (.int .i64 i))), (37, .sv (.one (.int .i64 T.pairs.length))), (36, .sv (.one (.sl (T.pairs.map encEq)))), (5, .sv (.one (.bx (encTab T)))), (4, .sv (.one (.bool false))), (3, .sv (.one (.bx (encG T.new)))), (2, .sv (.one (.bx (encG T.old))))]) T.pairs.length _ ⟨0, by simp, rfl⟩ (by simp [go_sem, encTab, encG, encEq]) ?_
 rintro n e ⟨i, hi, rfl⟩
 by_cases hli : i < T.pairs.length
 ·obtain ⟨⟨p1, p2⟩, hp⟩ : ∃ p, T.pairs[i] = p := ⟨_, rfl⟩
  have hpq : T.pairs[i]? = some (p1, p2) := by rw [List.getElem?_eq_getElem hli, hp]
  have hpm : (p1, p2) ∈ T.pairs := List.mem_of_getElem? hpq
  have hlg : i < T.good.length := by omega
  have hgi : T.good[i] = lawG T (p1, p2) T.old.edges.length := by
   have := hlaw i (p1, p2) hpq
   rw [List.getElem?_eq_getElem hlg] at this
   exact Option.some.inj this
  refine zl [(39, .sv (.one (.bool true))), (38, .sv (.one (.int .i64 i))), (37, .sv (.one (.int .i64 T.pairs.length))), (36, .sv (.one (.sl (T.pairs.map encEq)))), (5, .sv (.one (.bx (encTab T)))), (4, .sv (.one (.bool false))), (3, .sv (.one (.bx (encG T.new)))), (2, .sv (.one (.bx (encG T.old))))] ?_ ?_
  ·skip
   repeat' first | refine St.go ?_ | ((with_reducible refine zY (t := ?_) ?hc (fun h => ?_) (fun h => ?_)); (case hc => rfl); all_goals (try simp [go_sem, hli, encTab, encG] at h); all_goals try omega) | (refine Ru.go ?_; intro K hK; simp [go_sem, hli, encTab, encG]; (try simp (disch := omega) only [zh, zi, eq_self, true_and]); (first | apply hK | refine ⟨by first | omega | (simp [zf, zg, hli, encTab, encG]; first | done | omega), ?_⟩ | refine ⟨hK _ ?_, fun h => ?_⟩ | refine ⟨?_, ?_⟩); all_goals ((try apply hK); clear hK K))
   refine zm ?_
   simp [go_sem, encTab, encG]
  refine zl [(38, .sv (.one (.int .i64 i))), (37, .sv (.one (.int .i64 T.pairs.length))), (36, .sv (.one (.sl (T.pairs.map encEq)))), (5, .sv (.one (.bx (encTab T)))), (4, .sv (.one (.bool false))), (3, .sv (.one (.bx (encG T.new)))), (2, .sv (.one (.bx (encG T.old))))] ?_ ?_
  ·skip
   repeat' first | refine St.go ?_ | ((with_reducible refine zY (t := ?_) ?hc (fun h => ?_) (fun h => ?_)); (case hc => rfl); all_goals (try simp [go_sem, encTab, encG] at h); all_goals try omega) | (refine Ru.go ?_; intro K hK; simp [go_sem, encTab, encG]; (try simp (disch := omega) only [zh, zi, eq_self, true_and]); (first | apply hK | refine ⟨by first | omega | (simp [zf, zg, encTab, encG]; first | done | omega), ?_⟩ | refine ⟨hK _ ?_, fun h => ?_⟩ | refine ⟨?_, ?_⟩); all_goals ((try apply hK); clear hK K))
   refine zm ?_
   simp [go_sem, encTab, encG]
  refine zl [(38, .sv (.one (.int .i64 i))), (37, .sv (.one (.int .i64 T.pairs.length))), (36, .sv (.one (.sl (T.pairs.map encEq)))), (5, .sv (.one (.bx (encTab T)))), (4, .sv (.one (.bool false))), (3, .sv (.one (.bx (encG T.new)))), (2, .sv (.one (.bx (encG T.old))))] ?_ ?_
  ·refine zC ?_
   refine zl [(8, .sv (.one (.bx [.int .i64 p1, .int .i64 p2]))), (7, .sv (.one (.int .i64 i))), (38, .sv (.one (.int .i64 i))), (37, .sv (.one (.int .i64 T.pairs.length))), (36, .sv (.one (.sl (T.pairs.map encEq)))), (5, .sv (.one (.bx (encTab T)))), (4, .sv (.one (.bool false))), (3, .sv (.one (.bx (encG T.new)))), (2, .sv (.one (.bx (encG T.old))))] ?_ ?_
   ·skip
    repeat' first | refine St.go ?_ | ((with_reducible refine zY (t := ?_) ?hc (fun h => ?_) (fun h => ?_)); (case hc => rfl); all_goals (try simp [go_sem, hli, hp, encEq, encTab, encG] at h); all_goals try omega) | (refine Ru.go ?_; intro K hK; simp [go_sem, hli, hp, encEq, encTab, encG]; (try simp (disch := omega) only [zh, zi, eq_self, true_and]); (first | apply hK | refine ⟨by first | omega | (simp [zf, zg, hli, hp, encEq, encTab, encG]; first | done | omega), ?_⟩ | refine ⟨hK _ ?_, fun h => ?_⟩ | refine ⟨?_, ?_⟩); all_goals ((try apply hK); clear hK K))
    refine zm ?_
    simp [go_sem, encTab, encG, encEq]
   refine zl [(9, .sv (.one (.bool (initB T (p1, p2))))), (8, .sv (.one (.bx [.int .i64 p1, .int .i64 p2]))), (7, .sv (.one (.int .i64 i))), (38, .sv (.one (.int .i64 i))), (37, .sv (.one (.int .i64 T.pairs.length))), (36, .sv (.one (.sl (T.pairs.map encEq)))), (5, .sv (.one (.bx (encTab T)))), (4, .sv (.one (.bool false))), (3, .sv (.one (.bx (encG T.new)))), (2, .sv (.one (.bx (encG T.old))))] ?_ ?_
   ·by_cases h1 : 0 ≤ p2
    ·by_cases h2 : p1 = T.old.end_
     ·by_cases h3 : p2 = T.new.end_
      ·have hv : initB T (p1, p2) = true := by simp [initB, h1, h2, h3]; omega
       rw [hv]
       repeat' first | refine St.go ?_ | ((with_reducible refine zY (t := ?_) ?hc (fun h => ?_) (fun h => ?_)); (case hc => rfl); all_goals (try simp [go_sem, h1, h2, h3, encTab, encG] at h); all_goals try omega) | (refine Ru.go ?_; intro K hK; simp [go_sem, h1, h2, h3, encTab, encG]; (try simp (disch := omega) only [zh, zi, eq_self, true_and]); (first | apply hK | refine ⟨by first | omega | (simp [zf, zg, h1, h2, h3, encTab, encG]; first | done | omega), ?_⟩ | refine ⟨hK _ ?_, fun h => ?_⟩ | refine ⟨?_, ?_⟩); all_goals ((try apply hK); clear hK K))
       refine zm ?_
       simp [go_sem, encTab, encG, h2, h3]
       all_goals omega
      ·have hv : initB T (p1, p2) = false := by simp [initB, h1, h2, h3]
       rw [hv]
       repeat' first | refine St.go ?_ | ((with_reducible refine zY (t := ?_) ?hc (fun h => ?_) (fun h => ?_)); (case hc => rfl); all_goals (try simp [go_sem, h1, h2, h3, encTab, encG] at h); all_goals try omega) | (refine Ru.go ?_; intro K hK; simp [go_sem, h1, h2, h3, encTab, encG]; (try simp (disch := omega) only [zh, zi, eq_self, true_and]); (first | apply hK | refine ⟨by first | omega | (simp [zf, zg, h1, h2, h3, encTab, encG]; first | done | omega), ?_⟩ | refine ⟨hK _ ?_, fun h => ?_⟩ | refine ⟨?_, ?_⟩); all_goals ((try apply hK); clear hK K))
       refine zm ?_
       simp [go_sem, encTab, encG, h2]
       all_goals omega
     ·have hv : initB T (p1, p2) = true := by simp [initB, h1, h2]
      rw [hv]
      by_cases h3 : p2 = T.new.end_
      ·skip
       repeat' first | refine St.go ?_ | ((with_reducible refine zY (t := ?_) ?hc (fun h => ?_) (fun h => ?_)); (case hc => rfl); all_goals (try simp [go_sem, h1, h2, h3, encTab, encG] at h); all_goals try omega) | (refine Ru.go ?_; intro K hK; simp [go_sem, h1, h2, h3, encTab, encG]; (try simp (disch := omega) only [zh, zi, eq_self, true_and]); (first | apply hK | refine ⟨by first | omega | (simp [zf, zg, h1, h2, h3, encTab, encG]; first | done | omega), ?_⟩ | refine ⟨hK _ ?_, fun h => ?_⟩ | refine ⟨?_, ?_⟩); all_goals ((try apply hK); clear hK K))
       refine zm ?_
       simp [go_sem, encTab, encG, h3]
       all_goals omega
      ·skip
       repeat' first | refine St.go ?_ | ((with_reducible refine zY (t := ?_) ?hc (fun h => ?_) (fun h => ?_)); (case hc => rfl); all_goals (try simp [go_sem, h1, h2, h3, encTab, encG] at h); all_goals try omega) | (refine Ru.go ?_; intro K hK; simp [go_sem, h1, h2, h3, encTab, encG]; (try simp (disch := omega) only [zh, zi, eq_self, true_and]); (first | apply hK | refine ⟨by first | omega | (simp [zf, zg, h1, h2, h3, encTab, encG]; first | done | omega), ?_⟩ | refine ⟨hK _ ?_, fun h => ?_⟩ | refine ⟨?_, ?_⟩); all_goals ((try apply hK); clear hK K))
       refine zm ?_
       simp [go_sem, encTab, encG]
       all_goals omega
    ·have hv : initB T (p1, p2) = false := by simp [initB, h1]
     rw [hv]
     by_cases h2 : p1 = T.old.end_
     ·skip
      repeat' first | refine St.go ?_ | ((with_reducible refine zY (t := ?_) ?hc (fun h => ?_) (fun h => ?_)); (case hc => rfl); all_goals (try simp [go_sem, h1, h2, encTab, encG] at h); all_goals try omega) | (refine Ru.go ?_; intro K hK; simp [go_sem, h1, h2, encTab, encG]; (try simp (disch := omega) only [zh, zi, eq_self, true_and]); (first | apply hK | refine ⟨by first | omega | (simp [zf, zg, h1, h2, encTab, encG]; first | done | omega), ?_⟩ | refine ⟨hK _ ?_, fun h => ?_⟩ | refine ⟨?_, ?_⟩); all_goals ((try apply hK); clear hK K))
      refine zm ?_
      simp [go_sem, encTab, encG, h2]
      all_goals omega
     ·skip
      repeat' first | refine St.go ?_ | ((with_reducible refine zY (t := ?_) ?hc (fun h => ?_) (fun h => ?_)); (case hc => rfl); all_goals (try simp [go_sem, h1, h2, encTab, encG] at h); all_goals try omega) | (refine Ru.go ?_; intro K hK; simp [go_sem, h1, h2, encTab, encG]; (try simp (disch := omega) only [zh, zi, eq_self, true_and]); (first | apply hK | refine ⟨by first | omega | (simp [zf, zg, h1, h2, encTab, encG]; first | done | omega), ?_⟩ | refine ⟨hK _ ?_, fun h => ?_⟩ | refine ⟨?_, ?_⟩); all_goals ((try apply hK); clear hK K))
      refine zm ?_
      simp [go_sem, encTab, encG]
      all_goals omega
   have hz : initB T (p1, p2) = lawG T (p1, p2) 0 := by simp [lawG]
   rw [hz]
   refine zl [(9, .sv (.one (.bool (lawG T (p1, p2) T.old.edges.length)))), (8, .sv (.one (.bx [.int .i64 p1, .int .i64 p2]))), (7, .sv (.one (.int .i64 i))), (38, .sv (.one (.int .i64 i))), (37, .sv (.one (.int .i64 T.pairs.length))), (36, .sv (.one (.sl (T.pairs.map encEq)))), (5, .sv (.one (.bx (encTab T)))), (4, .sv (.one (.bool false))), (3, .sv (.one (.bx (encG T.new)))), (2, .sv (.one (.bx (encG T.old))))] ?_ ?_
   ·skip
    repeat' first | refine St.go ?_ | ((with_reducible refine zY (t := ?_) ?hc (fun h => ?_) (fun h => ?_)); (case hc => rfl); all_goals (try simp [go_sem, encTab, encG] at h); all_goals try omega) | (refine Ru.go ?_; intro K hK; simp [go_sem, encTab, encG]; (try simp (disch := omega) only [zh, zi, eq_self, true_and]); (first | apply hK | refine ⟨by first | omega | (simp [zf, zg, encTab, encG]; first | done | omega), ?_⟩ | refine ⟨hK _ ?_, fun h => ?_⟩ | refine ⟨?_, ?_⟩); all_goals ((try apply hK); clear hK K))
    refine zk (fun m e => ∃ k : Nat, k + m = T.old.edges.length ∧ e = [(63, .sv (.one (.int .i64 k))), (62, .sv (.one (.int .i64 T.old.edges.length))), (61, .sv (.one (.sl (T.old.edges.map encEd)))), (9, .sv (.one (.bool (lawG T (p1, p2) k)))), (8, .sv (.one (.bx [.int .i64 p1, .int .i64 p2]))), (7, .sv (.one (.int .i64 i))), (38, .sv (.one (.int .i64 i))), (37, .sv (.one (.int .i64 T.pairs.length))), (36, .sv (.one (.sl (T.pairs.map encEq)))), (5, .sv (.one (.bx (encTab T)))), (4, .sv (.one (.bool false))), (3, .sv (.one (.bx (encG T.new)))), (2, .sv (.one (.bx (encG T.old))))]) T.old.edges.length _ ⟨0, by simp, rfl⟩ (by simp [go_sem, encTab, encG, encEq]) ?_
    rintro m e ⟨k, hk, rfl⟩
    by_cases hkl : k < T.old.edges.length
    ·obtain ⟨x, hx⟩ : ∃ x, T.old.edges[k] = x := ⟨_, rfl⟩
     have hxm : x ∈ T.old.edges := hx ▸ List.getElem_mem hkl
     have hs := lawG_succ (T := T) (p := (p1, p2)) hkl
     rw [hx] at hs
     by_cases hf : x.from_ = p1
     ·have ha1 := haft i (p1, p2) hpq x hxm hf
      have hl1 := hlt (p1, p2) hpm x hxm hf
      have j8 := k8 i x.act
      rw [ha1] at j8
      obtain ⟨v, hv⟩ : ∃ v, nextI T (p1, p2) x = v := ⟨_, rfl⟩
      obtain ⟨⟨s1, s2⟩, hst⟩ : ∃ s, stepX T (p1, p2) x = s := ⟨_, rfl⟩
      rw [hv] at hl1 j8
      rw [hst] at hl1
      obtain ⟨v0, v1, v2⟩ := hl1
      have v3 : T.pairs[v.toNat] = (s1, s2) := by
       rw [List.getElem?_eq_getElem v1] at v2
       exact Option.some.inj v2
      have v4 : v.toNat < T.good.length := by omega
      have v5 : v < T.pairs.length := by omega
      obtain ⟨gv, hgv⟩ : ∃ gv, T.good[v.toNat] = gv := ⟨_, rfl⟩
      have he : edgeG T (p1, p2) x = (decide (0 ≤ s2) && gv) := by
       unfold edgeG
       rw [hst, hv, List.getElem?_eq_getElem v4, hgv]
       simp [hf]
      rw [he] at hs
      cases hlk : lawG T (p1, p2) k with
      | false =>
        rw [hlk] at hs
        by_cases h0 : 0 ≤ s2
        ·skip
         repeat' first | refine St.go ?_ | ((with_reducible refine zY (t := ?_) ?hc (fun h => ?_) (fun h => ?_)); (case hc => rfl); all_goals (try simp [go_sem, hkl, hx, hf, v0, v1, v3, v4, v5, hgv, h0, encEd, encEq, encBl, encTab, encG, encI] at h); all_goals try omega) | (refine Ru.go ?_; intro K hK; simp [go_sem, hkl, hx, hf, v0, v1, v3, v4, v5, hgv, h0, encEd, encEq, encBl, encTab, encG, encI]; (try simp (disch := omega) only [zh, zi, eq_self, true_and]); (first | apply hK | ((try refine .inl ?_); refine ⟨_, by (try intro hc); (repeat' first | exact j8 | exact hc | refine And.intro ?_ ?_ | simp [go_sem, hkl, hx, hf, v0, v1, v3, v4, v5, hgv, h0, encEd, encEq, encBl, encTab, encG, encI]); first | done | omega, ?_⟩; first | apply hK | (refine ⟨by simp [go_sem, hkl, hx, hf, v0, v1, v3, v4, v5, hgv, h0, encEd, encEq, encBl, encTab, encG, encI], ?_⟩; first | apply hK | refine ⟨by simp [go_sem, hkl, hx, hf, v0, v1, v3, v4, v5, hgv, h0, encEd, encEq, encBl, encTab, encG, encI], hK _ _ ?_⟩)) | refine ⟨.one (.one (.bool false)), by simp [go_sem, hkl, hx, hf, v0, v1, v3, v4, v5, hgv, h0, encEd, encEq, encBl, encTab, encG, encI], hK _ _ ?_⟩ | refine ⟨by first | omega | (simp [zf, zg, hkl, hx, hf, v0, v1, v3, v4, v5, hgv, h0, encEd, encEq, encBl, encTab, encG, encI]; first | done | omega), ?_⟩ | refine ⟨hK _ ?_, fun h => ?_⟩ | refine ⟨?_, ?_⟩); all_goals ((try apply hK); clear hK K))
         refine zj (m - 1) _ (by omega) ⟨k + 1, by omega, rfl⟩ ?_
         simp [go_sem, encTab, encG, encEq, hs]
        ·skip
         repeat' first | refine St.go ?_ | ((with_reducible refine zY (t := ?_) ?hc (fun h => ?_) (fun h => ?_)); (case hc => rfl); all_goals (try simp [go_sem, hkl, hx, hf, v0, v1, v3, v4, v5, hgv, h0, encEd, encEq, encBl, encTab, encG, encI] at h); all_goals try omega) | (refine Ru.go ?_; intro K hK; simp [go_sem, hkl, hx, hf, v0, v1, v3, v4, v5, hgv, h0, encEd, encEq, encBl, encTab, encG, encI]; (try simp (disch := omega) only [zh, zi, eq_self, true_and]); (first | apply hK | ((try refine .inl ?_); refine ⟨_, by (try intro hc); (repeat' first | exact j8 | exact hc | refine And.intro ?_ ?_ | simp [go_sem, hkl, hx, hf, v0, v1, v3, v4, v5, hgv, h0, encEd, encEq, encBl, encTab, encG, encI]); first | done | omega, ?_⟩; first | apply hK | (refine ⟨by simp [go_sem, hkl, hx, hf, v0, v1, v3, v4, v5, hgv, h0, encEd, encEq, encBl, encTab, encG, encI], ?_⟩; first | apply hK | refine ⟨by simp [go_sem, hkl, hx, hf, v0, v1, v3, v4, v5, hgv, h0, encEd, encEq, encBl, encTab, encG, encI], hK _ _ ?_⟩)) | refine ⟨.one (.one (.bool false)), by simp [go_sem, hkl, hx, hf, v0, v1, v3, v4, v5, hgv, h0, encEd, encEq, encBl, encTab, encG, encI], hK _ _ ?_⟩ | refine ⟨by first | omega | (simp [zf, zg, hkl, hx, hf, v0, v1, v3, v4, v5, hgv, h0, encEd, encEq, encBl, encTab, encG, encI]; first | done | omega), ?_⟩ | refine ⟨hK _ ?_, fun h => ?_⟩ | refine ⟨?_, ?_⟩); all_goals ((try apply hK); clear hK K))
         refine zj (m - 1) _ (by omega) ⟨k + 1, by omega, rfl⟩ ?_
         simp [go_sem, encTab, encG, encEq, hs]
      | true =>
        rw [hlk] at hs
        by_cases h0 : 0 ≤ s2
        ·have hs2 : lawG T (p1, p2) (k + 1) = gv := by rw [hs]; simp [h0]
         repeat' first | refine St.go ?_ | ((with_reducible refine zY (t := ?_) ?hc (fun h => ?_) (fun h => ?_)); (case hc => rfl); all_goals (try simp [go_sem, hkl, hx, hf, v0, v1, v3, v4, v5, hgv, h0, encEd, encEq, encBl, encTab, encG, encI] at h); all_goals try omega) | (refine Ru.go ?_; intro K hK; simp [go_sem, hkl, hx, hf, v0, v1, v3, v4, v5, hgv, h0, encEd, encEq, encBl, encTab, encG, encI]; (try simp (disch := omega) only [zh, zi, eq_self, true_and]); (first | apply hK | ((try refine .inl ?_); refine ⟨_, by (try intro hc); (repeat' first | exact j8 | exact hc | refine And.intro ?_ ?_ | simp [go_sem, hkl, hx, hf, v0, v1, v3, v4, v5, hgv, h0, encEd, encEq, encBl, encTab, encG, encI]); first | done | omega, ?_⟩; first | apply hK | (refine ⟨by simp [go_sem, hkl, hx, hf, v0, v1, v3, v4, v5, hgv, h0, encEd, encEq, encBl, encTab, encG, encI], ?_⟩; first | apply hK | refine ⟨by simp [go_sem, hkl, hx, hf, v0, v1, v3, v4, v5, hgv, h0, encEd, encEq, encBl, encTab, encG, encI], hK _ _ ?_⟩)) | refine ⟨.one (.one (.bool false)), by simp [go_sem, hkl, hx, hf, v0, v1, v3, v4, v5, hgv, h0, encEd, encEq, encBl, encTab, encG, encI], hK _ _ ?_⟩ | refine ⟨by first | omega | (simp [zf, zg, hkl, hx, hf, v0, v1, v3, v4, v5, hgv, h0, encEd, encEq, encBl, encTab, encG, encI]; first | done | omega), ?_⟩ | refine ⟨hK _ ?_, fun h => ?_⟩ | refine ⟨?_, ?_⟩); all_goals ((try apply hK); clear hK K))
         refine zj (m - 1) _ (by omega) ⟨k + 1, by omega, rfl⟩ ?_
         simp [go_sem, encTab, encG, encEq, hs2]
        ·have hs2 : lawG T (p1, p2) (k + 1) = false := by rw [hs]; simp [h0]
         repeat' first | refine St.go ?_ | ((with_reducible refine zY (t := ?_) ?hc (fun h => ?_) (fun h => ?_)); (case hc => rfl); all_goals (try simp [go_sem, hkl, hx, hf, v0, v1, v3, v4, v5, hgv, h0, encEd, encEq, encBl, encTab, encG, encI] at h); all_goals try omega) | (refine Ru.go ?_; intro K hK; simp [go_sem, hkl, hx, hf, v0, v1, v3, v4, v5, hgv, h0, encEd, encEq, encBl, encTab, encG, encI]; (try simp (disch := omega) only [zh, zi, eq_self, true_and]); (first | apply hK | ((try refine .inl ?_); refine ⟨_, by (try intro hc); (repeat' first | exact j8 | exact hc | refine And.intro ?_ ?_ | simp [go_sem, hkl, hx, hf, v0, v1, v3, v4, v5, hgv, h0, encEd, encEq, encBl, encTab, encG, encI]); first | done | omega, ?_⟩; first | apply hK | (refine ⟨by simp [go_sem, hkl, hx, hf, v0, v1, v3, v4, v5, hgv, h0, encEd, encEq, encBl, encTab, encG, encI], ?_⟩; first | apply hK | refine ⟨by simp [go_sem, hkl, hx, hf, v0, v1, v3, v4, v5, hgv, h0, encEd, encEq, encBl, encTab, encG, encI], hK _ _ ?_⟩)) | refine ⟨.one (.one (.bool false)), by simp [go_sem, hkl, hx, hf, v0, v1, v3, v4, v5, hgv, h0, encEd, encEq, encBl, encTab, encG, encI], hK _ _ ?_⟩ | refine ⟨by first | omega | (simp [zf, zg, hkl, hx, hf, v0, v1, v3, v4, v5, hgv, h0, encEd, encEq, encBl, encTab, encG, encI]; first | done | omega), ?_⟩ | refine ⟨hK _ ?_, fun h => ?_⟩ | refine ⟨?_, ?_⟩); all_goals ((try apply hK); clear hK K))
         refine zj (m - 1) _ (by omega) ⟨k + 1, by omega, rfl⟩ ?_
         simp [go_sem, encTab, encG, encEq, hs2]
     ·have he : edgeG T (p1, p2) x = true := by simp [edgeG, hf]
      rw [he, Bool.and_true] at hs
      repeat' first | refine St.go ?_ | ((with_reducible refine zY (t := ?_) ?hc (fun h => ?_) (fun h => ?_)); (case hc => rfl); all_goals (try simp [go_sem, hkl, hx, hf, encEd, encEq, encTab, encG] at h); all_goals try omega) | (refine Ru.go ?_; intro K hK; simp [go_sem, hkl, hx, hf, encEd, encEq, encTab, encG]; (try simp (disch := omega) only [zh, zi, eq_self, true_and]); (first | apply hK | refine ⟨by first | omega | (simp [zf, zg, hkl, hx, hf, encEd, encEq, encTab, encG]; first | done | omega), ?_⟩ | refine ⟨hK _ ?_, fun h => ?_⟩ | refine ⟨?_, ?_⟩); all_goals ((try apply hK); clear hK K))
      refine zj (m - 1) _ (by omega) ⟨k + 1, by omega, rfl⟩ ?_
      simp [go_sem, encTab, encG, encEq, hs]
    ·have hke : k = T.old.edges.length := by omega
     subst hke
     repeat' first | refine St.go ?_ | ((with_reducible refine zY (t := ?_) ?hc (fun h => ?_) (fun h => ?_)); (case hc => rfl); all_goals (try simp [go_sem, encTab, encG] at h); all_goals try omega) | (refine Ru.go ?_; intro K hK; simp [go_sem, encTab, encG]; (try simp (disch := omega) only [zh, zi, eq_self, true_and]); (first | apply hK | refine ⟨by first | omega | (simp [zf, zg, encTab, encG]; first | done | omega), ?_⟩ | refine ⟨hK _ ?_, fun h => ?_⟩ | refine ⟨?_, ?_⟩); all_goals ((try apply hK); clear hK K))
     refine zm ?_
     simp [go_sem, encTab, encG, encEq]
   repeat' first | refine St.go ?_ | ((with_reducible refine zY (t := ?_) ?hc (fun h => ?_) (fun h => ?_)); (case hc => rfl); all_goals (try simp [go_sem, hlg, hgi, encBl, encTab, encG] at h); all_goals try omega) | (refine Ru.go ?_; intro K hK; simp [go_sem, hlg, hgi, encBl, encTab, encG]; (try simp (disch := omega) only [zh, zi, eq_self, true_and]); (first | apply hK | refine ⟨by first | omega | (simp [zf, zg, hlg, hgi, encBl, encTab, encG]; first | done | omega), ?_⟩ | refine ⟨hK _ ?_, fun h => ?_⟩ | refine ⟨?_, ?_⟩); all_goals ((try apply hK); clear hK K))
   refine zm ?_
   simp [go_sem, encTab, encG, encEq]
  repeat' first | refine St.go ?_ | ((with_reducible refine zY (t := ?_) ?hc (fun h => ?_) (fun h => ?_)); (case hc => rfl); all_goals (try simp [go_sem, encTab, encG] at h); all_goals try omega) | (refine Ru.go ?_; intro K hK; simp [go_sem, encTab, encG]; (try simp (disch := omega) only [zh, zi, eq_self, true_and]); (first | apply hK | refine ⟨by first | omega | (simp [zf, zg, encTab, encG]; first | done | omega), ?_⟩ | refine ⟨hK _ ?_, fun h => ?_⟩ | refine ⟨?_, ?_⟩); all_goals ((try apply hK); clear hK K))
  refine zj (n - 1) _ (by omega) ⟨i + 1, by omega, rfl⟩ ?_
  simp [go_sem, encTab, encG]
 ·skip
  repeat' first | refine St.go ?_ | ((with_reducible refine zY (t := ?_) ?hc (fun h => ?_) (fun h => ?_)); (case hc => rfl); all_goals (try simp [go_sem, hli] at h); all_goals try omega) | (refine Ru.go ?_; intro K hK; simp [go_sem, hli]; (try simp (disch := omega) only [zh, zi, eq_self, true_and]); (first | apply hK | refine ⟨by first | omega | (simp [zf, zg, hli]; first | done | omega), ?_⟩ | refine ⟨hK _ ?_, fun h => ?_⟩ | refine ⟨?_, ?_⟩); all_goals ((try apply hK); clear hK K))
  simp [go_sem]
end Go.Av

/- Part of a proof. -/
import Derived.Test.YtpdfolkoejbbgaaGreatDoorWB12
import Derived.Test.YtpdfolkoejbbgaaGreatDoorWB07
import Derived.Test.YtpdfolkoejbbgaaGreatDoorWB03
import Derived.Test.YtpdfolkoejbbgaaGreatDoorWB06
set_option linter.unusedVariables false
set_option linter.unusedSimpArgs false
set_option maxHeartbeats 64000000
set_option maxRecDepth 8000
namespace Go.Av
open Go Go.RowKit Go.Proofs
def chainD (two : Bool) : List Dcl := ⟨⟨#[120]⟩, [], 0, [], []⟩ :: (if two then [⟨⟨#[121]⟩, [], 0, [], []⟩] else [])
def chainE (two : Bool) : List Edg := ⟨0, ⟨0, 1, 0⟩, 1, false⟩ :: (if two then [⟨0, ⟨0, 1, 1⟩, 1, false⟩] else [])
def chainG (two : Bool) : Glob := ⟨⟨#[80]⟩, [⟨#[65]⟩, ⟨#[66]⟩], chainD two, 2, 0, 1, chainE two, []⟩
def rawD (d : Dcl) : List DV := [.str d.name, .nil, .int .i64 d.first, .nil, .nil]
def rawG (g : Glob) : List DV := [.str g.name, .sl (g.roles.map encS), .sl (g.decls.map rawD), .int .i64 g.states, .int .i64 g.start, .int .i64 g.end_, .sl (g.edges.map encEd), .nil]
theorem sl_toward {w : World} {S : Nat -> Prop} {v : Value} {els els' : List (List DV)} {r : List Nat} (hl : els.map List.length = els'.map List.length) (ht : towardD els.flatten els'.flatten) (h : Cz w S v (.sl els) r) : Cz w S v (.sl els') r := by
 have hlen : els.length = els'.length := by simpa using congrArg List.length hl
 cases h with
 | shNil a c =>
   have : els' = [] := List.eq_nil_of_length_eq_zero (by simpa using hlen.symm)
   subst this
   exact .shNil _ _
 | sh ad n c z _ vs hS hn hc hm hz hcell hcl =>
   refine .sh ad n c z els' vs hS (by omega) hc hm ?_ hcell (towardD_ok hcl ht)
   intro e he
   have : e.length ∈ els'.map List.length := List.mem_map.2 ⟨e, he, rfl⟩
   rw [<- hl] at this
   obtain ⟨e', he', h'⟩ := List.mem_map.1 this
   rw [<- h']; exact hz e' he'
theorem raw_enc (b : Bool) {w : World} {S : Nat -> Prop} {v : Value} {r : List Nat} (h : CzS w S v (.ag (rawG (chainG b))) r) : CzS w S v (.ag (encG (chainG b))) r := by
 cases h with
 | ag vs l r hl =>
   refine .ag _ _ _ ?_
   unfold rawG at hl
   generalize vs.toList = vl at hl
   cases hl with
   | cons _ _ _ _ _ _ h1 hl =>
     cases hl with
     | cons _ _ _ _ _ _ h2 hl =>
       cases hl with
       | cons _ _ _ _ _ _ h3 hl =>
         refine .cons _ _ _ _ _ _ h1 (.cons _ _ _ _ _ _ h2 (.cons _ _ _ _ _ _ (sl_toward ?_ ?_ h3) (towardD_ok hl ?_)))
         ·cases b <;> rfl
         ·cases b <;> simp [chainG, chainD, rawD, encD, towardD, DV.toward]
         ·simp [towardD, DV.toward, chainG]
theorem Impl.less {P : Program} {f : FuncId} {xs ys : List SV} {r : RV} (h : Impl P f xs r) (hxy : ∀ w S vs, CzSL w S vs ys [] -> CzSL w S vs xs []) : Impl P f ys r :=
 ⟨h.1, fun w S vs hS hcz => h.2 w S vs hS (hxy w S vs hcz)⟩
theorem raw_pair {f : FuncId} {x y : Bool} {r : RV} (h : Impl Tryz.prog f [.ag (encG (chainG x)), .ag (encG (chainG y))] r) : Impl Tryz.prog f [.ag (rawG (chainG x)), .ag (rawG (chainG y))] r := by
 refine h.less fun w S vs hcz => ?_
 generalize hz : ([] : List Nat) = z at hcz
 cases hcz with
 | cons v x r vs xs rs h1 hs =>
   cases hs with
   | cons v x r vs xs rs h2 hs => exact CzSL.cons _ _ _ _ _ _ (raw_enc _ h1) (CzSL.cons _ _ _ _ _ _ (raw_enc _ h2) hs)
theorem f40 (b : Bool) : Impl Tryz.prog 40 [.one (.bool b)] (.one (.ag (rawG (chainG b)))) := by
 refine impl_z Tryz.func40 z40 Tryz.ntmps40 (by simp) ?_
 simp only [c40, slotsOf]
 cases b with
 | false =>
   repeat' first | refine St.go ?_ | ((with_reducible refine cn ?_ ?_) <;> intro h <;> (try simp at h) <;> try omega) | (refine Ru.go ?_; intro K hK; simp [go_sem]; (first | apply hK | refine ⟨by first | omega | (simp [z_f, z_g]; first | done | omega), ?_⟩ | refine ⟨hK _ ?_, fun h => ?_⟩ | refine ⟨?_, ?_⟩); all_goals ((try apply hK); clear hK K))
   simp [go_sem, rawG, chainG, chainD, chainE, rawD, encEd, encS]
 | true =>
   have hap1 : z_f 5 96 [[.str ⟨#[120]⟩, .nil, .int .i64 0, .nil, .nil]] [[.str ⟨#[121]⟩, .nil, .int .i64 0, .nil, .nil]] := by
    refine ⟨?_, ?_, by omega, ?_, ?_⟩ <;> simp [maxLen, z_g, DV.flat]
   have hap2 : z_f 6 48 [[.int .i64 0, .int .i64 0, .int .i64 1, .int .i64 0, .int .i64 1, .bool false]] [[.int .i64 0, .int .i64 0, .int .i64 1, .int .i64 1, .int .i64 1, .bool false]] := by
    refine ⟨?_, ?_, by omega, ?_, ?_⟩ <;> simp [maxLen, z_g, DV.flat]
   repeat' first | refine St.go ?_ | ((with_reducible refine cn ?_ ?_) <;> intro h <;> (try simp [hap1, hap2] at h) <;> try omega) | (refine Ru.go ?_; intro K hK; simp [go_sem, hap1, hap2]; (first | apply hK | refine ⟨by first | omega | (simp [z_f, z_g, hap1, hap2]; first | done | omega), ?_⟩ | refine ⟨hK _ ?_, fun h => ?_⟩ | refine ⟨?_, ?_⟩); all_goals ((try apply hK); clear hK K))
   simp [go_sem, rawG, chainG, chainD, chainE, rawD, encEd, encS]
theorem cmp_ft : compareV (chainG false) (chainG true) = (cmpTab (chainG false) (chainG true), 0) := by
 kernel_rfl
theorem cmp_tf : compareV (chainG true) (chainG false) = (cmpTab (chainG true) (chainG false), 0) := by
 kernel_rfl
theorem tab_ft : (cmpTab (chainG false) (chainG true)).good = [true, true] /\ (cmpTab (chainG false) (chainG true)).pairs = [(0, 0), (1, 1)] := by
 constructor <;> kernel_rfl
theorem tab_tf : (cmpTab (chainG true) (chainG false)).good = [false, true, false] := by
 kernel_rfl
theorem sum_mem : ∀ {l : List Nat} {n : Nat}, n ∈ l -> n <= l.sum
 | a :: l, n, h => by
   rw [List.sum_cons]
   rcases List.mem_cons.1 h with rfl | h
   ·omega
   ·have := sum_mem h; omega
theorem units_mem {l : List Dcl} {d : Dcl} (h : d ∈ l) : d.fields.length + (d.diffs.length + d.equals.length) <= units l l.length := by
 unfold units
 rw [List.take_length]
 exact sum_mem (List.mem_map_of_mem (f := fun d : Dcl => d.fields.length + (d.diffs.length + d.equals.length)) h)
theorem few_small {g : Glob} (h : fewG g = true) (hn : ∀ d ∈ g.decls, d.name.size <= 1000000000000000) : Small g := by
 simp only [fewG, fewD, Bool.and_eq_true, decide_eq_true_eq] at h
 obtain ⟨⟨⟨⟨h1, h2⟩, h3⟩, h4⟩, h5, h6⟩ := h
 refine ⟨by omega, by omega, fun d hd => ?_, fun d hd => ?_, by omega, by omega⟩
 ·have := units_mem hd; omega
 ·have := units_mem hd; have := hn d hd; omega
theorem few31_small {g : Glob} (h : few31 g = true) (hn : ∀ d ∈ g.decls, d.name.size <= 1000000000000000) : Small g := by
 unfold few31 at h
 simp only [Bool.and_eq_true] at h
 exact few_small h.1 hn
theorem chain_small (b : Bool) : Small (chainG b) := by
 constructor <;> cases b <;> (try simp [chainG, chainD, chainE]) <;> decide
theorem interE {x y : Inter} (h1 : x.from_ = y.from_) (h2 : x.to = y.to) (h3 : x.label = y.label) : x = y := by
 cases x; cases y; simp_all
theorem f16 (h109 : H109) : Impl Tryz.prog 16 [] (.one (.one (.bool true))) := by
 have k40 := f40
 have k18a := raw_pair (f18 h109 (chainG false) (chainG true) (chain_small _) (chain_small _))
 have k18b := raw_pair (f18 h109 (chainG true) (chainG false) (chain_small _) (chain_small _))
 rw [cmp_ft] at k18a
 rw [cmp_tf] at k18b
 have k40a := k40 false
 have k40b := k40 true
 have k22 := f22 (cmpTab (chainG false) (chainG true)) 0 ⟨0, 1, 0⟩ (by show (chainE false).length <= _; simp [chainE]) (by show (chainE true).length <= _; simp [chainE]) (by rw [tab_ft.2]; simp)
 have e22 : afterV (cmpTab (chainG false) (chainG true)) 0 ⟨0, 1, 0⟩ = (1, true) := by kernel_rfl
 rw [e22] at k22
 obtain ⟨T, hT⟩ : ∃ T, cmpTab (chainG false) (chainG true) = T := ⟨_, rfl⟩
 obtain ⟨U, hU⟩ : ∃ U, cmpTab (chainG true) (chainG false) = U := ⟨_, rfl⟩
 have t1 := tab_ft.1
 have t2 := tab_ft.2
 have t3 := tab_tf
 rw [hT] at k18a k22 t1 t2
 rw [hU] at k18b t3
 have eT : encTab T = encG T.old ++ (encG T.new ++ [.sl (T.labels.map encN), .sl [[.int .i64 0, .int .i64 0], [.int .i64 1, .int .i64 1]], .sl [[.bool true], [.bool true]]]) := by
  unfold encTab
  rw [t1, t2]
  rfl
 have eU : encTab U = encG U.old ++ (encG U.new ++ [.sl (U.labels.map encN), .sl (U.pairs.map encEq), .sl [[.bool false], [.bool true], [.bool false]]]) := by
  unfold encTab
  rw [t3]
  rfl
 rw [eT] at k18a k22
 rw [eU] at k18b
 have r1 : rawG (chainG false) = [.str ⟨#[80]⟩, .sl [[.str ⟨#[65]⟩], [.str ⟨#[66]⟩]], .sl [[.str ⟨#[120]⟩, .nil, .int .i64 0, .nil, .nil]], .int .i64 2, .int .i64 0, .int .i64 1, .sl [[.int .i64 0, .int .i64 0, .int .i64 1, .int .i64 0, .int .i64 1, .bool false]], .nil] := rfl
 have r2 : rawG (chainG true) = [.str ⟨#[80]⟩, .sl [[.str ⟨#[65]⟩], [.str ⟨#[66]⟩]], .sl [[.str ⟨#[120]⟩, .nil, .int .i64 0, .nil, .nil], [.str ⟨#[121]⟩, .nil, .int .i64 0, .nil, .nil]], .int .i64 2, .int .i64 0, .int .i64 1, .sl [[.int .i64 0, .int .i64 0, .int .i64 1, .int .i64 0, .int .i64 1, .bool false], [.int .i64 0, .int .i64 0, .int .i64 1, .int .i64 1, .int .i64 1, .bool false]], .nil] := rfl
 rw [r1] at k40a k18a k18b
 rw [r2] at k40b k18a k18b
 simp only [encG, encI, List.cons_append, List.nil_append] at k18a k18b k22
 clear hT hU t1 t2 t3 eT eU k40 e22
 refine impl_w Tryz.func16 z16 Tryz.ntmps16 (by simp) ?_
 simp only [slotsOf]
 conv => arg 2; reduce
 repeat' first | refine St.go ?_ | (refine Ru.go ?_; intro K hK; simp [go_sem]; (first | apply hK | ((try refine .inl ?_); refine ⟨_, by (repeat' first | exact k40a | exact k40b | exact k18a | exact k18b | exact k22 | refine And.intro ?_ ?_ | simp [go_sem]); first | done | omega, ?_⟩; first | apply hK | (refine ⟨by simp [go_sem], ?_⟩; apply hK)) | refine ⟨ob, ?_⟩ | refine ⟨hK _ ?_, fun h => ?_⟩ | refine ⟨?_, ?_⟩); all_goals ((try apply hK); clear hK K))
 simp [go_sem]
def GlobA (g : Glob) : Prop := g.decls.length <= 1000000000000000 /\ ∀ d ∈ g.decls, d.name.size <= 1000000000000000 /\ d.fields.length <= 1000000000000000 /\ d.diffs.length <= 1000000000000000 /\ d.equals.length <= 1000000000000000
theorem pairs_closed {t : Tab} (hn : numT t) : ∀ p ∈ cmpPairs t, ∀ q ∈ succP t p, q ∈ cmpPairs t := by
 refine bfs_closed (succ_box hn) _ _ _ (by simp) (fun p hp => by rw [List.mem_singleton.1 hp]; exact start_box hn) (fun p hp => by simp at hp) (by simp) ?_
 show sizeP t <= _
 omega
theorem pairs_len {t : Tab} (hn : numT t) : (cmpPairs t).length <= 40200 := by
 obtain ⟨na1, na2, _⟩ := numbered_facts hn.1
 obtain ⟨nb1, nb2, _⟩ := numbered_facts hn.2
 have h1 : (cmpPairs t).length <= sizeP t := box_len (bfs_nodup _ _ _ (by simp)) (bfs_keeps (succ_box hn) _ _ _ (fun p hp => by rw [List.mem_singleton.1 hp]; exact start_box hn))
 have h2 : sizeP t <= 40200 := Nat.mul_le_mul (show t.old.states.toNat <= 200 by omega) (show t.new.states.toNat + 1 <= 201 by omega)
 omega
theorem edge_label {g : Glob} (h : numbered g = true) : ∀ x ∈ g.edges, 0 <= x.act.label /\ x.act.label < g.decls.length := by
 obtain ⟨_, _, _, _, _, _, n7⟩ := numbered_facts h
 intro x hx
 have := n7 x hx
 simp only [okEdge, Bool.and_eq_true, decide_eq_true_eq] at this
 omega
theorem compareV_cases (a b : Glob) : (∃ c, compareV a b = (noTab, c) /\ c ≠ 0) \/ (compareV a b = (cmpTab a b, 0) /\ numT (tab0 a b) /\ ∀ x ∈ a.edges, 0 <= x.act.label /\ x.act.label < a.decls.length) := by
 unfold compareV
 split
 ·rename_i hv
  split
  ·split
   ·exact .inr ⟨rfl, ⟨(valid_num hv.1).1, (valid_num hv.2).1⟩, edge_label (valid_num hv.1).1⟩
   ·exact .inl ⟨24, rfl, by decide⟩
  ·exact .inl ⟨24, rfl, by decide⟩
 ·exact .inl ⟨1, rfl, by decide⟩
theorem after_eq {a b : Glob} (hn : numT (tab0 a b)) (q : Int) (x : Inter) : afterR (cmpTab a b) q x = afterV (cmpTab a b) q x := by
 unfold afterR afterV
 cases hp : afterP (cmpTab a b) q x with
 | none => rfl
 | some k =>
   have hk : 0 <= k := by
    unfold afterP at hp
    split at hp
    ·split at hp
     ·rename_i p hpi
      rw [Option.map_eq_some_iff] at hp
      obtain ⟨y, hy, rfl⟩ := hp
      have hp2 : p ∈ cmpPairs (tab0 a b) := List.mem_of_getElem? hpi
      have hya := List.find?_some hy
      simp only [atE, Bool.and_eq_true, beq_iff_eq] at hya
      have hq : stepX (tab0 a b) p y ∈ succP (tab0 a b) p := succ_mem.2 ⟨y, List.mem_of_find?_eq_some hy, hya.1, rfl⟩
      have hcl := pairs_closed hn p hp2 _ hq
      have hany : (cmpPairs (tab0 a b)).any (isP (stepX (tab0 a b) p y)) = true := List.any_eq_true.2 ⟨_, hcl, by simp [isP]⟩
      rw [<- firstB_any] at hany
      exact of_decide_eq_true hany
     ·cases hp
    ·cases hp
   show (max 0 k, true) = (max k 0, decide (0 <= k))
   rw [Int.max_comm, decide_eq_true hk]
theorem actEq_refl (x : Inter) : actEq x x = true := by simp [actEq]
theorem f5 (h109 : H109) (a b : Glob) (q : Int) (x : Inter) (ha : GlobA a) (hb : GlobA b) : Impl Tryz.prog 5 [.ag (encG a), .ag (encG b), .ag (.int .i64 q :: encI x)] (.one (.one (.bool true))) := by
 have k16 := f16 h109
 have k17a := f17 a ha.1 (fun d hd => (ha.2 d hd).2)
 have k17b := f17 b hb.1 (fun d hd => (hb.2 d hd).2)
 have k18 := fun h1 h2 => f18 h109 a b (few31_small (g := a) h1 fun d hd => (ha.2 d hd).1) (few31_small (g := b) h2 fun d hd => (hb.2 d hd).1)
 simp only [encG] at k17a k17b k18
 refine impl_w Tryz.func5 z5 Tryz.ntmps5 (by simp) ?_
 simp only [slotsOf]
 conv => arg 2; reduce
 cases fa : few31 a with
 | false =>
   rw [fa] at k17a
   repeat' first | refine St.go ?_ | ((with_reducible refine cn ?_ ?_) <;> intro h <;> (try simp at h) <;> try omega) | (refine Ru.go ?_; intro K hK; simp [go_sem, encG, encI]; (try simp (disch := omega) only [wx, z_i]); (first | apply hK | ((try refine .inl ?_); refine ⟨_, by (try intro hc); (repeat' first | exact k16 | exact k17a | exact hc | refine And.intro ?_ ?_ | simp [go_sem, encG, encI]); first | done | omega, ?_⟩; first | apply hK | (refine ⟨by simp [go_sem, encG, encI], ?_⟩; first | apply hK | refine ⟨by simp [go_sem, encG, encI], hK _ _ ?_⟩)) | refine ⟨.one (.one (.bool false)), by simp [go_sem, encG, encI], hK _ _ ?_⟩ | refine ⟨ob, ?_⟩ | refine ⟨hK _ ?_, fun h => ?_⟩ | refine ⟨?_, ?_⟩); all_goals ((try apply hK); clear hK K))
   simp [go_sem]
 | true =>
   rw [fa] at k17a
   cases fb : few31 b with
   | false =>
     rw [fb] at k17b
     repeat' first | refine St.go ?_ | ((with_reducible refine cn ?_ ?_) <;> intro h <;> (try simp at h) <;> try omega) | (refine Ru.go ?_; intro K hK; simp [go_sem, encG, encI]; (try simp (disch := omega) only [wx, z_i]); (first | apply hK | ((try refine .inl ?_); refine ⟨_, by (try intro hc); (repeat' first | exact k16 | exact k17a | exact k17b | exact hc | refine And.intro ?_ ?_ | simp [go_sem, encG, encI]); first | done | omega, ?_⟩; first | apply hK | (refine ⟨by simp [go_sem, encG, encI], ?_⟩; first | apply hK | refine ⟨by simp [go_sem, encG, encI], hK _ _ ?_⟩)) | refine ⟨.one (.one (.bool false)), by simp [go_sem, encG, encI], hK _ _ ?_⟩ | refine ⟨ob, ?_⟩ | refine ⟨hK _ ?_, fun h => ?_⟩ | refine ⟨?_, ?_⟩); all_goals ((try apply hK); clear hK K))
     simp [go_sem]
   | true =>
     rw [fb] at k17b
     have k18 := k18 fa fb
     rcases compareV_cases a b with ⟨c, hc, hne⟩ | ⟨hc, hn, he⟩
     ·rw [hc] at k18
      have hne2 : (c != 0) = true := by simpa using hne
      simp only [encTab, noTab, encG, noG, List.cons_append, List.nil_append, List.map_nil] at k18
      repeat' first | refine St.go ?_ | ((with_reducible refine cn ?_ ?_) <;> intro h <;> (try simp [hne, hne2] at h) <;> try omega) | (refine Ru.go ?_; intro K hK; simp [go_sem, encG, encI, hne, hne2]; (try simp (disch := omega) only [wx, z_i]); (first | apply hK | ((try refine .inl ?_); refine ⟨_, by (try intro hc); (repeat' first | exact k16 | exact k17a | exact k17b | exact k18 | exact hc | refine And.intro ?_ ?_ | simp [go_sem, encG, encI, hne, hne2]); first | done | omega, ?_⟩; first | apply hK | (refine ⟨by simp [go_sem, encG, encI, hne, hne2], ?_⟩; first | apply hK | refine ⟨by simp [go_sem, encG, encI, hne, hne2], hK _ _ ?_⟩)) | refine ⟨.one (.one (.bool false)), by simp [go_sem, encG, encI, hne, hne2], hK _ _ ?_⟩ | refine ⟨ob, ?_⟩ | refine ⟨hK _ ?_, fun h => ?_⟩ | refine ⟨?_, ?_⟩); all_goals ((try apply hK); clear hK K))
      simp [go_sem]
     ·rw [hc] at k18
      obtain ⟨T, hT⟩ : ∃ T, cmpTab a b = T := ⟨_, rfl⟩
      have sa := few31_small (g := a) fa fun d hd => (ha.2 d hd).1
      have sb := few31_small (g := b) fb fun d hd => (hb.2 d hd).1
      have ho : T.old = a := by rw [<- hT]; rfl
      have hw : T.new = b := by rw [<- hT]; rfl
      have hl : T.labels.length = a.decls.length := by rw [<- hT]; show (a.decls.map _).length = _; simp
      have hpl : T.pairs.length <= 1000000 := by
       rw [<- hT]; exact Nat.le_trans (pairs_len hn) (by decide)
      have k22 := f22 T q x (by rw [ho]; have := sa.edges; omega) (by rw [hw]; have := sb.edges; omega) hpl
      have k23 := f23 T q x (by rw [ho]; have := sa.edges; omega) (by rw [hw]; have := sb.edges; omega) hpl (by
       rw [ho, hl]
       exact he)
      have hae : afterR T q x = afterV T q x := by rw [<- hT]; exact after_eq hn q x
      rw [hae] at k23
      have k24 := f24 T x
      have k25 := f25 T x
      have k21 := f21 T
      obtain ⟨⟨v1, v2⟩, hv⟩ : ∃ v, afterV T q x = v := ⟨_, rfl⟩
      obtain ⟨⟨⟨r1, r2, r3⟩, w⟩, hr⟩ : ∃ v, renB T.labels x = v := ⟨_, rfl⟩
      rw [hv] at k22 k23
      rw [hr] at k24 k25
      rw [hT] at k18
      simp only [encTab, encG, encI, List.cons_append, List.nil_append] at k18 k21 k22 k23 k24 k25
      repeat' first | refine St.go ?_ | ((with_reducible refine cn ?_ ?_) <;> intro h <;> (try simp at h) <;> try omega) | (refine Ru.go ?_; intro K hK; simp [go_sem, encG, encI]; (try simp (disch := omega) only [wx, z_i]); (first | apply hK | ((try refine .inl ?_); refine ⟨_, by (try intro hc); (repeat' first | exact k16 | exact k17a | exact k17b | exact k18 | exact k21 | exact k22 | exact k23 | exact k24 | exact k25 | exact hc | refine And.intro ?_ ?_ | simp [go_sem, encG, encI]); first | done | omega, ?_⟩; first | apply hK | (refine ⟨by simp [go_sem, encG, encI], ?_⟩; first | apply hK | refine ⟨by simp [go_sem, encG, encI], hK _ _ ?_⟩)) | refine ⟨.one (.one (.bool false)), by simp [go_sem, encG, encI], hK _ _ ?_⟩ | refine ⟨ob, ?_⟩ | refine ⟨hK _ ?_, fun h => ?_⟩ | refine ⟨?_, ?_⟩); all_goals ((try apply hK); clear hK K))
      simp [go_sem]
theorem pairs_zero (t : Tab) : (cmpPairs t)[0]? = some (t.old.start, t.new.start) := by
 unfold cmpPairs
 obtain ⟨l, hl⟩ := bfs_pre (succ := succP t) (sizeP t) 0 [(t.old.start, t.new.start)]
 rw [hl]
 rfl
theorem actEq_eq {x y : Inter} (h : actEq x y = true) : x = y := by
 simp only [actEq, Bool.and_eq_true, beq_iff_eq] at h
 exact interE h.1.1 h.1.2 h.2
theorem isP_beq (q x : Pr) : isP q x = (x == q) := by
 rw [Bool.eq_iff_iff]
 simp [isP, Prod.ext_iff]
theorem find_idx {q : Pr} : ∀ {l : List Pr}, q ∈ l -> l.findIdx? (isP q) = some (l.idxOf q)
 | x :: l, h => by
   rw [List.findIdx?_cons, List.idxOf_cons, isP_beq]
   cases e : (x == q) with
   | true => simp
   | false =>
     have hne : ¬ x = q := by simpa using e
     have hm : q ∈ l := by
      rcases List.mem_cons.1 h with h | h
      ·exact (hne h.symm).elim
      ·exact h
     rw [find_idx hm]
     simp
theorem placeB_in {t : Tab} {q : Pr} (h : q ∈ t.pairs) : placeB t q = idxP t.pairs q := by
 unfold placeB firstB idxP
 rw [find_idx h]
theorem find_self {g : Glob} (ho : orderedB g true = true) {x : Edg} (hx : x ∈ g.edges) : g.edges.find? (atE x.from_ x.act) = some x := by
 have hself : atE x.from_ x.act x = true := by simp [atE, actEq_refl]
 cases hf : g.edges.find? (atE x.from_ x.act) with
 | none => exact absurd hself (by simpa using List.find?_eq_none.1 hf x hx)
 | some y =>
   have hy := List.mem_of_find?_eq_some hf
   have hya := List.find?_some hf
   obtain ⟨i, hi, rfl⟩ := List.mem_iff_getElem.1 hx
   obtain ⟨k, hk, rfl⟩ := List.mem_iff_getElem.1 hy
   by_cases e : i = k
   ·subst e; rfl
   ·unfold orderedB at ho
    have h1 := List.all_eq_true.1 ho i (List.mem_range.2 hi)
    rw [ordAt_get hi] at h1
    simp only [Bool.and_eq_true] at h1
    have h2 := h1.2
    unfold okRow at h2
    have h3 := List.all_eq_true.1 h2 k (List.mem_range.2 hk)
    unfold okPr at h3
    rw [List.getElem?_eq_getElem hk] at h3
    simp only [Bool.and_eq_true, Bool.not_eq_true'] at h3
    have h4 := h3.1
    simp only [atE, Bool.and_eq_true, beq_iff_eq] at hya
    have e1 := actEq_eq hya.2
    have e2 : (i == k) = false := by simpa using e
    rw [bad1, e2, hya.1, e1, actEq_refl] at h4
    simp at h4
theorem valid_ord {g : Glob} (h : valid29 g = true) : orderedB g true = true := by
 unfold valid29 at h
 simp only [Bool.and_eq_true] at h
 exact h.1.1.1.2
def nextI (T : Tab) (p : Pr) (x : Edg) : Int := idxP T.pairs (stepX T p x)
theorem step_in {a b : Glob} (hn : numT (tab0 a b)) {p : Pr} (hp : p ∈ (cmpTab a b).pairs) {x : Edg} (hx : x ∈ a.edges) (hs : x.from_ = p.1) : stepX (cmpTab a b) p x ∈ (cmpTab a b).pairs :=
 pairs_closed hn p hp _ (succ_mem.2 ⟨x, hx, hs, rfl⟩)
theorem after_at {a b : Glob} (hn : numT (tab0 a b)) (ho : orderedB a true = true) {i : Nat} {p : Pr} (hp : (cmpTab a b).pairs[i]? = some p) {x : Edg} (hx : x ∈ a.edges) (hs : x.from_ = p.1) : afterV (cmpTab a b) i x.act = (nextI (cmpTab a b) p x, true) := by
 have hm := step_in hn (List.mem_of_getElem? hp) hx hs
 have hpl := placeB_in (t := cmpTab a b) hm
 have h0 : 0 <= idxP (cmpTab a b).pairs (stepX (cmpTab a b) p x) := (idxP_get hm).1
 have hf : (cmpTab a b).old.edges.find? (atE p.1 x.act) = some x := by rw [<- hs]; exact find_self ho hx
 have : afterP (cmpTab a b) i x.act = some (nextI (cmpTab a b) p x) := by
  unfold afterP
  rw [if_pos (by omega : (0 : Int) <= (i : Int)), Int.toNat_natCast, hp]
  simp only [hf, Option.map_some]
  exact congrArg some hpl
 unfold afterV
 rw [this]
 show (max (nextI (cmpTab a b) p x) 0, decide (0 <= nextI (cmpTab a b) p x)) = _
 have h0' : 0 <= nextI (cmpTab a b) p x := h0
 rw [decide_eq_true h0', Int.max_eq_left h0']
theorem next_lt {a b : Glob} (hn : numT (tab0 a b)) {p : Pr} (hp : p ∈ (cmpTab a b).pairs) {x : Edg} (hx : x ∈ a.edges) (hs : x.from_ = p.1) : 0 <= nextI (cmpTab a b) p x /\ (nextI (cmpTab a b) p x).toNat < (cmpTab a b).pairs.length /\ (cmpTab a b).pairs[(nextI (cmpTab a b) p x).toNat]? = some (stepX (cmpTab a b) p x) :=
 idxP_get (step_in hn hp hx hs)
inductive Reach (R : Nat -> Nat -> Prop) (s : Nat) : Nat -> Prop
 | refl : Reach R s s
 | step (u v : Nat) (h : Reach R s u) (e : R u v) : Reach R s v
def cnt (N : Nat) (P : Nat -> Bool) : Nat := ((List.range N).filter P).length
def vD (D : List Int) (v : Nat) : Int := D[v]?.getD 0
def backR (es : List Edg) (u v : Nat) : Prop := ∃ x ∈ es, x.to.toNat = u /\ x.from_.toNat = v
structure InvE (es : List Edg) (N E r : Nat) (D : List Int) : Prop where
 len : D.length = N
 top : ∀ v, v < N -> vD D v <= r
 reach : ∀ v, v < N -> 0 <= vD D v -> Reach (backR es) E v
 done : ∀ x ∈ es, 0 <= vD D x.to.toNat -> vD D x.to.toNat < r -> 0 <= vD D x.from_.toNat
 many : (∃ v, v < N /\ vD D v = r) -> r + 1 <= cnt N fun v => decide (0 <= vD D v)
 endZ : vD D E = 0
def stepR (back : Bool) (es : List Edg) (u v : Nat) : Prop := ∃ x ∈ es, eA back x = u /\ eB back x = v
structure InvT (back : Bool) (es : List Edg) (N s : Nat) (st : List Int × List Nat) : Prop where
 len : st.1.length = N
 ge : ∀ v, v < N -> -1 <= vD st.1 v
 sound : ∀ v, v < N -> 0 <= vD st.1 v -> Reach (stepR back es) s v
 closed : ∀ u, u < N -> 0 <= vD st.1 u -> u ∉ st.2 -> ∀ x ∈ es, eA back x = u -> 0 <= vD st.1 (eB back x)
 start : 0 <= vD st.1 s
theorem edge_one {g : Glob} (ho : orderedB g true = true) {x y : Edg} (hx : x ∈ g.edges) (hy : y ∈ g.edges) (h1 : y.from_ = x.from_) (h2 : y.act = x.act) : y = x := by
 have e1 := find_self ho hx
 have e2 := find_self ho hy
 rw [h1, h2, e1] at e2
 injection e2 with e2
 exact e2.symm
end Go.Av

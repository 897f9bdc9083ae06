/- Part of a proof. -/
import Derived.Test.YtpdfolkoejbbgaaGreatDoorWB11
set_option linter.unusedVariables false
set_option linter.unusedSimpArgs false
set_option maxHeartbeats 64000000
set_option maxRecDepth 8000
namespace Go.Av
open Go Go.RowKit Go.Proofs
theorem Impl.agFirst {P : Program} {f : FuncId} {l m : List DV} {xs : List SV} {r : RV} (h : Impl P f (.ag m :: xs) r) (ht : towardD l m) : Impl P f (.ag l :: xs) r := by
 refine ⟨h.1, fun w S vs hS hcz => h.2 w S vs hS ?_⟩
 generalize hz : ([] : List Nat) = z at hcz
 cases hcz with
 | cons v x r vs xs rs h1 hs =>
   cases h1 with
   | ag vs l r hl =>
     exact CzSL.cons _ _ _ _ _ _ (.ag _ _ _ (towardD_ok hl ht)) hs
theorem firstB_lt {α : Type} {p : α -> Bool} {l : List α} (h : 0 <= firstB p l) : (firstB p l).toNat < l.length := by
 unfold firstB at h ⊢
 cases hf : l.findIdx? p with
 | none => rw [hf] at h; simp at h
 | some i =>
   obtain ⟨hi, _⟩ := List.findIdx?_eq_some_iff_getElem.1 hf
   simpa using hi
def zT : List DV := [.str ⟨#[]⟩, .nil, .nil, .int .i64 0, .int .i64 0, .int .i64 0, .nil, .nil, .str ⟨#[]⟩, .nil, .nil, .int .i64 0, .int .i64 0, .int .i64 0, .nil, .nil, .nil, .nil, .nil]
def encRow (r : List Int) : DV := if r.isEmpty then .nil else .ow 1 (r.map encN)
def encRowF (r : List Int) : DV := if r.isEmpty then .nil else .sl (r.map encN)
def encBh (rows : List (List Int)) : DV := if rows.isEmpty then .nil else .ow 1 (rows.map fun r => [encRow r])
theorem encRow_nil : encRow [] = .nil := rfl
theorem encRow_pos {l : List Int} (h : l ≠ []) : encRow l = .ow 1 (l.map encN) := by
 unfold encRow
 rw [if_neg (by simpa using h)]
theorem frz_encRow (r : List Int) : (encRow r).frz = encRowF r := by
 unfold encRow encRowF
 split <;> simp [DV.frz, frzLL_map, encN, frzL]
theorem frz_encRowF (r : List Int) : (encRowF r).frz = encRowF r := by
 unfold encRowF
 split <;> simp [DV.frz]
theorem toward_encRowF (r : List Int) : DV.toward (encRowF r) (.sl (r.map encN)) := by
 unfold encRowF
 split
 ·rename_i h
  have : r = [] := by simpa using h
  subst this
  rfl
 ·rfl
theorem medG_small {g : Glob} (h : Small g) : MedG g :=
 ⟨by have := h.decls; omega, fun d hd => ⟨by have := h.fields d hd; omega, (h.parts d hd).1, (h.parts d hd).2.1⟩, by have := h.roles; omega, by have := h.edges; omega, by have := h.timeouts; omega⟩
theorem frz_encEq (x : Pr) : frzL (encEq x) = encEq x := rfl
theorem frz_encBl (x : Bool) : frzL (encBl x) = encBl x := rfl
theorem encBh_nil : encBh [] = .nil := rfl
theorem encBh_pos {l : List (List Int)} (h : l ≠ []) : encBh l = .ow 1 (l.map fun r => [encRow r]) := by
 unfold encBh
 rw [if_neg (by simpa using h)]
def encGd (l : List Bool) : DV := if l.isEmpty then .nil else .ow 1 (l.map encBl)
theorem encGd_nil : encGd [] = .nil := rfl
theorem encGd_pos {l : List Bool} (h : l ≠ []) : encGd l = .ow 1 (l.map encBl) := by
 unfold encGd
 rw [if_neg (by simpa using h)]
theorem firstBad_at {g : List Bool} {bh : List (List Int)} {k : Nat} {l : List Int} (hl : bh[k]? = some l) (hg : g[k]? = some true) (hb : badRow g l = true) (h0 : ∀ i l', i < k -> bh[i]? = some l' -> g[i]? = some true -> badRow g l' = false) : firstBad g bh = some k := by
 unfold firstBad
 rw [List.findSome?_eq_some_iff]
 obtain ⟨hk, hkl⟩ := List.getElem?_eq_some_iff.1 hl
 refine ⟨(bh.zipIdx).take k, (l, k), (bh.zipIdx).drop (k + 1), ?_, ?_, ?_⟩
 ·have h1 : k < bh.zipIdx.length := by simpa using hk
  have h2 : bh.zipIdx[k] = (l, k) := by simp [hkl]
  rw [<- h2, <- List.drop_eq_getElem_cons h1, List.take_append_drop]
 ·simp [hg, hb]
 ·intro x hx
  obtain ⟨i, hi, rfl⟩ := List.mem_iff_getElem.1 hx
  have hik : i < k := by simp at hi; omega
  simp only [List.getElem_take, List.getElem_zipIdx, Nat.zero_add]
  split
  ·rename_i hc
   simp only [Bool.and_eq_true] at hc
   have hgi : g[i]? = some true := by
    cases hgi : g[i]? with
    | none => rw [hgi] at hc; simp at hc
    | some b => rw [hgi] at hc; simp at hc; rw [hc.1]
   have := h0 i _ hik (List.getElem?_eq_getElem (by omega)) hgi
   rw [this] at hc
   simp at hc
  ·rfl
theorem firstBad_not {g : List Bool} {bh : List (List Int)} (h0 : ∀ (i : Nat) l', bh[i]? = some l' -> g[i]? = some true -> badRow g l' = false) : firstBad g bh = none := by
 cases hf : firstBad g bh with
 | none => rfl
 | some i =>
   obtain ⟨h1, l, h2, h3⟩ := firstBad_some hf
   rw [h0 i l h2 h1] at h3
   cases h3
@[go_sem high] theorem le_self (a : AV) : a.le a = True := by
 refine eq_true ?_
 cases a with
 | sv x =>
   cases x with
   | one d => cases d <;> simp [AV.le]
   | ag l => simp [AV.le]
 | _ => simp [AV.le]
theorem DV.toward_self (x : DV) : x.toward x := by cases x <;> simp [DV.toward]
theorem towardD_pre {l m : List DV} (h : towardD l m) : ∀ p : List DV, towardD (p ++ l) (p ++ m)
 | [] => h
 | x :: p => ⟨DV.toward_self x, towardD_pre h p⟩
theorem f18 (h109 : H109) (a b : Glob) (sa : Small a) (sb : Small b) : Impl Tryz.prog 18 [.ag (encG a), .ag (encG b)] (.tup [.ag (encTab (compareV a b).1), .one (.int .i64 (compareV a b).2)]) := by
 have k29a := f29 h109 a sa
 have k29b := f29 h109 b sb
 have k42 := f42 a.roles b.roles (by have := sa.roles; omega) (by have := sb.roles; omega)
 have k43a := f43 a (medG_small sa)
 have k43b := f43 b (medG_small sb)
 have k44a := f44 a sa.decls sa.fields
 have k44b := f44 b sb.decls sb.fields
 have k45 : ∀ nm, Impl Tryz.prog 45 [.ag (encG b), .one (.str nm)] (.one (.one (.int .i64 (firstB (fun d => d.name == nm) b.decls)))) := fun nm => f45 b nm (by have := sb.decls; omega)
 have k28 : ∀ s, Impl Tryz.prog 28 [.ag (encG a), .one (.int .i64 s)] (.one (.one (.ow 1 ((sortedE a.edges s).map encN)))) := fun s => f28 a s sa.edges
 simp only [encG] at k29a k29b k43a k43b k44a k44b k45 k28
 obtain ⟨⟨T, c⟩, hT⟩ : ∃ r, compareV a b = r := ⟨_, rfl⟩
 rw [hT]
 dsimp only
 refine impl_w Tryz.func18 z18 Tryz.ntmps18 (by simp) ?_
 simp only [slotsOf]
 conv => arg 2; reduce
 refine z_l [(5, .sv (.one (.int .i64 0))), (4, .sv (.one (.bx zT))), (3, .sv (.one (.bx (encG b)))), (2, .sv (.one (.bx (encG a))))] ?_ ?_
 ·skip
  repeat' first | refine St.go ?_ | ((with_reducible refine cn ?_ ?_) <;> intro h <;> (try simp at h) <;> try omega) | (refine Ru.go ?_; intro K hK; simp [go_sem, encG]; (try simp (disch := omega) only [wx, z_i]); (first | apply hK | refine ⟨by first | omega | (simp [z_f, z_g, encG]; first | done | omega), ?_⟩ | refine ⟨hK _ ?_, fun h => ?_⟩ | refine ⟨?_, ?_⟩); all_goals ((try apply hK); clear hK K))
  refine z_m ?_
  first | (simp [go_sem, zT, encG]; done) | (simp [go_sem, zT, encG]; exact of_eq_true (le_self _))
 refine z_G ?_
 by_cases hv : valid29 a = true /\ valid29 b = true
 rotate_left
 ·have hTe : T = noTab /\ c = 1 := by
   have : compareV a b = (noTab, 1) := by unfold compareV; rw [if_neg hv]
   rw [this] at hT
   injection hT with h1 h2
   exact ⟨h1.symm, h2.symm⟩
  obtain ⟨rfl, rfl⟩ := hTe
  cases va : valid29 a with
  | false =>
    rw [va] at k29a
    repeat' first | refine St.go ?_ | ((with_reducible refine cn ?_ ?_) <;> intro h <;> (try simp at h) <;> try omega) | (refine Ru.go ?_; intro K hK; simp [go_sem, encG, zT]; (try simp (disch := omega) only [wx, z_i]); (first | apply hK | ((try refine .inl ?_); refine ⟨_, by (try intro hc); (repeat' first | exact k29a | exact k29b | exact hc | refine And.intro ?_ ?_ | simp [go_sem, encG, zT]); first | done | omega, ?_⟩; first | apply hK | (refine ⟨by simp [go_sem, encG, zT], ?_⟩; first | apply hK | refine ⟨by simp [go_sem, encG, zT], hK _ _ ?_⟩)) | refine ⟨.one (.one (.bool false)), by simp [go_sem, encG, zT], hK _ _ ?_⟩ | refine ⟨by first | omega | (simp [z_f, z_g, encG, zT]; first | done | omega), ?_⟩ | refine ⟨hK _ ?_, fun h => ?_⟩ | refine ⟨?_, ?_⟩); all_goals ((try apply hK); clear hK K))
    simp [go_sem, encTab, noTab, noG, encG]
  | true =>
    have vb : valid29 b = false := by
     cases h : valid29 b
     ·rfl
     ·exact (hv ⟨va, h⟩).elim
    rw [va] at k29a
    rw [vb] at k29b
    repeat' first | refine St.go ?_ | ((with_reducible refine cn ?_ ?_) <;> intro h <;> (try simp at h) <;> try omega) | (refine Ru.go ?_; intro K hK; simp [go_sem, encG, zT]; (try simp (disch := omega) only [wx, z_i]); (first | apply hK | ((try refine .inl ?_); refine ⟨_, by (try intro hc); (repeat' first | exact k29a | exact k29b | exact hc | refine And.intro ?_ ?_ | simp [go_sem, encG, zT]); first | done | omega, ?_⟩; first | apply hK | (refine ⟨by simp [go_sem, encG, zT], ?_⟩; first | apply hK | refine ⟨by simp [go_sem, encG, zT], hK _ _ ?_⟩)) | refine ⟨.one (.one (.bool false)), by simp [go_sem, encG, zT], hK _ _ ?_⟩ | refine ⟨by first | omega | (simp [z_f, z_g, encG, zT]; first | done | omega), ?_⟩ | refine ⟨hK _ ?_, fun h => ?_⟩ | refine ⟨?_, ?_⟩); all_goals ((try apply hK); clear hK K))
    simp [go_sem, encTab, noTab, noG, encG]
 obtain ⟨va, vb⟩ := hv
 rw [va] at k29a
 rw [vb] at k29b
 refine z_l [(5, .sv (.one (.int .i64 0))), (4, .sv (.one (.bx zT))), (3, .sv (.one (.bx (encG b)))), (2, .sv (.one (.bx (encG a))))] ?_ ?_
 ·skip
  repeat' first | refine St.go ?_ | ((with_reducible refine cn ?_ ?_) <;> intro h <;> (try simp at h) <;> try omega) | (refine Ru.go ?_; intro K hK; simp [go_sem, encG]; (try simp (disch := omega) only [wx, z_i]); (first | apply hK | ((try refine .inl ?_); refine ⟨_, by (try intro hc); (repeat' first | exact k29a | exact k29b | exact hc | refine And.intro ?_ ?_ | simp [go_sem, encG]); first | done | omega, ?_⟩; first | apply hK | (refine ⟨by simp [go_sem, encG], ?_⟩; first | apply hK | refine ⟨by simp [go_sem, encG], hK _ _ ?_⟩)) | refine ⟨.one (.one (.bool false)), by simp [go_sem, encG], hK _ _ ?_⟩ | refine ⟨by first | omega | (simp [z_f, z_g, encG]; first | done | omega), ?_⟩ | refine ⟨hK _ ?_, fun h => ?_⟩ | refine ⟨?_, ?_⟩); all_goals ((try apply hK); clear hK K))
  refine z_m ?_
  first | (simp [go_sem, encG]; done) | (simp [go_sem, encG]; exact of_eq_true (le_self _))
 by_cases hr : a.roles = b.roles
 rotate_left
 ·have hTe : T = noTab /\ c = 24 := by
   have : compareV a b = (noTab, 24) := by unfold compareV; rw [if_pos ⟨va, vb⟩, if_neg hr]
   rw [this] at hT
   injection hT with h1 h2
   exact ⟨h1.symm, h2.symm⟩
  obtain ⟨rfl, rfl⟩ := hTe
  rw [decide_eq_false hr] at k42
  repeat' first | refine St.go ?_ | ((with_reducible refine cn ?_ ?_) <;> intro h <;> (try simp at h) <;> try omega) | (refine Ru.go ?_; intro K hK; simp [go_sem, encG, zT]; (try simp (disch := omega) only [wx, z_i]); (first | apply hK | ((try refine .inl ?_); refine ⟨_, by (try intro hc); (repeat' first | exact k42 | exact hc | refine And.intro ?_ ?_ | simp [go_sem, encG, zT]); first | done | omega, ?_⟩; first | apply hK | (refine ⟨by simp [go_sem, encG, zT], ?_⟩; first | apply hK | refine ⟨by simp [go_sem, encG, zT], hK _ _ ?_⟩)) | refine ⟨.one (.one (.bool false)), by simp [go_sem, encG, zT], hK _ _ ?_⟩ | refine ⟨by first | omega | (simp [z_f, z_g, encG, zT]; first | done | omega), ?_⟩ | refine ⟨hK _ ?_, fun h => ?_⟩ | refine ⟨?_, ?_⟩); all_goals ((try apply hK); clear hK K))
  simp [go_sem, encTab, noTab, noG, encG]
 rw [decide_eq_true hr] at k42
 refine z_l [(5, .sv (.one (.int .i64 0))), (4, .sv (.one (.bx zT))), (3, .sv (.one (.bx (encG b)))), (2, .sv (.one (.bx (encG a))))] ?_ ?_
 ·skip
  repeat' first | refine St.go ?_ | ((with_reducible refine cn ?_ ?_) <;> intro h <;> (try simp at h) <;> try omega) | (refine Ru.go ?_; intro K hK; simp [go_sem, encG]; (try simp (disch := omega) only [wx, z_i]); (first | apply hK | ((try refine .inl ?_); refine ⟨_, by (try intro hc); (repeat' first | exact k42 | exact hc | refine And.intro ?_ ?_ | simp [go_sem, encG]); first | done | omega, ?_⟩; first | apply hK | (refine ⟨by simp [go_sem, encG], ?_⟩; first | apply hK | refine ⟨by simp [go_sem, encG], hK _ _ ?_⟩)) | refine ⟨.one (.one (.bool false)), by simp [go_sem, encG], hK _ _ ?_⟩ | refine ⟨by first | omega | (simp [z_f, z_g, encG]; first | done | omega), ?_⟩ | refine ⟨hK _ ?_, fun h => ?_⟩ | refine ⟨?_, ?_⟩); all_goals ((try apply hK); clear hK K))
  refine z_m ?_
  first | (simp [go_sem, encG]; done) | (simp [go_sem, encG]; exact of_eq_true (le_self _))
 refine z_l [(6, .sv (.one (.bx (encG a ++ (encG b ++ [.nil, .nil, .nil]))))), (5, .sv (.one (.int .i64 0))), (4, .sv (.one (.bx zT))), (3, .sv (.one (.bx (encG b)))), (2, .sv (.one (.bx (encG a))))] ?_ ?_
 ·skip
  repeat' first | refine St.go ?_ | ((with_reducible refine cn ?_ ?_) <;> intro h <;> (try simp at h) <;> try omega) | (refine Ru.go ?_; intro K hK; simp [go_sem, encG]; (try simp (disch := omega) only [wx, z_i]); (first | apply hK | ((try refine .inl ?_); refine ⟨_, by (try intro hc); (repeat' first | exact k43a | exact k43b | exact hc | refine And.intro ?_ ?_ | simp [go_sem, encG]); first | done | omega, ?_⟩; first | apply hK | (refine ⟨by simp [go_sem, encG], ?_⟩; first | apply hK | refine ⟨by simp [go_sem, encG], hK _ _ ?_⟩)) | refine ⟨.one (.one (.bool false)), by simp [go_sem, encG], hK _ _ ?_⟩ | refine ⟨by first | omega | (simp [z_f, z_g, encG]; first | done | omega), ?_⟩ | refine ⟨hK _ ?_, fun h => ?_⟩ | refine ⟨?_, ?_⟩); all_goals ((try apply hK); clear hK K))
  refine z_m ?_
  first | (simp [go_sem, encG]; done) | (simp [go_sem, encG]; exact of_eq_true (le_self _))
 refine z_l [(8, .sv (.one (.ow 2 ((varsOf b.decls).map encV)))), (7, .sv (.one (.ow 2 ((varsOf a.decls).map encV)))), (6, .sv (.one (.bx (encG a ++ (encG b ++ [.nil, .nil, .nil]))))), (5, .sv (.one (.int .i64 0))), (4, .sv (.one (.bx zT))), (3, .sv (.one (.bx (encG b)))), (2, .sv (.one (.bx (encG a))))] ?_ ?_
 ·skip
  repeat' first | refine St.go ?_ | ((with_reducible refine cn ?_ ?_) <;> intro h <;> (try simp at h) <;> try omega) | (refine Ru.go ?_; intro K hK; simp [go_sem, encG]; (try simp (disch := omega) only [wx, z_i]); (first | apply hK | ((try refine .inl ?_); refine ⟨_, by (try intro hc); (repeat' first | exact k44a | exact k44b | exact hc | refine And.intro ?_ ?_ | simp [go_sem, encG]); first | done | omega, ?_⟩; first | apply hK | (refine ⟨by simp [go_sem, encG], ?_⟩; first | apply hK | refine ⟨by simp [go_sem, encG], hK _ _ ?_⟩)) | refine ⟨.one (.one (.bool false)), by simp [go_sem, encG], hK _ _ ?_⟩ | refine ⟨by first | omega | (simp [z_f, z_g, encG]; first | done | omega), ?_⟩ | refine ⟨hK _ ?_, fun h => ?_⟩ | refine ⟨?_, ?_⟩); all_goals ((try apply hK); clear hK K))
  refine z_m ?_
  first | (simp [go_sem, encG]; done) | (simp [go_sem, encG]; exact of_eq_true (le_self _))
 have sad := sa.decls
 have hva := valid_vars va
 have hvb := valid_vars vb
 have hstep : ∀ k (hk : k < a.decls.length), Impl Tryz.prog 45 [.ag (encG b), .one (.str a.decls[k].name)] (.one (.one (.int .i64 (labAt b a.decls[k])))) := fun k _ => f45 b _ (by have := sb.decls; omega)
 have hagr : ∀ k (hk : k < a.decls.length) (e : Dcl), e ∈ b.decls -> Impl Tryz.prog 46 [.ag (encD a.decls[k]), .ag (encD e), .one (.sl ((varsOf a.decls).map encV)), .one (.sl ((varsOf b.decls).map encV))] (.one (.one (.bool (agreeB (varsOf a.decls) (varsOf b.decls) a.decls[k] e)))) := fun k hk e he => by
  have hd := List.getElem_mem hk
  have p1 := sa.parts _ hd
  have p2 := sb.parts _ he
  exact f46 _ e _ _ (by have := sa.fields _ hd; omega) (by have := sb.fields _ he; omega) p1.1 p2.1 p1.2.1 p2.2.1 (hva _ hd).1 (hvb _ he).1 (hva _ hd).2 (hvb _ he).2
 by_cases hall : a.decls.all (okLab a b) = true
 rotate_left
 ·skip
  have hTe : T = noTab /\ c = 24 := by
   have : compareV a b = (noTab, 24) := by unfold compareV; rw [if_pos ⟨va, vb⟩, if_pos hr, if_neg hall]
   rw [this] at hT
   injection hT with h1 h2
   exact ⟨h1.symm, h2.symm⟩
  obtain ⟨rfl, rfl⟩ := hTe
  repeat' first | refine St.go ?_ | ((with_reducible refine cn ?_ ?_) <;> intro h <;> (try simp at h) <;> try omega) | (refine Ru.go ?_; intro K hK; simp [go_sem, encG]; (try simp (disch := omega) only [wx, z_i]); (first | apply hK | refine ⟨by first | omega | (simp [z_f, z_g, encG]; first | done | omega), ?_⟩ | refine ⟨hK _ ?_, fun h => ?_⟩ | refine ⟨?_, ?_⟩); all_goals ((try apply hK); clear hK K))
  refine z_k (fun n e => ∃ k : Nat, k + n = a.decls.length /\ (a.decls.take k).all (okLab a b) = true /\ e = [(52, .sv (.one (.int .i64 k))), (51, .sv (.one (.int .i64 a.decls.length))), (50, .sv (.one (.sl (a.decls.map encD)))), (8, .sv (.one (.ow 2 ((varsOf b.decls).map encV)))), (7, .sv (.one (.ow 2 ((varsOf a.decls).map encV)))), (6, .sv (.one (.bx (encG a ++ (encG b ++ [encRow ((a.decls.take k).map (labAt b)), .nil, .nil]))))), (5, .sv (.one (.int .i64 0))), (4, .sv (.one (.bx zT))), (3, .sv (.one (.bx (encG b)))), (2, .sv (.one (.bx (encG a))))]) a.decls.length _ ⟨0, by simp, by simp, rfl⟩ (by simp [go_sem, encG, encRow_nil]) ?_
  rintro n e ⟨k, hk, hpre, rfl⟩
  by_cases hlt : k < a.decls.length
  ·skip
   obtain ⟨d, hdk⟩ : ∃ d, a.decls[k] = d := ⟨_, rfl⟩
   have j45 := hstep k hlt
   have j46 := hagr k hlt
   rw [hdk] at j45 j46
   obtain ⟨lb, hlb⟩ : ∃ lb, labAt b d = lb := ⟨_, rfl⟩
   rw [hlb] at j45
   simp only [encG] at j45
   have hsucc : (a.decls.take (k + 1)).map (labAt b) = (a.decls.take k).map (labAt b) ++ [lb] := by
    rw [List.take_succ_eq_append_getElem hlt, hdk, List.map_append, <- hlb]; rfl
   have hap : ∀ l : List Int, l.length <= 1000 -> z_f 1 8 (l.map encN) [[.int .i64 lb]] := by
    intro l hl
    refine ⟨?_, ?_, by omega, ?_, ?_⟩
    ·intro e he; rw [List.mem_singleton.1 he]; rfl
    ·intro e he; rw [List.mem_singleton.1 he]; rfl
    ·simp only [List.length_map, List.length_singleton, maxLen]; omega
    ·simp only [List.length_map, List.length_singleton]; omega
   have hlen : ((a.decls.take k).map (labAt b)).length <= 1000 := by
    have := sa.decls
    rw [List.length_map, List.length_take]; omega
   have hap0 := hap [] (by simp)
   have hap1 := hap _ hlen
   simp only [List.map_nil] at hap0
   obtain ⟨ls, hls⟩ : ∃ ls, (a.decls.take k).map (labAt b) = ls := ⟨_, rfl⟩
   rw [hls] at hap1 hsucc
   have hls0 : k = 0 -> ls = [] := fun h => by rw [<- hls, h]; rfl
   have hls1 : 0 < k -> encRow ls = .ow 1 (ls.map encN) := fun h => encRow_pos (fun e => by
    have h9 := congrArg List.length (hls.trans e)
    simp only [List.length_map, List.length_take, List.length_nil] at h9
    omega)
   rw [hls]
   cases hok : okLab a b d with
   | true =>
     have hpre2 : (a.decls.take (k + 1)).all (okLab a b) = true := by
      rw [List.take_succ_eq_append_getElem hlt, hdk, List.all_append, hpre]; simp [hok]
     unfold okLab at hok
     rw [hlb] at hok
     by_cases h0 : 0 <= lb
     ·have hlb2 : lb.toNat < b.decls.length := by
       have h2 : 0 <= labAt b d := by rw [hlb]; exact h0
       have h3 := firstB_lt h2
       change (labAt b d).toNat < _ at h3
       rwa [hlb] at h3
      obtain ⟨ee, hee⟩ : ∃ ee, b.decls[lb.toNat] = ee := ⟨_, rfl⟩
      have j46 := j46 ee (hee ▸ List.getElem_mem hlb2)
      have hagrT : agreeB (varsOf a.decls) (varsOf b.decls) d ee = true := by
       simp only [List.getElem?_eq_getElem hlb2, hee, Option.getD_some, Bool.or_eq_true, decide_eq_true_eq] at hok
       rcases hok with h | h
       ·omega
       ·exact h
      rw [hagrT] at j46
      simp only [encD] at j46
      have hg0 : (lb >= 0) = True := eq_true h0
      by_cases hk0 : k = 0
      ·subst hk0
       have e0 := hls0 rfl
       subst e0
       have q_ := aN hlt <| aN hdk <| aN h0 <| aN hg0 <| aN hlb2 <| aN hee <| hap0
       repeat' first | refine St.go ?_ | ((with_reducible refine cn ?_ ?_) <;> intro h <;> (try simp [q_] at h) <;> try omega) | (refine Ru.go ?_; intro K hK; simp [go_sem, encD, encG, encRow_nil, q_]; (try simp (disch := omega) only [wx, z_i]); (first | apply hK | ((try refine .inl ?_); refine ⟨_, by (try intro hc); (repeat' first | exact j45 | exact j46 | exact hc | refine And.intro ?_ ?_ | simp [go_sem, encD, encG, encRow_nil, q_]); first | done | omega, ?_⟩; first | apply hK | (refine ⟨by simp [go_sem, encD, encG, encRow_nil, q_], ?_⟩; first | apply hK | refine ⟨by simp [go_sem, encD, encG, encRow_nil, q_], hK _ _ ?_⟩)) | refine ⟨.one (.one (.bool false)), by simp [go_sem, encD, encG, encRow_nil, q_], hK _ _ ?_⟩ | refine ⟨by first | omega | (simp [z_f, z_g, encD, encG, encRow_nil, q_]; first | done | omega), ?_⟩ | refine ⟨hK _ ?_, fun h => ?_⟩ | refine ⟨?_, ?_⟩); all_goals ((try apply hK); clear hK K))
       all_goals try clear q_
       refine z_j (n - 1) _ (by omega) ⟨0 + 1, by omega, hpre2, rfl⟩ ?_
       simp [go_sem, encG, hsucc, encRow_pos, encN]
      ·rw [hls1 (by omega)]
       have q_ := aN hlt <| aN hdk <| aN h0 <| aN hg0 <| aN hlb2 <| aN hee <| hap1
       repeat' first | refine St.go ?_ | ((with_reducible refine cn ?_ ?_) <;> intro h <;> (try simp [q_] at h) <;> try omega) | (refine Ru.go ?_; intro K hK; simp [go_sem, encD, encG, q_]; (try simp (disch := omega) only [wx, z_i]); (first | apply hK | ((try refine .inl ?_); refine ⟨_, by (try intro hc); (repeat' first | exact j45 | exact j46 | exact hc | refine And.intro ?_ ?_ | simp [go_sem, encD, encG, q_]); first | done | omega, ?_⟩; first | apply hK | (refine ⟨by simp [go_sem, encD, encG, q_], ?_⟩; first | apply hK | refine ⟨by simp [go_sem, encD, encG, q_], hK _ _ ?_⟩)) | refine ⟨.one (.one (.bool false)), by simp [go_sem, encD, encG, q_], hK _ _ ?_⟩ | refine ⟨by first | omega | (simp [z_f, z_g, encD, encG, q_]; first | done | omega), ?_⟩ | refine ⟨hK _ ?_, fun h => ?_⟩ | refine ⟨?_, ?_⟩); all_goals ((try apply hK); clear hK K))
       all_goals try clear q_
       refine z_j (n - 1) _ (by omega) ⟨k + 1, by omega, hpre2, rfl⟩ ?_
       simp [go_sem, encG, hsucc, encRow_pos, encN]
     ·have hg0 : (lb >= 0) = False := eq_false h0
      cases hv2 : b.decls[lb.toNat]? with
      | none =>
        by_cases hk0 : k = 0
        ·subst hk0
         have e0 := hls0 rfl
         subst e0
         have q_ := aN hlt <| aN hdk <| aN h0 <| aN hg0 <| aN hv2 <| hap0
         repeat' first | refine St.go ?_ | ((with_reducible refine cn ?_ ?_) <;> intro h <;> (try simp [q_] at h) <;> try omega) | (refine Ru.go ?_; intro K hK; simp [go_sem, encD, encG, encRow_nil, q_]; (try simp (disch := omega) only [wx, z_i]); (first | apply hK | ((try refine .inl ?_); refine ⟨_, by (try intro hc); (repeat' first | exact j45 | exact hc | refine And.intro ?_ ?_ | simp [go_sem, encD, encG, encRow_nil, q_]); first | done | omega, ?_⟩; first | apply hK | (refine ⟨by simp [go_sem, encD, encG, encRow_nil, q_], ?_⟩; first | apply hK | refine ⟨by simp [go_sem, encD, encG, encRow_nil, q_], hK _ _ ?_⟩)) | refine ⟨.one (.one (.bool false)), by simp [go_sem, encD, encG, encRow_nil, q_], hK _ _ ?_⟩ | refine ⟨by first | omega | (simp [z_f, z_g, encD, encG, encRow_nil, q_]; first | done | omega), ?_⟩ | refine ⟨hK _ ?_, fun h => ?_⟩ | refine ⟨?_, ?_⟩); all_goals ((try apply hK); clear hK K))
         all_goals try clear q_
         refine z_j (n - 1) _ (by omega) ⟨0 + 1, by omega, hpre2, rfl⟩ ?_
         simp [go_sem, encG, hsucc, encRow_pos, encN]
        ·rw [hls1 (by omega)]
         have q_ := aN hlt <| aN hdk <| aN h0 <| aN hg0 <| aN hv2 <| hap1
         repeat' first | refine St.go ?_ | ((with_reducible refine cn ?_ ?_) <;> intro h <;> (try simp [q_] at h) <;> try omega) | (refine Ru.go ?_; intro K hK; simp [go_sem, encD, encG, q_]; (try simp (disch := omega) only [wx, z_i]); (first | apply hK | ((try refine .inl ?_); refine ⟨_, by (try intro hc); (repeat' first | exact j45 | exact hc | refine And.intro ?_ ?_ | simp [go_sem, encD, encG, q_]); first | done | omega, ?_⟩; first | apply hK | (refine ⟨by simp [go_sem, encD, encG, q_], ?_⟩; first | apply hK | refine ⟨by simp [go_sem, encD, encG, q_], hK _ _ ?_⟩)) | refine ⟨.one (.one (.bool false)), by simp [go_sem, encD, encG, q_], hK _ _ ?_⟩ | refine ⟨by first | omega | (simp [z_f, z_g, encD, encG, q_]; first | done | omega), ?_⟩ | refine ⟨hK _ ?_, fun h => ?_⟩ | refine ⟨?_, ?_⟩); all_goals ((try apply hK); clear hK K))
         all_goals try clear q_
         refine z_j (n - 1) _ (by omega) ⟨k + 1, by omega, hpre2, rfl⟩ ?_
         simp [go_sem, encG, hsucc, encRow_pos, encN]
      | some ev =>
        by_cases hk0 : k = 0
        ·subst hk0
         have e0 := hls0 rfl
         subst e0
         have q_ := aN hlt <| aN hdk <| aN h0 <| aN hg0 <| aN hv2 <| hap0
         repeat' first | refine St.go ?_ | ((with_reducible refine cn ?_ ?_) <;> intro h <;> (try simp [q_] at h) <;> try omega) | (refine Ru.go ?_; intro K hK; simp [go_sem, encD, encG, encRow_nil, q_]; (try simp (disch := omega) only [wx, z_i]); (first | apply hK | ((try refine .inl ?_); refine ⟨_, by (try intro hc); (repeat' first | exact j45 | exact hc | refine And.intro ?_ ?_ | simp [go_sem, encD, encG, encRow_nil, q_]); first | done | omega, ?_⟩; first | apply hK | (refine ⟨by simp [go_sem, encD, encG, encRow_nil, q_], ?_⟩; first | apply hK | refine ⟨by simp [go_sem, encD, encG, encRow_nil, q_], hK _ _ ?_⟩)) | refine ⟨.one (.one (.bool false)), by simp [go_sem, encD, encG, encRow_nil, q_], hK _ _ ?_⟩ | refine ⟨by first | omega | (simp [z_f, z_g, encD, encG, encRow_nil, q_]; first | done | omega), ?_⟩ | refine ⟨hK _ ?_, fun h => ?_⟩ | refine ⟨?_, ?_⟩); all_goals ((try apply hK); clear hK K))
         all_goals try clear q_
         refine z_j (n - 1) _ (by omega) ⟨0 + 1, by omega, hpre2, rfl⟩ ?_
         simp [go_sem, encG, hsucc, encRow_pos, encN]
        ·rw [hls1 (by omega)]
         have q_ := aN hlt <| aN hdk <| aN h0 <| aN hg0 <| aN hv2 <| hap1
         repeat' first | refine St.go ?_ | ((with_reducible refine cn ?_ ?_) <;> intro h <;> (try simp [q_] at h) <;> try omega) | (refine Ru.go ?_; intro K hK; simp [go_sem, encD, encG, q_]; (try simp (disch := omega) only [wx, z_i]); (first | apply hK | ((try refine .inl ?_); refine ⟨_, by (try intro hc); (repeat' first | exact j45 | exact hc | refine And.intro ?_ ?_ | simp [go_sem, encD, encG, q_]); first | done | omega, ?_⟩; first | apply hK | (refine ⟨by simp [go_sem, encD, encG, q_], ?_⟩; first | apply hK | refine ⟨by simp [go_sem, encD, encG, q_], hK _ _ ?_⟩)) | refine ⟨.one (.one (.bool false)), by simp [go_sem, encD, encG, q_], hK _ _ ?_⟩ | refine ⟨by first | omega | (simp [z_f, z_g, encD, encG, q_]; first | done | omega), ?_⟩ | refine ⟨hK _ ?_, fun h => ?_⟩ | refine ⟨?_, ?_⟩); all_goals ((try apply hK); clear hK K))
         all_goals try clear q_
         refine z_j (n - 1) _ (by omega) ⟨k + 1, by omega, hpre2, rfl⟩ ?_
         simp [go_sem, encG, hsucc, encRow_pos, encN]
   | false =>
     unfold okLab at hok
     rw [hlb] at hok
     simp only [Bool.or_eq_false_iff, decide_eq_false_iff_not] at hok
     obtain ⟨hok1, hok2⟩ := hok
     have h0 : 0 <= lb := by omega
     have hlb2 : lb.toNat < b.decls.length := by
      have h2 : 0 <= labAt b d := by rw [hlb]; exact h0
      have h3 := firstB_lt h2
      change (labAt b d).toNat < _ at h3
      rwa [hlb] at h3
     obtain ⟨ee, hee⟩ : ∃ ee, b.decls[lb.toNat] = ee := ⟨_, rfl⟩
     have j46 := j46 ee (hee ▸ List.getElem_mem hlb2)
     simp only [List.getElem?_eq_getElem hlb2, hee, Option.getD_some] at hok2
     rw [hok2] at j46
     simp only [encD] at j46
     have hg0 : (lb >= 0) = True := eq_true h0
     have q_ := aN hlt <| aN hdk <| aN h0 <| aN hg0 <| aN hlb2 <| hee
     repeat' first | refine St.go ?_ | ((with_reducible refine cn ?_ ?_) <;> intro h <;> (try simp [q_] at h) <;> try omega) | (refine Ru.go ?_; intro K hK; simp [go_sem, encD, encG, zT, q_]; (try simp (disch := omega) only [wx, z_i]); (first | apply hK | ((try refine .inl ?_); refine ⟨_, by (try intro hc); (repeat' first | exact j45 | exact j46 | exact hc | refine And.intro ?_ ?_ | simp [go_sem, encD, encG, zT, q_]); first | done | omega, ?_⟩; first | apply hK | (refine ⟨by simp [go_sem, encD, encG, zT, q_], ?_⟩; first | apply hK | refine ⟨by simp [go_sem, encD, encG, zT, q_], hK _ _ ?_⟩)) | refine ⟨.one (.one (.bool false)), by simp [go_sem, encD, encG, zT, q_], hK _ _ ?_⟩ | refine ⟨by first | omega | (simp [z_f, z_g, encD, encG, zT, q_]; first | done | omega), ?_⟩ | refine ⟨hK _ ?_, fun h => ?_⟩ | refine ⟨?_, ?_⟩); all_goals ((try apply hK); clear hK K))
     all_goals try clear q_
     simp [go_sem, encTab, noTab, noG, encG]
  ·have hkl : a.decls.take k = a.decls := List.take_of_length_le (by omega)
   rw [hkl] at hpre
   exact (hall hpre).elim
 have hTe : T = cmpTab a b /\ c = 0 := by
  have : compareV a b = (cmpTab a b, 0) := by unfold compareV; rw [if_pos ⟨va, vb⟩, if_pos hr, if_pos hall]
  rw [this] at hT
  injection hT with h1 h2
  exact ⟨h1.symm, h2.symm⟩
 obtain ⟨rfl, rfl⟩ := hTe
 refine z_l [(6, .sv (.one (.bx (encG a ++ (encG b ++ [encRow (a.decls.map (labAt b)), .nil, .nil]))))), (5, .sv (.one (.int .i64 0))), (4, .sv (.one (.bx zT))), (3, .sv (.one (.bx (encG b)))), (2, .sv (.one (.bx (encG a))))] ?_ ?_
 ·skip
  repeat' first | refine St.go ?_ | ((with_reducible refine cn ?_ ?_) <;> intro h <;> (try simp at h) <;> try omega) | (refine Ru.go ?_; intro K hK; simp [go_sem, encG]; (try simp (disch := omega) only [wx, z_i]); (first | apply hK | refine ⟨by first | omega | (simp [z_f, z_g, encG]; first | done | omega), ?_⟩ | refine ⟨hK _ ?_, fun h => ?_⟩ | refine ⟨?_, ?_⟩); all_goals ((try apply hK); clear hK K))
  refine z_k (fun n e => ∃ k : Nat, k + n = a.decls.length /\ e = [(52, .sv (.one (.int .i64 k))), (51, .sv (.one (.int .i64 a.decls.length))), (50, .sv (.one (.sl (a.decls.map encD)))), (8, .sv (.one (.ow 2 ((varsOf b.decls).map encV)))), (7, .sv (.one (.ow 2 ((varsOf a.decls).map encV)))), (6, .sv (.one (.bx (encG a ++ (encG b ++ [encRow ((a.decls.take k).map (labAt b)), .nil, .nil]))))), (5, .sv (.one (.int .i64 0))), (4, .sv (.one (.bx zT))), (3, .sv (.one (.bx (encG b)))), (2, .sv (.one (.bx (encG a))))]) a.decls.length _ ⟨0, by simp, rfl⟩ (by simp [go_sem, encG, encRow_nil]) ?_
  rintro n e ⟨k, hk, rfl⟩
  by_cases hlt : k < a.decls.length
  ·skip
   obtain ⟨d, hdk⟩ : ∃ d, a.decls[k] = d := ⟨_, rfl⟩
   have j45 := hstep k hlt
   have j46 := hagr k hlt
   rw [hdk] at j45 j46
   obtain ⟨lb, hlb⟩ : ∃ lb, labAt b d = lb := ⟨_, rfl⟩
   rw [hlb] at j45
   simp only [encG] at j45
   have hsucc : (a.decls.take (k + 1)).map (labAt b) = (a.decls.take k).map (labAt b) ++ [lb] := by
    rw [List.take_succ_eq_append_getElem hlt, hdk, List.map_append, <- hlb]; rfl
   have hap : ∀ l : List Int, l.length <= 1000 -> z_f 1 8 (l.map encN) [[.int .i64 lb]] := by
    intro l hl
    refine ⟨?_, ?_, by omega, ?_, ?_⟩
    ·intro e he; rw [List.mem_singleton.1 he]; rfl
    ·intro e he; rw [List.mem_singleton.1 he]; rfl
    ·simp only [List.length_map, List.length_singleton, maxLen]; omega
    ·simp only [List.length_map, List.length_singleton]; omega
   have hlen : ((a.decls.take k).map (labAt b)).length <= 1000 := by
    have := sa.decls
    rw [List.length_map, List.length_take]; omega
   have hap0 := hap [] (by simp)
   have hap1 := hap _ hlen
   simp only [List.map_nil] at hap0
   obtain ⟨ls, hls⟩ : ∃ ls, (a.decls.take k).map (labAt b) = ls := ⟨_, rfl⟩
   rw [hls] at hap1 hsucc
   have hls0 : k = 0 -> ls = [] := fun h => by rw [<- hls, h]; rfl
   have hls1 : 0 < k -> encRow ls = .ow 1 (ls.map encN) := fun h => encRow_pos (fun e => by
    have h9 := congrArg List.length (hls.trans e)
    simp only [List.length_map, List.length_take, List.length_nil] at h9
    omega)
   rw [hls]
   have hok : okLab a b d = true := by
    rw [<- hdk]; exact List.all_eq_true.1 hall _ (List.getElem_mem hlt)
   unfold okLab at hok
   rw [hlb] at hok
   by_cases h0 : 0 <= lb
   ·have hlb2 : lb.toNat < b.decls.length := by
     have h2 : 0 <= labAt b d := by rw [hlb]; exact h0
     have h3 := firstB_lt h2
     change (labAt b d).toNat < _ at h3
     rwa [hlb] at h3
    obtain ⟨ee, hee⟩ : ∃ ee, b.decls[lb.toNat] = ee := ⟨_, rfl⟩
    have j46 := j46 ee (hee ▸ List.getElem_mem hlb2)
    have hagrT : agreeB (varsOf a.decls) (varsOf b.decls) d ee = true := by
     simp only [List.getElem?_eq_getElem hlb2, hee, Option.getD_some, Bool.or_eq_true, decide_eq_true_eq] at hok
     rcases hok with h | h
     ·omega
     ·exact h
    rw [hagrT] at j46
    simp only [encD] at j46
    have hg0 : (lb >= 0) = True := eq_true h0
    by_cases hk0 : k = 0
    ·subst hk0
     have e0 := hls0 rfl
     subst e0
     have q_ := aN hlt <| aN hdk <| aN h0 <| aN hg0 <| aN hlb2 <| aN hee <| hap0
     repeat' first | refine St.go ?_ | ((with_reducible refine cn ?_ ?_) <;> intro h <;> (try simp [q_] at h) <;> try omega) | (refine Ru.go ?_; intro K hK; simp [go_sem, encD, encG, encRow_nil, q_]; (try simp (disch := omega) only [wx, z_i]); (first | apply hK | ((try refine .inl ?_); refine ⟨_, by (try intro hc); (repeat' first | exact j45 | exact j46 | exact hc | refine And.intro ?_ ?_ | simp [go_sem, encD, encG, encRow_nil, q_]); first | done | omega, ?_⟩; first | apply hK | (refine ⟨by simp [go_sem, encD, encG, encRow_nil, q_], ?_⟩; first | apply hK | refine ⟨by simp [go_sem, encD, encG, encRow_nil, q_], hK _ _ ?_⟩)) | refine ⟨.one (.one (.bool false)), by simp [go_sem, encD, encG, encRow_nil, q_], hK _ _ ?_⟩ | refine ⟨by first | omega | (simp [z_f, z_g, encD, encG, encRow_nil, q_]; first | done | omega), ?_⟩ | refine ⟨hK _ ?_, fun h => ?_⟩ | refine ⟨?_, ?_⟩); all_goals ((try apply hK); clear hK K))
     all_goals try clear q_
     refine z_j (n - 1) _ (by omega) ⟨0 + 1, by omega, rfl⟩ ?_
     simp [go_sem, encG, hsucc, encRow_pos, encN]
    ·rw [hls1 (by omega)]
     have q_ := aN hlt <| aN hdk <| aN h0 <| aN hg0 <| aN hlb2 <| aN hee <| hap1
     repeat' first | refine St.go ?_ | ((with_reducible refine cn ?_ ?_) <;> intro h <;> (try simp [q_] at h) <;> try omega) | (refine Ru.go ?_; intro K hK; simp [go_sem, encD, encG, q_]; (try simp (disch := omega) only [wx, z_i]); (first | apply hK | ((try refine .inl ?_); refine ⟨_, by (try intro hc); (repeat' first | exact j45 | exact j46 | exact hc | refine And.intro ?_ ?_ | simp [go_sem, encD, encG, q_]); first | done | omega, ?_⟩; first | apply hK | (refine ⟨by simp [go_sem, encD, encG, q_], ?_⟩; first | apply hK | refine ⟨by simp [go_sem, encD, encG, q_], hK _ _ ?_⟩)) | refine ⟨.one (.one (.bool false)), by simp [go_sem, encD, encG, q_], hK _ _ ?_⟩ | refine ⟨by first | omega | (simp [z_f, z_g, encD, encG, q_]; first | done | omega), ?_⟩ | refine ⟨hK _ ?_, fun h => ?_⟩ | refine ⟨?_, ?_⟩); all_goals ((try apply hK); clear hK K))
     all_goals try clear q_
     refine z_j (n - 1) _ (by omega) ⟨k + 1, by omega, rfl⟩ ?_
     simp [go_sem, encG, hsucc, encRow_pos, encN]
   ·have hg0 : (lb >= 0) = False := eq_false h0
    cases hv2 : b.decls[lb.toNat]? with
    | none =>
      by_cases hk0 : k = 0
      ·subst hk0
       have e0 := hls0 rfl
       subst e0
       have q_ := aN hlt <| aN hdk <| aN h0 <| aN hg0 <| aN hv2 <| hap0
       repeat' first | refine St.go ?_ | ((with_reducible refine cn ?_ ?_) <;> intro h <;> (try simp [q_] at h) <;> try omega) | (refine Ru.go ?_; intro K hK; simp [go_sem, encD, encG, encRow_nil, q_]; (try simp (disch := omega) only [wx, z_i]); (first | apply hK | ((try refine .inl ?_); refine ⟨_, by (try intro hc); (repeat' first | exact j45 | exact hc | refine And.intro ?_ ?_ | simp [go_sem, encD, encG, encRow_nil, q_]); first | done | omega, ?_⟩; first | apply hK | (refine ⟨by simp [go_sem, encD, encG, encRow_nil, q_], ?_⟩; first | apply hK | refine ⟨by simp [go_sem, encD, encG, encRow_nil, q_], hK _ _ ?_⟩)) | refine ⟨.one (.one (.bool false)), by simp [go_sem, encD, encG, encRow_nil, q_], hK _ _ ?_⟩ | refine ⟨by first | omega | (simp [z_f, z_g, encD, encG, encRow_nil, q_]; first | done | omega), ?_⟩ | refine ⟨hK _ ?_, fun h => ?_⟩ | refine ⟨?_, ?_⟩); all_goals ((try apply hK); clear hK K))
       all_goals try clear q_
       refine z_j (n - 1) _ (by omega) ⟨0 + 1, by omega, rfl⟩ ?_
       simp [go_sem, encG, hsucc, encRow_pos, encN]
      ·rw [hls1 (by omega)]
       have q_ := aN hlt <| aN hdk <| aN h0 <| aN hg0 <| aN hv2 <| hap1
       repeat' first | refine St.go ?_ | ((with_reducible refine cn ?_ ?_) <;> intro h <;> (try simp [q_] at h) <;> try omega) | (refine Ru.go ?_; intro K hK; simp [go_sem, encD, encG, q_]; (try simp (disch := omega) only [wx, z_i]); (first | apply hK | ((try refine .inl ?_); refine ⟨_, by (try intro hc); (repeat' first | exact j45 | exact hc | refine And.intro ?_ ?_ | simp [go_sem, encD, encG, q_]); first | done | omega, ?_⟩; first | apply hK | (refine ⟨by simp [go_sem, encD, encG, q_], ?_⟩; first | apply hK | refine ⟨by simp [go_sem, encD, encG, q_], hK _ _ ?_⟩)) | refine ⟨.one (.one (.bool false)), by simp [go_sem, encD, encG, q_], hK _ _ ?_⟩ | refine ⟨by first | omega | (simp [z_f, z_g, encD, encG, q_]; first | done | omega), ?_⟩ | refine ⟨hK _ ?_, fun h => ?_⟩ | refine ⟨?_, ?_⟩); all_goals ((try apply hK); clear hK K))
       all_goals try clear q_
       refine z_j (n - 1) _ (by omega) ⟨k + 1, by omega, rfl⟩ ?_
       simp [go_sem, encG, hsucc, encRow_pos, encN]
    | some ev =>
      by_cases hk0 : k = 0
      ·subst hk0
       have e0 := hls0 rfl
       subst e0
       have q_ := aN hlt <| aN hdk <| aN h0 <| aN hg0 <| aN hv2 <| hap0
       repeat' first | refine St.go ?_ | ((with_reducible refine cn ?_ ?_) <;> intro h <;> (try simp [q_] at h) <;> try omega) | (refine Ru.go ?_; intro K hK; simp [go_sem, encD, encG, encRow_nil, q_]; (try simp (disch := omega) only [wx, z_i]); (first | apply hK | ((try refine .inl ?_); refine ⟨_, by (try intro hc); (repeat' first | exact j45 | exact hc | refine And.intro ?_ ?_ | simp [go_sem, encD, encG, encRow_nil, q_]); first | done | omega, ?_⟩; first | apply hK | (refine ⟨by simp [go_sem, encD, encG, encRow_nil, q_], ?_⟩; first | apply hK | refine ⟨by simp [go_sem, encD, encG, encRow_nil, q_], hK _ _ ?_⟩)) | refine ⟨.one (.one (.bool false)), by simp [go_sem, encD, encG, encRow_nil, q_], hK _ _ ?_⟩ | refine ⟨by first | omega | (simp [z_f, z_g, encD, encG, encRow_nil, q_]; first | done | omega), ?_⟩ | refine ⟨hK _ ?_, fun h => ?_⟩ | refine ⟨?_, ?_⟩); all_goals ((try apply hK); clear hK K))
       all_goals try clear q_
       refine z_j (n - 1) _ (by omega) ⟨0 + 1, by omega, rfl⟩ ?_
       simp [go_sem, encG, hsucc, encRow_pos, encN]
      ·rw [hls1 (by omega)]
       have q_ := aN hlt <| aN hdk <| aN h0 <| aN hg0 <| aN hv2 <| hap1
       repeat' first | refine St.go ?_ | ((with_reducible refine cn ?_ ?_) <;> intro h <;> (try simp [q_] at h) <;> try omega) | (refine Ru.go ?_; intro K hK; simp [go_sem, encD, encG, q_]; (try simp (disch := omega) only [wx, z_i]); (first | apply hK | ((try refine .inl ?_); refine ⟨_, by (try intro hc); (repeat' first | exact j45 | exact hc | refine And.intro ?_ ?_ | simp [go_sem, encD, encG, q_]); first | done | omega, ?_⟩; first | apply hK | (refine ⟨by simp [go_sem, encD, encG, q_], ?_⟩; first | apply hK | refine ⟨by simp [go_sem, encD, encG, q_], hK _ _ ?_⟩)) | refine ⟨.one (.one (.bool false)), by simp [go_sem, encD, encG, q_], hK _ _ ?_⟩ | refine ⟨by first | omega | (simp [z_f, z_g, encD, encG, q_]; first | done | omega), ?_⟩ | refine ⟨hK _ ?_, fun h => ?_⟩ | refine ⟨?_, ?_⟩); all_goals ((try apply hK); clear hK K))
       all_goals try clear q_
       refine z_j (n - 1) _ (by omega) ⟨k + 1, by omega, rfl⟩ ?_
       simp [go_sem, encG, hsucc, encRow_pos, encN]
  ·have hkl : a.decls.take k = a.decls := List.take_of_length_le (by omega)
   rw [hkl]
   repeat' first | refine St.go ?_ | ((with_reducible refine cn ?_ ?_) <;> intro h <;> (try simp [hlt] at h) <;> try omega) | (refine Ru.go ?_; intro K hK; simp [go_sem, hlt]; (try simp (disch := omega) only [wx, z_i]); (first | apply hK | refine ⟨by first | omega | (simp [z_f, z_g, hlt]; first | done | omega), ?_⟩ | refine ⟨hK _ ?_, fun h => ?_⟩ | refine ⟨?_, ?_⟩); all_goals ((try apply hK); clear hK K))
   refine z_m ?_
   simp [go_sem, encG]
 have hnum : numT (tab0 a b) := ⟨(valid_num va).1, (valid_num vb).1⟩
 obtain ⟨na1, na2, na3, na4, na5, na6, na7⟩ := numbered_facts hnum.1
 obtain ⟨nb1, nb2, nb3, nb4, nb5, nb6, nb7⟩ := numbered_facts hnum.2
 have hsz : sizeP (tab0 a b) <= 40200 := by
  have h1 : (tab0 a b).old.states.toNat <= 200 := by omega
  have h2 : (tab0 a b).new.states.toNat + 1 <= 201 := by omega
  exact Nat.mul_le_mul h1 h2
 have k47 : ∀ (ps : List Pr) (s : Int) (x : Edg), Impl Tryz.prog 47 [.ag (encG a ++ (encG b ++ [encRowF (a.decls.map (labAt b)), .sl (ps.map encEq), .nil])), .one (.int .i64 s), .ag (encEd x)] (.one (.one (.int .i64 (folB (tab0 a b) s x)))) := fun ps s x =>
  Impl.agFirst (f47 (fillT (tab0 a b) ps []) s x (by have := sb.edges; show b.edges.length <= _; omega)) (by
   have h : towardD [encRowF (a.decls.map (labAt b)), .sl (ps.map encEq), .nil] [.sl ((a.decls.map (labAt b)).map encN), .sl (ps.map encEq), .sl ([].map encBl)] := ⟨toward_encRowF _, DV.toward_self _, rfl, trivial⟩
   exact towardD_pre (towardD_pre h _) _)
 simp only [encG, encEd, List.cons_append, List.nil_append] at k47
 refine z_l [(6, .sv (.one (.bx (encG a ++ (encG b ++ [encRow (a.decls.map (labAt b)), .ow 2 ([(a.start, b.start)].map encEq), .nil]))))), (5, .sv (.one (.int .i64 0))), (4, .sv (.one (.bx zT))), (3, .sv (.one (.bx (encG b)))), (2, .sv (.one (.bx (encG a))))] ?_ ?_
 ·skip
  repeat' first | refine St.go ?_ | ((with_reducible refine cn ?_ ?_) <;> intro h <;> (try simp at h) <;> try omega) | (refine Ru.go ?_; intro K hK; simp [go_sem, encG, encEq]; (try simp (disch := omega) only [wx, z_i]); (first | apply hK | refine ⟨by first | omega | (simp [z_f, z_g, encG, encEq]; first | done | omega), ?_⟩ | refine ⟨hK _ ?_, fun h => ?_⟩ | refine ⟨?_, ?_⟩); all_goals ((try apply hK); clear hK K))
  refine z_m ?_
  first | (simp [go_sem, encG, encEq]; done) | (simp [go_sem, encG, encEq]; exact of_eq_true (le_self _))
 have hko0 : KeyOk Tryz.prog 61 [.ki .i64 a.start, .ki .i64 b.start] [] := keyOkP (a.start, b.start) []
 refine z_l [(12, .sv (.one (.mp (mapP [(a.start, b.start)])))), (6, .sv (.one (.bx (encG a ++ (encG b ++ [encRow (a.decls.map (labAt b)), .ow 2 ([(a.start, b.start)].map encEq), .nil]))))), (5, .sv (.one (.int .i64 0))), (4, .sv (.one (.bx zT))), (3, .sv (.one (.bx (encG b)))), (2, .sv (.one (.bx (encG a))))] ?_ ?_
 ·skip
  repeat' first | refine St.go ?_ | ((with_reducible refine cn ?_ ?_) <;> intro h <;> (try simp [hko0] at h) <;> try omega) | (refine Ru.go ?_; intro K hK; simp [go_sem, encG, encEq, hko0, mpSet]; (try simp (disch := omega) only [wx, z_i]); (first | apply hK | refine ⟨by first | omega | (simp [z_f, z_g, encG, encEq, hko0, mpSet]; first | done | omega), ?_⟩ | refine ⟨hK _ ?_, fun h => ?_⟩ | refine ⟨?_, ?_⟩); all_goals ((try apply hK); clear hK K))
  refine z_m ?_
  first | (simp [go_sem, encG, encEq, mapP, mapFrom, keyP, mpSet]; done) | (simp [go_sem, encG, encEq, mapP, mapFrom, keyP, mpSet]; exact of_eq_true (le_self _))
 refine z_l [(13, .sv (.one (encBh []))), (12, .sv (.one (.mp (mapP [(a.start, b.start)])))), (6, .sv (.one (.bx (encG a ++ (encG b ++ [encRow (a.decls.map (labAt b)), .ow 2 ([(a.start, b.start)].map encEq), .nil]))))), (5, .sv (.one (.int .i64 0))), (4, .sv (.one (.bx zT))), (3, .sv (.one (.bx (encG b)))), (2, .sv (.one (.bx (encG a))))] ?_ ?_
 ·skip
  repeat' first | refine St.go ?_ | ((with_reducible refine cn ?_ ?_) <;> intro h <;> (try simp at h) <;> try omega) | (refine Ru.go ?_; intro K hK; simp [go_sem, encG]; (try simp (disch := omega) only [wx, z_i]); (first | apply hK | refine ⟨by first | omega | (simp [z_f, z_g, encG]; first | done | omega), ?_⟩ | refine ⟨hK _ ?_, fun h => ?_⟩ | refine ⟨?_, ?_⟩); all_goals ((try apply hK); clear hK K))
  refine z_m ?_
  first | (simp [go_sem, encG, encBh_nil]; done) | (simp [go_sem, encG, encBh_nil]; exact of_eq_true (le_self _))
 obtain ⟨R, hRR⟩ : ∃ R, cmpPairs (tab0 a b) = R := ⟨_, rfl⟩
 refine z_l [(13, .sv (.one (encBh (R.map (rowOf (succP (tab0 a b)) R))))), (6, .sv (.one (.bx (encG a ++ (encG b ++ [encRowF (a.decls.map (labAt b)), .sl (R.map encEq), .nil]))))), (5, .sv (.one (.int .i64 0))), (4, .sv (.one (.bx zT))), (3, .sv (.one (.bx (encG b)))), (2, .sv (.one (.bx (encG a))))] ?_ ?_
 ·skip
  repeat' first | refine St.go ?_ | ((with_reducible refine cn ?_ ?_) <;> intro h <;> (try simp at h) <;> try omega) | (refine Ru.go ?_; intro K hK; simp [go_sem, encG]; (try simp (disch := omega) only [wx, z_i]); (first | apply hK | refine ⟨by first | omega | (simp [z_f, z_g, encG]; first | done | omega), ?_⟩ | refine ⟨hK _ ?_, fun h => ?_⟩ | refine ⟨?_, ?_⟩); all_goals ((try apply hK); clear hK K))
  refine z_k (fun n e => ∃ (i : Nat) (ps : List Pr), bfs (succP (tab0 a b)) n i ps = R /\ i + n = sizeP (tab0 a b) /\ (i <= ps.length /\ ps.Nodup /\ (∀ p ∈ ps, inBox (tab0 a b).old.states.toNat (tab0 a b).new.states.toNat p) /\ closedTo (succP (tab0 a b)) i ps) /\ e = [(14, .sv (.one (.int .i64 i))), (13, .sv (.one (encBh ((ps.take i).map (rowOf (succP (tab0 a b)) ps))))), (12, .sv (.one (.mp (mapP ps)))), (6, .sv (.one (.bx (encG a ++ (encG b ++ [encRow (a.decls.map (labAt b)), .ow 2 (ps.map encEq), .nil]))))), (5, .sv (.one (.int .i64 0))), (4, .sv (.one (.bx zT))), (3, .sv (.one (.bx (encG b)))), (2, .sv (.one (.bx (encG a))))]) (sizeP (tab0 a b)) _ ⟨0, [(a.start, b.start)], hRR, by simp, ⟨by simp, by simp, ?_, ?_⟩, rfl⟩ (by simp [go_sem, encG, encBh_nil]) ?_
  ·intro p hp
   rw [List.mem_singleton.1 hp]
   exact start_box hnum
  ·intro p hp
   simp at hp
  rintro n e ⟨i, ps, hR, hin, ⟨hil, hnd, hbx, hcl⟩, rfl⟩
  have hpl := box_len hnd hbx
  change ps.length <= sizeP (tab0 a b) at hpl
  by_cases hlt : i < ps.length
  ·obtain ⟨⟨p1, p2⟩, hp⟩ : ∃ p, ps[i] = p := ⟨_, rfl⟩
   have hpq : ps[i]? = some (p1, p2) := by rw [List.getElem?_eq_getElem hlt, hp]
   obtain ⟨m, rfl⟩ : ∃ m, n = m + 1 := ⟨n - 1, by omega⟩
   simp only [bfs, hpq] at hR
   refine z_l [(14, .sv (.one (.int .i64 i))), (13, .sv (.one (encBh ((ps.take i).map (rowOf (succP (tab0 a b)) ps))))), (12, .sv (.one (.mp (mapP ps)))), (6, .sv (.one (.bx (encG a ++ (encG b ++ [encRow (a.decls.map (labAt b)), .ow 2 (ps.map encEq), .nil]))))), (5, .sv (.one (.int .i64 0))), (4, .sv (.one (.bx zT))), (3, .sv (.one (.bx (encG b)))), (2, .sv (.one (.bx (encG a))))] ?_ ?_
   ·skip
    repeat' first | refine St.go ?_ | ((with_reducible refine cn ?_ ?_) <;> intro h <;> (try simp [hlt] at h) <;> try omega) | (refine Ru.go ?_; intro K hK; simp [go_sem, hlt, encG]; (try simp (disch := omega) only [wx, z_i]); (first | apply hK | refine ⟨by first | omega | (simp [z_f, z_g, hlt, encG]; first | done | omega), ?_⟩ | refine ⟨hK _ ?_, fun h => ?_⟩ | refine ⟨?_, ?_⟩); all_goals ((try apply hK); clear hK K))
    refine z_m ?_
    first | (simp [go_sem, encG]; done) | (simp [go_sem, encG]; exact of_eq_true (le_self _))
   obtain ⟨qs, hqs⟩ : ∃ qs, succP (tab0 a b) (p1, p2) = qs := ⟨_, rfl⟩
   rw [hqs] at hR
   have hcl2 := closed_step hcl hpq
   rw [hqs] at hcl2
   obtain ⟨old, hold⟩ : ∃ old, (ps.take i).map (rowOf (succP (tab0 a b)) ps) = old := ⟨_, rfl⟩
   rw [hold]
   have holdl : old.length = i := by rw [<- hold]; simp; omega
   refine z_l [(14, .sv (.one (.int .i64 i))), (13, .sv (.one (.ow 1 (old.map (fun r => [encRow r]) ++ [[encRow (qs.map (idxP (addAll ps qs)))]])))), (12, .sv (.one (.mp (mapP (addAll ps qs))))), (6, .sv (.one (.bx (encG a ++ (encG b ++ [encRow (a.decls.map (labAt b)), .ow 2 ((addAll ps qs).map encEq), .nil]))))), (5, .sv (.one (.int .i64 0))), (4, .sv (.one (.bx zT))), (3, .sv (.one (.bx (encG b)))), (2, .sv (.one (.bx (encG a))))] ?_ ?_
   ·refine z_C ?_
    refine z_l [(14, .sv (.one (.int .i64 i))), (13, .sv (.one (.ow 1 (old.map (fun r => [encRow r]) ++ [[encRow []]])))), (12, .sv (.one (.mp (mapP ps)))), (6, .sv (.one (.bx (encG a ++ (encG b ++ [encRow (a.decls.map (labAt b)), .ow 2 (ps.map encEq), .nil]))))), (5, .sv (.one (.int .i64 0))), (4, .sv (.one (.bx zT))), (3, .sv (.one (.bx (encG b)))), (2, .sv (.one (.bx (encG a))))] ?_ ?_
    ·have hap : ∀ l : List (List DV), l.length <= 100000 -> z_f 1 24 l [[.nil]] := by
      intro l hl
      refine ⟨?_, ?_, by omega, ?_, ?_⟩
      ·intro e he; rw [List.mem_singleton.1 he]; rfl
      ·intro e he; rw [List.mem_singleton.1 he]; rfl
      ·simp only [List.length_singleton, maxLen]; omega
      ·simp only [List.length_singleton]; omega
     by_cases hi0 : old = []
     ·have hap0 := hap [] (by simp)
      rw [hi0]
      repeat' first | refine St.go ?_ | ((with_reducible refine cn ?_ ?_) <;> intro h <;> (try simp [hap0] at h) <;> try omega) | (refine Ru.go ?_; intro K hK; simp [go_sem, encBh_nil, hap0, encG]; (try simp (disch := omega) only [wx, z_i]); (first | apply hK | refine ⟨by first | omega | (simp [z_f, z_g, encBh_nil, hap0, encG]; first | done | omega), ?_⟩ | refine ⟨hK _ ?_, fun h => ?_⟩ | refine ⟨?_, ?_⟩); all_goals ((try apply hK); clear hK K))
      refine z_m ?_
      simp [go_sem, encG, encRow_nil]
     ·have hap1 := hap (old.map fun r => [encRow r]) (by simp; omega)
      rw [encBh_pos hi0]
      repeat' first | refine St.go ?_ | ((with_reducible refine cn ?_ ?_) <;> intro h <;> (try simp [hap1] at h) <;> try omega) | (refine Ru.go ?_; intro K hK; simp [go_sem, hap1, encG]; (try simp (disch := omega) only [wx, z_i]); (first | apply hK | refine ⟨by first | omega | (simp [z_f, z_g, hap1, encG]; first | done | omega), ?_⟩ | refine ⟨hK _ ?_, fun h => ?_⟩ | refine ⟨?_, ?_⟩); all_goals ((try apply hK); clear hK K))
      refine z_m ?_
      simp [go_sem, encG, encRow_nil]
    obtain ⟨ks, hks⟩ : ∃ ks, sortedE a.edges p1 = ks := ⟨_, rfl⟩
    have j28 := k28 p1
    rw [hks] at j28
    have hkq : qs = ks.map (stepK (tab0 a b) (p1, p2)) := by rw [<- hqs, <- hks]; rfl
    have hqn : qs.length = ks.length := by rw [hkq]; simp
    have hkl : ks.length <= 1000 := by
     rw [<- hks]
     unfold sortedE
     rw [isort_len]
     have h1 := ofState_len a.edges p1 a.edges.length
     have h2 := sa.edges
     omega
    repeat' first | refine St.go ?_ | ((with_reducible refine cn ?_ ?_) <;> intro h <;> (try simp [hlt, hp] at h) <;> try omega) | (refine Ru.go ?_; intro K hK; simp [go_sem, hlt, hp, encG, encEq]; (try simp (disch := omega) only [wx, z_i]); (first | apply hK | ((try refine .inl ?_); refine ⟨_, by (try intro hc); (repeat' first | exact j28 | exact hc | refine And.intro ?_ ?_ | simp [go_sem, hlt, hp, encG, encEq]); first | done | omega, ?_⟩; first | apply hK | (refine ⟨by simp [go_sem, hlt, hp, encG, encEq], ?_⟩; first | apply hK | refine ⟨by simp [go_sem, hlt, hp, encG, encEq], hK _ _ ?_⟩)) | refine ⟨.one (.one (.bool false)), by simp [go_sem, hlt, hp, encG, encEq], hK _ _ ?_⟩ | refine ⟨by first | omega | (simp [z_f, z_g, hlt, hp, encG, encEq]; first | done | omega), ?_⟩ | refine ⟨hK _ ?_, fun h => ?_⟩ | refine ⟨?_, ?_⟩); all_goals ((try apply hK); clear hK K))
    refine z_k (fun q e => ∃ (j : Nat) (ps' : List Pr), j + q = ks.length /\ ps' = addAll ps (qs.take j) /\ e = [(114, .sv (.one (.int .i64 j))), (113, .sv (.one (.int .i64 ks.length))), (112, .sv (.one (.ow 1 (ks.map encN)))), (14, .sv (.one (.int .i64 i))), (13, .sv (.one (.ow 1 (old.map (fun r => [encRow r]) ++ [[encRow ((qs.take j).map (idxP ps'))]])))), (12, .sv (.one (.mp (mapP ps')))), (6, .sv (.one (.bx (encG a ++ (encG b ++ [encRow (a.decls.map (labAt b)), .ow 2 (ps'.map encEq), .nil]))))), (5, .sv (.one (.int .i64 0))), (4, .sv (.one (.bx zT))), (3, .sv (.one (.bx (encG b)))), (2, .sv (.one (.bx (encG a))))]) ks.length _ ⟨0, ps, by simp, rfl, rfl⟩ (by simp [go_sem, encG, encRow_nil]) ?_
    rintro q e ⟨j, ps', hj, hps', rfl⟩
    obtain ⟨tl, htl⟩ := addAll_pre ps (qs.take j)
    rw [<- hps'] at htl
    have hnd' : ps'.Nodup := by rw [hps']; exact nodup_addAll hnd
    have hbx' : ∀ p ∈ ps', inBox (tab0 a b).old.states.toNat (tab0 a b).new.states.toNat p := by
     intro p hp2
     rw [hps'] at hp2
     rcases mem_addAll.1 hp2 with h | h
     ·exact hbx p h
     ·exact succ_box hnum _ (hbx _ (List.mem_of_getElem? hpq)) p (by rw [hqs]; exact List.mem_of_mem_take h)
    have hpl' := box_len hnd' hbx'
    change ps'.length <= sizeP (tab0 a b) at hpl'
    have hilt : i < ps'.length := by rw [htl, List.length_append]; omega
    have hp' : ps'[i] = (p1, p2) := by
     have h1 : ps'[i]? = some (p1, p2) := by rw [htl, List.getElem?_append_left hlt]; exact hpq
     rw [List.getElem?_eq_getElem hilt] at h1
     exact Option.some.inj h1
    obtain ⟨row, hrow⟩ : ∃ row, (qs.take j).map (idxP ps') = row := ⟨_, rfl⟩
    rw [hrow]
    have hrowl : row.length = min j qs.length := by rw [<- hrow]; simp
    by_cases hjl : j < ks.length
    ·obtain ⟨k, hkj⟩ : ∃ k, ks[j] = k := ⟨_, rfl⟩
     have hkm : k ∈ sortedE a.edges p1 := by rw [hks, <- hkj]; exact List.getElem_mem hjl
     obtain ⟨x, hx, hk0, hxf⟩ := mem_sortedE.1 hkm
     obtain ⟨hk1, hkx⟩ := List.getElem?_eq_some_iff.1 hx
     obtain ⟨q2, hq2⟩ : ∃ q2, folB (tab0 a b) p2 x = q2 := ⟨_, rfl⟩
     have j47 := k47 ps' p2 x
     rw [hq2] at j47
     have hjq : j < qs.length := by omega
     have hqj : qs[j] = (x.to, q2) := by
      have h1 : qs[j]? = some (x.to, q2) := by
       rw [hkq, List.getElem?_map, List.getElem?_eq_getElem hjl, hkj]
       show some (stepK (tab0 a b) (p1, p2) k) = _
       have hx2 : (tab0 a b).old.edges[k.toNat]? = some x := hx
       simp only [stepK, hx2, stepX, hq2]
      rw [List.getElem?_eq_getElem hjq] at h1
      exact Option.some.inj h1
     have htk : qs.take (j + 1) = qs.take j ++ [(x.to, q2)] := by rw [List.take_succ_eq_append_getElem hjq, hqj]
     obtain ⟨ps2, hps2⟩ : ∃ ps2, addP ps' (x.to, q2) = ps2 := ⟨_, rfl⟩
     have hnext : ps2 = addAll ps (qs.take (j + 1)) := by rw [htk, addAll_append, <- hps', <- hps2]; rfl
     have hmem2 : (x.to, q2) ∈ ps2 := by rw [<- hps2, mem_addP]; exact .inr rfl
     have hget2 := mapP_some hmem2
     have hko2 := keyOkP (x.to, q2) ps2
     have hko1 := keyOkP (x.to, q2) ps'
     obtain ⟨id, hid⟩ : ∃ id, idxP ps2 (x.to, q2) = id := ⟨_, rfl⟩
     rw [hid] at hget2
     dsimp only at hget2 hko2 hko1
     have hrow2 : (qs.take (j + 1)).map (idxP ps2) = row ++ [id] := by
      rw [htk, List.map_append, <- hid]
      congr 1
      rw [<- hrow]
      refine List.map_congr_left fun z hz => ?_
      obtain ⟨tl2, htl2⟩ := addP_pre ps' (x.to, q2)
      rw [<- hps2, htl2]
      exact idxP_pre (by rw [hps', mem_addAll]; exact .inr hz)
     refine z_l [(115, .sv (.one (.bool true))), (114, .sv (.one (.int .i64 j))), (113, .sv (.one (.int .i64 ks.length))), (112, .sv (.one (.ow 1 (ks.map encN)))), (14, .sv (.one (.int .i64 i))), (13, .sv (.one (.ow 1 (old.map (fun r => [encRow r]) ++ [[encRow row]])))), (12, .sv (.one (.mp (mapP ps')))), (6, .sv (.one (.bx (encG a ++ (encG b ++ [encRow (a.decls.map (labAt b)), .ow 2 (ps'.map encEq), .nil]))))), (5, .sv (.one (.int .i64 0))), (4, .sv (.one (.bx zT))), (3, .sv (.one (.bx (encG b)))), (2, .sv (.one (.bx (encG a))))] ?_ ?_
     ·skip
      repeat' first | refine St.go ?_ | ((with_reducible refine cn ?_ ?_) <;> intro h <;> (try simp [hjl] at h) <;> try omega) | (refine Ru.go ?_; intro K hK; simp [go_sem, hjl, encG]; (try simp (disch := omega) only [wx, z_i]); (first | apply hK | refine ⟨by first | omega | (simp [z_f, z_g, hjl, encG]; first | done | omega), ?_⟩ | refine ⟨hK _ ?_, fun h => ?_⟩ | refine ⟨?_, ?_⟩); all_goals ((try apply hK); clear hK K))
      refine z_m ?_
      first | (simp [go_sem, encG, hjl]; done) | (simp [go_sem, encG, hjl]; exact of_eq_true (le_self _))
     refine z_l [(114, .sv (.one (.int .i64 j))), (113, .sv (.one (.int .i64 ks.length))), (112, .sv (.one (.ow 1 (ks.map encN)))), (14, .sv (.one (.int .i64 i))), (13, .sv (.one (.ow 1 (old.map (fun r => [encRow r]) ++ [[encRow row]])))), (12, .sv (.one (.mp (mapP ps')))), (6, .sv (.one (.bx (encG a ++ (encG b ++ [encRow (a.decls.map (labAt b)), .ow 2 (ps'.map encEq), .nil]))))), (5, .sv (.one (.int .i64 0))), (4, .sv (.one (.bx zT))), (3, .sv (.one (.bx (encG b)))), (2, .sv (.one (.bx (encG a))))] ?_ ?_
     ·skip
      repeat' first | refine St.go ?_ | ((with_reducible refine cn ?_ ?_) <;> intro h <;> (try simp at h) <;> try omega) | (refine Ru.go ?_; intro K hK; simp [go_sem, encG]; (try simp (disch := omega) only [wx, z_i]); (first | apply hK | refine ⟨by first | omega | (simp [z_f, z_g, encG]; first | done | omega), ?_⟩ | refine ⟨hK _ ?_, fun h => ?_⟩ | refine ⟨?_, ?_⟩); all_goals ((try apply hK); clear hK K))
      refine z_m ?_
      first | (simp [go_sem, encG]; done) | (simp [go_sem, encG]; exact of_eq_true (le_self _))
     refine z_l [(114, .sv (.one (.int .i64 j))), (113, .sv (.one (.int .i64 ks.length))), (112, .sv (.one (.ow 1 (ks.map encN)))), (14, .sv (.one (.int .i64 i))), (13, .sv (.one (.ow 1 (old.map (fun r => [encRow r]) ++ [[encRow (row ++ [id])]])))), (12, .sv (.one (.mp (mapP ps2)))), (6, .sv (.one (.bx (encG a ++ (encG b ++ [encRow (a.decls.map (labAt b)), .ow 2 (ps2.map encEq), .nil]))))), (5, .sv (.one (.int .i64 0))), (4, .sv (.one (.bx zT))), (3, .sv (.one (.bx (encG b)))), (2, .sv (.one (.bx (encG a))))] ?_ ?_
     ·refine z_C ?_
      refine z_l [(16, .sv (.one (.int .i64 k))), (114, .sv (.one (.int .i64 j))), (113, .sv (.one (.int .i64 ks.length))), (112, .sv (.one (.ow 1 (ks.map encN)))), (14, .sv (.one (.int .i64 i))), (13, .sv (.one (.ow 1 (old.map (fun r => [encRow r]) ++ [[encRow row]])))), (12, .sv (.one (.mp (mapP ps')))), (6, .sv (.one (.bx (encG a ++ (encG b ++ [encRow (a.decls.map (labAt b)), .ow 2 (ps'.map encEq), .nil]))))), (5, .sv (.one (.int .i64 0))), (4, .sv (.one (.bx zT))), (3, .sv (.one (.bx (encG b)))), (2, .sv (.one (.bx (encG a))))] ?_ ?_
      ·skip
       repeat' first | refine St.go ?_ | ((with_reducible refine cn ?_ ?_) <;> intro h <;> (try simp [hjl, hkj] at h) <;> try omega) | (refine Ru.go ?_; intro K hK; simp [go_sem, hjl, hkj, encN, encG]; (try simp (disch := omega) only [wx, z_i]); (first | apply hK | refine ⟨by first | omega | (simp [z_f, z_g, hjl, hkj, encN, encG]; first | done | omega), ?_⟩ | refine ⟨hK _ ?_, fun h => ?_⟩ | refine ⟨?_, ?_⟩); all_goals ((try apply hK); clear hK K))
       refine z_m ?_
       first | (simp [go_sem, encG]; done) | (simp [go_sem, encG]; exact of_eq_true (le_self _))
      refine z_l [(17, .sv (.one (.bx [.int .i64 x.to, .int .i64 q2]))), (114, .sv (.one (.int .i64 j))), (113, .sv (.one (.int .i64 ks.length))), (112, .sv (.one (.ow 1 (ks.map encN)))), (14, .sv (.one (.int .i64 i))), (13, .sv (.one (.ow 1 (old.map (fun r => [encRow r]) ++ [[encRow row]])))), (12, .sv (.one (.mp (mapP ps')))), (6, .sv (.one (.bx (encG a ++ (encG b ++ [encRow (a.decls.map (labAt b)), .ow 2 (ps'.map encEq), .nil]))))), (5, .sv (.one (.int .i64 0))), (4, .sv (.one (.bx zT))), (3, .sv (.one (.bx (encG b)))), (2, .sv (.one (.bx (encG a))))] ?_ ?_
      ·skip
       have q_ := aN hilt <| aN hp' <| aN hk0 <| aN hk1 <| hkx
       repeat' first | refine St.go ?_ | ((with_reducible refine cn ?_ ?_) <;> intro h <;> (try simp [q_] at h) <;> try omega) | (refine Ru.go ?_; intro K hK; simp [go_sem, encEd, encEq, encG, hasOw_cons, isOw, Bool.or_true, Bool.true_or, frz_encRow, q_]; (try simp (disch := omega) only [wx, z_i]); (first | apply hK | ((try refine .inl ?_); refine ⟨_, by (try intro hc); (repeat' first | exact j47 | exact hc | refine And.intro ?_ ?_ | simp [go_sem, encEd, encEq, encG, hasOw_cons, isOw, Bool.or_true, Bool.true_or, frz_encRow, q_]); first | done | omega, ?_⟩; first | apply hK | (refine ⟨by simp [go_sem, encEd, encEq, encG, hasOw_cons, isOw, Bool.or_true, Bool.true_or, frz_encRow, q_], ?_⟩; first | apply hK | refine ⟨by simp [go_sem, encEd, encEq, encG, hasOw_cons, isOw, Bool.or_true, Bool.true_or, frz_encRow, q_], hK _ _ ?_⟩)) | refine ⟨.one (.one (.bool false)), by simp [go_sem, encEd, encEq, encG, hasOw_cons, isOw, Bool.or_true, Bool.true_or, frz_encRow, q_], hK _ _ ?_⟩ | refine ⟨by first | omega | (simp [z_f, z_g, encEd, encEq, encG, hasOw_cons, isOw, Bool.or_true, Bool.true_or, frz_encRow, q_]; first | done | omega), ?_⟩ | refine ⟨hK _ ?_, fun h => ?_⟩ | refine ⟨?_, ?_⟩); all_goals ((try apply hK); clear hK K))
       all_goals try clear q_
       refine z_m ?_
       first | (simp [go_sem, encG]; done) | (simp [go_sem, encG]; exact of_eq_true (le_self _))
      refine z_l [(17, .sv (.one (.bx [.int .i64 x.to, .int .i64 q2]))), (114, .sv (.one (.int .i64 j))), (113, .sv (.one (.int .i64 ks.length))), (112, .sv (.one (.ow 1 (ks.map encN)))), (14, .sv (.one (.int .i64 i))), (13, .sv (.one (.ow 1 (old.map (fun r => [encRow r]) ++ [[encRow row]])))), (12, .sv (.one (.mp (mapP ps2)))), (6, .sv (.one (.bx (encG a ++ (encG b ++ [encRow (a.decls.map (labAt b)), .ow 2 (ps2.map encEq), .nil]))))), (5, .sv (.one (.int .i64 0))), (4, .sv (.one (.bx zT))), (3, .sv (.one (.bx (encG b)))), (2, .sv (.one (.bx (encG a))))] ?_ ?_
      ·by_cases hq : (x.to, q2) ∈ ps'
       ·have hg1 := mapP_some hq
        have e2 : ps2 = ps' := by rw [<- hps2]; unfold addP; rw [if_pos hq]
        rw [e2]
        repeat' first | refine St.go ?_ | ((with_reducible refine cn ?_ ?_) <;> intro h <;> (try simp [hg1, hko1] at h) <;> try omega) | (refine Ru.go ?_; intro K hK; simp [go_sem, hg1, hko1, encG]; (try simp (disch := omega) only [wx, z_i]); (first | apply hK | refine ⟨by first | omega | (simp [z_f, z_g, hg1, hko1, encG]; first | done | omega), ?_⟩ | refine ⟨hK _ ?_, fun h => ?_⟩ | refine ⟨?_, ?_⟩); all_goals ((try apply hK); clear hK K))
        refine z_m ?_
        simp [go_sem, encG]
       ·have hg1 := mapP_none hq
        have hs1 := mapP_set hq
        dsimp only at hg1 hs1
        have e2 : ps2 = ps' ++ [(x.to, q2)] := by rw [<- hps2]; unfold addP; rw [if_neg hq]
        have hap : z_f 2 16 (ps'.map encEq) [[.int .i64 x.to, .int .i64 q2]] := by
         refine ⟨?_, ?_, by omega, ?_, ?_⟩
         ·intro e he; rw [List.mem_singleton.1 he]; rfl
         ·intro e he; rw [List.mem_singleton.1 he]; rfl
         ·simp only [List.length_map, List.length_singleton, maxLen]; omega
         ·simp only [List.length_map, List.length_singleton]; omega
        rw [e2]
        have q_ := aN hg1 <| aN hs1 <| aN hko1 <| hap
        repeat' first | refine St.go ?_ | ((with_reducible refine cn ?_ ?_) <;> intro h <;> (try simp [q_] at h) <;> try omega) | (refine Ru.go ?_; intro K hK; simp [go_sem, encG, q_]; (try simp (disch := omega) only [wx, z_i]); (first | apply hK | refine ⟨by first | omega | (simp [z_f, z_g, encG, q_]; first | done | omega), ?_⟩ | refine ⟨hK _ ?_, fun h => ?_⟩ | refine ⟨?_, ?_⟩); all_goals ((try apply hK); clear hK K))
        all_goals try clear q_
        refine z_m ?_
        simp [go_sem, encG, encEq]
      have hap2 : ∀ l : List Int, l.length <= 100000 -> z_f 1 8 (l.map encN) [[.int .i64 id]] := by
       intro l hl
       refine ⟨?_, ?_, by omega, ?_, ?_⟩
       ·intro e he; rw [List.mem_singleton.1 he]; rfl
       ·intro e he; rw [List.mem_singleton.1 he]; rfl
       ·simp only [List.length_map, List.length_singleton, maxLen]; omega
       ·simp only [List.length_map, List.length_singleton]; omega
      by_cases hj0 : row = []
      ·have hap3 := hap2 [] (by simp)
       simp only [List.map_nil] at hap3
       rw [hj0]
       have q_ := aN hget2 <| aN hko2 <| aN hap3 <| holdl
       repeat' first | refine St.go ?_ | ((with_reducible refine cn ?_ ?_) <;> intro h <;> (try simp [q_] at h) <;> try omega) | (refine Ru.go ?_; intro K hK; simp [go_sem, encRow_nil, encG, q_]; (try simp (disch := omega) only [wx, z_i]); (first | apply hK | refine ⟨by first | omega | (simp [z_f, z_g, encRow_nil, encG, q_]; first | done | omega), ?_⟩ | refine ⟨hK _ ?_, fun h => ?_⟩ | refine ⟨?_, ?_⟩); all_goals ((try apply hK); clear hK K))
       all_goals try clear q_
       refine z_m ?_
       simp [go_sem, encG, encRow_pos, encN]
      ·have hap3 := hap2 row (by omega)
       rw [encRow_pos hj0]
       have q_ := aN hget2 <| aN hko2 <| aN hap3 <| holdl
       repeat' first | refine St.go ?_ | ((with_reducible refine cn ?_ ?_) <;> intro h <;> (try simp [q_] at h) <;> try omega) | (refine Ru.go ?_; intro K hK; simp [go_sem, encG, q_]; (try simp (disch := omega) only [wx, z_i]); (first | apply hK | refine ⟨by first | omega | (simp [z_f, z_g, encG, q_]; first | done | omega), ?_⟩ | refine ⟨hK _ ?_, fun h => ?_⟩ | refine ⟨?_, ?_⟩); all_goals ((try apply hK); clear hK K))
       all_goals try clear q_
       refine z_m ?_
       simp [go_sem, encG, encRow_pos, encN]
     repeat' first | refine St.go ?_ | ((with_reducible refine cn ?_ ?_) <;> intro h <;> (try simp at h) <;> try omega) | (refine Ru.go ?_; intro K hK; simp [go_sem, encG]; (try simp (disch := omega) only [wx, z_i]); (first | apply hK | refine ⟨by first | omega | (simp [z_f, z_g, encG]; first | done | omega), ?_⟩ | refine ⟨hK _ ?_, fun h => ?_⟩ | refine ⟨?_, ?_⟩); all_goals ((try apply hK); clear hK K))
     refine z_j (q - 1) _ (by omega) ⟨j + 1, ps2, by omega, hnext, rfl⟩ ?_
     simp [go_sem, encG, hrow2]
    ·have hjk : qs.take j = qs := List.take_of_length_le (by omega)
     rw [hjk] at hps' hrow
     repeat' first | refine St.go ?_ | ((with_reducible refine cn ?_ ?_) <;> intro h <;> (try simp [hjl] at h) <;> try omega) | (refine Ru.go ?_; intro K hK; simp [go_sem, hjl, encG]; (try simp (disch := omega) only [wx, z_i]); (first | apply hK | refine ⟨by first | omega | (simp [z_f, z_g, hjl, encG]; first | done | omega), ?_⟩ | refine ⟨hK _ ?_, fun h => ?_⟩ | refine ⟨?_, ?_⟩); all_goals ((try apply hK); clear hK K))
     refine z_m ?_
     simp [go_sem, encG, <- hps', <- hrow]
   repeat' first | refine St.go ?_ | ((with_reducible refine cn ?_ ?_) <;> intro h <;> (try simp at h) <;> try omega) | (refine Ru.go ?_; intro K hK; simp [go_sem, encG]; (try simp (disch := omega) only [wx, z_i]); (first | apply hK | refine ⟨by first | omega | (simp [z_f, z_g, encG]; first | done | omega), ?_⟩ | refine ⟨hK _ ?_, fun h => ?_⟩ | refine ⟨?_, ?_⟩); all_goals ((try apply hK); clear hK K))
   refine z_j m _ (by omega) ⟨i + 1, addAll ps qs, hR, by omega, ⟨?_, nodup_addAll hnd, ?_, hcl2⟩, rfl⟩ ?_
   ·obtain ⟨tl, htl⟩ := addAll_pre ps qs
    rw [htl, List.length_append]; omega
   ·intro p hp2
    rcases mem_addAll.1 hp2 with h | h
    ·exact hbx p h
    ·exact succ_box hnum _ (hbx _ (List.mem_of_getElem? hpq)) p (by rw [hqs]; exact h)
   ·have hrows : ((addAll ps qs).take (i + 1)).map (rowOf (succP (tab0 a b)) (addAll ps qs)) = old ++ [qs.map (idxP (addAll ps qs))] := by
     obtain ⟨tl, htl⟩ := addAll_pre ps qs
     have ht : (addAll ps qs).take (i + 1) = ps.take i ++ [(p1, p2)] := by
      rw [htl, List.take_append_of_le_length (by omega), List.take_succ_eq_append_getElem hlt, hp]
     rw [ht, List.map_append, <- hold]
     congr 1
     ·refine List.map_congr_left fun z hz => ?_
      unfold rowOf
      refine List.map_congr_left fun y hy => ?_
      rw [htl]
      exact idxP_pre (hcl z hz y hy)
     ·simp [rowOf, hqs]
    simp [go_sem, encG, hrows, encBh_pos]
  ·have hRe : ps = R := by
    rw [<- hR]
    cases n with
    | zero => rfl
    | succ n => simp [bfs, List.getElem?_eq_none (show ps.length <= i by omega)]
   have htk : ps.take i = ps := List.take_of_length_le (by omega)
   rw [htk, hRe]
   rw [hRe] at hlt
   repeat' first | refine St.go ?_ | ((with_reducible refine cn ?_ ?_) <;> intro h <;> (try simp [hlt] at h) <;> try omega) | (refine Ru.go ?_; intro K hK; simp [go_sem, hlt, encG]; (try simp (disch := omega) only [wx, z_i]); (first | apply hK | refine ⟨by first | omega | (simp [z_f, z_g, hlt, encG]; first | done | omega), ?_⟩ | refine ⟨hK _ ?_, fun h => ?_⟩ | refine ⟨?_, ?_⟩); all_goals ((try apply hK); clear hK K))
   refine cutQ_frz 6 ?_
   simp [go_sem, encG, frz_encRow, frzLL_map, frz_encEq]
   exact of_eq_true (le_self _)
 have hRb : ∀ p ∈ R, inBox (tab0 a b).old.states.toNat (tab0 a b).new.states.toNat p := by
  rw [<- hRR]
  exact bfs_keeps (succ_box hnum) _ _ _ (fun p hp => by rw [List.mem_singleton.1 hp]; exact start_box hnum)
 have hRn : R.Nodup := by rw [<- hRR]; exact bfs_nodup _ _ _ (by simp)
 have hRl : R.length <= sizeP (tab0 a b) := box_len hRn hRb
 have hRc : ∀ p ∈ R, ∀ q ∈ succP (tab0 a b) p, q ∈ R := by
  rw [<- hRR]
  refine bfs_closed (succ_box hnum) _ _ _ (by simp) (fun p hp => by rw [List.mem_singleton.1 hp]; exact start_box hnum) (fun p hp => by simp at hp) (by simp) ?_
  show sizeP (tab0 a b) <= _
  omega
 have hR0 : R ≠ [] := by
  rw [<- hRR]
  obtain ⟨l, hl⟩ := bfs_pre (succ := succP (tab0 a b)) (sizeP (tab0 a b)) 0 [((tab0 a b).old.start, (tab0 a b).new.start)]
  unfold cmpPairs
  rw [hl]
  simp
 have hR1 : 0 < R.length := List.length_pos_iff.2 hR0
 refine z_l [(13, .sv (.one (encBh (R.map (rowOf (succP (tab0 a b)) R))))), (6, .sv (.one (.bx (encG a ++ (encG b ++ [encRowF (a.decls.map (labAt b)), .sl (R.map encEq), .ow 1 ((R.map (initB (tab0 a b))).map encBl)]))))), (5, .sv (.one (.int .i64 0))), (4, .sv (.one (.bx zT))), (3, .sv (.one (.bx (encG b)))), (2, .sv (.one (.bx (encG a))))] ?_ ?_
 ·skip
  repeat' first | refine St.go ?_ | ((with_reducible refine cn ?_ ?_) <;> intro h <;> (try simp at h) <;> try omega) | (refine Ru.go ?_; intro K hK; simp [go_sem, encG]; (try simp (disch := omega) only [wx, z_i]); (first | apply hK | refine ⟨by first | omega | (simp [z_f, z_g, encG]; first | done | omega), ?_⟩ | refine ⟨hK _ ?_, fun h => ?_⟩ | refine ⟨?_, ?_⟩); all_goals ((try apply hK); clear hK K))
  refine z_k (fun n e => ∃ k : Nat, k + n = R.length /\ e = [(173, .sv (.one (.int .i64 k))), (172, .sv (.one (.int .i64 R.length))), (171, .sv (.one (.sl (R.map encEq)))), (13, .sv (.one (encBh (R.map (rowOf (succP (tab0 a b)) R))))), (6, .sv (.one (.bx (encG a ++ (encG b ++ [encRowF (a.decls.map (labAt b)), .sl (R.map encEq), encGd ((R.take k).map (initB (tab0 a b)))]))))), (5, .sv (.one (.int .i64 0))), (4, .sv (.one (.bx zT))), (3, .sv (.one (.bx (encG b)))), (2, .sv (.one (.bx (encG a))))]) R.length _ ⟨0, by simp, rfl⟩ (by simp [go_sem, encG, encGd_nil]; try exact of_eq_true (le_self _)) ?_
  rintro n e ⟨k, hk, rfl⟩
  by_cases hlt : k < R.length
  ·obtain ⟨⟨p1, p2⟩, hp⟩ : ∃ p, R[k] = p := ⟨_, rfl⟩
   obtain ⟨gs, hgs⟩ : ∃ gs, (R.take k).map (initB (tab0 a b)) = gs := ⟨_, rfl⟩
   obtain ⟨ib, hib⟩ : ∃ ib, initB (tab0 a b) (p1, p2) = ib := ⟨_, rfl⟩
   have hsucc : (R.take (k + 1)).map (initB (tab0 a b)) = gs ++ [ib] := by
    rw [List.take_succ_eq_append_getElem hlt, hp, List.map_append, hgs, <- hib]; rfl
   have hgl : gs.length = k := by rw [<- hgs]; simp; omega
   have hg0 : k = 0 -> gs = [] := fun h => List.eq_nil_of_length_eq_zero (by omega)
   have hg1 : 0 < k -> encGd gs = .ow 1 (gs.map encBl) := fun h => encGd_pos (fun e => by rw [e] at hgl; simp at hgl; omega)
   rw [hgs]
   have hap : ∀ (l : List Bool) (c : Bool), l.length <= 100000 -> z_f 1 1 (l.map encBl) [[.bool c]] := by
    intro l c hl
    refine ⟨?_, ?_, by omega, ?_, ?_⟩
    ·intro e he; rw [List.mem_singleton.1 he]; rfl
    ·intro e he; rw [List.mem_singleton.1 he]; rfl
    ·simp only [List.length_map, List.length_singleton, maxLen]; omega
    ·simp only [List.length_map, List.length_singleton]; omega
   have hap0 := fun c => hap [] c (by simp)
   have hap1 := fun c => hap gs c (by omega)
   simp only [List.map_nil] at hap0
   have hib2 : ib = (decide (0 <= p2) && (!(p1 == a.end_) || p2 == b.end_)) := hib.symm
   by_cases h1 : 0 <= p2
   ·by_cases h2 : p1 = a.end_
    ·by_cases h3 : p2 = b.end_
     ·have hv : ib = true := by rw [hib2]; simp [h1, h2, h3]; try omega
      rw [hv] at hsucc
      by_cases hk0 : k = 0
      ·subst hk0
       have e0 := hg0 rfl
       subst e0
       have q_ := aN hlt <| aN hp <| aN h1 <| aN h2 <| aN h3 <| hap0
       repeat' first | refine St.go ?_ | ((with_reducible refine cn ?_ ?_) <;> intro h <;> (try simp [q_] at h) <;> try omega) | (refine Ru.go ?_; intro K hK; simp [go_sem, encEq, encG, encGd_nil, q_]; (try simp (disch := omega) only [wx, z_i]); (first | apply hK | refine ⟨by first | omega | (simp [z_f, z_g, encEq, encG, encGd_nil, q_]; first | done | omega), ?_⟩ | refine ⟨hK _ ?_, fun h => ?_⟩ | refine ⟨?_, ?_⟩); all_goals ((try apply hK); clear hK K))
       all_goals try clear q_
       refine z_j (n - 1) _ (by omega) ⟨0 + 1, by omega, rfl⟩ ?_
       simp [go_sem, encG, hsucc, encGd_pos, encBl]
       first | exact of_eq_true (le_self _) | exact ⟨of_eq_true (le_self _), by omega⟩
      ·rw [hg1 (by omega)]
       have q_ := aN hlt <| aN hp <| aN h1 <| aN h2 <| aN h3 <| hap1
       repeat' first | refine St.go ?_ | ((with_reducible refine cn ?_ ?_) <;> intro h <;> (try simp [q_] at h) <;> try omega) | (refine Ru.go ?_; intro K hK; simp [go_sem, encEq, encG, q_]; (try simp (disch := omega) only [wx, z_i]); (first | apply hK | refine ⟨by first | omega | (simp [z_f, z_g, encEq, encG, q_]; first | done | omega), ?_⟩ | refine ⟨hK _ ?_, fun h => ?_⟩ | refine ⟨?_, ?_⟩); all_goals ((try apply hK); clear hK K))
       all_goals try clear q_
       refine z_j (n - 1) _ (by omega) ⟨k + 1, by omega, rfl⟩ ?_
       simp [go_sem, encG, hsucc, encGd_pos, encBl]
       first | exact of_eq_true (le_self _) | exact ⟨of_eq_true (le_self _), by omega⟩
     ·have hv : ib = false := by rw [hib2]; simp [h1, h2, h3]; try omega
      rw [hv] at hsucc
      by_cases hk0 : k = 0
      ·subst hk0
       have e0 := hg0 rfl
       subst e0
       have q_ := aN hlt <| aN hp <| aN h1 <| aN h2 <| aN h3 <| hap0
       repeat' first | refine St.go ?_ | ((with_reducible refine cn ?_ ?_) <;> intro h <;> (try simp [q_] at h) <;> try omega) | (refine Ru.go ?_; intro K hK; simp [go_sem, encEq, encG, encGd_nil, q_]; (try simp (disch := omega) only [wx, z_i]); (first | apply hK | refine ⟨by first | omega | (simp [z_f, z_g, encEq, encG, encGd_nil, q_]; first | done | omega), ?_⟩ | refine ⟨hK _ ?_, fun h => ?_⟩ | refine ⟨?_, ?_⟩); all_goals ((try apply hK); clear hK K))
       all_goals try clear q_
       refine z_j (n - 1) _ (by omega) ⟨0 + 1, by omega, rfl⟩ ?_
       simp [go_sem, encG, hsucc, encGd_pos, encBl]
       first | exact of_eq_true (le_self _) | exact ⟨of_eq_true (le_self _), by omega⟩
      ·rw [hg1 (by omega)]
       have q_ := aN hlt <| aN hp <| aN h1 <| aN h2 <| aN h3 <| hap1
       repeat' first | refine St.go ?_ | ((with_reducible refine cn ?_ ?_) <;> intro h <;> (try simp [q_] at h) <;> try omega) | (refine Ru.go ?_; intro K hK; simp [go_sem, encEq, encG, q_]; (try simp (disch := omega) only [wx, z_i]); (first | apply hK | refine ⟨by first | omega | (simp [z_f, z_g, encEq, encG, q_]; first | done | omega), ?_⟩ | refine ⟨hK _ ?_, fun h => ?_⟩ | refine ⟨?_, ?_⟩); all_goals ((try apply hK); clear hK K))
       all_goals try clear q_
       refine z_j (n - 1) _ (by omega) ⟨k + 1, by omega, rfl⟩ ?_
       simp [go_sem, encG, hsucc, encGd_pos, encBl]
       first | exact of_eq_true (le_self _) | exact ⟨of_eq_true (le_self _), by omega⟩
    ·have hv : ib = true := by rw [hib2]; simp [h1, h2]
     rw [hv] at hsucc
     by_cases h3 : p2 = b.end_
     ·skip
      by_cases hk0 : k = 0
      ·subst hk0
       have e0 := hg0 rfl
       subst e0
       have q_ := aN hlt <| aN hp <| aN h1 <| aN h2 <| aN h3 <| hap0
       repeat' first | refine St.go ?_ | ((with_reducible refine cn ?_ ?_) <;> intro h <;> (try simp [q_] at h) <;> try omega) | (refine Ru.go ?_; intro K hK; simp [go_sem, encEq, encG, encGd_nil, q_]; (try simp (disch := omega) only [wx, z_i]); (first | apply hK | refine ⟨by first | omega | (simp [z_f, z_g, encEq, encG, encGd_nil, q_]; first | done | omega), ?_⟩ | refine ⟨hK _ ?_, fun h => ?_⟩ | refine ⟨?_, ?_⟩); all_goals ((try apply hK); clear hK K))
       all_goals try clear q_
       refine z_j (n - 1) _ (by omega) ⟨0 + 1, by omega, rfl⟩ ?_
       simp [go_sem, encG, hsucc, encGd_pos, encBl]
       first | exact of_eq_true (le_self _) | exact ⟨of_eq_true (le_self _), by omega⟩
      ·rw [hg1 (by omega)]
       have q_ := aN hlt <| aN hp <| aN h1 <| aN h2 <| aN h3 <| hap1
       repeat' first | refine St.go ?_ | ((with_reducible refine cn ?_ ?_) <;> intro h <;> (try simp [q_] at h) <;> try omega) | (refine Ru.go ?_; intro K hK; simp [go_sem, encEq, encG, q_]; (try simp (disch := omega) only [wx, z_i]); (first | apply hK | refine ⟨by first | omega | (simp [z_f, z_g, encEq, encG, q_]; first | done | omega), ?_⟩ | refine ⟨hK _ ?_, fun h => ?_⟩ | refine ⟨?_, ?_⟩); all_goals ((try apply hK); clear hK K))
       all_goals try clear q_
       refine z_j (n - 1) _ (by omega) ⟨k + 1, by omega, rfl⟩ ?_
       simp [go_sem, encG, hsucc, encGd_pos, encBl]
       first | exact of_eq_true (le_self _) | exact ⟨of_eq_true (le_self _), by omega⟩
     ·skip
      by_cases hk0 : k = 0
      ·subst hk0
       have e0 := hg0 rfl
       subst e0
       have q_ := aN hlt <| aN hp <| aN h1 <| aN h2 <| aN h3 <| hap0
       repeat' first | refine St.go ?_ | ((with_reducible refine cn ?_ ?_) <;> intro h <;> (try simp [q_] at h) <;> try omega) | (refine Ru.go ?_; intro K hK; simp [go_sem, encEq, encG, encGd_nil, q_]; (try simp (disch := omega) only [wx, z_i]); (first | apply hK | refine ⟨by first | omega | (simp [z_f, z_g, encEq, encG, encGd_nil, q_]; first | done | omega), ?_⟩ | refine ⟨hK _ ?_, fun h => ?_⟩ | refine ⟨?_, ?_⟩); all_goals ((try apply hK); clear hK K))
       all_goals try clear q_
       refine z_j (n - 1) _ (by omega) ⟨0 + 1, by omega, rfl⟩ ?_
       simp [go_sem, encG, hsucc, encGd_pos, encBl]
       first | exact of_eq_true (le_self _) | exact ⟨of_eq_true (le_self _), by omega⟩
      ·rw [hg1 (by omega)]
       have q_ := aN hlt <| aN hp <| aN h1 <| aN h2 <| aN h3 <| hap1
       repeat' first | refine St.go ?_ | ((with_reducible refine cn ?_ ?_) <;> intro h <;> (try simp [q_] at h) <;> try omega) | (refine Ru.go ?_; intro K hK; simp [go_sem, encEq, encG, q_]; (try simp (disch := omega) only [wx, z_i]); (first | apply hK | refine ⟨by first | omega | (simp [z_f, z_g, encEq, encG, q_]; first | done | omega), ?_⟩ | refine ⟨hK _ ?_, fun h => ?_⟩ | refine ⟨?_, ?_⟩); all_goals ((try apply hK); clear hK K))
       all_goals try clear q_
       refine z_j (n - 1) _ (by omega) ⟨k + 1, by omega, rfl⟩ ?_
       simp [go_sem, encG, hsucc, encGd_pos, encBl]
       first | exact of_eq_true (le_self _) | exact ⟨of_eq_true (le_self _), by omega⟩
   ·have hv : ib = false := by rw [hib2]; simp [h1]
    rw [hv] at hsucc
    by_cases h2 : p1 = a.end_
    ·skip
     by_cases hk0 : k = 0
     ·subst hk0
      have e0 := hg0 rfl
      subst e0
      have q_ := aN hlt <| aN hp <| aN h1 <| aN h2 <| hap0
      repeat' first | refine St.go ?_ | ((with_reducible refine cn ?_ ?_) <;> intro h <;> (try simp [q_] at h) <;> try omega) | (refine Ru.go ?_; intro K hK; simp [go_sem, encEq, encG, encGd_nil, q_]; (try simp (disch := omega) only [wx, z_i]); (first | apply hK | refine ⟨by first | omega | (simp [z_f, z_g, encEq, encG, encGd_nil, q_]; first | done | omega), ?_⟩ | refine ⟨hK _ ?_, fun h => ?_⟩ | refine ⟨?_, ?_⟩); all_goals ((try apply hK); clear hK K))
      all_goals try clear q_
      refine z_j (n - 1) _ (by omega) ⟨0 + 1, by omega, rfl⟩ ?_
      simp [go_sem, encG, hsucc, encGd_pos, encBl]
      first | exact of_eq_true (le_self _) | exact ⟨of_eq_true (le_self _), by omega⟩
     ·rw [hg1 (by omega)]
      have q_ := aN hlt <| aN hp <| aN h1 <| aN h2 <| hap1
      repeat' first | refine St.go ?_ | ((with_reducible refine cn ?_ ?_) <;> intro h <;> (try simp [q_] at h) <;> try omega) | (refine Ru.go ?_; intro K hK; simp [go_sem, encEq, encG, q_]; (try simp (disch := omega) only [wx, z_i]); (first | apply hK | refine ⟨by first | omega | (simp [z_f, z_g, encEq, encG, q_]; first | done | omega), ?_⟩ | refine ⟨hK _ ?_, fun h => ?_⟩ | refine ⟨?_, ?_⟩); all_goals ((try apply hK); clear hK K))
      all_goals try clear q_
      refine z_j (n - 1) _ (by omega) ⟨k + 1, by omega, rfl⟩ ?_
      simp [go_sem, encG, hsucc, encGd_pos, encBl]
      first | exact of_eq_true (le_self _) | exact ⟨of_eq_true (le_self _), by omega⟩
    ·skip
     by_cases hk0 : k = 0
     ·subst hk0
      have e0 := hg0 rfl
      subst e0
      have q_ := aN hlt <| aN hp <| aN h1 <| aN h2 <| hap0
      repeat' first | refine St.go ?_ | ((with_reducible refine cn ?_ ?_) <;> intro h <;> (try simp [q_] at h) <;> try omega) | (refine Ru.go ?_; intro K hK; simp [go_sem, encEq, encG, encGd_nil, q_]; (try simp (disch := omega) only [wx, z_i]); (first | apply hK | refine ⟨by first | omega | (simp [z_f, z_g, encEq, encG, encGd_nil, q_]; first | done | omega), ?_⟩ | refine ⟨hK _ ?_, fun h => ?_⟩ | refine ⟨?_, ?_⟩); all_goals ((try apply hK); clear hK K))
      all_goals try clear q_
      refine z_j (n - 1) _ (by omega) ⟨0 + 1, by omega, rfl⟩ ?_
      simp [go_sem, encG, hsucc, encGd_pos, encBl]
      first | exact of_eq_true (le_self _) | exact ⟨of_eq_true (le_self _), by omega⟩
     ·rw [hg1 (by omega)]
      have q_ := aN hlt <| aN hp <| aN h1 <| aN h2 <| hap1
      repeat' first | refine St.go ?_ | ((with_reducible refine cn ?_ ?_) <;> intro h <;> (try simp [q_] at h) <;> try omega) | (refine Ru.go ?_; intro K hK; simp [go_sem, encEq, encG, q_]; (try simp (disch := omega) only [wx, z_i]); (first | apply hK | refine ⟨by first | omega | (simp [z_f, z_g, encEq, encG, q_]; first | done | omega), ?_⟩ | refine ⟨hK _ ?_, fun h => ?_⟩ | refine ⟨?_, ?_⟩); all_goals ((try apply hK); clear hK K))
      all_goals try clear q_
      refine z_j (n - 1) _ (by omega) ⟨k + 1, by omega, rfl⟩ ?_
      simp [go_sem, encG, hsucc, encGd_pos, encBl]
      first | exact of_eq_true (le_self _) | exact ⟨of_eq_true (le_self _), by omega⟩
  ·have htk : R.take k = R := List.take_of_length_le (by omega)
   have hpos : encGd (R.map (initB (tab0 a b))) = .ow 1 ((R.map (initB (tab0 a b))).map encBl) := encGd_pos (by simpa using hR0)
   rw [htk, hpos]
   repeat' first | refine St.go ?_ | ((with_reducible refine cn ?_ ?_) <;> intro h <;> (try simp [hlt] at h) <;> try omega) | (refine Ru.go ?_; intro K hK; simp [go_sem, hlt, encG]; (try simp (disch := omega) only [wx, z_i]); (first | apply hK | refine ⟨by first | omega | (simp [z_f, z_g, hlt, encG]; first | done | omega), ?_⟩ | refine ⟨hK _ ?_, fun h => ?_⟩ | refine ⟨?_, ?_⟩); all_goals ((try apply hK); clear hK K))
   refine z_m ?_
   simp [go_sem, encG]
   try exact of_eq_true (le_self _)
 obtain ⟨rows, hrows⟩ : ∃ rows, R.map (rowOf (succP (tab0 a b)) R) = rows := ⟨_, rfl⟩
 have hrl : rows.length = R.length := by rw [<- hrows]; simp
 have hr0 : rows ≠ [] := fun e => by rw [e] at hrl; simp at hrl; omega
 rw [hrows, encBh_pos hr0]
 have hrx : ∀ r ∈ rows, ∀ x ∈ r, 0 <= x /\ x.toNat < R.length := by
  intro r hr x hx
  rw [<- hrows] at hr
  obtain ⟨p, hp, rfl⟩ := List.mem_map.1 hr
  obtain ⟨q, hq, rfl⟩ := List.mem_map.1 hx
  have := idxP_get (hRc p hp q hq)
  exact ⟨this.1, this.2.1⟩
 have hrlen : ∀ r ∈ rows, r.length <= 1000 := by
  intro r hr
  rw [<- hrows] at hr
  obtain ⟨p, hp, rfl⟩ := List.mem_map.1 hr
  unfold rowOf succP sortedE
  rw [List.length_map, List.length_map, isort_len]
  have h1 := ofState_len a.edges p.1 a.edges.length
  have h2 := sa.edges
  show (ofState a.edges p.1 a.edges.length).length <= 1000
  omega
 obtain ⟨G, hGG⟩ : ∃ G, cmpGood (tab0 a b) R = G := ⟨_, rfl⟩
 have hG2 : del rows R.length (R.map (initB (tab0 a b))) = G := by rw [<- hGG, <- hrows]; rfl
 have hTab : encTab (cmpTab a b) = encG a ++ (encG b ++ [.sl ((a.decls.map (labAt b)).map encN), .sl (R.map encEq), .sl (G.map encBl)]) := by
  unfold cmpTab
  rw [hRR, hGG]
  rfl
 rw [hTab]
 repeat' first | refine St.go ?_ | ((with_reducible refine cn ?_ ?_) <;> intro h <;> (try simp at h) <;> try omega) | (refine Ru.go ?_; intro K hK; simp [go_sem, encG]; (try simp (disch := omega) only [wx, z_i]); (first | apply hK | refine ⟨by first | omega | (simp [z_f, z_g, encG]; first | done | omega), ?_⟩ | refine ⟨hK _ ?_, fun h => ?_⟩ | refine ⟨?_, ?_⟩); all_goals ((try apply hK); clear hK K))
 refine awp_loopF 13 (fun n e => ∃ g : List Bool, del rows n g = G /\ trues g <= n /\ g.length = R.length /\ e = [(13, .sv (.one (.ow 1 (rows.map fun r => [encRowF r])))), (6, .sv (.one (.bx (encG a ++ (encG b ++ [encRowF (a.decls.map (labAt b)), .sl (R.map encEq), .ow 1 (g.map encBl)]))))), (5, .sv (.one (.int .i64 0))), (4, .sv (.one (.bx zT))), (3, .sv (.one (.bx (encG b)))), (2, .sv (.one (.bx (encG a))))]) R.length _ ⟨R.map (initB (tab0 a b)), hG2, ?_, by simp, rfl⟩ (by simp [go_sem, encG, frz_encRow, frzLL_map]) ?_
 ·have := List.countP_le_length (p := id) (l := R.map (initB (tab0 a b)))
  simpa [trues] using this
 rintro n e ⟨g, hdel, htr, hgl, rfl⟩
 repeat' first | refine St.go ?_ | ((with_reducible refine cn ?_ ?_) <;> intro h <;> (try simp at h) <;> try omega) | (refine Ru.go ?_; intro K hK; simp [go_sem, encG]; (try simp (disch := omega) only [wx, z_i]); (first | apply hK | refine ⟨by first | omega | (simp [z_f, z_g, encG]; first | done | omega), ?_⟩ | refine ⟨hK _ ?_, fun h => ?_⟩ | refine ⟨?_, ?_⟩); all_goals ((try apply hK); clear hK K))
 refine z_k (fun m e => ∃ k : Nat, k + m = rows.length /\ (∀ (i : Nat) l', i < k -> rows[i]? = some l' -> g[i]? = some true -> badRow g l' = false) /\ e = [(202, .sv (.one (.int .i64 k))), (201, .sv (.one (.int .i64 rows.length))), (200, .al 13 []), (13, .sv (.one (.ow 1 (rows.map fun r => [encRowF r])))), (6, .sv (.one (.bx (encG a ++ (encG b ++ [encRowF (a.decls.map (labAt b)), .sl (R.map encEq), .ow 1 (g.map encBl)]))))), (5, .sv (.one (.int .i64 0))), (4, .sv (.one (.bx zT))), (3, .sv (.one (.bx (encG b)))), (2, .sv (.one (.bx (encG a))))]) rows.length _ ⟨0, by simp, fun i l' h => by omega, rfl⟩ (by simp [go_sem, encG]) ?_
 rintro m e ⟨k, hk, hno, rfl⟩
 by_cases hlt : k < rows.length
 ·obtain ⟨r, hr⟩ : ∃ r, rows[k] = r := ⟨_, rfl⟩
  have hrm : r ∈ rows := hr ▸ List.getElem_mem hlt
  have hrq : rows[k]? = some r := by rw [List.getElem?_eq_getElem hlt, hr]
  have hkg : k < g.length := by omega
  obtain ⟨c, hc⟩ : ∃ c, g[k] = c := ⟨_, rfl⟩
  have hcq : g[k]? = some c := by rw [List.getElem?_eq_getElem hkg, hc]
  have k48 := f48 r 49 [.rf (encG a ++ (encG b ++ [encRowF (a.decls.map (labAt b)), .sl (R.map encEq), .sl (g.map encBl)]))] (fun x => !(g[x.toNat]?.getD false)) (by have := hrlen r hrm; omega) (fun x hx => by
   have := hrx r hrm x hx
   exact f49 a b _ _ g x this.1 (by omega))
  change Impl Tryz.prog 48 _ (.one (.one (.bool (badRow g r)))) at k48
  simp only [encG, List.cons_append, List.nil_append] at k48
  have hrne : r = [] \/ r ≠ [] := by by_cases h : r = [] <;> simp [h]
  have hrowN : encRowF [] = .nil := rfl
  have hrowP : r ≠ [] -> encRowF r = .sl (r.map encN) := fun h => by unfold encRowF; rw [if_neg (by simpa using h)]
  have hnext : (c = true -> badRow g r = false) -> ∀ (i : Nat) l', i < k + 1 -> rows[i]? = some l' -> g[i]? = some true -> badRow g l' = false := by
   intro h i l' hi hl' hg'
   by_cases e : i = k
   ·subst e
    rw [hrq] at hl'
    rw [hcq] at hg'
    cases hl'
    cases hg'
    exact h rfl
   ·exact hno i l' (by omega) hl' hg'
  cases hcb : c with
  | false =>
    subst hcb
    rcases hrne with rfl | hrne
    ·skip
     have q_ := aN hlt <| aN hr <| aN hkg <| aN hc <| hrowN
     repeat' first | refine St.go ?_ | ((with_reducible refine cn ?_ ?_) <;> intro h <;> (try simp [q_] at h) <;> try omega) | (refine Ru.go ?_; intro K hK; simp [go_sem, encG, encBl, q_]; (try simp (disch := omega) only [wx, z_i]); (first | apply hK | ((try refine .inl ?_); refine ⟨_, by (try intro hc); (repeat' first | exact k48 | exact hc | refine And.intro ?_ ?_ | simp [go_sem, encG, encBl, q_]); first | done | omega, ?_⟩; first | apply hK | (refine ⟨by simp [go_sem, encG, encBl, q_], ?_⟩; first | apply hK | refine ⟨by simp [go_sem, encG, encBl, q_], hK _ _ ?_⟩)) | refine ⟨.one (.one (.bool false)), by simp [go_sem, encG, encBl, q_], hK _ _ ?_⟩ | refine ⟨by first | omega | (simp [z_f, z_g, encG, encBl, q_]; first | done | omega), ?_⟩ | refine ⟨hK _ ?_, fun h => ?_⟩ | refine ⟨?_, ?_⟩); all_goals ((try apply hK); clear hK K))
     all_goals try clear q_
     refine z_j (m - 1) _ (by omega) ⟨k + 1, by omega, hnext (by simp), rfl⟩ ?_
     simp [go_sem, encG]
    ·have hrw := hrowP hrne
     have q_ := aN hlt <| aN hr <| aN hkg <| aN hc <| hrw
     repeat' first | refine St.go ?_ | ((with_reducible refine cn ?_ ?_) <;> intro h <;> (try simp [q_] at h) <;> try omega) | (refine Ru.go ?_; intro K hK; simp [go_sem, encG, encBl, q_]; (try simp (disch := omega) only [wx, z_i]); (first | apply hK | ((try refine .inl ?_); refine ⟨_, by (try intro hc); (repeat' first | exact k48 | exact hc | refine And.intro ?_ ?_ | simp [go_sem, encG, encBl, q_]); first | done | omega, ?_⟩; first | apply hK | (refine ⟨by simp [go_sem, encG, encBl, q_], ?_⟩; first | apply hK | refine ⟨by simp [go_sem, encG, encBl, q_], hK _ _ ?_⟩)) | refine ⟨.one (.one (.bool false)), by simp [go_sem, encG, encBl, q_], hK _ _ ?_⟩ | refine ⟨by first | omega | (simp [z_f, z_g, encG, encBl, q_]; first | done | omega), ?_⟩ | refine ⟨hK _ ?_, fun h => ?_⟩ | refine ⟨?_, ?_⟩); all_goals ((try apply hK); clear hK K))
     all_goals try clear q_
     refine z_j (m - 1) _ (by omega) ⟨k + 1, by omega, hnext (by simp), rfl⟩ ?_
     simp [go_sem, encG]
  | true =>
    subst hcb
    cases hbd : badRow g r with
    | false =>
      rw [hbd] at k48
      rcases hrne with rfl | hrne
      ·skip
       have q_ := aN hlt <| aN hr <| aN hkg <| aN hc <| hrowN
       repeat' first | refine St.go ?_ | ((with_reducible refine cn ?_ ?_) <;> intro h <;> (try simp [q_] at h) <;> try omega) | (refine Ru.go ?_; intro K hK; simp [go_sem, encG, encBl, frz_encBl, frz_encRowF, q_]; (try simp (disch := omega) only [wx, z_i]); (first | apply hK | ((try refine .inl ?_); refine ⟨_, by (try intro hc); (repeat' first | exact k48 | exact hc | refine And.intro ?_ ?_ | simp [go_sem, encG, encBl, frz_encBl, frz_encRowF, q_]); first | done | omega, ?_⟩; first | apply hK | (refine ⟨by simp [go_sem, encG, encBl, frz_encBl, frz_encRowF, q_], ?_⟩; first | apply hK | refine ⟨by simp [go_sem, encG, encBl, frz_encBl, frz_encRowF, q_], hK _ _ ?_⟩)) | refine ⟨.one (.one (.bool false)), by simp [go_sem, encG, encBl, frz_encBl, frz_encRowF, q_], hK _ _ ?_⟩ | refine ⟨by first | omega | (simp [z_f, z_g, encG, encBl, frz_encBl, frz_encRowF, q_]; first | done | omega), ?_⟩ | refine ⟨hK _ ?_, fun h => ?_⟩ | refine ⟨?_, ?_⟩); all_goals ((try apply hK); clear hK K))
       all_goals try clear q_
       refine z_j (m - 1) _ (by omega) ⟨k + 1, by omega, hnext (fun _ => hbd), rfl⟩ ?_
       simp [go_sem, encG]
      ·have hrw := hrowP hrne
       have q_ := aN hlt <| aN hr <| aN hkg <| aN hc <| hrw
       repeat' first | refine St.go ?_ | ((with_reducible refine cn ?_ ?_) <;> intro h <;> (try simp [q_] at h) <;> try omega) | (refine Ru.go ?_; intro K hK; simp [go_sem, encG, encBl, frz_encBl, frz_encRowF, q_]; (try simp (disch := omega) only [wx, z_i]); (first | apply hK | ((try refine .inl ?_); refine ⟨_, by (try intro hc); (repeat' first | exact k48 | exact hc | refine And.intro ?_ ?_ | simp [go_sem, encG, encBl, frz_encBl, frz_encRowF, q_]); first | done | omega, ?_⟩; first | apply hK | (refine ⟨by simp [go_sem, encG, encBl, frz_encBl, frz_encRowF, q_], ?_⟩; first | apply hK | refine ⟨by simp [go_sem, encG, encBl, frz_encBl, frz_encRowF, q_], hK _ _ ?_⟩)) | refine ⟨.one (.one (.bool false)), by simp [go_sem, encG, encBl, frz_encBl, frz_encRowF, q_], hK _ _ ?_⟩ | refine ⟨by first | omega | (simp [z_f, z_g, encG, encBl, frz_encBl, frz_encRowF, q_]; first | done | omega), ?_⟩ | refine ⟨hK _ ?_, fun h => ?_⟩ | refine ⟨?_, ?_⟩); all_goals ((try apply hK); clear hK K))
       all_goals try clear q_
       refine z_j (m - 1) _ (by omega) ⟨k + 1, by omega, hnext (fun _ => hbd), rfl⟩ ?_
       simp [go_sem, encG]
    | true =>
      rw [hbd] at k48
      have hrne : r ≠ [] := by rintro rfl; simp [badRow] at hbd
      have hrw := hrowP hrne
      have hfb := firstBad_at hrq hcq hbd hno
      have htr2 := trues_set hcq
      obtain ⟨n', rfl⟩ : ∃ n', n = n' + 1 := ⟨n - 1, by omega⟩
      simp only [del, hfb] at hdel
      have q_ := aN hlt <| aN hr <| aN hkg <| aN hc <| hrw
      repeat' first | refine St.go ?_ | ((with_reducible refine cn ?_ ?_) <;> intro h <;> (try simp [q_] at h) <;> try omega) | (refine Ru.go ?_; intro K hK; simp [go_sem, encG, encBl, frz_encBl, frz_encRowF, q_]; (try simp (disch := omega) only [wx, z_i]); (first | apply hK | ((try refine .inl ?_); refine ⟨_, by (try intro hc); (repeat' first | exact k48 | exact hc | refine And.intro ?_ ?_ | simp [go_sem, encG, encBl, frz_encBl, frz_encRowF, q_]); first | done | omega, ?_⟩; first | apply hK | (refine ⟨by simp [go_sem, encG, encBl, frz_encBl, frz_encRowF, q_], ?_⟩; first | apply hK | refine ⟨by simp [go_sem, encG, encBl, frz_encBl, frz_encRowF, q_], hK _ _ ?_⟩)) | refine ⟨.one (.one (.bool false)), by simp [go_sem, encG, encBl, frz_encBl, frz_encRowF, q_], hK _ _ ?_⟩ | refine ⟨by first | omega | (simp [z_f, z_g, encG, encBl, frz_encBl, frz_encRowF, q_]; first | done | omega), ?_⟩ | refine ⟨hK _ ?_, fun h => ?_⟩ | refine ⟨?_, ?_⟩); all_goals ((try apply hK); clear hK K))
      all_goals try clear q_
      refine z_j n' _ (by omega) ⟨g.set k false, hdel, by omega, by simp [hgl], rfl⟩ ?_
      simp [go_sem, encG, encBl, List.map_set]
 ·have hfb : firstBad g rows = none := firstBad_not fun i l' hl' hg' => hno i l' (by have := (List.getElem?_eq_some_iff.1 hl').1; omega) hl' hg'
  have hge : g = G := by
   rw [<- hdel]
   cases n with
   | zero => rfl
   | succ n => simp only [del, hfb]
  repeat' first | refine St.go ?_ | ((with_reducible refine cn ?_ ?_) <;> intro h <;> (try simp [hlt] at h) <;> try omega) | (refine Ru.go ?_; intro K hK; simp [go_sem, hlt, encG, zT, hasOw_cons, isOw, Bool.or_true, Bool.true_or, frz_encBl, frz_encRowF]; (try simp (disch := omega) only [wx, z_i]); (first | apply hK | refine ⟨by first | omega | (simp [z_f, z_g, hlt, encG, zT, hasOw_cons, isOw, Bool.or_true, Bool.true_or, frz_encBl, frz_encRowF]; first | done | omega), ?_⟩ | refine ⟨hK _ ?_, fun h => ?_⟩ | refine ⟨?_, ?_⟩); all_goals ((try apply hK); clear hK K))
  simp [go_sem, encG, hge, frz_encBl, frz_encRowF]
  have ht := toward_encRowF (a.decls.map (labAt b))
  rw [List.map_map] at ht
  exact ht
end Go.Av

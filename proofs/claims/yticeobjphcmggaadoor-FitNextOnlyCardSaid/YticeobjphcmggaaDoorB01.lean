/- Part of a proof. -/
import Derived.Test.YticeobjphcmggaaDoorAvR
import Derived.Test.YticeobjphcmggaaDoorB00
import Derived.Test.YticeobjphcmggaaDoorAvRX
import Derived.Test.YticeobjphcmggaaDoorRows
import Derived.ProofKit
import Derived.Test.YticeobjphcmggaaDoorC0
set_option linter.unusedVariables false
set_option linter.unusedSimpArgs false
set_option maxHeartbeats 64000000
set_option maxRecDepth 8000
namespace Go.Av
open Go Go.RowKit Go.Proofs
set_option maxHeartbeats 64000000
theorem f89 (l : List UInt8) : Impl Tryd.prog 89 [.one (.str (toB l)), .one (.str ⟨#[46]⟩)] (.one (.one (.int .i64 (Lib.countByte l 46 : Nat)))) := by
 have := Impl.ofStr2 (s := toB l) (t := ⟨#[46]⟩) Tryd.func89 rfl (by decide) fun w => str_count (toB l) 46 w
 rwa [list_toB] at this
theorem f90 (l : List UInt8) : Impl Tryd.prog 90 [.one (.str (toB l)), .one (.str ⟨#[46]⟩)] (.one (.one (.int .i64 (Lib.indexByte l 46)))) := by
 have := Impl.ofStr2 (s := toB l) (t := ⟨#[46]⟩) Tryd.func90 rfl (by decide) fun w => str_index (toB l) 46 w
 rwa [list_toB] at this
def fillA (p : List ByteArray) (n i : Nat) : List ByteArray := p.take i ++ List.replicate (n - i) ⟨#[]⟩
theorem fillA_len (p : List ByteArray) {n i : Nat} (hp : p.length = n) (h : i <= n) : (fillA p n i).length = n := by simp [fillA]; omega
theorem fillA_set (p : List ByteArray) {n i : Nat} (hp : p.length = n) (h : i < n) : (fillA p n i).set i (p[i]'(by omega)) = fillA p n (i + 1) := by
 apply List.ext_getElem
 ·rw [List.length_set, fillA_len p hp (by omega), fillA_len p hp (by omega)]
 ·intro k h1 h2
  rw [List.length_set, fillA_len p hp (by omega)] at h1
  simp only [fillA, List.getElem_set, List.getElem_append, List.length_take, List.getElem_take, List.getElem_replicate]
  by_cases e : i = k
  ·subst e
   rw [if_pos rfl, dif_pos (by omega)]
  ·rw [if_neg e]
   by_cases hk : k < i
   ·rw [dif_pos (by omega), dif_pos (by omega)]
   ·rw [dif_neg (by omega), dif_neg (by omega)]
theorem fillA_full (p : List ByteArray) {n : Nat} (hp : p.length = n) : fillA p n n = p := by
 simp [fillA, <- hp]
theorem f85 (l : List UInt8) (hl : l.length <= 1000000) : Impl Tryd.prog 85 [.one (.str (toB l)), .one (.str ⟨#[46]⟩), .one (.int .i64 0), .one (.int .i64 (-1))] (.one (.one (.ow 1 ((pieceB (toB l)).map encS)))) := by
 refine impl_z Tryd.func85 z85 Tryd.ntmps85 (by simp) ?_
 simp only [c85, slotsOf]
 have hpl := pieceL_len l
 have hcl : Lib.countByte l 46 <= l.length := List.count_le_length
 have hsz := size_toB l
 obtain ⟨P, hP⟩ : ∃ P, P = pieceB (toB l) := ⟨_, rfl⟩
 have hPn : P.length = Lib.countByte l 46 + 1 := by rw [hP, pieceB, List.length_map, list_toB, hpl]
 obtain ⟨c, hc⟩ : ∃ c, Lib.countByte l 46 = c := ⟨_, rfl⟩
 rw [hc] at hcl hPn
 have f89s := f89 l
 rw [hc] at f89s
 have hmin : min ((c : Int) + 1) ((l.length : Int) + 1) = (c : Int) + 1 := by omega
 have h46 : (⟨#[46]⟩ : ByteArray).size = 1 := rfl
 have h0 : ((⟨#[46]⟩ : ByteArray) == ⟨#[]⟩) = false := by decide
 rw [<- hP]
 refine wV (aN hsz <| aN hmin <| aN h46 h0) f89s ?_
 refine z_k (fun n e => ∃ (i : Nat) (rest : List UInt8), i + n = c /\ pieceL l = (pieceL l).take i ++ pieceL rest /\ rest.length <= l.length /\ e = [(10, .sv (.one (.int .i64 i))), (3, .sv (.one (.int .i64 c))), (9, .sv (.one (.ow 1 ((fillA P (c + 1) i).map encS)))), (1, .sv (.one (.str ⟨#[46]⟩))), (2, .sv (.one (.int .i64 0))), (0, .sv (.one (.str (toB rest))))]) c _ ⟨0, l, by simp, by simp, Nat.le_refl _, rfl⟩ (by simp [go_sem, fillA, encS]) ?_
 rintro n e ⟨i, rest, hi, hpr, hrl, rfl⟩
 have hplen := congrArg List.length hpr
 rw [List.length_append, List.length_take, pieceL_len rest, hpl, hc] at hplen
 have hPL : P = (pieceL l).map toB := by rw [hP, pieceB, list_toB]
 have hsr := size_toB rest
 have hfl := fillA_len P hPn (show i <= c + 1 by omega)
 by_cases hlt : i < c
 ·have hmem : 46 ∈ rest := by
   rcases Nat.eq_zero_or_pos (Lib.countByte rest 46) with h | h
   ·omega
   ·exact List.count_pos_iff.1 h
  obtain ⟨a, b, hab, ha⟩ := split_at rest hmem
  have hix : Lib.indexByte rest 46 = (a.length : Int) := by rw [hab]; exact index_at ha
  have he1 : (toB rest).extract 0 a.length = toB a := by
   rw [extract_toB, hab, List.drop_zero, List.take_left]
  have hrb : rest.length = a.length + 1 + b.length := by rw [hab]; simp; omega
  have he2 : (toB rest).extract (a.length + 1) rest.length = toB b := by
   rw [extract_toB, List.take_of_length_le (Nat.le_refl _), hab]
   have : (a ++ 46 :: b).drop (a.length + 1) = b := by
    have e : a ++ 46 :: b = (a ++ [46]) ++ b := by simp
    rw [e]
    exact List.drop_left' (by simp)
   rw [this]
  have hpr2 : pieceL l = (pieceL l).take i ++ a :: pieceL b := by
   rw [<- pieceL_at ha, <- hab]
   exact hpr
  have hti : ((pieceL l).take i).length = i := by rw [List.length_take, hpl, hc]; omega
  have hil : i < (pieceL l).length := by rw [hpl, hc]; omega
  have hPi : P[i]'(by omega) = toB a := by
   have h1 : (pieceL l)[i]? = some a := by
    rw [hpr2, List.getElem?_append_right (by omega), hti]
    simp
   have h2 : P[i]? = some (toB a) := by rw [hPL, List.getElem?_map, h1]; rfl
   rw [List.getElem?_eq_getElem (by omega)] at h2
   injection h2
  have hset := fillA_set P hPn (show i < c + 1 by omega)
  rw [hPi] at hset
  have hset2 : ((fillA P (c + 1) i).map encS).set i [.str (toB a)] = (fillA P (c + 1) (i + 1)).map encS := by
   rw [<- hset, List.map_set]
   rfl
  have hpr3 : pieceL l = (pieceL l).take (i + 1) ++ pieceL b := by
   have h1 : (pieceL l).take (i + 1) = (pieceL l).take i ++ [a] := by
    conv => lhs; rw [hpr2]
    have e : (pieceL l).take i ++ a :: pieceL b = ((pieceL l).take i ++ [a]) ++ pieceL b := by simp
    rw [e]
    exact List.take_left' (by rw [List.length_append, hti]; rfl)
   rw [h1]
   rw [List.append_assoc]
   exact hpr2
  have f90s := f90 rest
  rw [hix] at f90s
  generalize a.length = m at *
  have hb : b.length <= l.length := by omega
  have hmr : (m : Int) <= rest.length := by omega
  refine wV (aN hlt <| aN h46 <| aN hsr <| aN he1 <| aN he2 <| aN hfl encS.eq_1) f90s ?_
  refine z_j (n - 1) _ (by omega) ⟨i + 1, b, by omega, hpr3, hb, rfl⟩ ?_
  simp [go_sem, hset2]
 ·have hic : i = c := by omega
  subst hic
  have hno : 46 ∉ rest := by
   intro h
   have := List.count_pos_iff.2 h
   have : 0 < Lib.countByte rest 46 := this
   omega
  rw [pieceL_no hno] at hpr
  have hti : ((pieceL l).take i).length = i := by rw [List.length_take, hpl, hc]; omega
  have hPi : P[i]'(by omega) = toB rest := by
   have h1 : (pieceL l)[i]? = some rest := by
    rw [hpr, List.getElem?_append_right (by omega), hti]
    simp
   have h2 : P[i]? = some (toB rest) := by rw [hPL, List.getElem?_map, h1]; rfl
   rw [List.getElem?_eq_getElem (by omega)] at h2
   injection h2
  have hset := fillA_set P hPn (show i < i + 1 by omega)
  rw [hPi, fillA_full P hPn] at hset
  have hset2 : ((fillA P (i + 1) i).map encS).set i [.str (toB rest)] = P.map encS := by
   have := congrArg (List.map encS) hset
   rw [List.map_set] at this
   exact this
  have htk : (P.map encS).take (i + 1) = P.map encS := List.take_of_length_le (by simp [hPn])
  refine wX (aN hlt <| aN hfl <| aN encS.eq_1 <| aN hset2 <| aN hPn htk) ?_
  simp [go_sem]
theorem f74 (l : List UInt8) (hl : l.length <= 1000000) : Impl Tryd.prog 74 [.one (.str (toB l)), .one (.str ⟨#[46]⟩)] (.one (.one (.ow 1 ((pieceB (toB l)).map encS)))) := by
 refine impl_v ?_
 refine wC (f85 l hl) ?_
 simp [go_sem]
set_option maxHeartbeats 64000000
def isPath (s : ByteArray) : Bool := decide (s.size <= 50) && (pieceB s).all isWord
theorem f75 (s : ByteArray) : Impl Tryd.prog 75 [.one (.str s)] (.one (.one (.bool (!isWord s)))) := by
 refine impl_v ?_
 refine wC (f52 s) ?_
 simp [go_sem]
theorem f84 (l : List ByteArray) (g : FuncId) (caps : List DV) (p : ByteArray -> Bool) (hl : l.length <= 1000000) (hg : ∀ x ∈ l, Impl Tryd.prog g (.one (.str x) :: caps.map .one) (.one (.one (.bool (p x))))) :
  Impl Tryd.prog 84 [.one (.sl (l.map encS)), .one (.fn g caps)] (.one (.one (.int .i64 (firstB p l)))) := by
 refine impl_v ?_
 refine wN ?_
 refine z_k (fun n e => ∃ k : Nat, k + n = l.length /\ (l.take k).any p = false /\ e = [(8, .sv (.one (.int .i64 k))), (7, .sv (.one (.int .i64 l.length))), (1, .sv (.one (.fn g caps))), (0, .sv (.one (.sl (l.map encS))))]) l.length _ ⟨0, by simp, by simp, rfl⟩ (by simp [go_sem]) ?_
 rintro n e ⟨k, hk, h0, rfl⟩
 by_cases hlt : k < l.length
 ·have hgs := hg l[k] (List.getElem_mem hlt)
  cases hx : p l[k] with
  | true =>
    have hf := firstB_at hlt h0 hx
    rw [hx] at hgs
    refine wV (aN hlt encS.eq_1) hgs ?_
    simp [go_sem, hf]
  | false =>
    rw [hx] at hgs
    refine wV (aN hlt encS.eq_1) hgs ?_
    refine z_j (n - 1) _ (by omega) ⟨k + 1, by omega, ?_, rfl⟩ ?_
    ·rw [any_succ hlt, h0, hx]; rfl
    ·simp [go_sem]
 ·have hkl : l.take k = l := List.take_of_length_le (by omega)
  rw [hkl] at h0
  have hf := firstB_none h0
  refine wX hlt ?_
  simp [go_sem, hf]
theorem f73 (l : List ByteArray) (g : FuncId) (caps : List DV) (p : ByteArray -> Bool) (hl : l.length <= 1000000) (hg : ∀ x ∈ l, Impl Tryd.prog g (.one (.str x) :: caps.map .one) (.one (.one (.bool (p x))))) :
  Impl Tryd.prog 73 [.one (.sl (l.map encS)), .one (.fn g caps)] (.one (.one (.bool (l.any p)))) := by
 refine impl_v ?_
 have hf := firstB_any p l
 refine wC (f84 l g caps p hl hg) ?_
 simp [go_sem, hf]
theorem any_not {α : Type} (p : α -> Bool) (l : List α) : (!l.any fun x => !p x) = l.all p := by
 rw [Bool.eq_iff_iff]
 simp
theorem f59 (s : ByteArray) : Impl Tryd.prog 59 [.one (.str s)] (.one (.one (.bool (isPath s)))) := by
 refine impl_z Tryd.func59 z59 Tryd.ntmps59 (by simp) ?_
 simp only [c59, slotsOf]
 by_cases h50 : s.size <= 50
 ·have h50' : (s.size : Int) <= 50 := by omega
  have hln : s.data.toList.length = s.size := by simp
  have f74s := f74 s.data.toList (by omega)
  rw [toB_list] at f74s
  have hpl : (pieceB s).length <= 1000000 := by
   rw [pieceB, List.length_map, pieceL_len]
   have : Lib.countByte s.data.toList 46 <= s.data.toList.length := List.count_le_length
   omega
  have f73s := f73 (pieceB s) 75 [] (fun x => !isWord x) hpl (fun x _ => f75 x)
  have ha := any_not isWord (pieceB s)
  refine wV h50' (aN f74s f73s) ?_
  simp [go_sem, isPath, h50, ha]
 ·have h50' : ¬ (s.size : Int) <= 50 := by omega
  refine wX h50' ?_
  simp [go_sem, isPath, h50]
set_option maxHeartbeats 64000000
set_option maxHeartbeats 64000000
structure Fld where
 name : ByteArray
 kind : Int
 lo : Int
 hi : Int
structure Dff where
 x : Int
 y : Int
 c : Int
structure Dcl where
 name : ByteArray
 fields : List Fld
 first : Int
 diffs : List Dff
 equals : List (Int × Int)
structure Edg where
 from_ : Int
 act : Inter
 to : Int
 again : Bool
structure Tmo where
 state : Int
 ticks : Int
 els : Int
structure Glob where
 name : ByteArray
 roles : List ByteArray
 decls : List Dcl
 states : Int
 start : Int
 end_ : Int
 edges : List Edg
 timeouts : List Tmo
def encF (f : Fld) : List DV := [.str f.name, .int .i64 f.kind, .int .i64 f.lo, .int .i64 f.hi]
def encDf (d : Dff) : List DV := [.int .i64 d.x, .int .i64 d.y, .int .i64 d.c]
def encEq (e : Int × Int) : List DV := [.int .i64 e.1, .int .i64 e.2]
def encD (d : Dcl) : List DV := [.str d.name, .sl (d.fields.map encF), .int .i64 d.first, .sl (d.diffs.map encDf), .sl (d.equals.map encEq)]
def encEd (x : Edg) : List DV := [.int .i64 x.from_, .int .i64 x.act.from_, .int .i64 x.act.to, .int .i64 x.act.label, .int .i64 x.to, .bool x.again]
def encT (t : Tmo) : List DV := [.int .i64 t.state, .int .i64 t.ticks, .int .i64 t.els]
def encG (g : Glob) : List DV := [.str g.name, .sl (g.roles.map encS), .sl (g.decls.map encD), .int .i64 g.states, .int .i64 g.start, .int .i64 g.end_, .sl (g.edges.map encEd), .sl (g.timeouts.map encT)]
def goodSort (f : Fld) : Bool :=
 if f.kind = 1 then decide (-1000 <= f.lo) && decide (f.lo <= f.hi) && decide (f.hi <= 1000)
 else if f.kind = 2 then decide (0 <= f.lo) && decide (f.lo <= f.hi) && decide (f.hi <= 40)
 else false
def allF (l : List Dcl) : List Fld := l.flatMap Dcl.fields
def okDff (n : Nat) (d : Dff) : Bool := decide (-1 <= d.x) && decide (-1 <= d.y) && decide (d.x < n) && decide (d.y < n) && decide (-20000 <= d.c) && decide (d.c <= 20000)
def isText (all : List Fld) (x : Int) : Bool := decide (0 <= x) && decide (x < all.length) && match all[x.toNat]? with
 | some f => decide (f.kind = 2)
 | none => false
def okGuard (all : List Fld) (d : Dcl) : Bool := decide (d.diffs.length <= 20) && decide (d.equals.length <= 20) && d.diffs.all (okDff all.length) && d.equals.all fun e => isText all e.1 && isText all e.2
theorem f62 (k lo hi : Int) (nm : ByteArray) : Impl Tryd.prog 62 [.ag [.int .i64 k, .int .i64 lo, .int .i64 hi]] (.one (.one (.bool (goodSort ⟨nm, k, lo, hi⟩)))) := by
 refine impl_v ?_
 by_cases h1 : k = 1
 ·refine wX h1 ?_
  simp [go_sem, goodSort, h1]
 ·by_cases h2 : k = 2
  ·refine wX (aN h1 h2) ?_
   simp [go_sem, goodSort, h1, h2]
  ·refine wX (aN h1 h2) ?_
   simp [go_sem, goodSort, h1, h2]
theorem f48 (l : List Dcl) (hl : l.length <= 1000) (hf : ∀ d ∈ l, d.fields.length <= 100000) : Impl Tryd.prog 48 [.one (.sl (l.map encD))] (.one (.one (.ow 4 ((allF l).map encF)))) := by
 refine impl_v ?_
 refine wN ?_
 refine z_k (fun n e => ∃ k : Nat, k + n = l.length /\ e = [(8, .sv (.one (.int .i64 k))), (7, .sv (.one (.int .i64 l.length))), (6, .sv (.one (.sl (l.map encD)))), (3, .sv (.one (.ow 4 ((allF (l.take k)).map encF)))), (0, .sv (.one (.sl (l.map encD))))]) l.length _ ⟨0, by simp, rfl⟩ (by simp [go_sem, allF]) ?_
 rintro n e ⟨k, hk, rfl⟩
 by_cases hlt : k < l.length
 ·have hfk := hf l[k] (List.getElem_mem hlt)
  have hall : (allF (l.take k)).length <= k * 100000 := by
   have : ∀ (m : List Dcl), (∀ d ∈ m, d.fields.length <= 100000) -> (allF m).length <= m.length * 100000 := by
    intro m
    induction m with
    | nil => simp [allF]
    | cons d m ih =>
      intro h
      have h1 := ih fun x hx => h x (by simp [hx])
      have h2 := h d (by simp)
      simp only [allF, List.flatMap_cons, List.length_append, List.length_cons] at h1 ⊢
      omega
   have h1 := this (l.take k) fun d hd => hf d (List.mem_of_mem_take hd)
   have h2 : (l.take k).length <= k := List.length_take_le _ _
   exact Nat.le_trans h1 (Nat.mul_le_mul_right _ h2)
  have hs : allF (l.take (k + 1)) = allF (l.take k) ++ l[k].fields := by
   unfold allF
   rw [List.take_succ_eq_append_getElem hlt, List.flatMap_append]
   simp
  repeat' first | refine St.go ?_ | ((with_reducible refine cn ?_ ?_) <;> intro h <;> (try simp at h) <;> try omega) | (refine Ru.go ?_; intro K hK; simp [go_sem, hlt, encD]; (try simp (disch := omega) only [wx, z_i]); (first | apply hK | refine ⟨by first | omega | (simp [z_f, z_g, hlt, encD, maxLen, DV.flat, encF]; first | done | omega), ?_⟩ | refine ⟨hK _ ?_, fun h => ?_⟩ | refine ⟨?_, ?_⟩); all_goals ((try apply hK); clear hK K))
  refine z_j (n - 1) _ (by omega) ⟨k + 1, by omega, rfl⟩ ?_
  simp [go_sem, hs]
 ·have hkl : l.take k = l := List.take_of_length_le (by omega)
  refine wX (aN hlt hkl) ?_
  simp [go_sem]
end Go.Av
namespace Go.Proofs.YticeobjphcmggaaDoor
open Go.ChangeShapes Go.WideShapes Go.ChangeAt Go.RowKit Go.Av
set_option maxRecDepth 100000
theorem Tryd.own : ownKnob Tryd.prog.godebug = none := by kernel_rfl
theorem Tryd.laidOut : laidOutB Tryd.prog = true := by kernel_rfl
theorem int_ofB {n : Nat} {t : TypeId} {k : IntKind} {l : List DV} (hu : Tryd.prog.underlying t = some (.int k)) (h : TyLB Tryd.prog (n + 1) t l) : ∃ m, l = [.int k m] /\ (Lit.int k m).wf = true := by
 unfold TyLB at h
 rw [hu] at h
 obtain ⟨m, hm, hw⟩ := h
 exact ⟨m, hm, hw⟩
theorem bool_ofB {n : Nat} {t : TypeId} {l : List DV} (hu : Tryd.prog.underlying t = some .bool) (h : TyLB Tryd.prog (n + 1) t l) : ∃ m, l = [.bool m] := by
 unfold TyLB at h
 rw [hu] at h
 exact h
theorem str_ofB {n : Nat} {t : TypeId} {l : List DV} (hu : Tryd.prog.underlying t = some .string) (h : TyLB Tryd.prog (n + 1) t l) : ∃ m, l = [.str m] /\ m.size <= reachBytes := by
 unfold TyLB at h
 rw [hu] at h
 exact h
theorem slice_ofB {n : Nat} {t e : TypeId} {l : List DV} (hu : Tryd.prog.underlying t = some (.slice e)) (h : TyLB Tryd.prog (n + 1) t l) : ∃ els : List (List DV), l = [.sl els] /\ els.length <= reachBytes /\ ∀ el ∈ els, TyLB Tryd.prog n e el := by
 unfold TyLB at h
 rw [hu] at h
 exact h
theorem list_ofB {α : Type} {enc : α -> List DV} {p : α -> Prop} : ∀ (els : List (List DV)), (∀ el ∈ els, ∃ x, el = enc x /\ p x) -> ∃ L : List α, els = L.map enc /\ ∀ x ∈ L, p x
 | [], _ => ⟨[], rfl, by simp⟩
 | e :: els, h => by
   obtain ⟨x, rfl, hx⟩ := h e (by simp)
   obtain ⟨L, rfl, hL⟩ := list_ofB els fun el hel => h el (by simp [hel])
   exact ⟨x :: L, rfl, by simpa using ⟨hx, hL⟩⟩
theorem slist_ofB {α : Type} {n : Nat} {t e : TypeId} {l : List DV} {enc : α -> List DV} {p : α -> Prop} (hu : Tryd.prog.underlying t = some (.slice e)) (h : TyLB Tryd.prog (n + 1) t l) (he : ∀ el, TyLB Tryd.prog n e el -> ∃ x, el = enc x /\ p x) :
  ∃ L : List α, l = [.sl (L.map enc)] /\ L.length <= reachBytes /\ ∀ x ∈ L, p x := by
 obtain ⟨els, rfl, hl, hel⟩ := slice_ofB hu h
 obtain ⟨L, rfl, hL⟩ := list_ofB (enc := enc) (p := p) els fun el h => he el (hel el h)
 exact ⟨L, rfl, by simpa using hl, hL⟩
theorem inter_ofB {n : Nat} {l : List DV} (h : TyLB Tryd.prog (n + 2) 53 l) : ∃ x : Inter, l = encI x := by
 unfold TyLB at h
 rw [Tryd.underlying53] at h
 simp only [TyFB] at h
 obtain ⟨l1, l2, rfl, h1, l3, l4, rfl, h2, l5, l6, rfl, h3, rfl⟩ := h
 obtain ⟨a, rfl, _⟩ := int_ofB Tryd.underlying3 h1
 obtain ⟨b, rfl, _⟩ := int_ofB Tryd.underlying3 h2
 obtain ⟨c, rfl, _⟩ := int_ofB Tryd.underlying3 h3
 exact ⟨⟨a, b, c⟩, rfl⟩
theorem role_ofB {n : Nat} {l : List DV} (h : TyLB Tryd.prog (n + 1) 9 l) : ∃ x : ByteArray, l = encS x := by
 obtain ⟨s, rfl, _⟩ := str_ofB Tryd.underlying9 h
 exact ⟨s, rfl⟩
theorem fld_ofB {n : Nat} {l : List DV} (h : TyLB Tryd.prog (n + 3) 109 l) : ∃ x : Fld, l = encF x := by
 unfold TyLB at h
 rw [Tryd.underlying109] at h
 simp only [TyFB] at h
 obtain ⟨l1, l2, rfl, h1, l3, l4, rfl, h2, rfl⟩ := h
 obtain ⟨a, rfl, _⟩ := str_ofB Tryd.underlying9 h1
 unfold TyLB at h2
 rw [Tryd.underlying107] at h2
 simp only [TyFB] at h2
 obtain ⟨l5, l6, rfl, h3, l7, l8, rfl, h4, l9, l10, rfl, h5, rfl⟩ := h2
 obtain ⟨b, rfl, _⟩ := int_ofB Tryd.underlying3 h3
 obtain ⟨c, rfl, _⟩ := int_ofB Tryd.underlying3 h4
 obtain ⟨d, rfl, _⟩ := int_ofB Tryd.underlying3 h5
 exact ⟨⟨a, b, c, d⟩, rfl⟩
theorem dff_ofB {n : Nat} {l : List DV} (h : TyLB Tryd.prog (n + 2) 112 l) : ∃ x : Dff, l = encDf x := by
 unfold TyLB at h
 rw [Tryd.underlying112] at h
 simp only [TyFB] at h
 obtain ⟨l1, l2, rfl, h1, l3, l4, rfl, h2, l5, l6, rfl, h3, rfl⟩ := h
 obtain ⟨a, rfl, _⟩ := int_ofB Tryd.underlying3 h1
 obtain ⟨b, rfl, _⟩ := int_ofB Tryd.underlying3 h2
 obtain ⟨c, rfl, _⟩ := int_ofB Tryd.underlying3 h3
 exact ⟨⟨a, b, c⟩, rfl⟩
theorem eq_ofB {n : Nat} {l : List DV} (h : TyLB Tryd.prog (n + 2) 113 l) : ∃ x : Int × Int, l = encEq x := by
 unfold TyLB at h
 rw [Tryd.underlying113] at h
 obtain ⟨els, rfl, hl, hel⟩ := h
 match els, hl, hel with
 | [x, y], _, hel =>
   obtain ⟨a, rfl, _⟩ := int_ofB Tryd.underlying3 (hel x (by simp))
   obtain ⟨b, rfl, _⟩ := int_ofB Tryd.underlying3 (hel y (by simp))
   exact ⟨(a, b), rfl⟩
def DclB (d : Dcl) : Prop := d.name.size <= 1000000000000000 /\ d.fields.length <= 1000000000000000 /\ d.diffs.length <= 1000000000000000 /\ d.equals.length <= 1000000000000000
theorem reach_small {n : Nat} (h : n <= reachBytes) : n <= 1000000000000000 := Nat.le_trans h (by decide)
theorem dcl_ofB {n : Nat} {l : List DV} (h : TyLB Tryd.prog (n + 5) 51 l) : ∃ x : Dcl, l = encD x /\ DclB x := by
 unfold TyLB at h
 rw [Tryd.underlying51] at h
 simp only [TyFB] at h
 obtain ⟨l1, l2, rfl, h1, l3, l4, rfl, h2, l5, l6, rfl, h3, l7, l8, rfl, h4, rfl⟩ := h
 obtain ⟨a, rfl, ha⟩ := str_ofB Tryd.underlying9 h1
 obtain ⟨F, rfl, hF, _⟩ := slist_ofB (enc := encF) (p := fun _ => True) Tryd.underlying45 h2 fun el h => (fld_ofB h).imp fun x hx => ⟨hx, trivial⟩
 obtain ⟨b, rfl, _⟩ := int_ofB Tryd.underlying3 h3
 unfold TyLB at h4
 rw [Tryd.underlying49] at h4
 simp only [TyFB] at h4
 obtain ⟨l9, l10, rfl, h5, l11, l12, rfl, h6, rfl⟩ := h4
 obtain ⟨D, rfl, hD, _⟩ := slist_ofB (enc := encDf) (p := fun _ => True) Tryd.underlying46 h5 fun el h => (dff_ofB h).imp fun x hx => ⟨hx, trivial⟩
 obtain ⟨E, rfl, hE, _⟩ := slist_ofB (enc := encEq) (p := fun _ => True) Tryd.underlying47 h6 fun el h => (eq_ofB h).imp fun x hx => ⟨hx, trivial⟩
 exact ⟨⟨a, F, b, D, E⟩, rfl, reach_small ha, reach_small hF, reach_small hD, reach_small hE⟩
theorem edg_ofB {n : Nat} {l : List DV} (h : TyLB Tryd.prog (n + 3) 55 l) : ∃ x : Edg, l = encEd x := by
 unfold TyLB at h
 rw [Tryd.underlying55] at h
 simp only [TyFB] at h
 obtain ⟨l1, l2, rfl, h1, l3, l4, rfl, h2, l5, l6, rfl, h3, l7, l8, rfl, h4, rfl⟩ := h
 obtain ⟨a, rfl, _⟩ := int_ofB Tryd.underlying3 h1
 obtain ⟨x, rfl⟩ := inter_ofB h2
 obtain ⟨b, rfl, _⟩ := int_ofB Tryd.underlying3 h3
 obtain ⟨c, rfl⟩ := bool_ofB Tryd.underlying4 h4
 exact ⟨⟨a, x, b, c⟩, rfl⟩
theorem tmo_ofB {n : Nat} {l : List DV} (h : TyLB Tryd.prog (n + 2) 120 l) : ∃ x : Tmo, l = encT x := by
 unfold TyLB at h
 rw [Tryd.underlying120] at h
 simp only [TyFB] at h
 obtain ⟨l1, l2, rfl, h1, l3, l4, rfl, h2, l5, l6, rfl, h3, rfl⟩ := h
 obtain ⟨a, rfl, _⟩ := int_ofB Tryd.underlying3 h1
 obtain ⟨b, rfl, _⟩ := int_ofB Tryd.underlying3 h2
 obtain ⟨c, rfl, _⟩ := int_ofB Tryd.underlying3 h3
 exact ⟨⟨a, b, c⟩, rfl⟩
structure GlobB (g : Glob) : Prop where
 decls : g.decls.length <= 1000000000000000
 decl : ∀ d ∈ g.decls, DclB d
 roles : g.roles.length <= 1000000000000000
 edges : g.edges.length <= 1000000000000000
 timeouts : g.timeouts.length <= 1000000000000000
theorem glob_ofB {n : Nat} {l : List DV} (h : TyLB Tryd.prog (n + 7) 27 l) : ∃ x : Glob, l = encG x /\ GlobB x := by
 unfold TyLB at h
 rw [Tryd.underlying27] at h
 simp only [TyFB] at h
 obtain ⟨l1, l2, rfl, h1, l3, l4, rfl, h2, l5, l6, rfl, h3, l7, l8, rfl, h4, l9, l10, rfl, h5, l11, l12, rfl, h6, l13, l14, rfl, h7, l15, l16, rfl, h8, rfl⟩ := h
 obtain ⟨a, rfl, _⟩ := str_ofB Tryd.underlying9 h1
 obtain ⟨R, rfl, hR, _⟩ := slist_ofB (enc := encS) (p := fun _ => True) Tryd.underlying22 h2 fun el h => (role_ofB h).imp fun x hx => ⟨hx, trivial⟩
 obtain ⟨D, rfl, hD, hD'⟩ := slist_ofB (enc := encD) (p := DclB) Tryd.underlying23 h3 fun el h => dcl_ofB h
 obtain ⟨b, rfl, _⟩ := int_ofB Tryd.underlying3 h4
 obtain ⟨c, rfl, _⟩ := int_ofB Tryd.underlying3 h5
 obtain ⟨d, rfl, _⟩ := int_ofB Tryd.underlying3 h6
 obtain ⟨E, rfl, hE, _⟩ := slist_ofB (enc := encEd) (p := fun _ => True) Tryd.underlying24 h7 fun el h => (edg_ofB h).imp fun x hx => ⟨hx, trivial⟩
 obtain ⟨T, rfl, hT, _⟩ := slist_ofB (enc := encT) (p := fun _ => True) Tryd.underlying25 h8 fun el h => (tmo_ofB h).imp fun x hx => ⟨hx, trivial⟩
 exact ⟨⟨a, R, D, b, c, d, E, T⟩, rfl, reach_small hD, hD', reach_small hR, reach_small hE, reach_small hT⟩
theorem ev_ofB {n : Nat} {l : List DV} (h : TyLB Tryd.prog (n + 2) 40 l) : ∃ x : Ev, l = encE x := by
 unfold TyLB at h
 rw [Tryd.underlying40] at h
 simp only [TyFB] at h
 obtain ⟨l1, l2, rfl, h1, l3, l4, rfl, h2, l5, l6, rfl, h3, l7, l8, rfl, h4, l9, l10, rfl, h5, rfl⟩ := h
 obtain ⟨a, rfl, _⟩ := int_ofB Tryd.underlying3 h1
 obtain ⟨b, rfl⟩ := bool_ofB Tryd.underlying4 h2
 obtain ⟨c, rfl, _⟩ := int_ofB Tryd.underlying3 h3
 obtain ⟨d, rfl, _⟩ := int_ofB Tryd.underlying3 h4
 obtain ⟨els, rfl, _⟩ := slice_ofB Tryd.underlying38 h5
 exact ⟨⟨a, b, c, d, some els⟩, rfl⟩
theorem evs_ofB {n : Nat} {l : List DV} (h : TyLB Tryd.prog (n + 3) 41 l) : ∃ L : List Ev, l = encH L /\ L.length <= reachBytes := by
 obtain ⟨els, rfl, hl, hel⟩ := slice_ofB Tryd.underlying41 h
 obtain ⟨L, rfl, _⟩ := list_ofB (enc := encE) (p := fun _ => True) els fun el h => by
  obtain ⟨x, hx⟩ := ev_ofB (hel el h)
  exact ⟨x, hx, trivial⟩
 exact ⟨L, rfl, by simpa using hl⟩
theorem hists_ofB {n : Nat} {l : List DV} (h : TyLB Tryd.prog (n + 4) 28 l) : ∃ H : List (List Ev), l = [.sl (H.map encH)] /\ H.length <= 1000000000000000 /\ ∀ x ∈ H, x.length <= 1000000000000000 := by
 obtain ⟨els, rfl, hl, hel⟩ := slice_ofB Tryd.underlying28 h
 obtain ⟨L, rfl, hL⟩ := list_ofB (enc := encH) (p := fun x => x.length <= reachBytes) els fun el h => evs_ofB (hel el h)
 exact ⟨L, rfl, reach_small (by simpa using hl), fun x hx => reach_small (hL x hx)⟩
end Go.Proofs.YticeobjphcmggaaDoor
namespace Go.Av
open Go Go.RowKit Go.Proofs
set_option maxHeartbeats 64000000
theorem f65 (all : List Fld) (d : Dcl) (hl : all.length <= 1000000000) : Impl Tryd.prog 65 [.ag [.sl (d.diffs.map encDf), .sl (d.equals.map encEq)], .one (.sl (all.map encF))] (.one (.one (.bool (okGuard all d)))) := by
 refine impl_v ?_
 by_cases hd : d.diffs.length <= 20
 ·have hd' : ¬ (20 : Int) < (d.diffs.length : Int) := by omega
  by_cases he : d.equals.length <= 20
  ·have he' : ¬ (20 : Int) < (d.equals.length : Int) := by omega
   refine wX (aN hd' he') ?_
   refine z_k (fun n e => ∃ k : Nat, k + n = d.diffs.length /\ (d.diffs.take k).all (okDff all.length) = true /\ e = [(24, .sv (.one (.int .i64 k))), (23, .sv (.one (.int .i64 d.diffs.length))), (22, .sv (.one (.sl (d.diffs.map encDf)))), (2, .sv (.one (.bx [.sl (d.diffs.map encDf), .sl (d.equals.map encEq)]))), (1, .sv (.one (.sl (all.map encF))))]) d.diffs.length _ ⟨0, by simp, by simp, rfl⟩ (by simp [go_sem]) ?_
   rintro n e ⟨k, hk, hall, rfl⟩
   by_cases hlt : k < d.diffs.length
   ·skip
    repeat' first | refine St.go ?_ | ((with_reducible refine cn ?_ ?_) <;> intro h <;> (try simp at h) <;> try omega) | (refine Ru.go ?_; intro K hK; simp [go_sem, hlt, encDf]; (try simp (disch := omega) only [wx, z_i]); (first | apply hK | refine ⟨by first | omega | (simp [z_f, z_g, hlt, encDf]; first | done | omega), ?_⟩ | refine ⟨hK _ ?_, fun h => ?_⟩ | refine ⟨?_, ?_⟩); all_goals ((try apply hK); clear hK K))
    ·have hb : okDff all.length d.diffs[k] = false := by
      cases hb : okDff all.length d.diffs[k] with
      | false => rfl
      | true =>
        simp only [okDff, Bool.and_eq_true, decide_eq_true_eq] at hb
        omega
     have hf : okGuard all d = false := by simp [okGuard, all_no hlt hb]
     simp [go_sem, hf]
    ·have hb : okDff all.length d.diffs[k] = true := by
      simp only [okDff, Bool.and_eq_true, decide_eq_true_eq]
      omega
     refine z_j (n - 1) _ (by omega) ⟨k + 1, by omega, ?_, rfl⟩ ?_
     ·rw [all_succ hlt, hall, hb]; rfl
     ·simp [go_sem]
   ·have hkl : d.diffs.take k = d.diffs := List.take_of_length_le (by omega)
    rw [hkl] at hall
    refine wX hlt ?_
    refine z_k (fun n e => ∃ k : Nat, k + n = d.equals.length /\ (d.equals.take k).all (fun e => isText all e.1 && isText all e.2) = true /\ e = [(58, .sv (.one (.int .i64 k))), (57, .sv (.one (.int .i64 d.equals.length))), (56, .sv (.one (.sl (d.equals.map encEq)))), (1, .sv (.one (.sl (all.map encF))))]) d.equals.length _ ⟨0, by simp, by simp, rfl⟩ (by simp [go_sem]) ?_
    rintro n e ⟨k, hk, hall2, rfl⟩
    by_cases hlt2 : k < d.equals.length
    ·have hbad : (isText all d.equals[k].1 && isText all d.equals[k].2) = false -> okGuard all d = false := by
      intro h
      have := all_no (p := fun e => isText all e.1 && isText all e.2) hlt2 h
      simp [okGuard, this]
     obtain ⟨y, hy⟩ : ∃ y, y = d.equals[k] := ⟨_, rfl⟩
     rw [<- hy] at hbad
     have hy' : d.equals[k] = y := hy.symm
     refine wX (aN hlt2 <| aN hy' encEq.eq_1) ?_
     refine z_k (fun q e => ∃ j : Nat, j + q = 2 /\ ((j = 0 \/ isText all y.1 = true) /\ (j <= 1 \/ isText all y.2 = true)) /\ e = [(63, .sv (.one (.int .i64 j))), (62, .sv (.ag (encEq y))), (58, .sv (.one (.int .i64 k))), (57, .sv (.one (.int .i64 d.equals.length))), (56, .sv (.one (.sl (d.equals.map encEq)))), (1, .sv (.one (.sl (all.map encF))))]) 2 _ ⟨0, rfl, by simp, rfl⟩ (by simp [go_sem, encEq]) ?_
     rintro q e ⟨j, hj, htx, rfl⟩
     have hj3 : j = 0 \/ j = 1 \/ j = 2 := by omega
     rcases hj3 with rfl | rfl | rfl
     ·by_cases hx0 : y.1 < 0
      ·have hit : isText all (y.1) = false := by simp [isText, show ¬ 0 <= y.1 by omega]
       have hf : okGuard all d = false := hbad (by simp [hit])
       cases hq : all[(y.1).toNat]? with
       | none =>
         refine wX (aN hx0 <| aN hq encEq.eq_1) ?_
         simp [go_sem, hf]
       | some f =>
         refine wX (aN hx0 <| aN hq <| aN encEq.eq_1 encF.eq_1) ?_
         simp [go_sem, hf]
      ·by_cases hxn : y.1 < all.length
       ·have hlt3 : (y.1).toNat < all.length := by omega
        have hq : all[(y.1).toNat]? = some all[(y.1).toNat] := List.getElem?_eq_getElem hlt3
        by_cases hk2 : all[(y.1).toNat].kind = 2
        ·have hit : isText all (y.1) = true := by simp [isText, show 0 <= y.1 by omega, hxn, hlt3, hk2]
         have hxn' : ¬ (all.length : Int) <= y.1 := by omega
         refine wX (aN hx0 <| aN hxn' <| aN hlt3 <| aN hk2 <| aN encEq.eq_1 encF.eq_1) ?_
         refine z_j (q - 1) _ (by omega) ⟨0 + 1, by omega, by simp [hit], rfl⟩ ?_
         simp [go_sem, encEq]
        ·have hit : isText all (y.1) = false := by simp [isText, hlt3, hk2]
         have hf : okGuard all d = false := hbad (by simp [hit])
         have hxn' : ¬ (all.length : Int) <= y.1 := by omega
         repeat' first | refine St.go ?_ | ((with_reducible refine cn ?_ ?_) <;> intro h <;> (try simp at h) <;> try omega) | (refine Ru.go ?_; intro K hK; simp [go_sem, hx0, hxn', hlt3, hk2, encEq, encF]; (try simp (disch := omega) only [wx, z_i]); (first | apply hK | refine ⟨by first | omega | (simp [z_f, z_g, hx0, hxn', hlt3, hk2, encEq, encF]; first | done | omega), ?_⟩ | refine ⟨hK _ ?_, fun h => ?_⟩ | refine ⟨?_, ?_⟩); all_goals ((try apply hK); clear hK K))
         simp [go_sem, hf]
       ·have hit : isText all (y.1) = false := by simp [isText, hxn]
        have hf : okGuard all d = false := hbad (by simp [hit])
        have hxn' : (all.length : Int) <= y.1 := by omega
        have hq : all[(y.1).toNat]? = none := List.getElem?_eq_none (by omega)
        refine wX (aN hx0 <| aN hxn' <| aN hq encEq.eq_1) ?_
        simp [go_sem, hf]
     ·by_cases hx0 : y.2 < 0
      ·have hit : isText all (y.2) = false := by simp [isText, show ¬ 0 <= y.2 by omega]
       have hf : okGuard all d = false := hbad (by simp [hit])
       cases hq : all[(y.2).toNat]? with
       | none =>
         refine wX (aN hx0 <| aN hq encEq.eq_1) ?_
         simp [go_sem, hf]
       | some f =>
         refine wX (aN hx0 <| aN hq <| aN encEq.eq_1 encF.eq_1) ?_
         simp [go_sem, hf]
      ·by_cases hxn : y.2 < all.length
       ·have hlt3 : (y.2).toNat < all.length := by omega
        have hq : all[(y.2).toNat]? = some all[(y.2).toNat] := List.getElem?_eq_getElem hlt3
        by_cases hk2 : all[(y.2).toNat].kind = 2
        ·have hit : isText all (y.2) = true := by simp [isText, show 0 <= y.2 by omega, hxn, hlt3, hk2]
         have hxn' : ¬ (all.length : Int) <= y.2 := by omega
         refine wX (aN hx0 <| aN hxn' <| aN hlt3 <| aN hk2 <| aN encEq.eq_1 encF.eq_1) ?_
         refine z_j (q - 1) _ (by omega) ⟨1 + 1, by omega, by simp only [hit, Bool.and_true] at htx ⊢; simpa using htx, rfl⟩ ?_
         simp [go_sem, encEq]
        ·have hit : isText all (y.2) = false := by simp [isText, hlt3, hk2]
         have hf : okGuard all d = false := hbad (by simp [hit])
         have hxn' : ¬ (all.length : Int) <= y.2 := by omega
         repeat' first | refine St.go ?_ | ((with_reducible refine cn ?_ ?_) <;> intro h <;> (try simp at h) <;> try omega) | (refine Ru.go ?_; intro K hK; simp [go_sem, hx0, hxn', hlt3, hk2, encEq, encF]; (try simp (disch := omega) only [wx, z_i]); (first | apply hK | refine ⟨by first | omega | (simp [z_f, z_g, hx0, hxn', hlt3, hk2, encEq, encF]; first | done | omega), ?_⟩ | refine ⟨hK _ ?_, fun h => ?_⟩ | refine ⟨?_, ?_⟩); all_goals ((try apply hK); clear hK K))
         simp [go_sem, hf]
       ·have hit : isText all (y.2) = false := by simp [isText, hxn]
        have hf : okGuard all d = false := hbad (by simp [hit])
        have hxn' : (all.length : Int) <= y.2 := by omega
        have hq : all[(y.2).toNat]? = none := List.getElem?_eq_none (by omega)
        refine wX (aN hx0 <| aN hxn' <| aN hq encEq.eq_1) ?_
        simp [go_sem, hf]
     ·have ht1 : isText all y.1 = true := by simpa using htx.1
      have ht2 : isText all y.2 = true := by simpa using htx.2
      refine wN ?_
      refine z_j (n - 1) _ (by omega) ⟨k + 1, by omega, ?_, rfl⟩ ?_
      ·rw [all_succ hlt2, hall2, <- hy, ht1, ht2]; rfl
      ·simp [go_sem]
    ·have hkl2 : d.equals.take k = d.equals := List.take_of_length_le (by omega)
     rw [hkl2] at hall2
     refine wX hlt2 ?_
     simp [go_sem, okGuard, hd, he, hall, hall2]
  ·have he' : (20 : Int) < (d.equals.length : Int) := by omega
   refine wX (aN hd' he') ?_
   simp [go_sem, okGuard, he]
 ·have hd' : (20 : Int) < (d.diffs.length : Int) := by omega
  refine wX hd' ?_
  simp [go_sem, okGuard, hd]
set_option maxHeartbeats 64000000
theorem allF_le {B : Nat} : ∀ (m : List Dcl), (∀ d ∈ m, d.fields.length <= B) -> (allF m).length <= m.length * B
 | [], _ => by simp [allF]
 | d :: m, h => by
   have h1 := allF_le m fun x hx => h x (by simp [hx])
   have h2 := h d (by simp)
   simp only [allF, List.flatMap_cons, List.length_append, List.length_cons, Nat.succ_mul] at h1 ⊢
   omega
theorem allF_take_le {B k : Nat} {l : List Dcl} (hf : ∀ d ∈ l, d.fields.length <= B) : (allF (l.take k)).length <= k * B :=
 Nat.le_trans (allF_le _ fun d hd => hf d (List.mem_of_mem_take hd)) (Nat.mul_le_mul_right _ (List.length_take_le _ _))
theorem allF_succ {l : List Dcl} {k : Nat} (hlt : k < l.length) : allF (l.take (k + 1)) = allF (l.take k) ++ l[k].fields := by
 unfold allF
 rw [List.take_succ_eq_append_getElem hlt, List.flatMap_append]
 simp
theorem allF_split (l : List Dcl) (k : Nat) : allF l = allF (l.take k) ++ allF (l.drop k) := by
 unfold allF
 rw [<- List.flatMap_append, List.take_append_drop]
set_option maxHeartbeats 64000000
theorem f76 (l : List Dcl) (g : FuncId) (caps : List DV) (p : Dcl -> Bool) (hl : l.length <= 1000000) (hg : ∀ x ∈ l, Impl Tryd.prog g (.ag (encD x) :: caps.map .one) (.one (.one (.bool (p x))))) :
  Impl Tryd.prog 76 [.one (.sl (l.map encD)), .one (.fn g caps)] (.one (.one (.int .i64 (firstB p l)))) := by
 refine impl_v ?_
 refine wN ?_
 refine z_k (fun n e => ∃ k : Nat, k + n = l.length /\ (l.take k).any p = false /\ e = [(8, .sv (.one (.int .i64 k))), (7, .sv (.one (.int .i64 l.length))), (1, .sv (.one (.fn g caps))), (0, .sv (.one (.sl (l.map encD))))]) l.length _ ⟨0, by simp, by simp, rfl⟩ (by simp [go_sem]) ?_
 rintro n e ⟨k, hk, h0, rfl⟩
 by_cases hlt : k < l.length
 ·have hgs := hg l[k] (List.getElem_mem hlt)
  simp only [encD] at hgs
  cases hx : p l[k] with
  | true =>
    have hf := firstB_at hlt h0 hx
    rw [hx] at hgs
    refine wV (aN hlt encD.eq_1) hgs ?_
    simp [go_sem, hf]
  | false =>
    rw [hx] at hgs
    refine wV (aN hlt encD.eq_1) hgs ?_
    refine z_j (n - 1) _ (by omega) ⟨k + 1, by omega, ?_, rfl⟩ ?_
    ·rw [any_succ hlt, h0, hx]; rfl
    ·simp [go_sem]
 ·have hkl : l.take k = l := List.take_of_length_le (by omega)
  rw [hkl] at h0
  have hf := firstB_none h0
  refine wX hlt ?_
  simp [go_sem, hf]
theorem f60 (l : List Dcl) (g : FuncId) (caps : List DV) (p : Dcl -> Bool) (hl : l.length <= 1000000) (hg : ∀ x ∈ l, Impl Tryd.prog g (.ag (encD x) :: caps.map .one) (.one (.one (.bool (p x))))) :
  Impl Tryd.prog 60 [.one (.sl (l.map encD)), .one (.fn g caps)] (.one (.one (.bool (l.any p)))) := by
 refine impl_v ?_
 have hf := firstB_any p l
 refine wC (f76 l g caps p hl hg) ?_
 simp [go_sem, hf]
theorem f61 (x d : Dcl) : Impl Tryd.prog 61 [.ag (encD x), .one (.rf (encD d))] (.one (.one (.bool (x.name == d.name)))) := by
 refine impl_v ?_
 refine wX encD.eq_1 ?_
 simp [go_sem]
theorem f77 (l : List Fld) (g : FuncId) (caps : List DV) (p : Fld -> Bool) (hl : l.length <= 1000000) (hg : ∀ x ∈ l, Impl Tryd.prog g (.ag (encF x) :: caps.map .one) (.one (.one (.bool (p x))))) :
  Impl Tryd.prog 77 [.one (.sl (l.map encF)), .one (.fn g caps)] (.one (.one (.int .i64 (firstB p l)))) := by
 refine impl_v ?_
 refine wN ?_
 refine z_k (fun n e => ∃ k : Nat, k + n = l.length /\ (l.take k).any p = false /\ e = [(8, .sv (.one (.int .i64 k))), (7, .sv (.one (.int .i64 l.length))), (1, .sv (.one (.fn g caps))), (0, .sv (.one (.sl (l.map encF))))]) l.length _ ⟨0, by simp, by simp, rfl⟩ (by simp [go_sem]) ?_
 rintro n e ⟨k, hk, h0, rfl⟩
 by_cases hlt : k < l.length
 ·have hgs := hg l[k] (List.getElem_mem hlt)
  simp only [encF] at hgs
  cases hx : p l[k] with
  | true =>
    have hf := firstB_at hlt h0 hx
    rw [hx] at hgs
    refine wV (aN hlt encF.eq_1) hgs ?_
    simp [go_sem, hf]
  | false =>
    rw [hx] at hgs
    refine wV (aN hlt encF.eq_1) hgs ?_
    refine z_j (n - 1) _ (by omega) ⟨k + 1, by omega, ?_, rfl⟩ ?_
    ·rw [any_succ hlt, h0, hx]; rfl
    ·simp [go_sem]
 ·have hkl : l.take k = l := List.take_of_length_le (by omega)
  rw [hkl] at h0
  have hf := firstB_none h0
  refine wX hlt ?_
  simp [go_sem, hf]
theorem f63 (l : List Fld) (g : FuncId) (caps : List DV) (p : Fld -> Bool) (hl : l.length <= 1000000) (hg : ∀ x ∈ l, Impl Tryd.prog g (.ag (encF x) :: caps.map .one) (.one (.one (.bool (p x))))) :
  Impl Tryd.prog 63 [.one (.sl (l.map encF)), .one (.fn g caps)] (.one (.one (.bool (l.any p)))) := by
 refine impl_v ?_
 have hf := firstB_any p l
 refine wC (f77 l g caps p hl hg) ?_
 simp [go_sem, hf]
theorem f64 (x d : Fld) : Impl Tryd.prog 64 [.ag (encF x), .one (.rf (encF d))] (.one (.one (.bool (x.name == d.name)))) := by
 refine impl_v ?_
 refine wX encF.eq_1 ?_
 simp [go_sem]
set_option maxHeartbeats 64000000
theorem range_succ_all (p : Nat -> Bool) (k : Nat) : (List.range (k + 1)).all p = ((List.range k).all p && p k) := by simp [List.range_succ]
theorem range_all_no {p : Nat -> Bool} {n k : Nat} (h : k < n) (hb : p k = false) : (List.range n).all p = false := by
 rw [List.all_eq_false]
 exact ⟨k, by simp [h], by simp [hb]⟩
theorem frz_encF (x : Fld) : frzL (encF x) = encF x := by simp [encF, frzL, DV.frz]
def okFieldAt (fs : List Fld) (k : Nat) : Bool := match fs[k]? with
 | some f => isWord f.name && goodSort f && !(fs.take k).any (fun x => x.name == f.name)
 | none => true
def okFields (fs : List Fld) : Bool := (List.range fs.length).all (okFieldAt fs)
def okDeclAt (l : List Dcl) (i : Nat) : Bool := match l[i]? with
 | some d => isPath d.name && decide (d.fields.length <= 4) && decide (d.first = ((allF (l.take i)).length : Int)) && !(l.take i).any (fun x => x.name == d.name) && okFields d.fields && okGuard (allF l) d
 | none => true
def validD (l : List Dcl) : Bool := decide (l.length <= 40) && decide ((allF l).length <= 24) && (List.range l.length).all (okDeclAt l)
theorem okFieldAt_get {fs : List Fld} {k : Nat} (h : k < fs.length) : okFieldAt fs k = (isWord fs[k].name && goodSort fs[k] && !(fs.take k).any (fun x => x.name == fs[k].name)) := by
 unfold okFieldAt
 rw [List.getElem?_eq_getElem h]
theorem okDeclAt_get {l : List Dcl} {i : Nat} (h : i < l.length) : okDeclAt l i = (isPath l[i].name && decide (l[i].fields.length <= 4) && decide (l[i].first = ((allF (l.take i)).length : Int)) && !(l.take i).any (fun x => x.name == l[i].name) && okFields l[i].fields && okGuard (allF l) l[i]) := by
 unfold okDeclAt
 rw [List.getElem?_eq_getElem h]
theorem f47 (l : List Dcl) (hl : l.length <= 1000) (hf : ∀ d ∈ l, d.fields.length <= 100000) : Impl Tryd.prog 47 [.one (.sl (l.map encD))] (.one (.one (.bool (validD l)))) := by
 refine impl_v ?_
 by_cases h40 : l.length <= 40
 ·have h40' : ¬ (40 : Int) < (l.length : Int) := by omega
  have f48s := f48 l hl hf
  obtain ⟨all, hA⟩ : ∃ all, all = allF l := ⟨_, rfl⟩
  rw [<- hA] at f48s
  by_cases h24 : all.length <= 24
  ·have h24' : ¬ (24 : Int) < (all.length : Int) := by omega
   refine wV (aN h40' h24') f48s ?_
   refine z_k (fun n e => ∃ i : Nat, i + n = l.length /\ (List.range i).all (okDeclAt l) = true /\ e = [(19, .sv (.one (.int .i64 i))), (18, .sv (.one (.int .i64 l.length))), (17, .sv (.one (.sl (l.map encD)))), (4, .sv (.one (.int .i64 ((allF (l.take i)).length : Nat)))), (3, .sv (.one (.ow 4 (all.map encF)))), (0, .sv (.one (.sl (l.map encD))))]) l.length _ ⟨0, by simp, by simp, rfl⟩ (by simp [go_sem, allF]) ?_
   rintro n e ⟨i, hi, hall, rfl⟩
   by_cases hlt : i < l.length
   ·have hfi := hf l[i] (List.getElem_mem hlt)
    have hok := okDeclAt_get hlt
    have hbad : okDeclAt l i = false -> validD l = false := fun h => by simp [validD, range_all_no hlt h]
    have hat := allF_take_le (k := i) hf
    have hsc := congrArg List.length (allF_succ hlt)
    rw [List.length_append] at hsc
    obtain ⟨d, hd⟩ : ∃ d, l[i] = d := ⟨_, rfl⟩
    rw [hd] at hfi hok hsc
    have f59s := f59 d.name
    have hti : (l.take i).length <= 1000000 := Nat.le_trans (List.length_take_le _ _) (by omega)
    have f60s := f60 (l.take i) 61 [.rf (encD d)] (fun x => x.name == d.name) hti (fun x _ => f61 x d)
    rw [List.map_take] at f60s
    cases hp : isPath d.name with
    | false =>
      have hv := hbad (by rw [hok, hp]; rfl)
      rw [hp] at f59s
      refine wV (aN hlt <| aN hd encD.eq_1) f59s ?_
      simp [go_sem, hv]
    | true =>
      rw [hp] at f59s
      by_cases h4 : d.fields.length <= 4
      ·have h4' : ¬ (4 : Int) < (d.fields.length : Int) := by omega
       by_cases hfst : d.first = ((allF (l.take i)).length : Int)
       ·have hfst' : (d.first != ((allF (l.take i)).length : Int)) = false := by simp [hfst]
        cases hany : (l.take i).any (fun x => x.name == d.name) with
        | true =>
          have hv := hbad (by rw [hok, hany]; simp)
          rw [hany] at f60s
          refine wV (aN hlt <| aN hd <| aN encD.eq_1 <| aN h4' hfst') (aN f59s f60s) ?_
          simp [go_sem, hv]
        | false =>
          rw [hany] at f60s
          refine wV (aN hlt <| aN hd <| aN encD.eq_1 <| aN h4' hfst') (aN f59s f60s) ?_
          refine z_k (fun q e => ∃ k : Nat, k + q = d.fields.length /\ (List.range k).all (okFieldAt d.fields) = true /\ e = [(55, .sv (.one (.int .i64 k))), (54, .sv (.one (.int .i64 d.fields.length))), (53, .sv (.one (.sl (d.fields.map encF)))), (6, .sv (.one (.bx (encD d)))), (19, .sv (.one (.int .i64 i))), (18, .sv (.one (.int .i64 l.length))), (17, .sv (.one (.sl (l.map encD)))), (4, .sv (.one (.int .i64 ((allF (l.take (i + 1))).length : Nat)))), (3, .sv (.one (.ow 4 (all.map encF)))), (0, .sv (.one (.sl (l.map encD))))]) d.fields.length _ ⟨0, by simp, by simp, rfl⟩ (by simp [go_sem, encD, hsc]) ?_
          rintro q e ⟨k, hk, hfa, rfl⟩
          by_cases hkl : k < d.fields.length
          ·have hfo := okFieldAt_get hkl
           have hfbad : okFieldAt d.fields k = false -> validD l = false := fun h => hbad (by rw [hok]; simp [okFields, range_all_no hkl h])
           obtain ⟨f, hfe⟩ : ∃ f, d.fields[k] = f := ⟨_, rfl⟩
           rw [hfe] at hfo
           have f52s := f52 f.name
           have f62s := f62 f.kind f.lo f.hi f.name
           have hge : goodSort ⟨f.name, f.kind, f.lo, f.hi⟩ = goodSort f := rfl
           rw [hge] at f62s
           have htk : (d.fields.take k).length <= 1000000 := Nat.le_trans (List.length_take_le _ _) (by omega)
           have f63s := f63 (d.fields.take k) 64 [.rf (encF f)] (fun x => x.name == f.name) htk (fun x _ => f64 x f)
           rw [List.map_take] at f63s
           cases hw : isWord f.name with
           | false =>
             have hv := hfbad (by rw [hfo, hw]; rfl)
             rw [hw] at f52s
             refine wV (aN hkl <| aN hfe <| aN encD.eq_1 encF.eq_1) f52s ?_
             simp [go_sem, hv]
           | true =>
             rw [hw] at f52s
             cases hgs : goodSort f with
             | false =>
               have hv := hfbad (by rw [hfo, hgs]; simp)
               rw [hgs] at f62s
               refine wV (aN hkl <| aN hfe <| aN encD.eq_1 encF.eq_1) (aN f52s f62s) ?_
               simp [go_sem, hv]
             | true =>
               rw [hgs] at f62s
               cases hfy : (d.fields.take k).any (fun x => x.name == f.name) with
               | true =>
                 have hv := hfbad (by rw [hfo, hfy]; simp)
                 rw [hfy] at f63s
                 refine wV (aN hkl <| aN hfe <| aN encD.eq_1 encF.eq_1) (aN f52s <| aN f62s f63s) ?_
                 simp [go_sem, hv]
               | false =>
                 have hfo' : okFieldAt d.fields k = true := by rw [hfo, hw, hgs, hfy]; rfl
                 rw [hfy] at f63s
                 refine wV (aN hkl <| aN hfe <| aN encD.eq_1 encF.eq_1) (aN f52s <| aN f62s f63s) ?_
                 refine z_j (q - 1) _ (by omega) ⟨k + 1, by omega, ?_, rfl⟩ ?_
                 ·rw [range_succ_all, hfa, hfo']; rfl
                 ·simp [go_sem, encD]
          ·have hke : k = d.fields.length := by omega
           rw [hke] at hfa
           have hfs : okFields d.fields = true := hfa
           have f65s := f65 all d (by omega)
           cases hgd : okGuard all d with
           | false =>
             have hv := hbad (by rw [hok, <- hA, hgd]; simp)
             rw [hgd] at f65s
             refine wV (aN hkl <| aN encD.eq_1 @frz_encF) f65s ?_
             simp [go_sem, hv]
           | true =>
             have hoi : okDeclAt l i = true := by rw [hok, <- hA, hgd, hp, hany, hfs]; simp [h4, hfst]
             rw [hgd] at f65s
             refine wV (aN hkl <| aN encD.eq_1 frz_encF) f65s ?_
             refine z_j (n - 1) _ (by omega) ⟨i + 1, by omega, ?_, rfl⟩ ?_
             ·rw [range_succ_all, hall, hoi]; rfl
             ·simp [go_sem]
       ·have hv := hbad (by rw [hok]; simp [hfst])
        refine wV (aN hlt <| aN hd <| aN encD.eq_1 <| aN h4' hfst) f59s ?_
        simp [go_sem, hv]
      ·have h4' : (4 : Int) < (d.fields.length : Int) := by omega
       have hv := hbad (by rw [hok]; simp [h4])
       refine wV (aN hlt <| aN hd <| aN encD.eq_1 h4') f59s ?_
       simp [go_sem, hv]
   ·have hie : i = l.length := by omega
    rw [hie] at hall
    refine wX hlt ?_
    have hv : validD l = true := by simp only [validD, h40, decide_true, Bool.true_and, <- hA, h24, hall]
    simp [go_sem, hv]
  ·have h24' : (24 : Int) < (all.length : Int) := by omega
   refine wV (aN h40' h24') f48s ?_
   have hv : validD l = false := by simp [validD, <- hA, h24]
   simp [go_sem, hv]
 ·have h40' : (40 : Int) < (l.length : Int) := by omega
  refine wX h40' ?_
  have hv : validD l = false := by simp [validD, h40]
  simp [go_sem, hv]
set_option maxHeartbeats 64000000
set_option maxHeartbeats 64000000
def boundsAt (d : Dcl) (i : Nat) : List Dff := match d.fields[i]? with
 | some f => [⟨d.first + i, -1, f.hi⟩, ⟨-1, d.first + i, 0 - f.lo⟩]
 | none => []
def boundsF (d : Dcl) (k : Nat) : List Dff := (List.range k).flatMap (boundsAt d)
def boundsE (es : List (Int × Int)) : List Dff := es.flatMap fun e => [⟨e.1, e.2, 0⟩, ⟨e.2, e.1, 0⟩]
def boundsOf (d : Dcl) : List Dff := boundsF d d.fields.length ++ d.diffs ++ boundsE d.equals
theorem boundsF_succ {d : Dcl} {k : Nat} (h : k < d.fields.length) : boundsF d (k + 1) = boundsF d k ++ [⟨d.first + k, -1, d.fields[k].hi⟩, ⟨-1, d.first + k, 0 - d.fields[k].lo⟩] := by
 simp [boundsF, List.range_succ, boundsAt, h]
theorem boundsF_len (d : Dcl) : ∀ k, (boundsF d k).length <= 2 * k
 | 0 => by simp [boundsF]
 | k + 1 => by
   have ih := boundsF_len d k
   have : (boundsAt d k).length <= 2 := by unfold boundsAt; split <;> simp
   have e : boundsF d (k + 1) = boundsF d k ++ boundsAt d k := by simp [boundsF, List.range_succ]
   rw [e, List.length_append]
   omega
theorem boundsE_len : ∀ l : List (Int × Int), (boundsE l).length = 2 * l.length
 | [] => rfl
 | e :: l => by
   have := boundsE_len l
   simp only [boundsE, List.flatMap_cons, List.length_append, List.length_cons, List.length_nil] at this ⊢
   omega
theorem boundsE_succ {l : List (Int × Int)} {k : Nat} (h : k < l.length) : boundsE (l.take (k + 1)) = boundsE (l.take k) ++ [⟨l[k].1, l[k].2, 0⟩, ⟨l[k].2, l[k].1, 0⟩] := by
 unfold boundsE
 rw [List.take_succ_eq_append_getElem h, List.flatMap_append]
 simp
theorem f70 (d : Dcl) (hf : d.fields.length <= 100) (hd : d.diffs.length <= 1000) (he : d.equals.length <= 1000) (hfst : -1000000 <= d.first /\ d.first <= 1000000) (hlo : ∀ f ∈ d.fields, -1000000 <= f.lo /\ f.lo <= 1000000) :
  Impl Tryd.prog 70 [.ag (encD d)] (.one (.one (.ow 3 ((boundsOf d).map encDf)))) := by
 refine impl_v ?_
 refine wX encD.eq_1 ?_
 refine z_k (fun n e => ∃ k : Nat, k + n = d.fields.length /\ e = [(11, .sv (.one (.int .i64 k))), (10, .sv (.one (.int .i64 d.fields.length))), (9, .sv (.one (.sl (d.fields.map encF)))), (3, .sv (.one (.ow 3 ((boundsF d k).map encDf)))), (1, .sv (.one (.bx (encD d))))]) d.fields.length _ ⟨0, by simp, rfl⟩ (by simp [go_sem, boundsF, encD]) ?_
 rintro n e ⟨k, hk, rfl⟩
 by_cases hlt : k < d.fields.length
 ·have hbl := boundsF_len d k
  have hs := boundsF_succ hlt
  obtain ⟨f, hfe⟩ : ∃ f, d.fields[k] = f := ⟨_, rfl⟩
  have hlo' := hlo d.fields[k] (List.getElem_mem hlt)
  rw [hfe] at hlo' hs
  have w1 : IntKind.i64.wrap (d.first + (k : Int)) = d.first + k := z_h (by omega) (by omega)
  have w2 : IntKind.i64.wrap (0 - f.lo) = 0 - f.lo := z_h (by omega) (by omega)
  have w3 : IntKind.i64.wrap (-f.lo) = 0 - f.lo := by rw [z_h (by omega) (by omega)]; omega
  repeat' first | refine St.go ?_ | ((with_reducible refine cn ?_ ?_) <;> intro h <;> (try simp at h) <;> try omega) | (refine Ru.go ?_; intro K hK; simp [go_sem, hlt, hfe, encD, encF, w1, w2, w3]; (try simp (disch := omega) only [wx, z_i]); (first | apply hK | refine ⟨by first | omega | (simp [z_f, z_g, hlt, hfe, encD, encF, w1, w2, w3, maxLen, DV.flat, encDf]; first | done | omega), ?_⟩ | refine ⟨hK _ ?_, fun h => ?_⟩ | refine ⟨?_, ?_⟩); all_goals ((try apply hK); clear hK K))
  refine z_j (n - 1) _ (by omega) ⟨k + 1, by omega, rfl⟩ ?_
  simp [go_sem, hs, encD, encDf]
 ·have hke : k = d.fields.length := by omega
  subst hke
  have hbl := boundsF_len d d.fields.length
  repeat' first | refine St.go ?_ | ((with_reducible refine cn ?_ ?_) <;> intro h <;> (try simp at h) <;> try omega) | (refine Ru.go ?_; intro K hK; simp [go_sem, hlt, encD]; (try simp (disch := omega) only [wx, z_i]); (first | apply hK | refine ⟨by first | omega | (simp [z_f, z_g, hlt, encD, maxLen, DV.flat, encDf]; first | done | omega), ?_⟩ | refine ⟨hK _ ?_, fun h => ?_⟩ | refine ⟨?_, ?_⟩); all_goals ((try apply hK); clear hK K))
  refine z_k (fun n e => ∃ k : Nat, k + n = d.equals.length /\ e = [(46, .sv (.one (.int .i64 k))), (45, .sv (.one (.int .i64 d.equals.length))), (44, .sv (.one (.sl (d.equals.map encEq)))), (3, .sv (.one (.ow 3 ((boundsF d d.fields.length ++ d.diffs ++ boundsE (d.equals.take k)).map encDf))))]) d.equals.length _ ⟨0, by simp, rfl⟩ (by simp [go_sem, boundsE]) ?_
  rintro n e ⟨k, hk, rfl⟩
  by_cases hlt2 : k < d.equals.length
  ·have hbe := boundsE_len (d.equals.take k)
   have htk : (d.equals.take k).length <= d.equals.length := by rw [List.length_take]; omega
   have hs := boundsE_succ hlt2
   repeat' first | refine St.go ?_ | ((with_reducible refine cn ?_ ?_) <;> intro h <;> (try simp at h) <;> try omega) | (refine Ru.go ?_; intro K hK; simp [go_sem, hlt2, encEq]; (try simp (disch := omega) only [wx, z_i]); (first | apply hK | refine ⟨by first | omega | (simp [z_f, z_g, hlt2, encEq, maxLen, DV.flat, encDf]; first | done | omega), ?_⟩ | refine ⟨hK _ ?_, fun h => ?_⟩ | refine ⟨?_, ?_⟩); all_goals ((try apply hK); clear hK K))
   refine z_j (n - 1) _ (by omega) ⟨k + 1, by omega, rfl⟩ ?_
   simp [go_sem, hs, encDf]
  ·have hkl : d.equals.take k = d.equals := List.take_of_length_le (by omega)
   refine wX (aN hlt2 hkl) ?_
   simp [go_sem, boundsOf]
end Go.Av

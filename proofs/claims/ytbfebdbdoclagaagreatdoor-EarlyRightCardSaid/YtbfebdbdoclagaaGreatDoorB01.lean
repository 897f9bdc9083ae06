/- Part of a proof. -/
import Derived.Test.YtbfebdbdoclagaaGreatDoorF4
import Derived.Test.YtbfebdbdoclagaaGreatDoorProg
import Derived.Lib.Strings
import Derived.Lib.Slices
import Derived.Lib.Walk
import Derived.Lib.Bytealg
import Derived.Test.YtbfebdbdoclagaaGreatDoorAvR
import Derived.Test.YtbfebdbdoclagaaGreatDoorB00
import Derived.Test.YtbfebdbdoclagaaGreatDoorAvSF
set_option linter.unusedVariables false
set_option linter.unusedSimpArgs false
set_option maxHeartbeats 64000000
set_option maxRecDepth 8000
namespace Go.Av
open Go Go.RowKit Go.Proofs
set_option maxRecDepth 100000 in
theorem str_count (s : ByteArray) (c : UInt8) (w : World) :
  Calls Tryz.prog 161 #[.string s, .string ⟨#[c]⟩] w fun e w' => e = .returned (.int .i64 (Lib.countByte s.data.toList c)) /\ w' = w := by
 go_enter Tryz.func161, Tryz.ntmps161
 go_wp2
 rw [run_callFunc_extern Tryz.func165 (by kernel_rfl) (by kernel_rfl) (by kernel_rfl) (e := Extern.BytealgCount.count) (by kernel_rfl), Lib.run_countString]
 simp only [Result.andThen]
 rw [Oper.upon_value]
 go_wp2
 go_ret
 exact ⟨rfl, rfl⟩
set_option maxRecDepth 100000 in
theorem str_indexByte (s : ByteArray) (c : Int) (w : World) :
  Calls Tryz.prog 168 #[.string s, .int .u8 c] w fun e w' => e = .returned (.int .i64 (Lib.indexByte s.data.toList c.toNat.toUInt8)) /\ w' = w := by
 go_enter Tryz.func168, Tryz.ntmps168
 go_wp2
 rw [run_callFunc_extern Tryz.func172 (by kernel_rfl) (by kernel_rfl) (by kernel_rfl) (e := Extern.BytealgIndexByte.indexByte) (by kernel_rfl), Lib.run_indexByteString]
 simp only [Result.andThen]
 rw [Oper.upon_value]
 go_wp2
 go_ret
 exact ⟨rfl, rfl⟩
set_option maxRecDepth 100000 in
theorem str_index1 (s : ByteArray) (c : UInt8) (w : World) :
  Calls Tryz.prog 166 #[.string s, .string ⟨#[c]⟩] w fun e w' => e = .returned (.int .i64 (Lib.indexByte s.data.toList c)) /\ w' = w := by
 go_enter Tryz.func166, Tryz.ntmps166
 go_wp2_with (go_at_call 168; refine (str_indexByte _ _ _).mono ?_; rintro e w' ⟨rfl, rfl⟩)
 ·have h : ([c] == s.toList) = true := by assumption
  go_ret
  refine ⟨?_, rfl⟩
  have e : s.data.toList = [c] := by rw [<- Lib.toList_data]; exact (beq_iff_eq.1 h).symm
  rw [e]
  simp [Lib.indexByte]
 ·go_ret
  exact ⟨rfl, rfl⟩
theorem str_index (s : ByteArray) (c : UInt8) (w : World) :
  Calls Tryz.prog 162 #[.string s, .string ⟨#[c]⟩] w fun e w' => e = .returned (.int .i64 (Lib.indexByte s.data.toList c)) /\ w' = w := by
 go_enter Tryz.func162, Tryz.ntmps162
 go_wp2_with (go_at_call 166; refine (str_index1 _ _ _).mono ?_; rintro e w' ⟨rfl, rfl⟩)
 go_ret
 exact ⟨rfl, rfl⟩
theorem Impl.ofStr2 {P : Program} {f : FuncId} {fn : Func} (hf : P.funcs[f]? = some fn) (hb : fn.body.isSome = true) (hn : fn.name ≠ "runtime.NumGoroutine") {s t : ByteArray} {k : IntKind} {n : Int}
  (h : ∀ w, Calls P f #[.string s, .string t] w fun e w' => e = .returned (.int k n) /\ w' = w) : Impl P f [.one (.str s), .one (.str t)] (.one (.one (.int k n))) := by
 refine ⟨⟨fn, hf, hb, hn⟩, fun w S vs hS hv => ?_⟩
 have hvs : vs = [.string s, .string t] := by
  generalize hr : ([] : List Nat) = r at hv
  cases hv with
  | cons v x r vs xs rs h1 h2 =>
    cases h2 with
    | cons v' x' r' vs' xs' rs' h3 h4 =>
      cases h4
      cases CzS.one_inv h1
      cases CzS.one_inv h3
      rfl
 subst hvs
 refine (h w).mono ?_
 rintro e w' ⟨rfl, rfl⟩
 exact ⟨_, [], rfl, Below.refl _ _, by simp, by simp, .one _ _ _ (.one _ _ _ (.int _ _))⟩
end Go.Av
namespace Go.Av
open Go
def pieceL : List UInt8 -> List (List UInt8)
 | [] => [[]]
 | b :: l => if b = 46 then [] :: pieceL l else match pieceL l with
   | [] => [[b]]
   | p :: ps => (b :: p) :: ps
theorem pieceL_ne : ∀ (l : List UInt8), pieceL l ≠ []
 | [] => by simp [pieceL]
 | b :: l => by
   unfold pieceL
   split
   ·simp
   ·split <;> simp
theorem pieceL_no : ∀ {l : List UInt8}, 46 ∉ l -> pieceL l = [l]
 | [], _ => rfl
 | b :: l, h => by
   have h1 : b ≠ 46 := fun e => h (by simp [e])
   have h2 := pieceL_no (l := l) fun e => h (by simp [e])
   simp [pieceL, h1, h2]
theorem pieceL_at : ∀ {a l : List UInt8}, 46 ∉ a -> pieceL (a ++ 46 :: l) = a :: pieceL l
 | [], l, _ => by simp [pieceL]
 | b :: a, l, h => by
   have h1 : b ≠ 46 := fun e => h (by simp [e])
   have h2 := pieceL_at (a := a) (l := l) fun e => h (by simp [e])
   simp [pieceL, h1, h2]
def toB (l : List UInt8) : ByteArray := ⟨l.toArray⟩
theorem toB_list (s : ByteArray) : toB s.data.toList = s := by simp [toB]
theorem list_toB (l : List UInt8) : (toB l).data.toList = l := by simp [toB]
theorem size_toB (l : List UInt8) : (toB l).size = l.length := by simp [toB, ByteArray.size]
theorem extract_toB (l : List UInt8) (a b : Nat) : (toB l).extract a b = toB ((l.take b).drop a) := by
 have h : ((toB l).extract a b).data.toList = ((l.take b).drop a) := by
  rw [ByteArray.data_extract, Array.toList_extract, list_toB, List.extract_eq_take_drop, List.drop_take]
 rw [<- h, toB_list]
theorem index_at : ∀ {a l : List UInt8}, 46 ∉ a -> Lib.indexByte (a ++ 46 :: l) 46 = a.length
 | [], l, _ => by simp [Lib.indexByte]
 | b :: a, l, h => by
   have h1 : ¬ b = 46 := fun e => h (by simp [e])
   have h2 := index_at (a := a) (l := l) fun e => h (by simp [e])
   have h3 : ¬ ((a.length : Int) = -1) := by omega
   simp [Lib.indexByte, h1, h2, h3]
theorem split_at : ∀ (l : List UInt8), 46 ∈ l -> ∃ a b, l = a ++ 46 :: b /\ 46 ∉ a
 | [], h => by cases h
 | x :: l, h => by
   by_cases e : x = 46
   ·subst e
    exact ⟨[], l, rfl, by simp⟩
   ·rcases List.mem_cons.1 h with h | h
    ·exact (e h.symm).elim
    ·obtain ⟨a, b, rfl, h2⟩ := split_at l h
     exact ⟨x :: a, b, rfl, by simp [h2, Ne.symm e]⟩
theorem pieceL_len : ∀ (l : List UInt8), (pieceL l).length = Lib.countByte l 46 + 1
 | [] => rfl
 | b :: l => by
   have ih := pieceL_len l
   unfold pieceL
   simp only [Lib.countByte, List.count_cons] at ih ⊢
   split
   ·rename_i e
    subst e
    simp [ih]
   ·rename_i e
    have hn := pieceL_ne l
    split
    ·contradiction
    ·rename_i p ps hp
     rw [hp] at ih
     simp [e] at ih ⊢
     omega
def pieceB (s : ByteArray) : List ByteArray := (pieceL s.data.toList).map toB
end Go.Av
namespace Go.Av
open Go Go.RowKit Go.Proofs
set_option maxHeartbeats 64000000
theorem f161 (l : List UInt8) : Impl Tryz.prog 161 [.one (.str (toB l)), .one (.str ⟨#[46]⟩)] (.one (.one (.int .i64 (Lib.countByte l 46 : Nat)))) := by
 have := Impl.ofStr2 (s := toB l) (t := ⟨#[46]⟩) Tryz.func161 rfl (by decide) fun w => str_count (toB l) 46 w
 rwa [list_toB] at this
theorem f162 (l : List UInt8) : Impl Tryz.prog 162 [.one (.str (toB l)), .one (.str ⟨#[46]⟩)] (.one (.one (.int .i64 (Lib.indexByte l 46)))) := by
 have := Impl.ofStr2 (s := toB l) (t := ⟨#[46]⟩) Tryz.func162 rfl (by decide) fun w => str_index (toB l) 46 w
 rwa [list_toB] at this
def fillA (p : List ByteArray) (n i : Nat) : List ByteArray := p.take i ++ List.replicate (n - i) ⟨#[]⟩
theorem fillA_len (p : List ByteArray) {n i : Nat} (hp : p.length = n) (h : i <= n) : (fillA p n i).length = n := by simp [fillA]; omega
theorem fillA_set (p : List ByteArray) {n i : Nat} (hp : p.length = n) (h : i < n) : (fillA p n i).set i (p[i]'(by omega)) = fillA p n (i + 1) := by
 apply List.ext_getElem
 ·rw [List.length_set, fillA_len p hp (by omega), fillA_len p hp (by omega)]
 ·intro k h1 h2
  rw [List.length_set, fillA_len p hp (by omega)] at h1
  simp only [fillA, List.getElem_set, List.getElem_append, List.length_take, List.getElem_take, List.getElem_replicate]
  by_cases e : i = k
  ·subst e
   rw [if_pos rfl, dif_pos (by omega)]
  ·rw [if_neg e]
   by_cases hk : k < i
   ·rw [dif_pos (by omega), dif_pos (by omega)]
   ·rw [dif_neg (by omega), dif_neg (by omega)]
theorem fillA_full (p : List ByteArray) {n : Nat} (hp : p.length = n) : fillA p n n = p := by
 simp [fillA, <- hp]
theorem f159 (l : List UInt8) (hl : l.length <= 1000000) : Impl Tryz.prog 159 [.one (.str (toB l)), .one (.str ⟨#[46]⟩), .one (.int .i64 0), .one (.int .i64 (-1))] (.one (.one (.ow 1 ((pieceB (toB l)).map encS)))) := by
 refine impl_z Tryz.func159 z159 Tryz.ntmps159 (by simp) ?_
 simp only [c159, slotsOf]
 have hpl := pieceL_len l
 have hcl : Lib.countByte l 46 <= l.length := List.count_le_length
 have hsz := size_toB l
 obtain ⟨P, hP⟩ : ∃ P, P = pieceB (toB l) := ⟨_, rfl⟩
 have hPn : P.length = Lib.countByte l 46 + 1 := by rw [hP, pieceB, List.length_map, list_toB, hpl]
 obtain ⟨c, hc⟩ : ∃ c, Lib.countByte l 46 = c := ⟨_, rfl⟩
 rw [hc] at hcl hPn
 have f161s := f161 l
 rw [hc] at f161s
 have hmin : min ((c : Int) + 1) ((l.length : Int) + 1) = (c : Int) + 1 := by omega
 have h46 : (⟨#[46]⟩ : ByteArray).size = 1 := rfl
 have h0 : ((⟨#[46]⟩ : ByteArray) == ⟨#[]⟩) = false := by decide
 rw [<- hP]
 refine wV (aN hsz <| aN hmin <| aN h46 h0) f161s ?_
 refine z_k (fun n e => ∃ (i : Nat) (rest : List UInt8), i + n = c /\ pieceL l = (pieceL l).take i ++ pieceL rest /\ rest.length <= l.length /\ e = [(10, .sv (.one (.int .i64 i))), (3, .sv (.one (.int .i64 c))), (9, .sv (.one (.ow 1 ((fillA P (c + 1) i).map encS)))), (1, .sv (.one (.str ⟨#[46]⟩))), (2, .sv (.one (.int .i64 0))), (0, .sv (.one (.str (toB rest))))]) c _ ⟨0, l, by simp, by simp, Nat.le_refl _, rfl⟩ (by simp [go_sem, fillA, encS]) ?_
 rintro n e ⟨i, rest, hi, hpr, hrl, rfl⟩
 have hplen := congrArg List.length hpr
 rw [List.length_append, List.length_take, pieceL_len rest, hpl, hc] at hplen
 have hPL : P = (pieceL l).map toB := by rw [hP, pieceB, list_toB]
 have hsr := size_toB rest
 have hfl := fillA_len P hPn (show i <= c + 1 by omega)
 by_cases hlt : i < c
 ·have hmem : 46 ∈ rest := by
   rcases Nat.eq_zero_or_pos (Lib.countByte rest 46) with h | h
   ·omega
   ·exact List.count_pos_iff.1 h
  obtain ⟨a, b, hab, ha⟩ := split_at rest hmem
  have hix : Lib.indexByte rest 46 = (a.length : Int) := by rw [hab]; exact index_at ha
  have he1 : (toB rest).extract 0 a.length = toB a := by
   rw [extract_toB, hab, List.drop_zero, List.take_left]
  have hrb : rest.length = a.length + 1 + b.length := by rw [hab]; simp; omega
  have he2 : (toB rest).extract (a.length + 1) rest.length = toB b := by
   rw [extract_toB, List.take_of_length_le (Nat.le_refl _), hab]
   have : (a ++ 46 :: b).drop (a.length + 1) = b := by
    have e : a ++ 46 :: b = (a ++ [46]) ++ b := by simp
    rw [e]
    exact List.drop_left' (by simp)
   rw [this]
  have hpr2 : pieceL l = (pieceL l).take i ++ a :: pieceL b := by
   rw [<- pieceL_at ha, <- hab]
   exact hpr
  have hti : ((pieceL l).take i).length = i := by rw [List.length_take, hpl, hc]; omega
  have hil : i < (pieceL l).length := by rw [hpl, hc]; omega
  have hPi : P[i]'(by omega) = toB a := by
   have h1 : (pieceL l)[i]? = some a := by
    rw [hpr2, List.getElem?_append_right (by omega), hti]
    simp
   have h2 : P[i]? = some (toB a) := by rw [hPL, List.getElem?_map, h1]; rfl
   rw [List.getElem?_eq_getElem (by omega)] at h2
   injection h2
  have hset := fillA_set P hPn (show i < c + 1 by omega)
  rw [hPi] at hset
  have hset2 : ((fillA P (c + 1) i).map encS).set i [.str (toB a)] = (fillA P (c + 1) (i + 1)).map encS := by
   rw [<- hset, List.map_set]
   rfl
  have hpr3 : pieceL l = (pieceL l).take (i + 1) ++ pieceL b := by
   have h1 : (pieceL l).take (i + 1) = (pieceL l).take i ++ [a] := by
    conv => lhs; rw [hpr2]
    have e : (pieceL l).take i ++ a :: pieceL b = ((pieceL l).take i ++ [a]) ++ pieceL b := by simp
    rw [e]
    exact List.take_left' (by rw [List.length_append, hti]; rfl)
   rw [h1]
   rw [List.append_assoc]
   exact hpr2
  have f162s := f162 rest
  rw [hix] at f162s
  generalize a.length = m at *
  have hb : b.length <= l.length := by omega
  have hmr : (m : Int) <= rest.length := by omega
  refine wV (aN hlt <| aN h46 <| aN hsr <| aN he1 <| aN he2 <| aN hfl encS.eq_1) f162s ?_
  refine z_j (n - 1) _ (by omega) ⟨i + 1, b, by omega, hpr3, hb, rfl⟩ ?_
  simp [go_sem, hset2]
 ·have hic : i = c := by omega
  subst hic
  have hno : 46 ∉ rest := by
   intro h
   have := List.count_pos_iff.2 h
   have : 0 < Lib.countByte rest 46 := this
   omega
  rw [pieceL_no hno] at hpr
  have hti : ((pieceL l).take i).length = i := by rw [List.length_take, hpl, hc]; omega
  have hPi : P[i]'(by omega) = toB rest := by
   have h1 : (pieceL l)[i]? = some rest := by
    rw [hpr, List.getElem?_append_right (by omega), hti]
    simp
   have h2 : P[i]? = some (toB rest) := by rw [hPL, List.getElem?_map, h1]; rfl
   rw [List.getElem?_eq_getElem (by omega)] at h2
   injection h2
  have hset := fillA_set P hPn (show i < i + 1 by omega)
  rw [hPi, fillA_full P hPn] at hset
  have hset2 : ((fillA P (i + 1) i).map encS).set i [.str (toB rest)] = P.map encS := by
   have := congrArg (List.map encS) hset
   rw [List.map_set] at this
   exact this
  have htk : (P.map encS).take (i + 1) = P.map encS := List.take_of_length_le (by simp [hPn])
  refine wX (aN hlt <| aN hfl <| aN encS.eq_1 <| aN hset2 <| aN hPn htk) ?_
  simp [go_sem]
theorem f154 (l : List UInt8) (hl : l.length <= 1000000) : Impl Tryz.prog 154 [.one (.str (toB l)), .one (.str ⟨#[46]⟩)] (.one (.one (.ow 1 ((pieceB (toB l)).map encS)))) := by
 refine impl_v ?_
 refine wC (f159 l hl) ?_
 simp [go_sem]
set_option maxHeartbeats 64000000
def isPath (s : ByteArray) : Bool := decide (s.size <= 50) && (pieceB s).all isWord
theorem f155 (s : ByteArray) : Impl Tryz.prog 155 [.one (.str s)] (.one (.one (.bool (!isWord s)))) := by
 refine impl_v ?_
 refine wC (f95 s) ?_
 simp [go_sem]
theorem f158 (l : List ByteArray) (g : FuncId) (caps : List DV) (p : ByteArray -> Bool) (hl : l.length <= 1000000) (hg : ∀ x ∈ l, Impl Tryz.prog g (.one (.str x) :: caps.map .one) (.one (.one (.bool (p x))))) :
  Impl Tryz.prog 158 [.one (.sl (l.map encS)), .one (.fn g caps)] (.one (.one (.int .i64 (firstB p l)))) := by
 refine impl_v ?_
 refine wN ?_
 refine z_k (fun n e => ∃ k : Nat, k + n = l.length /\ (l.take k).any p = false /\ e = [(8, .sv (.one (.int .i64 k))), (7, .sv (.one (.int .i64 l.length))), (1, .sv (.one (.fn g caps))), (0, .sv (.one (.sl (l.map encS))))]) l.length _ ⟨0, by simp, by simp, rfl⟩ (by simp [go_sem]) ?_
 rintro n e ⟨k, hk, h0, rfl⟩
 by_cases hlt : k < l.length
 ·have hgs := hg l[k] (List.getElem_mem hlt)
  cases hx : p l[k] with
  | true =>
    have hf := firstB_at hlt h0 hx
    rw [hx] at hgs
    refine wV (aN hlt encS.eq_1) hgs ?_
    simp [go_sem, hf]
  | false =>
    rw [hx] at hgs
    refine wV (aN hlt encS.eq_1) hgs ?_
    refine z_j (n - 1) _ (by omega) ⟨k + 1, by omega, ?_, rfl⟩ ?_
    ·rw [any_succ hlt, h0, hx]; rfl
    ·simp [go_sem]
 ·have hkl : l.take k = l := List.take_of_length_le (by omega)
  rw [hkl] at h0
  have hf := firstB_none h0
  refine wX hlt ?_
  simp [go_sem, hf]
theorem f153 (l : List ByteArray) (g : FuncId) (caps : List DV) (p : ByteArray -> Bool) (hl : l.length <= 1000000) (hg : ∀ x ∈ l, Impl Tryz.prog g (.one (.str x) :: caps.map .one) (.one (.one (.bool (p x))))) :
  Impl Tryz.prog 153 [.one (.sl (l.map encS)), .one (.fn g caps)] (.one (.one (.bool (l.any p)))) := by
 refine impl_v ?_
 have hf := firstB_any p l
 refine wC (f158 l g caps p hl hg) ?_
 simp [go_sem, hf]
theorem any_not {α : Type} (p : α -> Bool) (l : List α) : (!l.any fun x => !p x) = l.all p := by
 rw [Bool.eq_iff_iff]
 simp
theorem f140 (s : ByteArray) : Impl Tryz.prog 140 [.one (.str s)] (.one (.one (.bool (isPath s)))) := by
 refine impl_z Tryz.func140 z140 Tryz.ntmps140 (by simp) ?_
 simp only [c140, slotsOf]
 by_cases h50 : s.size <= 50
 ·have h50' : (s.size : Int) <= 50 := by omega
  have hln : s.data.toList.length = s.size := by simp
  have f154s := f154 s.data.toList (by omega)
  rw [toB_list] at f154s
  have hpl : (pieceB s).length <= 1000000 := by
   rw [pieceB, List.length_map, pieceL_len]
   have : Lib.countByte s.data.toList 46 <= s.data.toList.length := List.count_le_length
   omega
  have f153s := f153 (pieceB s) 155 [] (fun x => !isWord x) hpl (fun x _ => f155 x)
  have ha := any_not isWord (pieceB s)
  refine wV h50' (aN f154s f153s) ?_
  simp [go_sem, isPath, h50, ha]
 ·have h50' : ¬ (s.size : Int) <= 50 := by omega
  refine wX h50' ?_
  simp [go_sem, isPath, h50]
set_option maxHeartbeats 64000000
theorem drop_split {L : List UInt8} {i f : Nat} (hf : f <= i) (hi : i < L.length) (h46 : L[i] = 46) : L.drop f = (L.drop f).take (i - f) ++ 46 :: L.drop (i + 1) := by
 have h1 : (L.drop f).drop (i - f) = 46 :: L.drop (i + 1) := by
  rw [List.drop_drop, show f + (i - f) = i by omega, List.drop_eq_getElem_cons hi, h46]
 rw [<- h1, List.take_append_drop]
theorem f117 (s : ByteArray) (hl : s.size <= 1000000000000000) : Impl Tryz.prog 117 [.one (.str s)] (.one (.one (.bool (isPath s)))) := by
 refine impl_v ?_
 obtain ⟨L, hL⟩ : ∃ L, L = s.data.toList := ⟨_, rfl⟩
 have hsL : s = toB L := by rw [hL, toB_list]
 have hsz : s.size = L.length := by rw [hsL, size_toB]
 have hpB : pieceB s = (pieceL L).map toB := by rw [pieceB, hL]
 refine wN ?_
 refine z_k (fun n e => ∃ (i f : Nat), i + n = L.length + 1 /\ ((i <= L.length /\ f <= i /\ 46 ∉ (L.drop f).take (i - f) /\ ∃ pre, pieceL L = pre ++ pieceL (L.drop f) /\ (pre.map toB).all isWord = true) \/ (i = L.length + 1 /\ (pieceB s).all isWord = true)) /\ f <= L.length + 1 /\ e = [(4, .sv (.one (.int .i64 i))), (3, .sv (.one (.int .i64 f))), (0, .sv (.one (.str s)))]) (L.length + 1) _ ⟨0, 0, by simp, .inl ⟨by simp, by simp, by simp, [], by simp, by simp⟩, by simp, rfl⟩ (by simp [go_sem]) ?_
 rintro n e ⟨i, f, hi, hst, hfl, rfl⟩
 rcases hst with ⟨hil, hfi, hno, pre, hpre, hall⟩ | ⟨hie, hall⟩
 ·have hle : (i : Int) <= (s.size : Int) := by omega
  have hex : s.extract f i = toB ((L.take i).drop f) := by rw [hsL, extract_toB]
  have hpc : (L.take i).drop f = (L.drop f).take (i - f) := by rw [List.drop_take]
  by_cases hlt : i < L.length
  ·have hlt' : i < s.size := by omega
   have hne : ¬ (i : Int) = (s.size : Int) := by omega
   have hbi : s[i] = L[i] := by
    simp only [hL, ByteArray.getElem_eq_getElem_data]
    simp
   by_cases h46 : L[i] = 46
   ·have h46' : (s[i].toNat : Int) = 46 := by rw [hbi, h46]; rfl
    have hds := drop_split hfi hlt h46
    have hpl : pieceL (L.drop f) = (L.drop f).take (i - f) :: pieceL (L.drop (i + 1)) := by
     conv => lhs; rw [hds]
     exact pieceL_at hno
    have f134s := f134 (s.extract f i)
    cases hw : isWord (s.extract f i) with
    | false =>
      rw [hw] at f134s
      have hf : isPath s = false := by
       unfold isPath
       rw [hpB, hpre, hpl, List.map_append, List.map_cons, List.all_append, List.all_cons, <- hpc, <- hex, hw]
       simp
      refine wV (aN hle <| aN hne <| aN hlt' <| aN h46' hw) f134s ?_
      simp [go_sem, hf]
    | true =>
      rw [hw] at f134s
      refine wV (aN hle <| aN hne <| aN hlt' <| aN h46' hw) f134s ?_
      refine z_j (n - 1) _ (by omega) ⟨i + 1, i + 1, by omega, .inl ⟨by omega, by omega, by simp, pre ++ [(L.drop f).take (i - f)], ?_, ?_⟩, by omega, rfl⟩ ?_
      ·rw [List.append_assoc, List.singleton_append, <- hpl]
       exact hpre
      ·rw [List.map_append, List.all_append, hall, List.map_cons, List.all_cons, <- hpc, <- hex, hw]
       rfl
      ·simp [go_sem]
   ·have h46' : ¬ (s[i].toNat : Int) = 46 := by
     rw [hbi]
     intro e
     apply h46
     have : L[i].toNat = 46 := by omega
     exact UInt8.toNat_inj.1 this
    repeat' first | refine St.go ?_ | ((with_reducible refine cn ?_ ?_) <;> intro h <;> (try simp at h) <;> try omega) | (refine Ru.go ?_; intro K hK; simp [go_sem, hle, hne, hlt', h46']; (try simp (disch := omega) only [wx, z_i]); (first | apply hK | refine ⟨by first | omega | (simp [z_f, z_g, hle, hne, hlt', h46']; first | done | omega), ?_⟩ | refine ⟨hK _ ?_, fun h => ?_⟩ | refine ⟨?_, ?_⟩); all_goals ((try apply hK); clear hK K))
    refine z_j (n - 1) _ (by omega) ⟨i + 1, f, by omega, .inl ⟨by omega, by omega, ?_, pre, hpre, hall⟩, hfl, rfl⟩ ?_
    ·have e1 : i + 1 - f = (i - f) + 1 := by omega
     have hlen : i - f < (L.drop f).length := by rw [List.length_drop]; omega
     rw [e1, List.take_succ_eq_append_getElem hlen]
     simp only [List.mem_append, List.mem_singleton, not_or]
     refine ⟨hno, ?_⟩
     rw [List.getElem_drop]
     have e2 : f + (i - f) = i := by omega
     simp only [e2]
     exact fun e => h46 e.symm
    ·simp [go_sem]
  ·have hie : i = L.length := by omega
   have heq : (i : Int) = (s.size : Int) := by omega
   have hext : s.extract f i = s.extract f s.size := by congr 1; omega
   have hde : L.drop f = (L.drop f).take (i - f) := by
    rw [List.take_of_length_le (by rw [List.length_drop]; omega)]
   have hpl : pieceL (L.drop f) = [(L.drop f).take (i - f)] := by
    conv => lhs; rw [hde]
    exact pieceL_no hno
   have f134s := f134 (s.extract f i)
   cases hw : isWord (s.extract f i) with
   | false =>
     rw [hw] at f134s
     have hf : isPath s = false := by
      unfold isPath
      rw [hpB, hpre, hpl, List.map_append, List.map_cons, List.all_append, List.all_cons, <- hpc, <- hex, hw]
      simp
     rw [hext] at f134s
     refine wV (aN hle <| aN heq hw) f134s ?_
     simp [go_sem, hf]
   | true =>
     rw [hw] at f134s
     rw [hext] at f134s
     refine wV (aN hle <| aN heq hw) f134s ?_
     refine z_j (n - 1) _ (by omega) ⟨i + 1, i + 1, by omega, .inr ⟨by omega, ?_⟩, by omega, rfl⟩ ?_
     ·rw [hpB, hpre, hpl, List.map_append, List.map_cons, List.all_append, hall, List.all_cons, <- hpc, <- hex, hw]
      rfl
     ·simp [go_sem]
      omega
 ·have hgt : ¬ (i : Int) <= (s.size : Int) := by omega
  refine wX hgt ?_
  have : decide ((s.size : Int) <= 50) = decide (s.size <= 50) := by
   by_cases h : s.size <= 50
   ·rw [decide_eq_true h, decide_eq_true (by omega)]
   ·rw [decide_eq_false h, decide_eq_false (by omega)]
  simp [go_sem, isPath, hall]
  omega
set_option maxHeartbeats 64000000
structure Fld where
 name : ByteArray
 kind : Int
 lo : Int
 hi : Int
structure Dff where
 x : Int
 y : Int
 c : Int
structure Dcl where
 name : ByteArray
 fields : List Fld
 first : Int
 diffs : List Dff
 equals : List (Int × Int)
structure Edg where
 from_ : Int
 act : Inter
 to : Int
 again : Bool
structure Tmo where
 state : Int
 ticks : Int
 els : Int
structure Glob where
 name : ByteArray
 roles : List ByteArray
 decls : List Dcl
 states : Int
 start : Int
 end_ : Int
 edges : List Edg
 timeouts : List Tmo
def encF (f : Fld) : List DV := [.str f.name, .int .i64 f.kind, .int .i64 f.lo, .int .i64 f.hi]
def encDf (d : Dff) : List DV := [.int .i64 d.x, .int .i64 d.y, .int .i64 d.c]
def encEq (e : Int × Int) : List DV := [.int .i64 e.1, .int .i64 e.2]
def encD (d : Dcl) : List DV := [.str d.name, .sl (d.fields.map encF), .int .i64 d.first, .sl (d.diffs.map encDf), .sl (d.equals.map encEq)]
def encEd (x : Edg) : List DV := [.int .i64 x.from_, .int .i64 x.act.from_, .int .i64 x.act.to, .int .i64 x.act.label, .int .i64 x.to, .bool x.again]
def encT (t : Tmo) : List DV := [.int .i64 t.state, .int .i64 t.ticks, .int .i64 t.els]
def encG (g : Glob) : List DV := [.str g.name, .sl (g.roles.map encS), .sl (g.decls.map encD), .int .i64 g.states, .int .i64 g.start, .int .i64 g.end_, .sl (g.edges.map encEd), .sl (g.timeouts.map encT)]
def goodSort (f : Fld) : Bool :=
 if f.kind = 1 then decide (-1000 <= f.lo) && decide (f.lo <= f.hi) && decide (f.hi <= 1000)
 else if f.kind = 2 then decide (0 <= f.lo) && decide (f.lo <= f.hi) && decide (f.hi <= 40)
 else false
def allF (l : List Dcl) : List Fld := l.flatMap Dcl.fields
def okDff (n : Nat) (d : Dff) : Bool := decide (-1 <= d.x) && decide (-1 <= d.y) && decide (d.x < n) && decide (d.y < n) && decide (-20000 <= d.c) && decide (d.c <= 20000)
def isText (all : List Fld) (x : Int) : Bool := decide (0 <= x) && decide (x < all.length) && match all[x.toNat]? with
 | some f => decide (f.kind = 2)
 | none => false
def okGuard (all : List Fld) (d : Dcl) : Bool := decide (d.diffs.length <= 20) && decide (d.equals.length <= 20) && d.diffs.all (okDff all.length) && d.equals.all fun e => isText all e.1 && isText all e.2
theorem f143 (k lo hi : Int) (nm : ByteArray) : Impl Tryz.prog 143 [.ag [.int .i64 k, .int .i64 lo, .int .i64 hi]] (.one (.one (.bool (goodSort ⟨nm, k, lo, hi⟩)))) := by
 refine impl_v ?_
 by_cases h1 : k = 1
 ·refine wX h1 ?_
  simp [go_sem, goodSort, h1]
 ·by_cases h2 : k = 2
  ·refine wX (aN h1 h2) ?_
   simp [go_sem, goodSort, h1, h2]
  ·refine wX (aN h1 h2) ?_
   simp [go_sem, goodSort, h1, h2]
theorem f139 (l : List Dcl) (hl : l.length <= 1000) (hf : ∀ d ∈ l, d.fields.length <= 2000000) : Impl Tryz.prog 139 [.one (.sl (l.map encD))] (.one (.one (.ow 4 ((allF l).map encF)))) := by
 refine impl_v ?_
 refine wN ?_
 refine z_k (fun n e => ∃ k : Nat, k + n = l.length /\ e = [(8, .sv (.one (.int .i64 k))), (7, .sv (.one (.int .i64 l.length))), (6, .sv (.one (.sl (l.map encD)))), (3, .sv (.one (.ow 4 ((allF (l.take k)).map encF)))), (0, .sv (.one (.sl (l.map encD))))]) l.length _ ⟨0, by simp, rfl⟩ (by simp [go_sem, allF]) ?_
 rintro n e ⟨k, hk, rfl⟩
 by_cases hlt : k < l.length
 ·have hfk := hf l[k] (List.getElem_mem hlt)
  have hall : (allF (l.take k)).length <= k * 2000000 := by
   have : ∀ (m : List Dcl), (∀ d ∈ m, d.fields.length <= 2000000) -> (allF m).length <= m.length * 2000000 := by
    intro m
    induction m with
    | nil => simp [allF]
    | cons d m ih =>
      intro h
      have h1 := ih fun x hx => h x (by simp [hx])
      have h2 := h d (by simp)
      simp only [allF, List.flatMap_cons, List.length_append, List.length_cons] at h1 ⊢
      omega
   have h1 := this (l.take k) fun d hd => hf d (List.mem_of_mem_take hd)
   have h2 : (l.take k).length <= k := List.length_take_le _ _
   exact Nat.le_trans h1 (Nat.mul_le_mul_right _ h2)
  have hs : allF (l.take (k + 1)) = allF (l.take k) ++ l[k].fields := by
   unfold allF
   rw [List.take_succ_eq_append_getElem hlt, List.flatMap_append]
   simp
  repeat' first | refine St.go ?_ | ((with_reducible refine cn ?_ ?_) <;> intro h <;> (try simp at h) <;> try omega) | (refine Ru.go ?_; intro K hK; simp [go_sem, hlt, encD]; (try simp (disch := omega) only [wx, z_i]); (first | apply hK | refine ⟨by first | omega | (simp [z_f, z_g, hlt, encD, maxLen, DV.flat, encF]; first | done | omega), ?_⟩ | refine ⟨hK _ ?_, fun h => ?_⟩ | refine ⟨?_, ?_⟩); all_goals ((try apply hK); clear hK K))
  refine z_j (n - 1) _ (by omega) ⟨k + 1, by omega, rfl⟩ ?_
  simp [go_sem, hs]
 ·have hkl : l.take k = l := List.take_of_length_le (by omega)
  refine wX (aN hlt hkl) ?_
  simp [go_sem]
end Go.Av
set_option linter.unusedVariables false
namespace Go.Av
open Go Go.RowKit Go.Proofs
def orV : List Int -> Int
 | [] => 0
 | x :: l => if x ≠ 0 then x else orV l
def ordI (a b : Inter) : Int := orV [cmpI a.from_ b.from_, cmpI a.to b.to, cmpI a.label b.label]
def ordX (x y : Edg) : Int := ordI x.act y.act
instance : Inhabited Edg := ⟨⟨0, ⟨0, 0, 0⟩, 0, false⟩⟩
structure Vs where
 st : Int
 bl : Nat
 sn : Nat
 path : List Inter
structure Fnd where
 peer : Int
 label : Int
 path : List Inter
def sameV (a b : Vs) : Bool := a.st == b.st && a.bl == b.bl && a.sn == b.sn
def sameM (a b : Fnd) : Bool := a.peer == b.peer && a.label == b.label
def setB (n : Nat) (r : Int) : Nat := n ||| 1 <<< r.toNat
def hasB (n : Nat) (r : Int) : Bool := n.testBit r.toNat
def insC {α : Type} (cf : α -> α -> Int) : List α -> α -> List α
 | [], x => [x]
 | y :: l, x => if cf y x < 0 then y :: insC cf l x else x :: y :: l
def insL {α : Type} (cf : α -> α -> Int) (l : List α) : List α := l.foldl (insC cf) []
theorem insC_perm {α : Type} (cf : α -> α -> Int) : ∀ (l : List α) (x : α), (insC cf l x).Perm (x :: l)
 | [], x => .refl _
 | y :: l, x => by
   unfold insC
   split
   ·exact ((insC_perm cf l x).cons y).trans (.swap x y l)
   ·exact .refl _
theorem insF_perm {α : Type} (cf : α -> α -> Int) : ∀ (l a : List α), (l.foldl (insC cf) a).Perm (l ++ a)
 | [], a => .refl _
 | x :: l, a => by
   rw [List.foldl_cons]
   refine (insF_perm cf l _).trans ?_
   refine ((insC_perm cf a x).append_left l).trans ?_
   exact List.perm_middle
theorem insL_perm {α : Type} (cf : α -> α -> Int) (l : List α) : (insL cf l).Perm l := by
 have := insF_perm cf l []
 rwa [List.append_nil] at this
def outE (g : Glob) (s : Int) : List Edg := insL ordX (g.edges.filter fun x => x.from_ == s)
def isNew (p : Int) (v : Vs) (x : Edg) : Bool := !hasB v.bl x.act.from_ && (x.act.to == p && !hasB v.sn x.act.from_)
def nxtV (p : Int) (v : Vs) (x : Edg) : Vs :=
 if hasB v.bl x.act.from_ then ⟨x.to, setB v.bl x.act.to, v.sn, v.path ++ [x.act]⟩
 else if isNew p v x then ⟨x.to, v.bl, setB v.sn x.act.from_, v.path ++ [x.act]⟩
 else ⟨x.to, v.bl, v.sn, v.path ++ [x.act]⟩
def fndV (v : Vs) (x : Edg) : Fnd := ⟨x.act.from_, x.act.label, v.path ++ [x.act]⟩
def addV (q : List Vs) (w : Vs) : List Vs := if q.any (sameV w) then q else q ++ [w]
def noteF (all : List Fnd) (f : Fnd) : List Fnd := if all.any (sameM f) then all else all ++ [f]
def stepV (p : Int) (v : Vs) (s : List Vs × List Fnd) (x : Edg) : List Vs × List Fnd :=
 (addV s.1 (nxtV p v x), if isNew p v x then noteF s.2 (fndV v x) else s.2)
def bfsV (g : Glob) (p : Int) : Nat -> Nat -> List Vs × List Fnd -> List Fnd
 | 0, _, s => s.2
 | f + 1, i, s => match s.1[i]? with
   | none => s.2
   | some v => bfsV g p f (i + 1) ((outE g v.st).foldl (stepV p v) s)
def firstV (x : Edg) : Vs := ⟨x.to, setB 0 x.act.to, 0, []⟩
def searchV (g : Glob) (x : Edg) : List Fnd := bfsV g x.act.to 1000000 0 ([firstV x], [])
structure Msg where
 peer : Int
 label : Int
 deriving DecidableEq
instance : Inhabited Msg := ⟨⟨0, 0⟩⟩
def ordM (a b : Msg) : Int := orV [cmpI a.peer b.peer, cmpI a.label b.label]
def msgF (f : Fnd) : Msg := ⟨f.peer, f.label⟩
def earlyV (g : Glob) (x : Edg) : List Msg := insL ordM ((searchV g x).map msgF)
def ordF (a b : Fnd) : Int := ordM (msgF a) (msgF b)
def blkS (l : List Int) (x : Inter) : List Int := if l.contains x.from_ && !l.contains x.to then l ++ [x.to] else l
def blkL (r : Int) (p : List Inter) : List Int := p.foldl blkS [r]
def blockV (r : Int) (p : List Inter) : List Int := insL cmpI (blkL r p)
def withL : List Int -> Int -> List Int
 | [], n => [n]
 | y :: l, n => if n <= y then (if n < y then n :: y :: l else y :: l) else y :: withL l n
def refS (l : List Int) (x : Inter) : List Int := if l.contains x.from_ then withL l x.to else l
def refB (r : Int) (p : List Inter) : List Int := p.foldl refS [r]
structure Vz where
 st : Int
 bl : Nat
 sn : Nat
 ah : Int
 act : Inter
def vzOf (v : Vs) (a : Int) (x : Inter) : Vz := ⟨v.st, v.bl, v.sn, a, x⟩
def keyP (v : Vs) : List KV := [.ki .i64 v.st, .ki .u8 v.bl, .ki .u8 v.sn]
def metP (q : List Vs) : List (List KV × KV) := q.map fun v => (keyP v, .kb true)
theorem keyP_inj {a b : Vs} : keyP a = keyP b ↔ sameV a b = true := by
 unfold keyP sameV
 simp only [List.cons.injEq, KV.ki.injEq, true_and, and_true, Bool.and_eq_true, beq_iff_eq]
 omega
theorem metP_none {v : Vs} : ∀ {q : List Vs}, q.any (sameV v) = false -> mpGet (metP q) (keyP v) = none /\ mpSet (metP q) (keyP v) (.kb true) = metP (q ++ [v])
 | [], _ => ⟨rfl, rfl⟩
 | n :: q, h => by
   simp only [List.any_cons, Bool.or_eq_false_iff] at h
   have hne : ¬ keyP v = keyP n := by
    rw [keyP_inj, h.1]
    simp
   obtain ⟨h1, h2⟩ := metP_none h.2
   refine ⟨?_, ?_⟩
   ·show mpGet ((keyP n, .kb true) :: metP q) (keyP v) = none
    simp only [mpGet, hne, if_false]
    exact h1
   ·show mpSet ((keyP n, .kb true) :: metP q) (keyP v) (.kb true) = _
    simp only [mpSet, hne, if_false, h2]
    rfl
theorem metP_some {v : Vs} : ∀ {q : List Vs}, q.any (sameV v) = true -> mpGet (metP q) (keyP v) = some (.kb true)
 | n :: q, h => by
   show mpGet ((keyP n, .kb true) :: metP q) (keyP v) = _
   simp only [mpGet]
   split
   ·rfl
   ·rename_i hne
    rw [keyP_inj] at hne
    simp only [List.any_cons, Bool.or_eq_true, hne, Bool.false_eq_true, false_or] at h
    exact metP_some h
def encPc (v : Vs) : List DV := [.int .i64 v.st, .int .u8 v.bl, .int .u8 v.sn]
def encVz (z : Vz) : List DV := [.int .i64 z.st, .int .u8 z.bl, .int .u8 z.sn, .int .i64 z.ah, .int .i64 z.act.from_, .int .i64 z.act.to, .int .i64 z.act.label]
def encMs (m : Msg) : List DV := [.int .i64 m.peer, .int .i64 m.label]
def encFd (f : Fnd) : List DV := [.int .i64 f.peer, .int .i64 f.label, .sl (f.path.map encI)]
def swapA {α : Type} [Inhabited α] (l : List α) (i k : Nat) : List α := (l.set i (l.getD k default)).set k (l.getD i default)
theorem swapA_len {α : Type} [Inhabited α] (l : List α) (i k : Nat) : (swapA l i k).length = l.length := by simp [swapA]
def revA {α : Type} [Inhabited α] (l : List α) : Nat -> List α
 | 0 => l
 | k + 1 => swapA (revA l k) k (l.length - 1 - k)
theorem revA_len {α : Type} [Inhabited α] (l : List α) : ∀ k, (revA l k).length = l.length
 | 0 => rfl
 | k + 1 => by rw [revA, swapA_len, revA_len l k]
theorem revA_at {α : Type} [Inhabited α] (l : List α) : ∀ k, 2 * k <= l.length -> ∀ i, i < l.length -> (revA l k)[i]? = if i < k \/ l.length <= i + k then l[l.length - 1 - i]? else l[i]?
 | 0, _, i, hi => by
   rw [if_neg (by omega)]
   rfl
 | k + 1, hk, i, hi => by
   have ih := revA_at l k (by omega)
   have hl := revA_len l k
   have g1 : (revA l k).getD (l.length - 1 - k) default = l[l.length - 1 - k] := by
    rw [List.getD_eq_getElem?_getD, ih _ (by omega), if_neg (by omega), List.getElem?_eq_getElem (by omega)]
    rfl
   have g2 : (revA l k).getD k default = l[k] := by
    rw [List.getD_eq_getElem?_getD, ih _ (by omega), if_neg (by omega), List.getElem?_eq_getElem (by omega)]
    rfl
   rw [revA, swapA, g1, g2, List.getElem?_set, List.length_set, List.getElem?_set, hl, ih i hi]
   by_cases e1 : l.length - 1 - k = i
   ·have e2 : l.length - 1 - i = k := by omega
    rw [if_pos e1, if_pos (by omega), if_pos (by omega), e2, List.getElem?_eq_getElem (by omega)]
   ·rw [if_neg e1]
    by_cases e2 : k = i
    ·subst e2
     rw [if_pos rfl, if_pos (by omega), if_pos (by omega), List.getElem?_eq_getElem (by omega)]
    ·rw [if_neg e2]
     by_cases e3 : i < k \/ l.length <= i + k
     ·rw [if_pos e3, if_pos (by omega)]
     ·rw [if_neg e3, if_neg (by omega)]
theorem revA_rev {α : Type} [Inhabited α] {l : List α} {k : Nat} (h1 : 2 * k <= l.length) (h2 : l.length <= 2 * k + 1) : revA l k = l.reverse := by
 apply List.ext_getElem?
 intro i
 by_cases hi : i < l.length
 ·rw [revA_at l k h1 i hi, List.getElem?_reverse hi]
  split
  ·rfl
  ·congr 1
   omega
 ·rw [List.getElem?_eq_none (by rw [revA_len]; omega), List.getElem?_eq_none (by simp; omega)]
theorem or8 : ∀ n : Fin 64, ∀ r : Fin 6, IntKind.u8.wrap ((BitVec.ofInt 8 (n.val : Int) ||| BitVec.ofInt 8 (IntKind.u8.wrap (1 * 2 ^ min r.val 8))).toNat : Int) = setB n.val (r.val : Int) := by decide +kernel
theorem or64 : ∀ n : Fin 64, ∀ r : Fin 6, IntKind.i64.wrap ((BitVec.ofInt 64 (n.val : Int) ||| BitVec.ofInt 64 (IntKind.i64.wrap (1 * 2 ^ min r.val 64))).toNat : Int) = setB n.val (r.val : Int) := by decide +kernel
set_option maxHeartbeats 64000000
theorem f146 (all : List Fld) (d : Dcl) (hl : all.length <= 1000000000) : Impl Tryz.prog 146 [.ag [.sl (d.diffs.map encDf), .sl (d.equals.map encEq)], .one (.sl (all.map encF))] (.one (.one (.bool (okGuard all d)))) := by
 refine impl_v ?_
 by_cases hd : d.diffs.length <= 20
 ·have hd' : ¬ (20 : Int) < (d.diffs.length : Int) := by omega
  by_cases he : d.equals.length <= 20
  ·have he' : ¬ (20 : Int) < (d.equals.length : Int) := by omega
   refine wX (aN hd' he') ?_
   refine z_k (fun n e => ∃ k : Nat, k + n = d.diffs.length /\ (d.diffs.take k).all (okDff all.length) = true /\ e = [(24, .sv (.one (.int .i64 k))), (23, .sv (.one (.int .i64 d.diffs.length))), (22, .sv (.one (.sl (d.diffs.map encDf)))), (2, .sv (.one (.bx [.sl (d.diffs.map encDf), .sl (d.equals.map encEq)]))), (1, .sv (.one (.sl (all.map encF))))]) d.diffs.length _ ⟨0, by simp, by simp, rfl⟩ (by simp [go_sem]) ?_
   rintro n e ⟨k, hk, hall, rfl⟩
   by_cases hlt : k < d.diffs.length
   ·skip
    repeat' first | refine St.go ?_ | ((with_reducible refine cn ?_ ?_) <;> intro h <;> (try simp at h) <;> try omega) | (refine Ru.go ?_; intro K hK; simp [go_sem, hlt, encDf]; (try simp (disch := omega) only [wx, z_i]); (first | apply hK | refine ⟨by first | omega | (simp [z_f, z_g, hlt, encDf]; first | done | omega), ?_⟩ | refine ⟨hK _ ?_, fun h => ?_⟩ | refine ⟨?_, ?_⟩); all_goals ((try apply hK); clear hK K))
    ·have hb : okDff all.length d.diffs[k] = false := by
      cases hb : okDff all.length d.diffs[k] with
      | false => rfl
      | true =>
        simp only [okDff, Bool.and_eq_true, decide_eq_true_eq] at hb
        omega
     have hf : okGuard all d = false := by simp [okGuard, all_no hlt hb]
     simp [go_sem, hf]
    ·have hb : okDff all.length d.diffs[k] = true := by
      simp only [okDff, Bool.and_eq_true, decide_eq_true_eq]
      omega
     refine z_j (n - 1) _ (by omega) ⟨k + 1, by omega, ?_, rfl⟩ ?_
     ·rw [all_succ hlt, hall, hb]; rfl
     ·simp [go_sem]
   ·have hkl : d.diffs.take k = d.diffs := List.take_of_length_le (by omega)
    rw [hkl] at hall
    refine wX hlt ?_
    refine z_k (fun n e => ∃ k : Nat, k + n = d.equals.length /\ (d.equals.take k).all (fun e => isText all e.1 && isText all e.2) = true /\ e = [(58, .sv (.one (.int .i64 k))), (57, .sv (.one (.int .i64 d.equals.length))), (56, .sv (.one (.sl (d.equals.map encEq)))), (1, .sv (.one (.sl (all.map encF))))]) d.equals.length _ ⟨0, by simp, by simp, rfl⟩ (by simp [go_sem]) ?_
    rintro n e ⟨k, hk, hall2, rfl⟩
    by_cases hlt2 : k < d.equals.length
    ·have hbad : (isText all d.equals[k].1 && isText all d.equals[k].2) = false -> okGuard all d = false := by
      intro h
      have := all_no (p := fun e => isText all e.1 && isText all e.2) hlt2 h
      simp [okGuard, this]
     obtain ⟨y, hy⟩ : ∃ y, y = d.equals[k] := ⟨_, rfl⟩
     rw [<- hy] at hbad
     have hy' : d.equals[k] = y := hy.symm
     refine wX (aN hlt2 <| aN hy' encEq.eq_1) ?_
     refine z_k (fun q e => ∃ j : Nat, j + q = 2 /\ ((j = 0 \/ isText all y.1 = true) /\ (j <= 1 \/ isText all y.2 = true)) /\ e = [(63, .sv (.one (.int .i64 j))), (62, .sv (.ag (encEq y))), (58, .sv (.one (.int .i64 k))), (57, .sv (.one (.int .i64 d.equals.length))), (56, .sv (.one (.sl (d.equals.map encEq)))), (1, .sv (.one (.sl (all.map encF))))]) 2 _ ⟨0, rfl, by simp, rfl⟩ (by simp [go_sem, encEq]) ?_
     rintro q e ⟨j, hj, htx, rfl⟩
     have hj3 : j = 0 \/ j = 1 \/ j = 2 := by omega
     rcases hj3 with rfl | rfl | rfl
     ·by_cases hx0 : y.1 < 0
      ·have hit : isText all (y.1) = false := by simp [isText, show ¬ 0 <= y.1 by omega]
       have hf : okGuard all d = false := hbad (by simp [hit])
       cases hq : all[(y.1).toNat]? with
       | none =>
         refine wX (aN hx0 <| aN hq encEq.eq_1) ?_
         simp [go_sem, hf]
       | some f =>
         refine wX (aN hx0 <| aN hq <| aN encEq.eq_1 encF.eq_1) ?_
         simp [go_sem, hf]
      ·by_cases hxn : y.1 < all.length
       ·have hlt3 : (y.1).toNat < all.length := by omega
        have hq : all[(y.1).toNat]? = some all[(y.1).toNat] := List.getElem?_eq_getElem hlt3
        by_cases hk2 : all[(y.1).toNat].kind = 2
        ·have hit : isText all (y.1) = true := by simp [isText, show 0 <= y.1 by omega, hxn, hlt3, hk2]
         have hxn' : ¬ (all.length : Int) <= y.1 := by omega
         refine wX (aN hx0 <| aN hxn' <| aN hlt3 <| aN hk2 <| aN encEq.eq_1 encF.eq_1) ?_
         refine z_j (q - 1) _ (by omega) ⟨0 + 1, by omega, by simp [hit], rfl⟩ ?_
         simp [go_sem, encEq]
        ·have hit : isText all (y.1) = false := by simp [isText, hlt3, hk2]
         have hf : okGuard all d = false := hbad (by simp [hit])
         have hxn' : ¬ (all.length : Int) <= y.1 := by omega
         repeat' first | refine St.go ?_ | ((with_reducible refine cn ?_ ?_) <;> intro h <;> (try simp at h) <;> try omega) | (refine Ru.go ?_; intro K hK; simp [go_sem, hx0, hxn', hlt3, hk2, encEq, encF]; (try simp (disch := omega) only [wx, z_i]); (first | apply hK | refine ⟨by first | omega | (simp [z_f, z_g, hx0, hxn', hlt3, hk2, encEq, encF]; first | done | omega), ?_⟩ | refine ⟨hK _ ?_, fun h => ?_⟩ | refine ⟨?_, ?_⟩); all_goals ((try apply hK); clear hK K))
         simp [go_sem, hf]
       ·have hit : isText all (y.1) = false := by simp [isText, hxn]
        have hf : okGuard all d = false := hbad (by simp [hit])
        have hxn' : (all.length : Int) <= y.1 := by omega
        have hq : all[(y.1).toNat]? = none := List.getElem?_eq_none (by omega)
        refine wX (aN hx0 <| aN hxn' <| aN hq encEq.eq_1) ?_
        simp [go_sem, hf]
     ·by_cases hx0 : y.2 < 0
      ·have hit : isText all (y.2) = false := by simp [isText, show ¬ 0 <= y.2 by omega]
       have hf : okGuard all d = false := hbad (by simp [hit])
       cases hq : all[(y.2).toNat]? with
       | none =>
         refine wX (aN hx0 <| aN hq encEq.eq_1) ?_
         simp [go_sem, hf]
       | some f =>
         refine wX (aN hx0 <| aN hq <| aN encEq.eq_1 encF.eq_1) ?_
         simp [go_sem, hf]
      ·by_cases hxn : y.2 < all.length
       ·have hlt3 : (y.2).toNat < all.length := by omega
        have hq : all[(y.2).toNat]? = some all[(y.2).toNat] := List.getElem?_eq_getElem hlt3
        by_cases hk2 : all[(y.2).toNat].kind = 2
        ·have hit : isText all (y.2) = true := by simp [isText, show 0 <= y.2 by omega, hxn, hlt3, hk2]
         have hxn' : ¬ (all.length : Int) <= y.2 := by omega
         refine wX (aN hx0 <| aN hxn' <| aN hlt3 <| aN hk2 <| aN encEq.eq_1 encF.eq_1) ?_
         refine z_j (q - 1) _ (by omega) ⟨1 + 1, by omega, by simp only [hit, Bool.and_true] at htx ⊢; simpa using htx, rfl⟩ ?_
         simp [go_sem, encEq]
        ·have hit : isText all (y.2) = false := by simp [isText, hlt3, hk2]
         have hf : okGuard all d = false := hbad (by simp [hit])
         have hxn' : ¬ (all.length : Int) <= y.2 := by omega
         repeat' first | refine St.go ?_ | ((with_reducible refine cn ?_ ?_) <;> intro h <;> (try simp at h) <;> try omega) | (refine Ru.go ?_; intro K hK; simp [go_sem, hx0, hxn', hlt3, hk2, encEq, encF]; (try simp (disch := omega) only [wx, z_i]); (first | apply hK | refine ⟨by first | omega | (simp [z_f, z_g, hx0, hxn', hlt3, hk2, encEq, encF]; first | done | omega), ?_⟩ | refine ⟨hK _ ?_, fun h => ?_⟩ | refine ⟨?_, ?_⟩); all_goals ((try apply hK); clear hK K))
         simp [go_sem, hf]
       ·have hit : isText all (y.2) = false := by simp [isText, hxn]
        have hf : okGuard all d = false := hbad (by simp [hit])
        have hxn' : (all.length : Int) <= y.2 := by omega
        have hq : all[(y.2).toNat]? = none := List.getElem?_eq_none (by omega)
        refine wX (aN hx0 <| aN hxn' <| aN hq encEq.eq_1) ?_
        simp [go_sem, hf]
     ·have ht1 : isText all y.1 = true := by simpa using htx.1
      have ht2 : isText all y.2 = true := by simpa using htx.2
      refine wN ?_
      refine z_j (n - 1) _ (by omega) ⟨k + 1, by omega, ?_, rfl⟩ ?_
      ·rw [all_succ hlt2, hall2, <- hy, ht1, ht2]; rfl
      ·simp [go_sem]
    ·have hkl2 : d.equals.take k = d.equals := List.take_of_length_le (by omega)
     rw [hkl2] at hall2
     refine wX hlt2 ?_
     simp [go_sem, okGuard, hd, he, hall, hall2]
  ·have he' : (20 : Int) < (d.equals.length : Int) := by omega
   refine wX (aN hd' he') ?_
   simp [go_sem, okGuard, he]
 ·have hd' : (20 : Int) < (d.diffs.length : Int) := by omega
  refine wX hd' ?_
  simp [go_sem, okGuard, hd]
set_option maxHeartbeats 64000000
theorem allF_le {B : Nat} : ∀ (m : List Dcl), (∀ d ∈ m, d.fields.length <= B) -> (allF m).length <= m.length * B
 | [], _ => by simp [allF]
 | d :: m, h => by
   have h1 := allF_le m fun x hx => h x (by simp [hx])
   have h2 := h d (by simp)
   simp only [allF, List.flatMap_cons, List.length_append, List.length_cons, Nat.succ_mul] at h1 ⊢
   omega
theorem allF_take_le {B k : Nat} {l : List Dcl} (hf : ∀ d ∈ l, d.fields.length <= B) : (allF (l.take k)).length <= k * B :=
 Nat.le_trans (allF_le _ fun d hd => hf d (List.mem_of_mem_take hd)) (Nat.mul_le_mul_right _ (List.length_take_le _ _))
theorem allF_succ {l : List Dcl} {k : Nat} (hlt : k < l.length) : allF (l.take (k + 1)) = allF (l.take k) ++ l[k].fields := by
 unfold allF
 rw [List.take_succ_eq_append_getElem hlt, List.flatMap_append]
 simp
theorem allF_split (l : List Dcl) (k : Nat) : allF l = allF (l.take k) ++ allF (l.drop k) := by
 unfold allF
 rw [<- List.flatMap_append, List.take_append_drop]
theorem allF_at {l : List Dcl} {k y : Nat} (hlt : k < l.length) (hy : y < l[k].fields.length) : (allF l)[(allF (l.take k)).length + y]? = some l[k].fields[y] := by
 rw [allF_split l (k + 1), allF_succ hlt, List.append_assoc, List.getElem?_append_right (by omega)]
 rw [List.getElem?_append_left (by omega)]
 have : (allF (l.take k)).length + y - (allF (l.take k)).length = y := by omega
 rw [this, List.getElem?_eq_getElem hy]
theorem f116 (k lo hi : Int) (nm : ByteArray) : Impl Tryz.prog 116 [.ag [.int .i64 k, .int .i64 lo, .int .i64 hi]] (.one (.one (.bool (goodSort ⟨nm, k, lo, hi⟩)))) := by
 refine impl_v ?_
 by_cases h1 : k = 1
 ·refine wX h1 ?_
  simp [go_sem, goodSort, h1]
  rw [Bool.eq_iff_iff]
  simp
  omega
 ·by_cases h2 : k = 2
  ·refine wX (aN h1 h2) ?_
   simp [go_sem, goodSort, h1, h2]
   rw [Bool.eq_iff_iff]
   simp
   omega
  ·refine wX (aN h1 h2) ?_
   simp [go_sem, goodSort, h1, h2]
theorem f115 (l : List Dcl) (hl : l.length <= 1000) (hf : ∀ d ∈ l, d.fields.length <= 1000000000000000) : Impl Tryz.prog 115 [.one (.sl (l.map encD))] (.one (.one (.int .i64 ((allF l).length : Nat)))) := by
 refine impl_v ?_
 refine wN ?_
 refine z_k (fun n e => ∃ k : Nat, k + n = l.length /\ e = [(4, .sv (.one (.int .i64 k))), (3, .sv (.one (.int .i64 ((allF (l.take k)).length : Nat)))), (0, .sv (.one (.sl (l.map encD))))]) l.length _ ⟨0, by simp, rfl⟩ (by simp [go_sem, allF]) ?_
 rintro n e ⟨k, hk, rfl⟩
 by_cases hlt : k < l.length
 ·have hfk := hf l[k] (List.getElem_mem hlt)
  have hall := allF_take_le (k := k) hf
  repeat' first | refine St.go ?_ | ((with_reducible refine cn ?_ ?_) <;> intro h <;> (try simp at h) <;> try omega) | (refine Ru.go ?_; intro K hK; simp [go_sem, hlt, encD]; (try simp (disch := omega) only [wx, z_i]); (first | apply hK | refine ⟨by first | omega | (simp [z_f, z_g, hlt, encD]; first | done | omega), ?_⟩ | refine ⟨hK _ ?_, fun h => ?_⟩ | refine ⟨?_, ?_⟩); all_goals ((try apply hK); clear hK K))
  refine z_j (n - 1) _ (by omega) ⟨k + 1, by omega, rfl⟩ ?_
  simp [go_sem, allF_succ hlt]
 ·have hkl : l.take k = l := List.take_of_length_le (by omega)
  refine wX (aN hlt hkl) ?_
  simp [go_sem]
theorem f151 (l : List Dcl) (x : Nat) (hl : l.length <= 1000) (hf : ∀ d ∈ l, d.fields.length <= 1000000000000000) (hx : x < (allF l).length) : Impl Tryz.prog 151 [.one (.sl (l.map encD)), .one (.int .i64 x)] (.one (.ag (encF (allF l)[x]))) := by
 refine impl_v ?_
 have hxl := allF_le l hf
 refine wN ?_
 refine z_k (fun n e => ∃ k y : Nat, k + n = l.length /\ (allF (l.take k)).length + y = x /\ e = [(5, .sv (.one (.int .i64 k))), (1, .sv (.one (.int .i64 y))), (4, .sv (.one (.bx [.str ⟨#[]⟩, .int .i64 0, .int .i64 0, .int .i64 0]))), (0, .sv (.one (.sl (l.map encD))))]) l.length _ ⟨0, x, by simp, by simp [allF], rfl⟩ (by simp [go_sem]) ?_
 rintro n e ⟨k, y, hk, hy, rfl⟩
 by_cases hlt : k < l.length
 ·have hfk := hf l[k] (List.getElem_mem hlt)
  by_cases hyl : y < l[k].fields.length
  ·have hat := allF_at hlt hyl
   rw [hy, List.getElem?_eq_getElem hx] at hat
   injection hat with hat
   repeat' first | refine St.go ?_ | ((with_reducible refine cn ?_ ?_) <;> intro h <;> (try simp at h) <;> try omega) | (refine Ru.go ?_; intro K hK; simp [go_sem, hlt, hyl, encD, encF]; (try simp (disch := omega) only [wx, z_i]); (first | apply hK | refine ⟨by first | omega | (simp [z_f, z_g, hlt, hyl, encD, encF]; first | done | omega), ?_⟩ | refine ⟨hK _ ?_, fun h => ?_⟩ | refine ⟨?_, ?_⟩); all_goals ((try apply hK); clear hK K))
   simp [go_sem, hat, encF]
  ·have hs := congrArg List.length (allF_succ hlt)
   rw [List.length_append] at hs
   repeat' first | refine St.go ?_ | ((with_reducible refine cn ?_ ?_) <;> intro h <;> (try simp at h) <;> try omega) | (refine Ru.go ?_; intro K hK; simp [go_sem, hlt, hyl, encD]; (try simp (disch := omega) only [wx, z_i]); (first | apply hK | refine ⟨by first | omega | (simp [z_f, z_g, hlt, hyl, encD]; first | done | omega), ?_⟩ | refine ⟨hK _ ?_, fun h => ?_⟩ | refine ⟨?_, ?_⟩); all_goals ((try apply hK); clear hK K))
   refine z_j (n - 1) _ (by omega) ⟨k + 1, y - l[k].fields.length, by omega, by omega, rfl⟩ ?_
   simp [go_sem]
   omega
 ·have hkl : l.take k = l := List.take_of_length_le (by omega)
  rw [hkl] at hy
  omega
theorem f135 (l : List Dcl) (x : Int) (hl : l.length <= 1000) (hf : ∀ d ∈ l, d.fields.length <= 1000000000000000) : Impl Tryz.prog 135 [.one (.sl (l.map encD)), .one (.int .i64 x)] (.one (.one (.bool (isText (allF l) x)))) := by
 refine impl_v ?_
 have f115s := f115 l hl hf
 by_cases h0 : 0 <= x
 ·by_cases hxn : x < (allF l).length
  ·have hlt : x.toNat < (allF l).length := by omega
   have f151s := f151 l x.toNat hl hf hlt
   have e0 : ((x.toNat : Nat) : Int) = x := by omega
   rw [e0] at f151s
   obtain ⟨F, hF⟩ : ∃ F, (allF l)[x.toNat] = F := ⟨_, rfl⟩
   rw [hF] at f151s
   simp only [encF] at f151s
   have hit : isText (allF l) x = (F.kind == 2) := by
    simp only [isText, h0, hxn, List.getElem?_eq_getElem hlt, hF, decide_true, Bool.true_and]
    rw [Bool.eq_iff_iff]
    simp
   refine wV (aN h0 hxn) (aN f115s f151s) ?_
   simp [go_sem, hit]
  ·refine wV (aN h0 hxn) f115s ?_
   simp [go_sem, isText, hxn]
 ·refine wX h0 ?_
  simp [go_sem, isText, h0]
theorem f118 (l : List Dcl) (d : Dcl) (hl : l.length <= 1000) (hf : ∀ d ∈ l, d.fields.length <= 1000000000000000) (hdl : d.diffs.length <= 1000000000000000) (hel : d.equals.length <= 1000000000000000) : Impl Tryz.prog 118 [.one (.sl (l.map encD)), .ag [.sl (d.diffs.map encDf), .sl (d.equals.map encEq)]] (.one (.one (.bool (okGuard (allF l) d)))) := by
 refine impl_v ?_
 have f115s := f115 l hl hf
 obtain ⟨all, hA⟩ : ∃ all, all = allF l := ⟨_, rfl⟩
 have hal : all.length <= 1000000000000000000 := by
  have := allF_le l hf
  rw [hA]
  have h2 : l.length * 1000000000000000 <= 1000 * 1000000000000000 := Nat.mul_le_mul_right _ hl
  omega
 have f135s : ∀ x : Int, Impl Tryz.prog 135 [.one (.sl (l.map encD)), .one (.int .i64 x)] (.one (.one (.bool (isText all x)))) := fun x => by rw [hA]; exact f135 l x hl hf
 rw [<- hA] at f115s ⊢
 refine wC f115s ?_
 refine z_k (fun n e => ∃ k : Nat, k + n = d.diffs.length /\ (d.diffs.take k).all (okDff all.length) = true /\ e = [(6, .sv (.one (.int .i64 k))), (5, .sv (.one (.int .i64 all.length))), (3, .sv (.one (.bx [.sl (d.diffs.map encDf), .sl (d.equals.map encEq)]))), (0, .sv (.one (.sl (l.map encD))))]) d.diffs.length _ ⟨0, by simp, by simp, rfl⟩ (by simp [go_sem]) ?_
 rintro n e ⟨k, hk, hall, rfl⟩
 by_cases hlt : k < d.diffs.length
 ·skip
  repeat' first | refine St.go ?_ | ((with_reducible refine cn ?_ ?_) <;> intro h <;> (try simp at h) <;> try omega) | (refine Ru.go ?_; intro K hK; simp [go_sem, hlt, encDf]; (try simp (disch := omega) only [wx, z_i]); (first | apply hK | refine ⟨by first | omega | (simp [z_f, z_g, hlt, encDf]; first | done | omega), ?_⟩ | refine ⟨hK _ ?_, fun h => ?_⟩ | refine ⟨?_, ?_⟩); all_goals ((try apply hK); clear hK K))
  ·have hb : okDff all.length d.diffs[k] = false := by
    cases hb : okDff all.length d.diffs[k] with
    | false => rfl
    | true =>
      simp only [okDff, Bool.and_eq_true, decide_eq_true_eq] at hb
      omega
   have hg : okGuard all d = false := by simp [okGuard, all_no hlt hb]
   simp [go_sem, hg]
  ·have hb : okDff all.length d.diffs[k] = true := by
    simp only [okDff, Bool.and_eq_true, decide_eq_true_eq]
    omega
   refine z_j (n - 1) _ (by omega) ⟨k + 1, by omega, ?_, rfl⟩ ?_
   ·rw [all_succ hlt, hall, hb]; rfl
   ·simp [go_sem]
 ·have hkl : d.diffs.take k = d.diffs := List.take_of_length_le (by omega)
  rw [hkl] at hall
  refine wX hlt ?_
  refine z_k (fun n e => ∃ k : Nat, k + n = d.equals.length /\ (d.equals.take k).all (fun e => isText all e.1 && isText all e.2) = true /\ e = [(8, .sv (.one (.int .i64 k))), (3, .sv (.one (.bx [.sl (d.diffs.map encDf), .sl (d.equals.map encEq)]))), (0, .sv (.one (.sl (l.map encD))))]) d.equals.length _ ⟨0, by simp, by simp, rfl⟩ (by simp [go_sem]) ?_
  rintro n e ⟨k, hk, hall2, rfl⟩
  by_cases hlt2 : k < d.equals.length
  ·have hbad : (isText all d.equals[k].1 && isText all d.equals[k].2) = false -> okGuard all d = false := by
    intro h
    have := all_no (p := fun e => isText all e.1 && isText all e.2) hlt2 h
    simp [okGuard, this]
   have c1 := f135s d.equals[k].1
   have c2 := f135s d.equals[k].2
   cases ht1 : isText all d.equals[k].1 with
   | false =>
     have hg := hbad (by simp [ht1])
     rw [ht1] at c1
     refine wV (aN hlt2 encEq.eq_1) c1 ?_
     simp [go_sem, hg]
   | true =>
     cases ht2 : isText all d.equals[k].2 with
     | false =>
       have hg := hbad (by simp [ht2])
       rw [ht1] at c1
       rw [ht2] at c2
       refine wV (aN hlt2 encEq.eq_1) (aN c1 c2) ?_
       simp [go_sem, hg]
     | true =>
       rw [ht1] at c1
       rw [ht2] at c2
       refine wV (aN hlt2 encEq.eq_1) (aN c1 c2) ?_
       refine z_j (n - 1) _ (by omega) ⟨k + 1, by omega, ?_, rfl⟩ ?_
       ·rw [all_succ hlt2, hall2, ht1, ht2]; rfl
       ·simp [go_sem]
  ·have hkl2 : d.equals.take k = d.equals := List.take_of_length_le (by omega)
   rw [hkl2] at hall2
   refine wX hlt2 ?_
   simp [go_sem, okGuard, hall, hall2]
   rw [Bool.eq_iff_iff]
   simp
   omega
end Go.Av

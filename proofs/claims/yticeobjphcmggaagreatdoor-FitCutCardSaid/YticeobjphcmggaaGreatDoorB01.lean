/- Part of a proof. -/
import Derived.Test.YticeobjphcmggaaGreatDoorB00
import Derived.Test.YticeobjphcmggaaGreatDoorAvR
import Derived.Test.YticeobjphcmggaaGreatDoorAvRX
import Derived.Test.YticeobjphcmggaaGreatDoorRows
import Derived.ProofKit
set_option linter.unusedVariables false
set_option linter.unusedSimpArgs false
set_option maxHeartbeats 64000000
set_option maxRecDepth 8000
namespace Go.Av
open Go
def pieceL : List UInt8 -> List (List UInt8)
 | [] => [[]]
 | b :: l => if b = 46 then [] :: pieceL l else match pieceL l with
   | [] => [[b]]
   | p :: ps => (b :: p) :: ps
theorem pieceL_ne : ∀ (l : List UInt8), pieceL l ≠ []
 | [] => by simp [pieceL]
 | b :: l => by
   unfold pieceL
   split
   ·simp
   ·split <;> simp
theorem pieceL_no : ∀ {l : List UInt8}, 46 ∉ l -> pieceL l = [l]
 | [], _ => rfl
 | b :: l, h => by
   have h1 : b ≠ 46 := fun e => h (by simp [e])
   have h2 := pieceL_no (l := l) fun e => h (by simp [e])
   simp [pieceL, h1, h2]
theorem pieceL_at : ∀ {a l : List UInt8}, 46 ∉ a -> pieceL (a ++ 46 :: l) = a :: pieceL l
 | [], l, _ => by simp [pieceL]
 | b :: a, l, h => by
   have h1 : b ≠ 46 := fun e => h (by simp [e])
   have h2 := pieceL_at (a := a) (l := l) fun e => h (by simp [e])
   simp [pieceL, h1, h2]
def toB (l : List UInt8) : ByteArray := ⟨l.toArray⟩
theorem toB_list (s : ByteArray) : toB s.data.toList = s := by simp [toB]
theorem list_toB (l : List UInt8) : (toB l).data.toList = l := by simp [toB]
theorem size_toB (l : List UInt8) : (toB l).size = l.length := by simp [toB, ByteArray.size]
theorem extract_toB (l : List UInt8) (a b : Nat) : (toB l).extract a b = toB ((l.take b).drop a) := by
 have h : ((toB l).extract a b).data.toList = ((l.take b).drop a) := by
  rw [ByteArray.data_extract, Array.toList_extract, list_toB, List.extract_eq_take_drop, List.drop_take]
 rw [<- h, toB_list]
theorem index_at : ∀ {a l : List UInt8}, 46 ∉ a -> Lib.indexByte (a ++ 46 :: l) 46 = a.length
 | [], l, _ => by simp [Lib.indexByte]
 | b :: a, l, h => by
   have h1 : ¬ b = 46 := fun e => h (by simp [e])
   have h2 := index_at (a := a) (l := l) fun e => h (by simp [e])
   have h3 : ¬ ((a.length : Int) = -1) := by omega
   simp [Lib.indexByte, h1, h2, h3]
theorem split_at : ∀ (l : List UInt8), 46 ∈ l -> ∃ a b, l = a ++ 46 :: b /\ 46 ∉ a
 | [], h => by cases h
 | x :: l, h => by
   by_cases e : x = 46
   ·subst e
    exact ⟨[], l, rfl, by simp⟩
   ·rcases List.mem_cons.1 h with h | h
    ·exact (e h.symm).elim
    ·obtain ⟨a, b, rfl, h2⟩ := split_at l h
     exact ⟨x :: a, b, rfl, by simp [h2, Ne.symm e]⟩
theorem pieceL_len : ∀ (l : List UInt8), (pieceL l).length = Lib.countByte l 46 + 1
 | [] => rfl
 | b :: l => by
   have ih := pieceL_len l
   unfold pieceL
   simp only [Lib.countByte, List.count_cons] at ih ⊢
   split
   ·rename_i e
    subst e
    simp [ih]
   ·rename_i e
    have hn := pieceL_ne l
    split
    ·contradiction
    ·rename_i p ps hp
     rw [hp] at ih
     simp [e] at ih ⊢
     omega
def pieceB (s : ByteArray) : List ByteArray := (pieceL s.data.toList).map toB
end Go.Av
namespace Go.Av
open Go Go.RowKit Go.Proofs
set_option maxHeartbeats 64000000
theorem f162 (l : List UInt8) : Impl Tryz.prog 162 [.one (.str (toB l)), .one (.str ⟨#[46]⟩)] (.one (.one (.int .i64 (Lib.countByte l 46 : Nat)))) := by
 have := Impl.ofStr2 (s := toB l) (t := ⟨#[46]⟩) Tryz.func162 rfl (by decide) fun w => str_count (toB l) 46 w
 rwa [list_toB] at this
theorem f163 (l : List UInt8) : Impl Tryz.prog 163 [.one (.str (toB l)), .one (.str ⟨#[46]⟩)] (.one (.one (.int .i64 (Lib.indexByte l 46)))) := by
 have := Impl.ofStr2 (s := toB l) (t := ⟨#[46]⟩) Tryz.func163 rfl (by decide) fun w => str_index (toB l) 46 w
 rwa [list_toB] at this
def fillA (p : List ByteArray) (n i : Nat) : List ByteArray := p.take i ++ List.replicate (n - i) ⟨#[]⟩
theorem fillA_len (p : List ByteArray) {n i : Nat} (hp : p.length = n) (h : i <= n) : (fillA p n i).length = n := by simp [fillA]; omega
theorem fillA_set (p : List ByteArray) {n i : Nat} (hp : p.length = n) (h : i < n) : (fillA p n i).set i (p[i]'(by omega)) = fillA p n (i + 1) := by
 apply List.ext_getElem
 ·rw [List.length_set, fillA_len p hp (by omega), fillA_len p hp (by omega)]
 ·intro k h1 h2
  rw [List.length_set, fillA_len p hp (by omega)] at h1
  simp only [fillA, List.getElem_set, List.getElem_append, List.length_take, List.getElem_take, List.getElem_replicate]
  by_cases e : i = k
  ·subst e
   rw [if_pos rfl, dif_pos (by omega)]
  ·rw [if_neg e]
   by_cases hk : k < i
   ·rw [dif_pos (by omega), dif_pos (by omega)]
   ·rw [dif_neg (by omega), dif_neg (by omega)]
theorem fillA_full (p : List ByteArray) {n : Nat} (hp : p.length = n) : fillA p n n = p := by
 simp [fillA, <- hp]
theorem f159 (l : List UInt8) (hl : l.length <= 1000000) : Impl Tryz.prog 159 [.one (.str (toB l)), .one (.str ⟨#[46]⟩), .one (.int .i64 0), .one (.int .i64 (-1))] (.one (.one (.ow 1 ((pieceB (toB l)).map encS)))) := by
 refine impl_z Tryz.func159 z159 Tryz.ntmps159 (by simp) ?_
 simp only [c159, slotsOf]
 have hpl := pieceL_len l
 have hcl : Lib.countByte l 46 <= l.length := List.count_le_length
 have hsz := size_toB l
 obtain ⟨P, hP⟩ : ∃ P, P = pieceB (toB l) := ⟨_, rfl⟩
 have hPn : P.length = Lib.countByte l 46 + 1 := by rw [hP, pieceB, List.length_map, list_toB, hpl]
 obtain ⟨c, hc⟩ : ∃ c, Lib.countByte l 46 = c := ⟨_, rfl⟩
 rw [hc] at hcl hPn
 have f162s := f162 l
 rw [hc] at f162s
 have hmin : min ((c : Int) + 1) ((l.length : Int) + 1) = (c : Int) + 1 := by omega
 have h46 : (⟨#[46]⟩ : ByteArray).size = 1 := rfl
 have h0 : ((⟨#[46]⟩ : ByteArray) == ⟨#[]⟩) = false := by decide
 rw [<- hP]
 refine wV (aN hsz <| aN hmin <| aN h46 h0) f162s ?_
 refine z_k (fun n e => ∃ (i : Nat) (rest : List UInt8), i + n = c /\ pieceL l = (pieceL l).take i ++ pieceL rest /\ rest.length <= l.length /\ e = [(10, .sv (.one (.int .i64 i))), (3, .sv (.one (.int .i64 c))), (9, .sv (.one (.ow 1 ((fillA P (c + 1) i).map encS)))), (1, .sv (.one (.str ⟨#[46]⟩))), (2, .sv (.one (.int .i64 0))), (0, .sv (.one (.str (toB rest))))]) c _ ⟨0, l, by simp, by simp, Nat.le_refl _, rfl⟩ (by simp [go_sem, fillA, encS]) ?_
 rintro n e ⟨i, rest, hi, hpr, hrl, rfl⟩
 have hplen := congrArg List.length hpr
 rw [List.length_append, List.length_take, pieceL_len rest, hpl, hc] at hplen
 have hPL : P = (pieceL l).map toB := by rw [hP, pieceB, list_toB]
 have hsr := size_toB rest
 have hfl := fillA_len P hPn (show i <= c + 1 by omega)
 by_cases hlt : i < c
 ·have hmem : 46 ∈ rest := by
   rcases Nat.eq_zero_or_pos (Lib.countByte rest 46) with h | h
   ·omega
   ·exact List.count_pos_iff.1 h
  obtain ⟨a, b, hab, ha⟩ := split_at rest hmem
  have hix : Lib.indexByte rest 46 = (a.length : Int) := by rw [hab]; exact index_at ha
  have he1 : (toB rest).extract 0 a.length = toB a := by
   rw [extract_toB, hab, List.drop_zero, List.take_left]
  have hrb : rest.length = a.length + 1 + b.length := by rw [hab]; simp; omega
  have he2 : (toB rest).extract (a.length + 1) rest.length = toB b := by
   rw [extract_toB, List.take_of_length_le (Nat.le_refl _), hab]
   have : (a ++ 46 :: b).drop (a.length + 1) = b := by
    have e : a ++ 46 :: b = (a ++ [46]) ++ b := by simp
    rw [e]
    exact List.drop_left' (by simp)
   rw [this]
  have hpr2 : pieceL l = (pieceL l).take i ++ a :: pieceL b := by
   rw [<- pieceL_at ha, <- hab]
   exact hpr
  have hti : ((pieceL l).take i).length = i := by rw [List.length_take, hpl, hc]; omega
  have hil : i < (pieceL l).length := by rw [hpl, hc]; omega
  have hPi : P[i]'(by omega) = toB a := by
   have h1 : (pieceL l)[i]? = some a := by
    rw [hpr2, List.getElem?_append_right (by omega), hti]
    simp
   have h2 : P[i]? = some (toB a) := by rw [hPL, List.getElem?_map, h1]; rfl
   rw [List.getElem?_eq_getElem (by omega)] at h2
   injection h2
  have hset := fillA_set P hPn (show i < c + 1 by omega)
  rw [hPi] at hset
  have hset2 : ((fillA P (c + 1) i).map encS).set i [.str (toB a)] = (fillA P (c + 1) (i + 1)).map encS := by
   rw [<- hset, List.map_set]
   rfl
  have hpr3 : pieceL l = (pieceL l).take (i + 1) ++ pieceL b := by
   have h1 : (pieceL l).take (i + 1) = (pieceL l).take i ++ [a] := by
    conv => lhs; rw [hpr2]
    have e : (pieceL l).take i ++ a :: pieceL b = ((pieceL l).take i ++ [a]) ++ pieceL b := by simp
    rw [e]
    exact List.take_left' (by rw [List.length_append, hti]; rfl)
   rw [h1]
   rw [List.append_assoc]
   exact hpr2
  have f163s := f163 rest
  rw [hix] at f163s
  generalize a.length = m at *
  have hb : b.length <= l.length := by omega
  have hmr : (m : Int) <= rest.length := by omega
  refine wV (aN hlt <| aN h46 <| aN hsr <| aN he1 <| aN he2 <| aN hfl encS.eq_1) f163s ?_
  refine z_j (n - 1) _ (by omega) ⟨i + 1, b, by omega, hpr3, hb, rfl⟩ ?_
  simp [go_sem, hset2]
 ·have hic : i = c := by omega
  subst hic
  have hno : 46 ∉ rest := by
   intro h
   have := List.count_pos_iff.2 h
   have : 0 < Lib.countByte rest 46 := this
   omega
  rw [pieceL_no hno] at hpr
  have hti : ((pieceL l).take i).length = i := by rw [List.length_take, hpl, hc]; omega
  have hPi : P[i]'(by omega) = toB rest := by
   have h1 : (pieceL l)[i]? = some rest := by
    rw [hpr, List.getElem?_append_right (by omega), hti]
    simp
   have h2 : P[i]? = some (toB rest) := by rw [hPL, List.getElem?_map, h1]; rfl
   rw [List.getElem?_eq_getElem (by omega)] at h2
   injection h2
  have hset := fillA_set P hPn (show i < i + 1 by omega)
  rw [hPi, fillA_full P hPn] at hset
  have hset2 : ((fillA P (i + 1) i).map encS).set i [.str (toB rest)] = P.map encS := by
   have := congrArg (List.map encS) hset
   rw [List.map_set] at this
   exact this
  have htk : (P.map encS).take (i + 1) = P.map encS := List.take_of_length_le (by simp [hPn])
  refine wX (aN hlt <| aN hfl <| aN encS.eq_1 <| aN hset2 <| aN hPn htk) ?_
  simp [go_sem]
theorem f150 (l : List UInt8) (hl : l.length <= 1000000) : Impl Tryz.prog 150 [.one (.str (toB l)), .one (.str ⟨#[46]⟩)] (.one (.one (.ow 1 ((pieceB (toB l)).map encS)))) := by
 refine impl_v ?_
 refine wC (f159 l hl) ?_
 simp [go_sem]
set_option maxHeartbeats 64000000
def isPath (s : ByteArray) : Bool := decide (s.size <= 50) && (pieceB s).all isWord
theorem f151 (s : ByteArray) : Impl Tryz.prog 151 [.one (.str s)] (.one (.one (.bool (!isWord s)))) := by
 refine impl_v ?_
 refine wC (f100 s) ?_
 simp [go_sem]
theorem f158 (l : List ByteArray) (g : FuncId) (caps : List DV) (p : ByteArray -> Bool) (hl : l.length <= 1000000) (hg : ∀ x ∈ l, Impl Tryz.prog g (.one (.str x) :: caps.map .one) (.one (.one (.bool (p x))))) :
  Impl Tryz.prog 158 [.one (.sl (l.map encS)), .one (.fn g caps)] (.one (.one (.int .i64 (firstB p l)))) := by
 refine impl_v ?_
 refine wN ?_
 refine z_k (fun n e => ∃ k : Nat, k + n = l.length /\ (l.take k).any p = false /\ e = [(8, .sv (.one (.int .i64 k))), (7, .sv (.one (.int .i64 l.length))), (1, .sv (.one (.fn g caps))), (0, .sv (.one (.sl (l.map encS))))]) l.length _ ⟨0, by simp, by simp, rfl⟩ (by simp [go_sem]) ?_
 rintro n e ⟨k, hk, h0, rfl⟩
 by_cases hlt : k < l.length
 ·have hgs := hg l[k] (List.getElem_mem hlt)
  cases hx : p l[k] with
  | true =>
    have hf := firstB_at hlt h0 hx
    rw [hx] at hgs
    refine wV (aN hlt encS.eq_1) hgs ?_
    simp [go_sem, hf]
  | false =>
    rw [hx] at hgs
    refine wV (aN hlt encS.eq_1) hgs ?_
    refine z_j (n - 1) _ (by omega) ⟨k + 1, by omega, ?_, rfl⟩ ?_
    ·rw [any_succ hlt, h0, hx]; rfl
    ·simp [go_sem]
 ·have hkl : l.take k = l := List.take_of_length_le (by omega)
  rw [hkl] at h0
  have hf := firstB_none h0
  refine wX hlt ?_
  simp [go_sem, hf]
theorem f149 (l : List ByteArray) (g : FuncId) (caps : List DV) (p : ByteArray -> Bool) (hl : l.length <= 1000000) (hg : ∀ x ∈ l, Impl Tryz.prog g (.one (.str x) :: caps.map .one) (.one (.one (.bool (p x))))) :
  Impl Tryz.prog 149 [.one (.sl (l.map encS)), .one (.fn g caps)] (.one (.one (.bool (l.any p)))) := by
 refine impl_v ?_
 have hf := firstB_any p l
 refine wC (f158 l g caps p hl hg) ?_
 simp [go_sem, hf]
theorem any_not {α : Type} (p : α -> Bool) (l : List α) : (!l.any fun x => !p x) = l.all p := by
 rw [Bool.eq_iff_iff]
 simp
theorem f131 (s : ByteArray) : Impl Tryz.prog 131 [.one (.str s)] (.one (.one (.bool (isPath s)))) := by
 refine impl_z Tryz.func131 z131 Tryz.ntmps131 (by simp) ?_
 simp only [c131, slotsOf]
 by_cases h50 : s.size <= 50
 ·have h50' : (s.size : Int) <= 50 := by omega
  have hln : s.data.toList.length = s.size := by simp
  have f150s := f150 s.data.toList (by omega)
  rw [toB_list] at f150s
  have hpl : (pieceB s).length <= 1000000 := by
   rw [pieceB, List.length_map, pieceL_len]
   have : Lib.countByte s.data.toList 46 <= s.data.toList.length := List.count_le_length
   omega
  have f149s := f149 (pieceB s) 151 [] (fun x => !isWord x) hpl (fun x _ => f151 x)
  have ha := any_not isWord (pieceB s)
  refine wV h50' (aN f150s f149s) ?_
  simp [go_sem, isPath, h50, ha]
 ·have h50' : ¬ (s.size : Int) <= 50 := by omega
  refine wX h50' ?_
  simp [go_sem, isPath, h50]
set_option maxHeartbeats 64000000
theorem drop_split {L : List UInt8} {i f : Nat} (hf : f <= i) (hi : i < L.length) (h46 : L[i] = 46) : L.drop f = (L.drop f).take (i - f) ++ 46 :: L.drop (i + 1) := by
 have h1 : (L.drop f).drop (i - f) = 46 :: L.drop (i + 1) := by
  rw [List.drop_drop, show f + (i - f) = i by omega, List.drop_eq_getElem_cons hi, h46]
 rw [<- h1, List.take_append_drop]
theorem f129 (s : ByteArray) (hl : s.size <= 1000000000000000) : Impl Tryz.prog 129 [.one (.str s)] (.one (.one (.bool (isPath s)))) := by
 refine impl_v ?_
 obtain ⟨L, hL⟩ : ∃ L, L = s.data.toList := ⟨_, rfl⟩
 have hsL : s = toB L := by rw [hL, toB_list]
 have hsz : s.size = L.length := by rw [hsL, size_toB]
 have hpB : pieceB s = (pieceL L).map toB := by rw [pieceB, hL]
 refine wN ?_
 refine z_k (fun n e => ∃ (i f : Nat), i + n = L.length + 1 /\ ((i <= L.length /\ f <= i /\ 46 ∉ (L.drop f).take (i - f) /\ ∃ pre, pieceL L = pre ++ pieceL (L.drop f) /\ (pre.map toB).all isWord = true) \/ (i = L.length + 1 /\ (pieceB s).all isWord = true)) /\ f <= L.length + 1 /\ e = [(4, .sv (.one (.int .i64 i))), (3, .sv (.one (.int .i64 f))), (0, .sv (.one (.str s)))]) (L.length + 1) _ ⟨0, 0, by simp, .inl ⟨by simp, by simp, by simp, [], by simp, by simp⟩, by simp, rfl⟩ (by simp [go_sem]) ?_
 rintro n e ⟨i, f, hi, hst, hfl, rfl⟩
 rcases hst with ⟨hil, hfi, hno, pre, hpre, hall⟩ | ⟨hie, hall⟩
 ·have hle : (i : Int) <= (s.size : Int) := by omega
  have hex : s.extract f i = toB ((L.take i).drop f) := by rw [hsL, extract_toB]
  have hpc : (L.take i).drop f = (L.drop f).take (i - f) := by rw [List.drop_take]
  by_cases hlt : i < L.length
  ·have hlt' : i < s.size := by omega
   have hne : ¬ (i : Int) = (s.size : Int) := by omega
   have hbi : s[i] = L[i] := by
    simp only [hL, ByteArray.getElem_eq_getElem_data]
    simp
   by_cases h46 : L[i] = 46
   ·have h46' : (s[i].toNat : Int) = 46 := by rw [hbi, h46]; rfl
    have hds := drop_split hfi hlt h46
    have hpl : pieceL (L.drop f) = (L.drop f).take (i - f) :: pieceL (L.drop (i + 1)) := by
     conv => lhs; rw [hds]
     exact pieceL_at hno
    have f147s := f147 (s.extract f i)
    cases hw : isWord (s.extract f i) with
    | false =>
      rw [hw] at f147s
      have hf : isPath s = false := by
       unfold isPath
       rw [hpB, hpre, hpl, List.map_append, List.map_cons, List.all_append, List.all_cons, <- hpc, <- hex, hw]
       simp
      refine wV (aN hle <| aN hne <| aN hlt' <| aN h46' hw) f147s ?_
      simp [go_sem, hf]
    | true =>
      rw [hw] at f147s
      refine wV (aN hle <| aN hne <| aN hlt' <| aN h46' hw) f147s ?_
      refine z_j (n - 1) _ (by omega) ⟨i + 1, i + 1, by omega, .inl ⟨by omega, by omega, by simp, pre ++ [(L.drop f).take (i - f)], ?_, ?_⟩, by omega, rfl⟩ ?_
      ·rw [List.append_assoc, List.singleton_append, <- hpl]
       exact hpre
      ·rw [List.map_append, List.all_append, hall, List.map_cons, List.all_cons, <- hpc, <- hex, hw]
       rfl
      ·simp [go_sem]
   ·have h46' : ¬ (s[i].toNat : Int) = 46 := by
     rw [hbi]
     intro e
     apply h46
     have : L[i].toNat = 46 := by omega
     exact UInt8.toNat_inj.1 this
    repeat' first | refine St.go ?_ | ((with_reducible refine cn ?_ ?_) <;> intro h <;> (try simp at h) <;> try omega) | (refine Ru.go ?_; intro K hK; simp [go_sem, hle, hne, hlt', h46']; (try simp (disch := omega) only [wx, z_i]); (first | apply hK | refine ⟨by first | omega | (simp [z_f, z_g, hle, hne, hlt', h46']; first | done | omega), ?_⟩ | refine ⟨hK _ ?_, fun h => ?_⟩ | refine ⟨?_, ?_⟩); all_goals ((try apply hK); clear hK K))
    refine z_j (n - 1) _ (by omega) ⟨i + 1, f, by omega, .inl ⟨by omega, by omega, ?_, pre, hpre, hall⟩, hfl, rfl⟩ ?_
    ·have e1 : i + 1 - f = (i - f) + 1 := by omega
     have hlen : i - f < (L.drop f).length := by rw [List.length_drop]; omega
     rw [e1, List.take_succ_eq_append_getElem hlen]
     simp only [List.mem_append, List.mem_singleton, not_or]
     refine ⟨hno, ?_⟩
     rw [List.getElem_drop]
     have e2 : f + (i - f) = i := by omega
     simp only [e2]
     exact fun e => h46 e.symm
    ·simp [go_sem]
  ·have hie : i = L.length := by omega
   have heq : (i : Int) = (s.size : Int) := by omega
   have hext : s.extract f i = s.extract f s.size := by congr 1; omega
   have hde : L.drop f = (L.drop f).take (i - f) := by
    rw [List.take_of_length_le (by rw [List.length_drop]; omega)]
   have hpl : pieceL (L.drop f) = [(L.drop f).take (i - f)] := by
    conv => lhs; rw [hde]
    exact pieceL_no hno
   have f147s := f147 (s.extract f i)
   cases hw : isWord (s.extract f i) with
   | false =>
     rw [hw] at f147s
     have hf : isPath s = false := by
      unfold isPath
      rw [hpB, hpre, hpl, List.map_append, List.map_cons, List.all_append, List.all_cons, <- hpc, <- hex, hw]
      simp
     rw [hext] at f147s
     refine wV (aN hle <| aN heq hw) f147s ?_
     simp [go_sem, hf]
   | true =>
     rw [hw] at f147s
     rw [hext] at f147s
     refine wV (aN hle <| aN heq hw) f147s ?_
     refine z_j (n - 1) _ (by omega) ⟨i + 1, i + 1, by omega, .inr ⟨by omega, ?_⟩, by omega, rfl⟩ ?_
     ·rw [hpB, hpre, hpl, List.map_append, List.map_cons, List.all_append, hall, List.all_cons, <- hpc, <- hex, hw]
      rfl
     ·simp [go_sem]
      omega
 ·have hgt : ¬ (i : Int) <= (s.size : Int) := by omega
  refine wX hgt ?_
  have : decide ((s.size : Int) <= 50) = decide (s.size <= 50) := by
   by_cases h : s.size <= 50
   ·rw [decide_eq_true h, decide_eq_true (by omega)]
   ·rw [decide_eq_false h, decide_eq_false (by omega)]
  simp [go_sem, isPath, hall]
  omega
set_option maxHeartbeats 64000000
structure Fld where
 name : ByteArray
 kind : Int
 lo : Int
 hi : Int
structure Dff where
 x : Int
 y : Int
 c : Int
structure Dcl where
 name : ByteArray
 fields : List Fld
 first : Int
 diffs : List Dff
 equals : List (Int × Int)
structure Edg where
 from_ : Int
 act : Inter
 to : Int
 again : Bool
structure Tmo where
 state : Int
 ticks : Int
 els : Int
structure Glob where
 name : ByteArray
 roles : List ByteArray
 decls : List Dcl
 states : Int
 start : Int
 end_ : Int
 edges : List Edg
 timeouts : List Tmo
def encF (f : Fld) : List DV := [.str f.name, .int .i64 f.kind, .int .i64 f.lo, .int .i64 f.hi]
def encDf (d : Dff) : List DV := [.int .i64 d.x, .int .i64 d.y, .int .i64 d.c]
def encEq (e : Int × Int) : List DV := [.int .i64 e.1, .int .i64 e.2]
def encD (d : Dcl) : List DV := [.str d.name, .sl (d.fields.map encF), .int .i64 d.first, .sl (d.diffs.map encDf), .sl (d.equals.map encEq)]
def encEd (x : Edg) : List DV := [.int .i64 x.from_, .int .i64 x.act.from_, .int .i64 x.act.to, .int .i64 x.act.label, .int .i64 x.to, .bool x.again]
def encT (t : Tmo) : List DV := [.int .i64 t.state, .int .i64 t.ticks, .int .i64 t.els]
def encG (g : Glob) : List DV := [.str g.name, .sl (g.roles.map encS), .sl (g.decls.map encD), .int .i64 g.states, .int .i64 g.start, .int .i64 g.end_, .sl (g.edges.map encEd), .sl (g.timeouts.map encT)]
def goodSort (f : Fld) : Bool :=
 if f.kind = 1 then decide (-1000 <= f.lo) && decide (f.lo <= f.hi) && decide (f.hi <= 1000)
 else if f.kind = 2 then decide (0 <= f.lo) && decide (f.lo <= f.hi) && decide (f.hi <= 40)
 else false
def allF (l : List Dcl) : List Fld := l.flatMap Dcl.fields
def okDff (n : Nat) (d : Dff) : Bool := decide (-1 <= d.x) && decide (-1 <= d.y) && decide (d.x < n) && decide (d.y < n) && decide (-20000 <= d.c) && decide (d.c <= 20000)
def isText (all : List Fld) (x : Int) : Bool := decide (0 <= x) && decide (x < all.length) && match all[x.toNat]? with
 | some f => decide (f.kind = 2)
 | none => false
def okGuard (all : List Fld) (d : Dcl) : Bool := decide (d.diffs.length <= 20) && decide (d.equals.length <= 20) && d.diffs.all (okDff all.length) && d.equals.all fun e => isText all e.1 && isText all e.2
theorem f134 (k lo hi : Int) (nm : ByteArray) : Impl Tryz.prog 134 [.ag [.int .i64 k, .int .i64 lo, .int .i64 hi]] (.one (.one (.bool (goodSort ⟨nm, k, lo, hi⟩)))) := by
 refine impl_v ?_
 by_cases h1 : k = 1
 ·refine wX h1 ?_
  simp [go_sem, goodSort, h1]
 ·by_cases h2 : k = 2
  ·refine wX (aN h1 h2) ?_
   simp [go_sem, goodSort, h1, h2]
  ·refine wX (aN h1 h2) ?_
   simp [go_sem, goodSort, h1, h2]
theorem f113 (l : List Dcl) (hl : l.length <= 1000) (hf : ∀ d ∈ l, d.fields.length <= 100000) : Impl Tryz.prog 113 [.one (.sl (l.map encD))] (.one (.one (.ow 4 ((allF l).map encF)))) := by
 refine impl_v ?_
 refine wN ?_
 refine z_k (fun n e => ∃ k : Nat, k + n = l.length /\ e = [(8, .sv (.one (.int .i64 k))), (7, .sv (.one (.int .i64 l.length))), (6, .sv (.one (.sl (l.map encD)))), (3, .sv (.one (.ow 4 ((allF (l.take k)).map encF)))), (0, .sv (.one (.sl (l.map encD))))]) l.length _ ⟨0, by simp, rfl⟩ (by simp [go_sem, allF]) ?_
 rintro n e ⟨k, hk, rfl⟩
 by_cases hlt : k < l.length
 ·have hfk := hf l[k] (List.getElem_mem hlt)
  have hall : (allF (l.take k)).length <= k * 100000 := by
   have : ∀ (m : List Dcl), (∀ d ∈ m, d.fields.length <= 100000) -> (allF m).length <= m.length * 100000 := by
    intro m
    induction m with
    | nil => simp [allF]
    | cons d m ih =>
      intro h
      have h1 := ih fun x hx => h x (by simp [hx])
      have h2 := h d (by simp)
      simp only [allF, List.flatMap_cons, List.length_append, List.length_cons] at h1 ⊢
      omega
   have h1 := this (l.take k) fun d hd => hf d (List.mem_of_mem_take hd)
   have h2 : (l.take k).length <= k := List.length_take_le _ _
   exact Nat.le_trans h1 (Nat.mul_le_mul_right _ h2)
  have hs : allF (l.take (k + 1)) = allF (l.take k) ++ l[k].fields := by
   unfold allF
   rw [List.take_succ_eq_append_getElem hlt, List.flatMap_append]
   simp
  repeat' first | refine St.go ?_ | ((with_reducible refine cn ?_ ?_) <;> intro h <;> (try simp at h) <;> try omega) | (refine Ru.go ?_; intro K hK; simp [go_sem, hlt, encD]; (try simp (disch := omega) only [wx, z_i]); (first | apply hK | refine ⟨by first | omega | (simp [z_f, z_g, hlt, encD, maxLen, DV.flat, encF]; first | done | omega), ?_⟩ | refine ⟨hK _ ?_, fun h => ?_⟩ | refine ⟨?_, ?_⟩); all_goals ((try apply hK); clear hK K))
  refine z_j (n - 1) _ (by omega) ⟨k + 1, by omega, rfl⟩ ?_
  simp [go_sem, hs]
 ·have hkl : l.take k = l := List.take_of_length_le (by omega)
  refine wX (aN hlt hkl) ?_
  simp [go_sem]
end Go.Av
namespace Go.Proofs.YticeobjphcmggaaGreatDoor
open Go.ChangeShapes Go.WideShapes Go.ChangeAt Go.RowKit Go.Av
set_option maxRecDepth 100000
theorem Tryz.own : ownKnob Tryz.prog.godebug = none := by kernel_rfl
theorem Tryz.laidOut : laidOutB Tryz.prog = true := by kernel_rfl
theorem int_ofB {n : Nat} {t : TypeId} {k : IntKind} {l : List DV} (hu : Tryz.prog.underlying t = some (.int k)) (h : TyLB Tryz.prog (n + 1) t l) : ∃ m, l = [.int k m] /\ (Lit.int k m).wf = true := by
 unfold TyLB at h
 rw [hu] at h
 obtain ⟨m, hm, hw⟩ := h
 exact ⟨m, hm, hw⟩
theorem bool_ofB {n : Nat} {t : TypeId} {l : List DV} (hu : Tryz.prog.underlying t = some .bool) (h : TyLB Tryz.prog (n + 1) t l) : ∃ m, l = [.bool m] := by
 unfold TyLB at h
 rw [hu] at h
 exact h
theorem str_ofB {n : Nat} {t : TypeId} {l : List DV} (hu : Tryz.prog.underlying t = some .string) (h : TyLB Tryz.prog (n + 1) t l) : ∃ m, l = [.str m] /\ m.size <= reachBytes := by
 unfold TyLB at h
 rw [hu] at h
 exact h
theorem slice_ofB {n : Nat} {t e : TypeId} {l : List DV} (hu : Tryz.prog.underlying t = some (.slice e)) (h : TyLB Tryz.prog (n + 1) t l) : ∃ els : List (List DV), l = [.sl els] /\ els.length <= reachBytes /\ ∀ el ∈ els, TyLB Tryz.prog n e el := by
 unfold TyLB at h
 rw [hu] at h
 exact h
theorem list_ofB {α : Type} {enc : α -> List DV} {p : α -> Prop} : ∀ (els : List (List DV)), (∀ el ∈ els, ∃ x, el = enc x /\ p x) -> ∃ L : List α, els = L.map enc /\ ∀ x ∈ L, p x
 | [], _ => ⟨[], rfl, by simp⟩
 | e :: els, h => by
   obtain ⟨x, rfl, hx⟩ := h e (by simp)
   obtain ⟨L, rfl, hL⟩ := list_ofB els fun el hel => h el (by simp [hel])
   exact ⟨x :: L, rfl, by simpa using ⟨hx, hL⟩⟩
theorem slist_ofB {α : Type} {n : Nat} {t e : TypeId} {l : List DV} {enc : α -> List DV} {p : α -> Prop} (hu : Tryz.prog.underlying t = some (.slice e)) (h : TyLB Tryz.prog (n + 1) t l) (he : ∀ el, TyLB Tryz.prog n e el -> ∃ x, el = enc x /\ p x) :
  ∃ L : List α, l = [.sl (L.map enc)] /\ L.length <= reachBytes /\ ∀ x ∈ L, p x := by
 obtain ⟨els, rfl, hl, hel⟩ := slice_ofB hu h
 obtain ⟨L, rfl, hL⟩ := list_ofB (enc := enc) (p := p) els fun el h => he el (hel el h)
 exact ⟨L, rfl, by simpa using hl, hL⟩
theorem inter_ofB {n : Nat} {l : List DV} (h : TyLB Tryz.prog (n + 2) 47 l) : ∃ x : Inter, l = encI x := by
 unfold TyLB at h
 rw [Tryz.underlying47] at h
 simp only [TyFB] at h
 obtain ⟨l1, l2, rfl, h1, l3, l4, rfl, h2, l5, l6, rfl, h3, rfl⟩ := h
 obtain ⟨a, rfl, _⟩ := int_ofB Tryz.underlying3 h1
 obtain ⟨b, rfl, _⟩ := int_ofB Tryz.underlying3 h2
 obtain ⟨c, rfl, _⟩ := int_ofB Tryz.underlying3 h3
 exact ⟨⟨a, b, c⟩, rfl⟩
theorem role_ofB {n : Nat} {l : List DV} (h : TyLB Tryz.prog (n + 1) 9 l) : ∃ x : ByteArray, l = encS x := by
 obtain ⟨s, rfl, _⟩ := str_ofB Tryz.underlying9 h
 exact ⟨s, rfl⟩
theorem fld_ofB {n : Nat} {l : List DV} (h : TyLB Tryz.prog (n + 3) 134 l) : ∃ x : Fld, l = encF x := by
 unfold TyLB at h
 rw [Tryz.underlying134] at h
 simp only [TyFB] at h
 obtain ⟨l1, l2, rfl, h1, l3, l4, rfl, h2, rfl⟩ := h
 obtain ⟨a, rfl, _⟩ := str_ofB Tryz.underlying9 h1
 unfold TyLB at h2
 rw [Tryz.underlying132] at h2
 simp only [TyFB] at h2
 obtain ⟨l5, l6, rfl, h3, l7, l8, rfl, h4, l9, l10, rfl, h5, rfl⟩ := h2
 obtain ⟨b, rfl, _⟩ := int_ofB Tryz.underlying3 h3
 obtain ⟨c, rfl, _⟩ := int_ofB Tryz.underlying3 h4
 obtain ⟨d, rfl, _⟩ := int_ofB Tryz.underlying3 h5
 exact ⟨⟨a, b, c, d⟩, rfl⟩
theorem dff_ofB {n : Nat} {l : List DV} (h : TyLB Tryz.prog (n + 2) 154 l) : ∃ x : Dff, l = encDf x := by
 unfold TyLB at h
 rw [Tryz.underlying154] at h
 simp only [TyFB] at h
 obtain ⟨l1, l2, rfl, h1, l3, l4, rfl, h2, l5, l6, rfl, h3, rfl⟩ := h
 obtain ⟨a, rfl, _⟩ := int_ofB Tryz.underlying3 h1
 obtain ⟨b, rfl, _⟩ := int_ofB Tryz.underlying3 h2
 obtain ⟨c, rfl, _⟩ := int_ofB Tryz.underlying3 h3
 exact ⟨⟨a, b, c⟩, rfl⟩
theorem eq_ofB {n : Nat} {l : List DV} (h : TyLB Tryz.prog (n + 2) 155 l) : ∃ x : Int × Int, l = encEq x := by
 unfold TyLB at h
 rw [Tryz.underlying155] at h
 obtain ⟨els, rfl, hl, hel⟩ := h
 match els, hl, hel with
 | [x, y], _, hel =>
   obtain ⟨a, rfl, _⟩ := int_ofB Tryz.underlying3 (hel x (by simp))
   obtain ⟨b, rfl, _⟩ := int_ofB Tryz.underlying3 (hel y (by simp))
   exact ⟨(a, b), rfl⟩
def DclB (d : Dcl) : Prop := d.name.size <= 1000000000000000 /\ d.fields.length <= 1000000000000000 /\ d.diffs.length <= 1000000000000000 /\ d.equals.length <= 1000000000000000
theorem reach_small {n : Nat} (h : n <= reachBytes) : n <= 1000000000000000 := Nat.le_trans h (by decide)
theorem dcl_ofB {n : Nat} {l : List DV} (h : TyLB Tryz.prog (n + 5) 61 l) : ∃ x : Dcl, l = encD x /\ DclB x := by
 unfold TyLB at h
 rw [Tryz.underlying61] at h
 simp only [TyFB] at h
 obtain ⟨l1, l2, rfl, h1, l3, l4, rfl, h2, l5, l6, rfl, h3, l7, l8, rfl, h4, rfl⟩ := h
 obtain ⟨a, rfl, ha⟩ := str_ofB Tryz.underlying9 h1
 obtain ⟨F, rfl, hF, _⟩ := slist_ofB (enc := encF) (p := fun _ => True) Tryz.underlying55 h2 fun el h => (fld_ofB h).imp fun x hx => ⟨hx, trivial⟩
 obtain ⟨b, rfl, _⟩ := int_ofB Tryz.underlying3 h3
 unfold TyLB at h4
 rw [Tryz.underlying59] at h4
 simp only [TyFB] at h4
 obtain ⟨l9, l10, rfl, h5, l11, l12, rfl, h6, rfl⟩ := h4
 obtain ⟨D, rfl, hD, _⟩ := slist_ofB (enc := encDf) (p := fun _ => True) Tryz.underlying56 h5 fun el h => (dff_ofB h).imp fun x hx => ⟨hx, trivial⟩
 obtain ⟨E, rfl, hE, _⟩ := slist_ofB (enc := encEq) (p := fun _ => True) Tryz.underlying57 h6 fun el h => (eq_ofB h).imp fun x hx => ⟨hx, trivial⟩
 exact ⟨⟨a, F, b, D, E⟩, rfl, reach_small ha, reach_small hF, reach_small hD, reach_small hE⟩
theorem edg_ofB {n : Nat} {l : List DV} (h : TyLB Tryz.prog (n + 3) 49 l) : ∃ x : Edg, l = encEd x := by
 unfold TyLB at h
 rw [Tryz.underlying49] at h
 simp only [TyFB] at h
 obtain ⟨l1, l2, rfl, h1, l3, l4, rfl, h2, l5, l6, rfl, h3, l7, l8, rfl, h4, rfl⟩ := h
 obtain ⟨a, rfl, _⟩ := int_ofB Tryz.underlying3 h1
 obtain ⟨x, rfl⟩ := inter_ofB h2
 obtain ⟨b, rfl, _⟩ := int_ofB Tryz.underlying3 h3
 obtain ⟨c, rfl⟩ := bool_ofB Tryz.underlying4 h4
 exact ⟨⟨a, x, b, c⟩, rfl⟩
theorem tmo_ofB {n : Nat} {l : List DV} (h : TyLB Tryz.prog (n + 2) 142 l) : ∃ x : Tmo, l = encT x := by
 unfold TyLB at h
 rw [Tryz.underlying142] at h
 simp only [TyFB] at h
 obtain ⟨l1, l2, rfl, h1, l3, l4, rfl, h2, l5, l6, rfl, h3, rfl⟩ := h
 obtain ⟨a, rfl, _⟩ := int_ofB Tryz.underlying3 h1
 obtain ⟨b, rfl, _⟩ := int_ofB Tryz.underlying3 h2
 obtain ⟨c, rfl, _⟩ := int_ofB Tryz.underlying3 h3
 exact ⟨⟨a, b, c⟩, rfl⟩
structure GlobB (g : Glob) : Prop where
 decls : g.decls.length <= 1000000000000000
 decl : ∀ d ∈ g.decls, DclB d
 roles : g.roles.length <= 1000000000000000
 edges : g.edges.length <= 1000000000000000
 timeouts : g.timeouts.length <= 1000000000000000
theorem glob_ofB {n : Nat} {l : List DV} (h : TyLB Tryz.prog (n + 7) 27 l) : ∃ x : Glob, l = encG x /\ GlobB x := by
 unfold TyLB at h
 rw [Tryz.underlying27] at h
 simp only [TyFB] at h
 obtain ⟨l1, l2, rfl, h1, l3, l4, rfl, h2, l5, l6, rfl, h3, l7, l8, rfl, h4, l9, l10, rfl, h5, l11, l12, rfl, h6, l13, l14, rfl, h7, l15, l16, rfl, h8, rfl⟩ := h
 obtain ⟨a, rfl, _⟩ := str_ofB Tryz.underlying9 h1
 obtain ⟨R, rfl, hR, _⟩ := slist_ofB (enc := encS) (p := fun _ => True) Tryz.underlying22 h2 fun el h => (role_ofB h).imp fun x hx => ⟨hx, trivial⟩
 obtain ⟨D, rfl, hD, hD'⟩ := slist_ofB (enc := encD) (p := DclB) Tryz.underlying23 h3 fun el h => dcl_ofB h
 obtain ⟨b, rfl, _⟩ := int_ofB Tryz.underlying3 h4
 obtain ⟨c, rfl, _⟩ := int_ofB Tryz.underlying3 h5
 obtain ⟨d, rfl, _⟩ := int_ofB Tryz.underlying3 h6
 obtain ⟨E, rfl, hE, _⟩ := slist_ofB (enc := encEd) (p := fun _ => True) Tryz.underlying24 h7 fun el h => (edg_ofB h).imp fun x hx => ⟨hx, trivial⟩
 obtain ⟨T, rfl, hT, _⟩ := slist_ofB (enc := encT) (p := fun _ => True) Tryz.underlying25 h8 fun el h => (tmo_ofB h).imp fun x hx => ⟨hx, trivial⟩
 exact ⟨⟨a, R, D, b, c, d, E, T⟩, rfl, reach_small hD, hD', reach_small hR, reach_small hE, reach_small hT⟩
end Go.Proofs.YticeobjphcmggaaGreatDoor
namespace Go.Av
open Go Go.RowKit Go.Proofs
set_option maxHeartbeats 64000000
theorem f137 (all : List Fld) (d : Dcl) (hl : all.length <= 1000000000) : Impl Tryz.prog 137 [.ag [.sl (d.diffs.map encDf), .sl (d.equals.map encEq)], .one (.sl (all.map encF))] (.one (.one (.bool (okGuard all d)))) := by
 refine impl_v ?_
 by_cases hd : d.diffs.length <= 20
 ·have hd' : ¬ (20 : Int) < (d.diffs.length : Int) := by omega
  by_cases he : d.equals.length <= 20
  ·have he' : ¬ (20 : Int) < (d.equals.length : Int) := by omega
   refine wX (aN hd' he') ?_
   refine z_k (fun n e => ∃ k : Nat, k + n = d.diffs.length /\ (d.diffs.take k).all (okDff all.length) = true /\ e = [(24, .sv (.one (.int .i64 k))), (23, .sv (.one (.int .i64 d.diffs.length))), (22, .sv (.one (.sl (d.diffs.map encDf)))), (2, .sv (.one (.bx [.sl (d.diffs.map encDf), .sl (d.equals.map encEq)]))), (1, .sv (.one (.sl (all.map encF))))]) d.diffs.length _ ⟨0, by simp, by simp, rfl⟩ (by simp [go_sem]) ?_
   rintro n e ⟨k, hk, hall, rfl⟩
   by_cases hlt : k < d.diffs.length
   ·skip
    repeat' first | refine St.go ?_ | ((with_reducible refine cn ?_ ?_) <;> intro h <;> (try simp at h) <;> try omega) | (refine Ru.go ?_; intro K hK; simp [go_sem, hlt, encDf]; (try simp (disch := omega) only [wx, z_i]); (first | apply hK | refine ⟨by first | omega | (simp [z_f, z_g, hlt, encDf]; first | done | omega), ?_⟩ | refine ⟨hK _ ?_, fun h => ?_⟩ | refine ⟨?_, ?_⟩); all_goals ((try apply hK); clear hK K))
    ·have hb : okDff all.length d.diffs[k] = false := by
      cases hb : okDff all.length d.diffs[k] with
      | false => rfl
      | true =>
        simp only [okDff, Bool.and_eq_true, decide_eq_true_eq] at hb
        omega
     have hf : okGuard all d = false := by simp [okGuard, all_no hlt hb]
     simp [go_sem, hf]
    ·have hb : okDff all.length d.diffs[k] = true := by
      simp only [okDff, Bool.and_eq_true, decide_eq_true_eq]
      omega
     refine z_j (n - 1) _ (by omega) ⟨k + 1, by omega, ?_, rfl⟩ ?_
     ·rw [all_succ hlt, hall, hb]; rfl
     ·simp [go_sem]
   ·have hkl : d.diffs.take k = d.diffs := List.take_of_length_le (by omega)
    rw [hkl] at hall
    refine wX hlt ?_
    refine z_k (fun n e => ∃ k : Nat, k + n = d.equals.length /\ (d.equals.take k).all (fun e => isText all e.1 && isText all e.2) = true /\ e = [(58, .sv (.one (.int .i64 k))), (57, .sv (.one (.int .i64 d.equals.length))), (56, .sv (.one (.sl (d.equals.map encEq)))), (1, .sv (.one (.sl (all.map encF))))]) d.equals.length _ ⟨0, by simp, by simp, rfl⟩ (by simp [go_sem]) ?_
    rintro n e ⟨k, hk, hall2, rfl⟩
    by_cases hlt2 : k < d.equals.length
    ·have hbad : (isText all d.equals[k].1 && isText all d.equals[k].2) = false -> okGuard all d = false := by
      intro h
      have := all_no (p := fun e => isText all e.1 && isText all e.2) hlt2 h
      simp [okGuard, this]
     obtain ⟨y, hy⟩ : ∃ y, y = d.equals[k] := ⟨_, rfl⟩
     rw [<- hy] at hbad
     have hy' : d.equals[k] = y := hy.symm
     refine wX (aN hlt2 <| aN hy' encEq.eq_1) ?_
     refine z_k (fun q e => ∃ j : Nat, j + q = 2 /\ ((j = 0 \/ isText all y.1 = true) /\ (j <= 1 \/ isText all y.2 = true)) /\ e = [(63, .sv (.one (.int .i64 j))), (62, .sv (.ag (encEq y))), (58, .sv (.one (.int .i64 k))), (57, .sv (.one (.int .i64 d.equals.length))), (56, .sv (.one (.sl (d.equals.map encEq)))), (1, .sv (.one (.sl (all.map encF))))]) 2 _ ⟨0, rfl, by simp, rfl⟩ (by simp [go_sem, encEq]) ?_
     rintro q e ⟨j, hj, htx, rfl⟩
     have hj3 : j = 0 \/ j = 1 \/ j = 2 := by omega
     rcases hj3 with rfl | rfl | rfl
     ·by_cases hx0 : y.1 < 0
      ·have hit : isText all (y.1) = false := by simp [isText, show ¬ 0 <= y.1 by omega]
       have hf : okGuard all d = false := hbad (by simp [hit])
       cases hq : all[(y.1).toNat]? with
       | none =>
         refine wX (aN hx0 <| aN hq encEq.eq_1) ?_
         simp [go_sem, hf]
       | some f =>
         refine wX (aN hx0 <| aN hq <| aN encEq.eq_1 encF.eq_1) ?_
         simp [go_sem, hf]
      ·by_cases hxn : y.1 < all.length
       ·have hlt3 : (y.1).toNat < all.length := by omega
        have hq : all[(y.1).toNat]? = some all[(y.1).toNat] := List.getElem?_eq_getElem hlt3
        by_cases hk2 : all[(y.1).toNat].kind = 2
        ·have hit : isText all (y.1) = true := by simp [isText, show 0 <= y.1 by omega, hxn, hlt3, hk2]
         have hxn' : ¬ (all.length : Int) <= y.1 := by omega
         refine wX (aN hx0 <| aN hxn' <| aN hlt3 <| aN hk2 <| aN encEq.eq_1 encF.eq_1) ?_
         refine z_j (q - 1) _ (by omega) ⟨0 + 1, by omega, by simp [hit], rfl⟩ ?_
         simp [go_sem, encEq]
        ·have hit : isText all (y.1) = false := by simp [isText, hlt3, hk2]
         have hf : okGuard all d = false := hbad (by simp [hit])
         have hxn' : ¬ (all.length : Int) <= y.1 := by omega
         repeat' first | refine St.go ?_ | ((with_reducible refine cn ?_ ?_) <;> intro h <;> (try simp at h) <;> try omega) | (refine Ru.go ?_; intro K hK; simp [go_sem, hx0, hxn', hlt3, hk2, encEq, encF]; (try simp (disch := omega) only [wx, z_i]); (first | apply hK | refine ⟨by first | omega | (simp [z_f, z_g, hx0, hxn', hlt3, hk2, encEq, encF]; first | done | omega), ?_⟩ | refine ⟨hK _ ?_, fun h => ?_⟩ | refine ⟨?_, ?_⟩); all_goals ((try apply hK); clear hK K))
         simp [go_sem, hf]
       ·have hit : isText all (y.1) = false := by simp [isText, hxn]
        have hf : okGuard all d = false := hbad (by simp [hit])
        have hxn' : (all.length : Int) <= y.1 := by omega
        have hq : all[(y.1).toNat]? = none := List.getElem?_eq_none (by omega)
        refine wX (aN hx0 <| aN hxn' <| aN hq encEq.eq_1) ?_
        simp [go_sem, hf]
     ·by_cases hx0 : y.2 < 0
      ·have hit : isText all (y.2) = false := by simp [isText, show ¬ 0 <= y.2 by omega]
       have hf : okGuard all d = false := hbad (by simp [hit])
       cases hq : all[(y.2).toNat]? with
       | none =>
         refine wX (aN hx0 <| aN hq encEq.eq_1) ?_
         simp [go_sem, hf]
       | some f =>
         refine wX (aN hx0 <| aN hq <| aN encEq.eq_1 encF.eq_1) ?_
         simp [go_sem, hf]
      ·by_cases hxn : y.2 < all.length
       ·have hlt3 : (y.2).toNat < all.length := by omega
        have hq : all[(y.2).toNat]? = some all[(y.2).toNat] := List.getElem?_eq_getElem hlt3
        by_cases hk2 : all[(y.2).toNat].kind = 2
        ·have hit : isText all (y.2) = true := by simp [isText, show 0 <= y.2 by omega, hxn, hlt3, hk2]
         have hxn' : ¬ (all.length : Int) <= y.2 := by omega
         refine wX (aN hx0 <| aN hxn' <| aN hlt3 <| aN hk2 <| aN encEq.eq_1 encF.eq_1) ?_
         refine z_j (q - 1) _ (by omega) ⟨1 + 1, by omega, by simp only [hit, Bool.and_true] at htx ⊢; simpa using htx, rfl⟩ ?_
         simp [go_sem, encEq]
        ·have hit : isText all (y.2) = false := by simp [isText, hlt3, hk2]
         have hf : okGuard all d = false := hbad (by simp [hit])
         have hxn' : ¬ (all.length : Int) <= y.2 := by omega
         repeat' first | refine St.go ?_ | ((with_reducible refine cn ?_ ?_) <;> intro h <;> (try simp at h) <;> try omega) | (refine Ru.go ?_; intro K hK; simp [go_sem, hx0, hxn', hlt3, hk2, encEq, encF]; (try simp (disch := omega) only [wx, z_i]); (first | apply hK | refine ⟨by first | omega | (simp [z_f, z_g, hx0, hxn', hlt3, hk2, encEq, encF]; first | done | omega), ?_⟩ | refine ⟨hK _ ?_, fun h => ?_⟩ | refine ⟨?_, ?_⟩); all_goals ((try apply hK); clear hK K))
         simp [go_sem, hf]
       ·have hit : isText all (y.2) = false := by simp [isText, hxn]
        have hf : okGuard all d = false := hbad (by simp [hit])
        have hxn' : (all.length : Int) <= y.2 := by omega
        have hq : all[(y.2).toNat]? = none := List.getElem?_eq_none (by omega)
        refine wX (aN hx0 <| aN hxn' <| aN hq encEq.eq_1) ?_
        simp [go_sem, hf]
     ·have ht1 : isText all y.1 = true := by simpa using htx.1
      have ht2 : isText all y.2 = true := by simpa using htx.2
      refine wN ?_
      refine z_j (n - 1) _ (by omega) ⟨k + 1, by omega, ?_, rfl⟩ ?_
      ·rw [all_succ hlt2, hall2, <- hy, ht1, ht2]; rfl
      ·simp [go_sem]
    ·have hkl2 : d.equals.take k = d.equals := List.take_of_length_le (by omega)
     rw [hkl2] at hall2
     refine wX hlt2 ?_
     simp [go_sem, okGuard, hd, he, hall, hall2]
  ·have he' : (20 : Int) < (d.equals.length : Int) := by omega
   refine wX (aN hd' he') ?_
   simp [go_sem, okGuard, he]
 ·have hd' : (20 : Int) < (d.diffs.length : Int) := by omega
  refine wX hd' ?_
  simp [go_sem, okGuard, hd]
set_option maxHeartbeats 64000000
theorem allF_le {B : Nat} : ∀ (m : List Dcl), (∀ d ∈ m, d.fields.length <= B) -> (allF m).length <= m.length * B
 | [], _ => by simp [allF]
 | d :: m, h => by
   have h1 := allF_le m fun x hx => h x (by simp [hx])
   have h2 := h d (by simp)
   simp only [allF, List.flatMap_cons, List.length_append, List.length_cons, Nat.succ_mul] at h1 ⊢
   omega
theorem allF_take_le {B k : Nat} {l : List Dcl} (hf : ∀ d ∈ l, d.fields.length <= B) : (allF (l.take k)).length <= k * B :=
 Nat.le_trans (allF_le _ fun d hd => hf d (List.mem_of_mem_take hd)) (Nat.mul_le_mul_right _ (List.length_take_le _ _))
theorem allF_succ {l : List Dcl} {k : Nat} (hlt : k < l.length) : allF (l.take (k + 1)) = allF (l.take k) ++ l[k].fields := by
 unfold allF
 rw [List.take_succ_eq_append_getElem hlt, List.flatMap_append]
 simp
theorem allF_split (l : List Dcl) (k : Nat) : allF l = allF (l.take k) ++ allF (l.drop k) := by
 unfold allF
 rw [<- List.flatMap_append, List.take_append_drop]
theorem allF_at {l : List Dcl} {k y : Nat} (hlt : k < l.length) (hy : y < l[k].fields.length) : (allF l)[(allF (l.take k)).length + y]? = some l[k].fields[y] := by
 rw [allF_split l (k + 1), allF_succ hlt, List.append_assoc, List.getElem?_append_right (by omega)]
 rw [List.getElem?_append_left (by omega)]
 have : (allF (l.take k)).length + y - (allF (l.take k)).length = y := by omega
 rw [this, List.getElem?_eq_getElem hy]
theorem f128 (k lo hi : Int) (nm : ByteArray) : Impl Tryz.prog 128 [.ag [.int .i64 k, .int .i64 lo, .int .i64 hi]] (.one (.one (.bool (goodSort ⟨nm, k, lo, hi⟩)))) := by
 refine impl_v ?_
 by_cases h1 : k = 1
 ·refine wX h1 ?_
  simp [go_sem, goodSort, h1]
  rw [Bool.eq_iff_iff]
  simp
  omega
 ·by_cases h2 : k = 2
  ·refine wX (aN h1 h2) ?_
   simp [go_sem, goodSort, h1, h2]
   rw [Bool.eq_iff_iff]
   simp
   omega
  ·refine wX (aN h1 h2) ?_
   simp [go_sem, goodSort, h1, h2]
theorem f93 (l : List Dcl) (hl : l.length <= 1000) (hf : ∀ d ∈ l, d.fields.length <= 100000) : Impl Tryz.prog 93 [.one (.sl (l.map encD))] (.one (.one (.int .i64 ((allF l).length : Nat)))) := by
 refine impl_v ?_
 refine wN ?_
 refine z_k (fun n e => ∃ k : Nat, k + n = l.length /\ e = [(4, .sv (.one (.int .i64 k))), (3, .sv (.one (.int .i64 ((allF (l.take k)).length : Nat)))), (0, .sv (.one (.sl (l.map encD))))]) l.length _ ⟨0, by simp, rfl⟩ (by simp [go_sem, allF]) ?_
 rintro n e ⟨k, hk, rfl⟩
 by_cases hlt : k < l.length
 ·have hfk := hf l[k] (List.getElem_mem hlt)
  have hall := allF_take_le (k := k) hf
  repeat' first | refine St.go ?_ | ((with_reducible refine cn ?_ ?_) <;> intro h <;> (try simp at h) <;> try omega) | (refine Ru.go ?_; intro K hK; simp [go_sem, hlt, encD]; (try simp (disch := omega) only [wx, z_i]); (first | apply hK | refine ⟨by first | omega | (simp [z_f, z_g, hlt, encD]; first | done | omega), ?_⟩ | refine ⟨hK _ ?_, fun h => ?_⟩ | refine ⟨?_, ?_⟩); all_goals ((try apply hK); clear hK K))
  refine z_j (n - 1) _ (by omega) ⟨k + 1, by omega, rfl⟩ ?_
  simp [go_sem, allF_succ hlt]
 ·have hkl : l.take k = l := List.take_of_length_le (by omega)
  refine wX (aN hlt hkl) ?_
  simp [go_sem]
theorem f118 (l : List Dcl) (x : Nat) (hl : l.length <= 1000) (hf : ∀ d ∈ l, d.fields.length <= 100000) (hx : x < (allF l).length) : Impl Tryz.prog 118 [.one (.sl (l.map encD)), .one (.int .i64 x)] (.one (.ag (encF (allF l)[x]))) := by
 refine impl_v ?_
 have hxl := allF_le l hf
 refine wN ?_
 refine z_k (fun n e => ∃ k y : Nat, k + n = l.length /\ (allF (l.take k)).length + y = x /\ e = [(5, .sv (.one (.int .i64 k))), (1, .sv (.one (.int .i64 y))), (4, .sv (.one (.bx [.str ⟨#[]⟩, .int .i64 0, .int .i64 0, .int .i64 0]))), (0, .sv (.one (.sl (l.map encD))))]) l.length _ ⟨0, x, by simp, by simp [allF], rfl⟩ (by simp [go_sem]) ?_
 rintro n e ⟨k, y, hk, hy, rfl⟩
 by_cases hlt : k < l.length
 ·have hfk := hf l[k] (List.getElem_mem hlt)
  by_cases hyl : y < l[k].fields.length
  ·have hat := allF_at hlt hyl
   rw [hy, List.getElem?_eq_getElem hx] at hat
   injection hat with hat
   repeat' first | refine St.go ?_ | ((with_reducible refine cn ?_ ?_) <;> intro h <;> (try simp at h) <;> try omega) | (refine Ru.go ?_; intro K hK; simp [go_sem, hlt, hyl, encD, encF]; (try simp (disch := omega) only [wx, z_i]); (first | apply hK | refine ⟨by first | omega | (simp [z_f, z_g, hlt, hyl, encD, encF]; first | done | omega), ?_⟩ | refine ⟨hK _ ?_, fun h => ?_⟩ | refine ⟨?_, ?_⟩); all_goals ((try apply hK); clear hK K))
   simp [go_sem, hat, encF]
  ·have hs := congrArg List.length (allF_succ hlt)
   rw [List.length_append] at hs
   repeat' first | refine St.go ?_ | ((with_reducible refine cn ?_ ?_) <;> intro h <;> (try simp at h) <;> try omega) | (refine Ru.go ?_; intro K hK; simp [go_sem, hlt, hyl, encD]; (try simp (disch := omega) only [wx, z_i]); (first | apply hK | refine ⟨by first | omega | (simp [z_f, z_g, hlt, hyl, encD]; first | done | omega), ?_⟩ | refine ⟨hK _ ?_, fun h => ?_⟩ | refine ⟨?_, ?_⟩); all_goals ((try apply hK); clear hK K))
   refine z_j (n - 1) _ (by omega) ⟨k + 1, y - l[k].fields.length, by omega, by omega, rfl⟩ ?_
   simp [go_sem]
   omega
 ·have hkl : l.take k = l := List.take_of_length_le (by omega)
  rw [hkl] at hy
  omega
theorem f148 (l : List Dcl) (x : Int) (hl : l.length <= 1000) (hf : ∀ d ∈ l, d.fields.length <= 100000) : Impl Tryz.prog 148 [.one (.sl (l.map encD)), .one (.int .i64 x)] (.one (.one (.bool (isText (allF l) x)))) := by
 refine impl_v ?_
 have f93s := f93 l hl hf
 by_cases h0 : 0 <= x
 ·by_cases hxn : x < (allF l).length
  ·have hlt : x.toNat < (allF l).length := by omega
   have f118s := f118 l x.toNat hl hf hlt
   have e0 : ((x.toNat : Nat) : Int) = x := by omega
   rw [e0] at f118s
   obtain ⟨F, hF⟩ : ∃ F, (allF l)[x.toNat] = F := ⟨_, rfl⟩
   rw [hF] at f118s
   simp only [encF] at f118s
   have hit : isText (allF l) x = (F.kind == 2) := by
    simp only [isText, h0, hxn, List.getElem?_eq_getElem hlt, hF, decide_true, Bool.true_and]
    rw [Bool.eq_iff_iff]
    simp
   refine wV (aN h0 hxn) (aN f93s f118s) ?_
   simp [go_sem, hit]
  ·refine wV (aN h0 hxn) f93s ?_
   simp [go_sem, isText, hxn]
 ·refine wX h0 ?_
  simp [go_sem, isText, h0]
theorem f130 (l : List Dcl) (d : Dcl) (hl : l.length <= 1000) (hf : ∀ d ∈ l, d.fields.length <= 100000) (hdl : d.diffs.length <= 1000000) (hel : d.equals.length <= 1000000) : Impl Tryz.prog 130 [.one (.sl (l.map encD)), .ag [.sl (d.diffs.map encDf), .sl (d.equals.map encEq)]] (.one (.one (.bool (okGuard (allF l) d)))) := by
 refine impl_v ?_
 have f93s := f93 l hl hf
 obtain ⟨all, hA⟩ : ∃ all, all = allF l := ⟨_, rfl⟩
 have hal : all.length <= 1000000000 := by
  have := allF_le l hf
  rw [hA]
  have h2 : l.length * 100000 <= 1000 * 100000 := Nat.mul_le_mul_right _ hl
  omega
 have f148s : ∀ x : Int, Impl Tryz.prog 148 [.one (.sl (l.map encD)), .one (.int .i64 x)] (.one (.one (.bool (isText all x)))) := fun x => by rw [hA]; exact f148 l x hl hf
 rw [<- hA] at f93s ⊢
 refine wC f93s ?_
 refine z_k (fun n e => ∃ k : Nat, k + n = d.diffs.length /\ (d.diffs.take k).all (okDff all.length) = true /\ e = [(6, .sv (.one (.int .i64 k))), (5, .sv (.one (.int .i64 all.length))), (3, .sv (.one (.bx [.sl (d.diffs.map encDf), .sl (d.equals.map encEq)]))), (0, .sv (.one (.sl (l.map encD))))]) d.diffs.length _ ⟨0, by simp, by simp, rfl⟩ (by simp [go_sem]) ?_
 rintro n e ⟨k, hk, hall, rfl⟩
 by_cases hlt : k < d.diffs.length
 ·skip
  repeat' first | refine St.go ?_ | ((with_reducible refine cn ?_ ?_) <;> intro h <;> (try simp at h) <;> try omega) | (refine Ru.go ?_; intro K hK; simp [go_sem, hlt, encDf]; (try simp (disch := omega) only [wx, z_i]); (first | apply hK | refine ⟨by first | omega | (simp [z_f, z_g, hlt, encDf]; first | done | omega), ?_⟩ | refine ⟨hK _ ?_, fun h => ?_⟩ | refine ⟨?_, ?_⟩); all_goals ((try apply hK); clear hK K))
  ·have hb : okDff all.length d.diffs[k] = false := by
    cases hb : okDff all.length d.diffs[k] with
    | false => rfl
    | true =>
      simp only [okDff, Bool.and_eq_true, decide_eq_true_eq] at hb
      omega
   have hg : okGuard all d = false := by simp [okGuard, all_no hlt hb]
   simp [go_sem, hg]
  ·have hb : okDff all.length d.diffs[k] = true := by
    simp only [okDff, Bool.and_eq_true, decide_eq_true_eq]
    omega
   refine z_j (n - 1) _ (by omega) ⟨k + 1, by omega, ?_, rfl⟩ ?_
   ·rw [all_succ hlt, hall, hb]; rfl
   ·simp [go_sem]
 ·have hkl : d.diffs.take k = d.diffs := List.take_of_length_le (by omega)
  rw [hkl] at hall
  refine wX hlt ?_
  refine z_k (fun n e => ∃ k : Nat, k + n = d.equals.length /\ (d.equals.take k).all (fun e => isText all e.1 && isText all e.2) = true /\ e = [(8, .sv (.one (.int .i64 k))), (3, .sv (.one (.bx [.sl (d.diffs.map encDf), .sl (d.equals.map encEq)]))), (0, .sv (.one (.sl (l.map encD))))]) d.equals.length _ ⟨0, by simp, by simp, rfl⟩ (by simp [go_sem]) ?_
  rintro n e ⟨k, hk, hall2, rfl⟩
  by_cases hlt2 : k < d.equals.length
  ·have hbad : (isText all d.equals[k].1 && isText all d.equals[k].2) = false -> okGuard all d = false := by
    intro h
    have := all_no (p := fun e => isText all e.1 && isText all e.2) hlt2 h
    simp [okGuard, this]
   have c1 := f148s d.equals[k].1
   have c2 := f148s d.equals[k].2
   cases ht1 : isText all d.equals[k].1 with
   | false =>
     have hg := hbad (by simp [ht1])
     rw [ht1] at c1
     refine wV (aN hlt2 encEq.eq_1) c1 ?_
     simp [go_sem, hg]
   | true =>
     cases ht2 : isText all d.equals[k].2 with
     | false =>
       have hg := hbad (by simp [ht2])
       rw [ht1] at c1
       rw [ht2] at c2
       refine wV (aN hlt2 encEq.eq_1) (aN c1 c2) ?_
       simp [go_sem, hg]
     | true =>
       rw [ht1] at c1
       rw [ht2] at c2
       refine wV (aN hlt2 encEq.eq_1) (aN c1 c2) ?_
       refine z_j (n - 1) _ (by omega) ⟨k + 1, by omega, ?_, rfl⟩ ?_
       ·rw [all_succ hlt2, hall2, ht1, ht2]; rfl
       ·simp [go_sem]
  ·have hkl2 : d.equals.take k = d.equals := List.take_of_length_le (by omega)
   rw [hkl2] at hall2
   refine wX hlt2 ?_
   simp [go_sem, okGuard, hall, hall2]
   rw [Bool.eq_iff_iff]
   simp
   omega
set_option maxHeartbeats 64000000
theorem f152 (l : List Dcl) (g : FuncId) (caps : List DV) (p : Dcl -> Bool) (hl : l.length <= 1000000) (hg : ∀ x ∈ l, Impl Tryz.prog g (.ag (encD x) :: caps.map .one) (.one (.one (.bool (p x))))) :
  Impl Tryz.prog 152 [.one (.sl (l.map encD)), .one (.fn g caps)] (.one (.one (.int .i64 (firstB p l)))) := by
 refine impl_v ?_
 refine wN ?_
 refine z_k (fun n e => ∃ k : Nat, k + n = l.length /\ (l.take k).any p = false /\ e = [(8, .sv (.one (.int .i64 k))), (7, .sv (.one (.int .i64 l.length))), (1, .sv (.one (.fn g caps))), (0, .sv (.one (.sl (l.map encD))))]) l.length _ ⟨0, by simp, by simp, rfl⟩ (by simp [go_sem]) ?_
 rintro n e ⟨k, hk, h0, rfl⟩
 by_cases hlt : k < l.length
 ·have hgs := hg l[k] (List.getElem_mem hlt)
  simp only [encD] at hgs
  cases hx : p l[k] with
  | true =>
    have hf := firstB_at hlt h0 hx
    rw [hx] at hgs
    refine wV (aN hlt encD.eq_1) hgs ?_
    simp [go_sem, hf]
  | false =>
    rw [hx] at hgs
    refine wV (aN hlt encD.eq_1) hgs ?_
    refine z_j (n - 1) _ (by omega) ⟨k + 1, by omega, ?_, rfl⟩ ?_
    ·rw [any_succ hlt, h0, hx]; rfl
    ·simp [go_sem]
 ·have hkl : l.take k = l := List.take_of_length_le (by omega)
  rw [hkl] at h0
  have hf := firstB_none h0
  refine wX hlt ?_
  simp [go_sem, hf]
theorem f132 (l : List Dcl) (g : FuncId) (caps : List DV) (p : Dcl -> Bool) (hl : l.length <= 1000000) (hg : ∀ x ∈ l, Impl Tryz.prog g (.ag (encD x) :: caps.map .one) (.one (.one (.bool (p x))))) :
  Impl Tryz.prog 132 [.one (.sl (l.map encD)), .one (.fn g caps)] (.one (.one (.bool (l.any p)))) := by
 refine impl_v ?_
 have hf := firstB_any p l
 refine wC (f152 l g caps p hl hg) ?_
 simp [go_sem, hf]
theorem f133 (x d : Dcl) : Impl Tryz.prog 133 [.ag (encD x), .one (.rf (encD d))] (.one (.one (.bool (x.name == d.name)))) := by
 refine impl_v ?_
 refine wX encD.eq_1 ?_
 simp [go_sem]
theorem f153 (l : List Fld) (g : FuncId) (caps : List DV) (p : Fld -> Bool) (hl : l.length <= 1000000) (hg : ∀ x ∈ l, Impl Tryz.prog g (.ag (encF x) :: caps.map .one) (.one (.one (.bool (p x))))) :
  Impl Tryz.prog 153 [.one (.sl (l.map encF)), .one (.fn g caps)] (.one (.one (.int .i64 (firstB p l)))) := by
 refine impl_v ?_
 refine wN ?_
 refine z_k (fun n e => ∃ k : Nat, k + n = l.length /\ (l.take k).any p = false /\ e = [(8, .sv (.one (.int .i64 k))), (7, .sv (.one (.int .i64 l.length))), (1, .sv (.one (.fn g caps))), (0, .sv (.one (.sl (l.map encF))))]) l.length _ ⟨0, by simp, by simp, rfl⟩ (by simp [go_sem]) ?_
 rintro n e ⟨k, hk, h0, rfl⟩
 by_cases hlt : k < l.length
 ·have hgs := hg l[k] (List.getElem_mem hlt)
  simp only [encF] at hgs
  cases hx : p l[k] with
  | true =>
    have hf := firstB_at hlt h0 hx
    rw [hx] at hgs
    refine wV (aN hlt encF.eq_1) hgs ?_
    simp [go_sem, hf]
  | false =>
    rw [hx] at hgs
    refine wV (aN hlt encF.eq_1) hgs ?_
    refine z_j (n - 1) _ (by omega) ⟨k + 1, by omega, ?_, rfl⟩ ?_
    ·rw [any_succ hlt, h0, hx]; rfl
    ·simp [go_sem]
 ·have hkl : l.take k = l := List.take_of_length_le (by omega)
  rw [hkl] at h0
  have hf := firstB_none h0
  refine wX hlt ?_
  simp [go_sem, hf]
theorem f135 (l : List Fld) (g : FuncId) (caps : List DV) (p : Fld -> Bool) (hl : l.length <= 1000000) (hg : ∀ x ∈ l, Impl Tryz.prog g (.ag (encF x) :: caps.map .one) (.one (.one (.bool (p x))))) :
  Impl Tryz.prog 135 [.one (.sl (l.map encF)), .one (.fn g caps)] (.one (.one (.bool (l.any p)))) := by
 refine impl_v ?_
 have hf := firstB_any p l
 refine wC (f153 l g caps p hl hg) ?_
 simp [go_sem, hf]
theorem f136 (x d : Fld) : Impl Tryz.prog 136 [.ag (encF x), .one (.rf (encF d))] (.one (.one (.bool (x.name == d.name)))) := by
 refine impl_v ?_
 refine wX encF.eq_1 ?_
 simp [go_sem]
end Go.Av

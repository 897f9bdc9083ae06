/- Part of a proof. -/
import Derived.Test.YticeobjphcmggaaGreatDoorB00
import Derived.Test.YticeobjphcmggaaGreatDoorF4
import Derived.Test.YticeobjphcmggaaGreatDoorProg
import Derived.Lib.Strings
import Derived.Lib.Slices
import Derived.Lib.Walk
import Derived.Lib.Bytealg
set_option linter.unusedVariables false
set_option linter.unusedSimpArgs false
set_option maxHeartbeats 64000000
set_option maxRecDepth 8000
namespace Go.Av
open Go Go.RowKit Go.Proofs
theorem any_succ {α : Type} {p : α -> Bool} {l : List α} {k : Nat} (h : k < l.length) : (l.take (k + 1)).any p = ((l.take k).any p || p l[k]) := by
 rw [List.take_succ_eq_append_getElem h, List.any_append]
 simp
theorem any_yes {α : Type} {p : α -> Bool} {l : List α} {k : Nat} (h : k < l.length) (hb : p l[k] = true) : l.any p = true := by
 rw [List.any_eq_true]
 exact ⟨l[k], List.getElem_mem h, hb⟩
def firstB {α : Type} (p : α -> Bool) (l : List α) : Int := match l.findIdx? p with
 | some i => (i : Int)
 | none => -1
theorem firstB_at {α : Type} {p : α -> Bool} {l : List α} {k : Nat} (hk : k < l.length) (h0 : (l.take k).any p = false) (h1 : p l[k] = true) : firstB p l = k := by
 have : l.findIdx? p = some k := by
  rw [List.findIdx?_eq_some_iff_getElem]
  refine ⟨hk, h1, fun j hj => ?_⟩
  rw [List.any_eq_false] at h0
  have := h0 (l[j]'(by omega)) (List.mem_iff_getElem.2 ⟨j, by rw [List.length_take]; omega, by simp⟩)
  simpa using this
 simp [firstB, this]
theorem firstB_none {α : Type} {p : α -> Bool} {l : List α} (h : l.any p = false) : firstB p l = -1 := by
 have : l.findIdx? p = none := by
  rw [List.findIdx?_eq_none_iff]
  intro x hx
  rw [List.any_eq_false] at h
  simpa using h x hx
 simp [firstB, this]
theorem firstB_any {α : Type} (p : α -> Bool) (l : List α) : decide (0 <= firstB p l) = l.any p := by
 cases h : l.any p with
 | false => rw [firstB_none h]; rfl
 | true =>
   unfold firstB
   cases h2 : l.findIdx? p with
   | none =>
     rw [List.findIdx?_eq_none_iff] at h2
     rw [List.any_eq_true] at h
     obtain ⟨x, hx, hp⟩ := h
     rw [h2 x hx] at hp
     cases hp
   | some i => simp
theorem any_bytes (l : List ByteArray) (x : ByteArray) : l.any (fun y => x == y) = hasS l x := by
 unfold hasS
 congr 1
 funext y
 rw [bytes_eq, bytes_eq]
 by_cases h : x = y
 ·subst h; rfl
 ·rw [decide_eq_false h, decide_eq_false (fun e => h e.symm)]
theorem f120 (l : List ByteArray) (x : ByteArray) (hl : l.length <= 1000000) : Impl Tryz.prog 120 [.one (.sl (l.map encS)), .one (.str x)] (.one (.one (.int .i64 (firstB (fun y => x == y) l)))) := by
 refine impl_w Tryz.func120 z120 Tryz.ntmps120 (by simp) ?_
 simp only [slotsOf]
 conv => arg 2; reduce
 repeat' first | refine St.go ?_ | ((with_reducible refine cn ?_ ?_) <;> intro h <;> (try simp at h) <;> try omega) | (refine Ru.go ?_; intro K hK; simp [go_sem]; (try simp (disch := omega) only [wx, z_i]); (first | apply hK | refine ⟨ob, ?_⟩ | refine ⟨hK _ ?_, fun h => ?_⟩ | refine ⟨?_, ?_⟩); all_goals ((try apply hK); clear hK K))
 refine z_k (fun n e => ∃ k : Nat, k + n = l.length /\ (l.take k).any (fun y => x == y) = false /\ e = [(8, .sv (.one (.int .i64 k))), (7, .sv (.one (.int .i64 l.length))), (1, .sv (.one (.str x))), (0, .sv (.one (.sl (l.map encS))))]) l.length _ ⟨0, by simp, by simp, rfl⟩ (by simp [go_sem]) ?_
 rintro n e ⟨k, hk, h0, rfl⟩
 by_cases hlt : k < l.length
 ·cases hx : (x == l[k]) with
  | true =>
    have hf := firstB_at (p := fun y => x == y) hlt h0 hx
    repeat' first | refine St.go ?_ | ((with_reducible refine cn ?_ ?_) <;> intro h <;> (try simp [hlt, hx] at h) <;> try omega) | (refine Ru.go ?_; intro K hK; simp [go_sem, hlt, encS, hx]; (try simp (disch := omega) only [wx, z_i]); (first | apply hK | refine ⟨ob, ?_⟩ | refine ⟨hK _ ?_, fun h => ?_⟩ | refine ⟨?_, ?_⟩); all_goals ((try apply hK); clear hK K))
    simp [go_sem, hf]
  | false =>
    repeat' first | refine St.go ?_ | ((with_reducible refine cn ?_ ?_) <;> intro h <;> (try simp [hlt, hx] at h) <;> try omega) | (refine Ru.go ?_; intro K hK; simp [go_sem, hlt, encS, hx]; (try simp (disch := omega) only [wx, z_i]); (first | apply hK | refine ⟨ob, ?_⟩ | refine ⟨hK _ ?_, fun h => ?_⟩ | refine ⟨?_, ?_⟩); all_goals ((try apply hK); clear hK K))
    refine z_j (n - 1) _ (by omega) ⟨k + 1, by omega, ?_, rfl⟩ ?_
    ·rw [any_succ hlt, h0, hx]; rfl
    ·simp [go_sem]
 ·have hkl : l.take k = l := List.take_of_length_le (by omega)
  rw [hkl] at h0
  have hf := firstB_none h0
  repeat' first | refine St.go ?_ | ((with_reducible refine cn ?_ ?_) <;> intro h <;> (try simp [hlt] at h) <;> try omega) | (refine Ru.go ?_; intro K hK; simp [go_sem, hlt]; (try simp (disch := omega) only [wx, z_i]); (first | apply hK | refine ⟨ob, ?_⟩ | refine ⟨hK _ ?_, fun h => ?_⟩ | refine ⟨?_, ?_⟩); all_goals ((try apply hK); clear hK K))
  simp [go_sem, hf]
theorem f101 (l : List ByteArray) (x : ByteArray) (hl : l.length <= 1000000) : Impl Tryz.prog 101 [.one (.sl (l.map encS)), .one (.str x)] (.one (.one (.bool (hasS l x)))) := by
 refine impl_w Tryz.func101 z101 Tryz.ntmps101 (by simp) ?_
 simp only [slotsOf]
 conv => arg 2; reduce
 have hf := firstB_any (fun y => x == y) l
 rw [any_bytes] at hf
 repeat' first | refine St.go ?_ | (refine Ru.go ?_; intro K hK; simp [go_sem]; (first | apply hK | ((try refine .inl ?_); refine ⟨_, by (repeat' first | exact f120 l x hl | refine And.intro ?_ ?_ | simp [go_sem]); first | done | omega, ?_⟩; first | apply hK | (refine ⟨by simp [go_sem], ?_⟩; apply hK)) | refine ⟨ob, ?_⟩ | refine ⟨hK _ ?_, fun h => ?_⟩ | refine ⟨?_, ?_⟩); all_goals ((try apply hK); clear hK K))
 simp [go_sem, hf]
theorem f126 (l : List ByteArray) (x : ByteArray) (hl : l.length <= 1000000) : Impl Tryz.prog 126 [.one (.sl (l.map encS)), .one (.str x)] (.one (.one (.bool (hasS l x)))) := by
 refine impl_w Tryz.func126 z126 Tryz.ntmps126 (by simp) ?_
 simp only [slotsOf]
 conv => arg 2; reduce
 repeat' first | refine St.go ?_ | ((with_reducible refine cn ?_ ?_) <;> intro h <;> (try simp at h) <;> try omega) | (refine Ru.go ?_; intro K hK; simp [go_sem]; (try simp (disch := omega) only [wx, z_i]); (first | apply hK | refine ⟨ob, ?_⟩ | refine ⟨hK _ ?_, fun h => ?_⟩ | refine ⟨?_, ?_⟩); all_goals ((try apply hK); clear hK K))
 refine z_k (fun n e => ∃ k : Nat, k + n = l.length /\ (l.take k).any (fun y => y == x) = false /\ e = [(5, .sv (.one (.int .i64 k))), (1, .sv (.one (.str x))), (0, .sv (.one (.sl (l.map encS))))]) l.length _ ⟨0, by simp, by simp, rfl⟩ (by simp [go_sem]) ?_
 rintro n e ⟨k, hk, h0, rfl⟩
 by_cases hlt : k < l.length
 ·cases hx : (l[k] == x) with
  | true =>
    have hf : hasS l x = true := any_yes hlt hx
    repeat' first | refine St.go ?_ | ((with_reducible refine cn ?_ ?_) <;> intro h <;> (try simp [hlt, hx] at h) <;> try omega) | (refine Ru.go ?_; intro K hK; simp [go_sem, hlt, encS, hx]; (try simp (disch := omega) only [wx, z_i]); (first | apply hK | refine ⟨ob, ?_⟩ | refine ⟨hK _ ?_, fun h => ?_⟩ | refine ⟨?_, ?_⟩); all_goals ((try apply hK); clear hK K))
    simp [go_sem, hf]
  | false =>
    repeat' first | refine St.go ?_ | ((with_reducible refine cn ?_ ?_) <;> intro h <;> (try simp [hlt, hx] at h) <;> try omega) | (refine Ru.go ?_; intro K hK; simp [go_sem, hlt, encS, hx]; (try simp (disch := omega) only [wx, z_i]); (first | apply hK | refine ⟨ob, ?_⟩ | refine ⟨hK _ ?_, fun h => ?_⟩ | refine ⟨?_, ?_⟩); all_goals ((try apply hK); clear hK K))
    refine z_j (n - 1) _ (by omega) ⟨k + 1, by omega, ?_, rfl⟩ ?_
    ·rw [any_succ hlt, h0, hx]; rfl
    ·simp [go_sem]
 ·have hkl : l.take k = l := List.take_of_length_le (by omega)
  rw [hkl] at h0
  have hf : hasS l x = false := h0
  repeat' first | refine St.go ?_ | ((with_reducible refine cn ?_ ?_) <;> intro h <;> (try simp [hlt] at h) <;> try omega) | (refine Ru.go ?_; intro K hK; simp [go_sem, hlt]; (try simp (disch := omega) only [wx, z_i]); (first | apply hK | refine ⟨ob, ?_⟩ | refine ⟨hK _ ?_, fun h => ?_⟩ | refine ⟨?_, ?_⟩); all_goals ((try apply hK); clear hK K))
  simp [go_sem, hf]
theorem f125 (s : ByteArray) : Impl Tryz.prog 125 [.one (.str s)] (.one (.one (.bool (isName s)))) := by
 refine impl_z Tryz.func125 z125 Tryz.ntmps125 (by simp) ?_
 simp only [c125, slotsOf]
 have he := str_empty s
 by_cases h0 : s.size = 0
 ·have h0' : isName s = false := isName_zero h0
  repeat' first | refine St.go ?_ | ((with_reducible refine cn ?_ ?_) <;> intro h <;> (try simp [he, h0] at h) <;> try omega) | (refine Ru.go ?_; intro K hK; simp [go_sem, he, h0]; (try simp (disch := omega) only [wx, z_i]); (first | apply hK | refine ⟨ob, ?_⟩ | refine ⟨hK _ ?_, fun h => ?_⟩ | refine ⟨?_, ?_⟩); all_goals ((try apply hK); clear hK K))
  simp [go_sem, h0']
 ·have hpos : 0 < s.size := by omega
  obtain ⟨b0, hb0, hn0⟩ := strL_get hpos
  have hn := isName_pos hpos
  rw [<- hn0] at hn
  cases hl : isLetter (b0.toNat : Int) with
  | false =>
    have q_ := aN he <| aN h0 <| aN hb0 <| hl
    repeat' first | refine St.go ?_ | ((with_reducible refine cn ?_ ?_) <;> intro h <;> (try simp [q_] at h) <;> try omega) | (refine Ru.go ?_; intro K hK; simp [go_sem, q_]; (try simp (disch := omega) only [wx, z_i]); (first | apply hK | ((try refine .inl ?_); refine ⟨_, by (try intro hc); (repeat' first | exact f145 _ | exact hc | refine And.intro ?_ ?_ | simp [go_sem, q_]); first | done | omega, ?_⟩; first | apply hK | (refine ⟨by simp [go_sem, q_], ?_⟩; apply hK)) | refine ⟨.one (.one (.bool false)), by simp [go_sem, q_], hK _ _ ?_⟩ | refine ⟨ob, ?_⟩ | refine ⟨hK _ ?_, fun h => ?_⟩ | refine ⟨?_, ?_⟩); all_goals ((try apply hK); clear hK K))
    all_goals try clear q_
    simp [go_sem, hn, hl]
  | true =>
    by_cases h16 : s.size <= 16
    ·have h16' : ¬ (16 : Int) < (s.size : Int) := by omega
     have q_ := aN he <| aN h0 <| aN h16' <| aN hb0 <| hl
     repeat' first | refine St.go ?_ | ((with_reducible refine cn ?_ ?_) <;> intro h <;> (try simp [q_] at h) <;> try omega) | (refine Ru.go ?_; intro K hK; simp [go_sem, q_]; (try simp (disch := omega) only [wx, z_i]); (first | apply hK | ((try refine .inl ?_); refine ⟨_, by (try intro hc); (repeat' first | exact f145 _ | exact hc | refine And.intro ?_ ?_ | simp [go_sem, q_]); first | done | omega, ?_⟩; first | apply hK | (refine ⟨by simp [go_sem, q_], ?_⟩; apply hK)) | refine ⟨.one (.one (.bool false)), by simp [go_sem, q_], hK _ _ ?_⟩ | refine ⟨ob, ?_⟩ | refine ⟨hK _ ?_, fun h => ?_⟩ | refine ⟨?_, ?_⟩); all_goals ((try apply hK); clear hK K))
     all_goals try clear q_
     refine z_k (fun n e => ∃ k : Nat, k + n = s.size /\ ((strL s).take k).all isInner = true /\ e = [(3, .sv (.one (.int .i64 k))), (0, .sv (.one (.str s)))]) s.size _ ⟨0, by simp, by simp, rfl⟩ (by simp [go_sem]) ?_
     rintro n e ⟨k, hk, hall, rfl⟩
     by_cases hlt : k < s.size
     ·have hbn := strL_at hlt
      have hlt' : k < (strL s).length := by rw [strL_len]; exact hlt
      cases hi : isInner ((s[k]).toNat : Int) with
      | false =>
        repeat' first | refine St.go ?_ | ((with_reducible refine cn ?_ ?_) <;> intro h <;> (try simp [hlt, hi] at h) <;> try omega) | (refine Ru.go ?_; intro K hK; simp [go_sem, hlt, hi]; (try simp (disch := omega) only [wx, z_i]); (first | apply hK | ((try refine .inl ?_); refine ⟨_, by (try intro hc); (repeat' first | exact f146 _ | exact hc | refine And.intro ?_ ?_ | simp [go_sem, hlt, hi]); first | done | omega, ?_⟩; first | apply hK | (refine ⟨by simp [go_sem, hlt, hi], ?_⟩; apply hK)) | refine ⟨.one (.one (.bool false)), by simp [go_sem, hlt, hi], hK _ _ ?_⟩ | refine ⟨ob, ?_⟩ | refine ⟨hK _ ?_, fun h => ?_⟩ | refine ⟨?_, ?_⟩); all_goals ((try apply hK); clear hK K))
        have := all_no hlt' (by rw [<- hbn]; exact hi)
        simp [go_sem, hn, this]
      | true =>
        repeat' first | refine St.go ?_ | ((with_reducible refine cn ?_ ?_) <;> intro h <;> (try simp [hlt, hi] at h) <;> try omega) | (refine Ru.go ?_; intro K hK; simp [go_sem, hlt, hi]; (try simp (disch := omega) only [wx, z_i]); (first | apply hK | ((try refine .inl ?_); refine ⟨_, by (try intro hc); (repeat' first | exact f146 _ | exact hc | refine And.intro ?_ ?_ | simp [go_sem, hlt, hi]); first | done | omega, ?_⟩; first | apply hK | (refine ⟨by simp [go_sem, hlt, hi], ?_⟩; apply hK)) | refine ⟨.one (.one (.bool false)), by simp [go_sem, hlt, hi], hK _ _ ?_⟩ | refine ⟨ob, ?_⟩ | refine ⟨hK _ ?_, fun h => ?_⟩ | refine ⟨?_, ?_⟩); all_goals ((try apply hK); clear hK K))
        refine z_j (n - 1) _ (by omega) ⟨k + 1, by omega, ?_, rfl⟩ ?_
        ·rw [all_succ hlt', hall, <- hbn, hi]; rfl
        ·simp [go_sem]
     ·have htk : (strL s).take k = strL s := List.take_of_length_le (by rw [strL_len]; omega)
      rw [htk] at hall
      repeat' first | refine St.go ?_ | ((with_reducible refine cn ?_ ?_) <;> intro h <;> (try simp [hlt] at h) <;> try omega) | (refine Ru.go ?_; intro K hK; simp [go_sem, hlt]; (try simp (disch := omega) only [wx, z_i]); (first | apply hK | refine ⟨ob, ?_⟩ | refine ⟨hK _ ?_, fun h => ?_⟩ | refine ⟨?_, ?_⟩); all_goals ((try apply hK); clear hK K))
      simp [go_sem, hn, hl, h16, hall]
    ·have h16' : (16 : Int) < (s.size : Int) := by omega
     have q_ := aN he <| aN h0 <| aN h16' <| aN hb0 <| hl
     repeat' first | refine St.go ?_ | ((with_reducible refine cn ?_ ?_) <;> intro h <;> (try simp [q_] at h) <;> try omega) | (refine Ru.go ?_; intro K hK; simp [go_sem, q_]; (try simp (disch := omega) only [wx, z_i]); (first | apply hK | ((try refine .inl ?_); refine ⟨_, by (try intro hc); (repeat' first | exact f145 _ | exact hc | refine And.intro ?_ ?_ | simp [go_sem, q_]); first | done | omega, ?_⟩; first | apply hK | (refine ⟨by simp [go_sem, q_], ?_⟩; apply hK)) | refine ⟨.one (.one (.bool false)), by simp [go_sem, q_], hK _ _ ?_⟩ | refine ⟨ob, ?_⟩ | refine ⟨hK _ ?_, fun h => ?_⟩ | refine ⟨?_, ?_⟩); all_goals ((try apply hK); clear hK K))
     all_goals try clear q_
     simp [go_sem, hn, h16]
theorem f127 : Impl Tryz.prog 127 [] (.one (.one (.ow 1 (kws.map encS)))) := by
 refine impl_z Tryz.func127 z127 Tryz.ntmps127 (by simp) ?_
 simp only [c127, slotsOf]
 repeat' first | refine St.go ?_ | (refine Ru.go ?_; intro K hK; simp [go_sem]; (first | apply hK | refine ⟨ob, ?_⟩ | refine ⟨hK _ ?_, fun h => ?_⟩ | refine ⟨?_, ?_⟩); all_goals ((try apply hK); clear hK K))
 simp [go_sem, kws, encS]
theorem kws_len : kws.length <= 1000000 := by decide
theorem f107 (s : ByteArray) : Impl Tryz.prog 107 [.one (.str s)] (.one (.one (.bool (isWord s)))) := by
 refine impl_w Tryz.func107 z107 Tryz.ntmps107 (by simp) ?_
 simp only [slotsOf]
 conv => arg 2; reduce
 cases hn : isName s with
 | true =>
   repeat' first | refine St.go ?_ | (refine Ru.go ?_; intro K hK; simp [go_sem, hn]; (first | apply hK | ((try refine .inl ?_); refine ⟨_, by (try intro hc); (repeat' first | exact f125 s | exact f127 | exact f126 kws s kws_len | exact hc | refine And.intro ?_ ?_ | simp [go_sem, hn]); first | done | omega, ?_⟩; first | apply hK | (refine ⟨by simp [go_sem, hn], ?_⟩; apply hK)) | refine ⟨.one (.one (.bool false)), by simp [go_sem, hn], hK _ _ ?_⟩ | refine ⟨ob, ?_⟩ | refine ⟨hK _ ?_, fun h => ?_⟩ | refine ⟨?_, ?_⟩); all_goals ((try apply hK); clear hK K))
   simp [go_sem, isWord, hn]
 | false =>
   repeat' first | refine St.go ?_ | (refine Ru.go ?_; intro K hK; simp [go_sem, hn]; (first | apply hK | ((try refine .inl ?_); refine ⟨_, by (try intro hc); (repeat' first | exact f125 s | exact hc | refine And.intro ?_ ?_ | simp [go_sem, hn]); first | done | omega, ?_⟩; first | apply hK | (refine ⟨by simp [go_sem, hn], ?_⟩; apply hK)) | refine ⟨.one (.one (.bool false)), by simp [go_sem, hn], hK _ _ ?_⟩ | refine ⟨ob, ?_⟩ | refine ⟨hK _ ?_, fun h => ?_⟩ | refine ⟨?_, ?_⟩); all_goals ((try apply hK); clear hK K))
   simp [go_sem, isWord, hn]
theorem f147 (s : ByteArray) : Impl Tryz.prog 147 [.one (.str s)] (.one (.one (.bool (isWord s)))) := by
 refine impl_w Tryz.func147 z147 Tryz.ntmps147 (by simp) ?_
 simp only [slotsOf]
 conv => arg 2; reduce
 repeat' first | refine St.go ?_ | (refine Ru.go ?_; intro K hK; simp [go_sem]; (first | apply hK | ((try refine .inl ?_); refine ⟨_, by (repeat' first | exact f107 s | refine And.intro ?_ ?_ | simp [go_sem]); first | done | omega, ?_⟩; first | apply hK | (refine ⟨by simp [go_sem], ?_⟩; apply hK)) | refine ⟨ob, ?_⟩ | refine ⟨hK _ ?_, fun h => ?_⟩ | refine ⟨?_, ?_⟩); all_goals ((try apply hK); clear hK K))
 simp [go_sem]
theorem f100 (s : ByteArray) : Impl Tryz.prog 100 [.one (.str s)] (.one (.one (.bool (isWord s)))) := by
 refine impl_z Tryz.func100 z100 Tryz.ntmps100 (by simp) ?_
 simp only [c100, slotsOf]
 have f101s := f101 kws s kws_len
 simp only [kws, List.map_cons, List.map_nil, encS] at f101s
 have hw : isWord s = (isName s && !hasS kws s) := rfl
 simp only [kws] at hw
 cases hn : isName s with
 | true =>
   repeat' first | refine St.go ?_ | (refine Ru.go ?_; intro K hK; simp [go_sem, hn]; (first | apply hK | ((try refine .inl ?_); refine ⟨_, by (repeat' first | exact f119 s | exact f101s | refine And.intro ?_ ?_ | simp [go_sem, hn]); first | done | omega, ?_⟩; first | apply hK | (refine ⟨by simp [go_sem, hn], ?_⟩; apply hK)) | refine ⟨ob, ?_⟩ | refine ⟨hK _ ?_, fun h => ?_⟩ | refine ⟨?_, ?_⟩); all_goals ((try apply hK); clear hK K))
   simp [go_sem, hw, hn]
 | false =>
   repeat' first | refine St.go ?_ | (refine Ru.go ?_; intro K hK; simp [go_sem, hn]; (first | apply hK | ((try refine .inl ?_); refine ⟨_, by (repeat' first | exact f119 s | refine And.intro ?_ ?_ | simp [go_sem, hn]); first | done | omega, ?_⟩; first | apply hK | (refine ⟨by simp [go_sem, hn], ?_⟩; apply hK)) | refine ⟨ob, ?_⟩ | refine ⟨hK _ ?_, fun h => ?_⟩ | refine ⟨?_, ?_⟩); all_goals ((try apply hK); clear hK K))
   simp [go_sem, hw, hn]
set_option maxRecDepth 100000 in
theorem str_count (s : ByteArray) (c : UInt8) (w : World) :
  Calls Tryz.prog 162 #[.string s, .string ⟨#[c]⟩] w fun e w' => e = .returned (.int .i64 (Lib.countByte s.data.toList c)) /\ w' = w := by
 go_enter Tryz.func162, Tryz.ntmps162
 go_wp2
 rw [run_callFunc_extern Tryz.func166 (by kernel_rfl) (by kernel_rfl) (by kernel_rfl) (e := Extern.BytealgCount.count) (by kernel_rfl), Lib.run_countString]
 simp only [Result.andThen]
 rw [Oper.upon_value]
 go_wp2
 go_ret
 exact ⟨rfl, rfl⟩
set_option maxRecDepth 100000 in
theorem str_indexByte (s : ByteArray) (c : Int) (w : World) :
  Calls Tryz.prog 169 #[.string s, .int .u8 c] w fun e w' => e = .returned (.int .i64 (Lib.indexByte s.data.toList c.toNat.toUInt8)) /\ w' = w := by
 go_enter Tryz.func169, Tryz.ntmps169
 go_wp2
 rw [run_callFunc_extern Tryz.func173 (by kernel_rfl) (by kernel_rfl) (by kernel_rfl) (e := Extern.BytealgIndexByte.indexByte) (by kernel_rfl), Lib.run_indexByteString]
 simp only [Result.andThen]
 rw [Oper.upon_value]
 go_wp2
 go_ret
 exact ⟨rfl, rfl⟩
set_option maxRecDepth 100000 in
theorem str_index1 (s : ByteArray) (c : UInt8) (w : World) :
  Calls Tryz.prog 167 #[.string s, .string ⟨#[c]⟩] w fun e w' => e = .returned (.int .i64 (Lib.indexByte s.data.toList c)) /\ w' = w := by
 go_enter Tryz.func167, Tryz.ntmps167
 go_wp2_with (go_at_call 169; refine (str_indexByte _ _ _).mono ?_; rintro e w' ⟨rfl, rfl⟩)
 ·have h : ([c] == s.toList) = true := by assumption
  go_ret
  refine ⟨?_, rfl⟩
  have e : s.data.toList = [c] := by rw [<- Lib.toList_data]; exact (beq_iff_eq.1 h).symm
  rw [e]
  simp [Lib.indexByte]
 ·go_ret
  exact ⟨rfl, rfl⟩
theorem str_index (s : ByteArray) (c : UInt8) (w : World) :
  Calls Tryz.prog 163 #[.string s, .string ⟨#[c]⟩] w fun e w' => e = .returned (.int .i64 (Lib.indexByte s.data.toList c)) /\ w' = w := by
 go_enter Tryz.func163, Tryz.ntmps163
 go_wp2_with (go_at_call 167; refine (str_index1 _ _ _).mono ?_; rintro e w' ⟨rfl, rfl⟩)
 go_ret
 exact ⟨rfl, rfl⟩
theorem Impl.ofStr2 {P : Program} {f : FuncId} {fn : Func} (hf : P.funcs[f]? = some fn) (hb : fn.body.isSome = true) (hn : fn.name ≠ "runtime.NumGoroutine") {s t : ByteArray} {k : IntKind} {n : Int}
  (h : ∀ w, Calls P f #[.string s, .string t] w fun e w' => e = .returned (.int k n) /\ w' = w) : Impl P f [.one (.str s), .one (.str t)] (.one (.one (.int k n))) := by
 refine ⟨⟨fn, hf, hb, hn⟩, fun w S vs hS hv => ?_⟩
 have hvs : vs = [.string s, .string t] := by
  generalize hr : ([] : List Nat) = r at hv
  cases hv with
  | cons v x r vs xs rs h1 h2 =>
    cases h2 with
    | cons v' x' r' vs' xs' rs' h3 h4 =>
      cases h4
      cases CzS.one_inv h1
      cases CzS.one_inv h3
      rfl
 subst hvs
 refine (h w).mono ?_
 rintro e w' ⟨rfl, rfl⟩
 exact ⟨_, [], rfl, Below.refl _ _, by simp, by simp, .one _ _ _ (.one _ _ _ (.int _ _))⟩
def pieceL : List UInt8 -> List (List UInt8)
 | [] => [[]]
 | b :: l => if b = 46 then [] :: pieceL l else match pieceL l with
   | [] => [[b]]
   | p :: ps => (b :: p) :: ps
theorem pieceL_ne : ∀ (l : List UInt8), pieceL l ≠ []
 | [] => by simp [pieceL]
 | b :: l => by
   unfold pieceL
   split
   ·simp
   ·split <;> simp
theorem pieceL_no : ∀ {l : List UInt8}, 46 ∉ l -> pieceL l = [l]
 | [], _ => rfl
 | b :: l, h => by
   have h1 : b ≠ 46 := fun e => h (by simp [e])
   have h2 := pieceL_no (l := l) fun e => h (by simp [e])
   simp [pieceL, h1, h2]
theorem pieceL_at : ∀ {a l : List UInt8}, 46 ∉ a -> pieceL (a ++ 46 :: l) = a :: pieceL l
 | [], l, _ => by simp [pieceL]
 | b :: a, l, h => by
   have h1 : b ≠ 46 := fun e => h (by simp [e])
   have h2 := pieceL_at (a := a) (l := l) fun e => h (by simp [e])
   simp [pieceL, h1, h2]
def toB (l : List UInt8) : ByteArray := ⟨l.toArray⟩
theorem toB_list (s : ByteArray) : toB s.data.toList = s := by simp [toB]
theorem list_toB (l : List UInt8) : (toB l).data.toList = l := by simp [toB]
theorem size_toB (l : List UInt8) : (toB l).size = l.length := by simp [toB, ByteArray.size]
theorem extract_toB (l : List UInt8) (a b : Nat) : (toB l).extract a b = toB ((l.take b).drop a) := by
 have h : ((toB l).extract a b).data.toList = ((l.take b).drop a) := by
  rw [ByteArray.data_extract, Array.toList_extract, list_toB, List.extract_eq_take_drop, List.drop_take]
 rw [<- h, toB_list]
theorem index_at : ∀ {a l : List UInt8}, 46 ∉ a -> Lib.indexByte (a ++ 46 :: l) 46 = a.length
 | [], l, _ => by simp [Lib.indexByte]
 | b :: a, l, h => by
   have h1 : ¬ b = 46 := fun e => h (by simp [e])
   have h2 := index_at (a := a) (l := l) fun e => h (by simp [e])
   have h3 : ¬ ((a.length : Int) = -1) := by omega
   simp [Lib.indexByte, h1, h2, h3]
theorem split_at : ∀ (l : List UInt8), 46 ∈ l -> ∃ a b, l = a ++ 46 :: b /\ 46 ∉ a
 | [], h => by cases h
 | x :: l, h => by
   by_cases e : x = 46
   ·subst e
    exact ⟨[], l, rfl, by simp⟩
   ·rcases List.mem_cons.1 h with h | h
    ·exact (e h.symm).elim
    ·obtain ⟨a, b, rfl, h2⟩ := split_at l h
     exact ⟨x :: a, b, rfl, by simp [h2, Ne.symm e]⟩
theorem pieceL_len : ∀ (l : List UInt8), (pieceL l).length = Lib.countByte l 46 + 1
 | [] => rfl
 | b :: l => by
   have ih := pieceL_len l
   unfold pieceL
   simp only [Lib.countByte, List.count_cons] at ih ⊢
   split
   ·rename_i e
    subst e
    simp [ih]
   ·rename_i e
    have hn := pieceL_ne l
    split
    ·contradiction
    ·rename_i p ps hp
     rw [hp] at ih
     simp [e] at ih ⊢
     omega
def pieceB (s : ByteArray) : List ByteArray := (pieceL s.data.toList).map toB
theorem f162 (l : List UInt8) : Impl Tryz.prog 162 [.one (.str (toB l)), .one (.str ⟨#[46]⟩)] (.one (.one (.int .i64 (Lib.countByte l 46 : Nat)))) := by
 have := Impl.ofStr2 (s := toB l) (t := ⟨#[46]⟩) Tryz.func162 rfl (by decide) fun w => str_count (toB l) 46 w
 rwa [list_toB] at this
theorem f163 (l : List UInt8) : Impl Tryz.prog 163 [.one (.str (toB l)), .one (.str ⟨#[46]⟩)] (.one (.one (.int .i64 (Lib.indexByte l 46)))) := by
 have := Impl.ofStr2 (s := toB l) (t := ⟨#[46]⟩) Tryz.func163 rfl (by decide) fun w => str_index (toB l) 46 w
 rwa [list_toB] at this
def fillA (p : List ByteArray) (n i : Nat) : List ByteArray := p.take i ++ List.replicate (n - i) ⟨#[]⟩
theorem fillA_len (p : List ByteArray) {n i : Nat} (hp : p.length = n) (h : i <= n) : (fillA p n i).length = n := by simp [fillA]; omega
theorem fillA_set (p : List ByteArray) {n i : Nat} (hp : p.length = n) (h : i < n) : (fillA p n i).set i (p[i]'(by omega)) = fillA p n (i + 1) := by
 apply List.ext_getElem
 ·rw [List.length_set, fillA_len p hp (by omega), fillA_len p hp (by omega)]
 ·intro k h1 h2
  rw [List.length_set, fillA_len p hp (by omega)] at h1
  simp only [fillA, List.getElem_set, List.getElem_append, List.length_take, List.getElem_take, List.getElem_replicate]
  by_cases e : i = k
  ·subst e
   rw [if_pos rfl, dif_pos (by omega)]
  ·rw [if_neg e]
   by_cases hk : k < i
   ·rw [dif_pos (by omega), dif_pos (by omega)]
   ·rw [dif_neg (by omega), dif_neg (by omega)]
theorem fillA_full (p : List ByteArray) {n : Nat} (hp : p.length = n) : fillA p n n = p := by
 simp [fillA, <- hp]
theorem f159 (l : List UInt8) (hl : l.length <= 1000000) : Impl Tryz.prog 159 [.one (.str (toB l)), .one (.str ⟨#[46]⟩), .one (.int .i64 0), .one (.int .i64 (-1))] (.one (.one (.ow 1 ((pieceB (toB l)).map encS)))) := by
 refine impl_z Tryz.func159 z159 Tryz.ntmps159 (by simp) ?_
 simp only [c159, slotsOf]
 have hpl := pieceL_len l
 have hcl : Lib.countByte l 46 <= l.length := List.count_le_length
 have hsz := size_toB l
 obtain ⟨P, hP⟩ : ∃ P, P = pieceB (toB l) := ⟨_, rfl⟩
 have hPn : P.length = Lib.countByte l 46 + 1 := by rw [hP, pieceB, List.length_map, list_toB, hpl]
 obtain ⟨c, hc⟩ : ∃ c, Lib.countByte l 46 = c := ⟨_, rfl⟩
 rw [hc] at hcl hPn
 have f162s := f162 l
 rw [hc] at f162s
 have hmin : min ((c : Int) + 1) ((l.length : Int) + 1) = (c : Int) + 1 := by omega
 have h46 : (⟨#[46]⟩ : ByteArray).size = 1 := rfl
 have h0 : ((⟨#[46]⟩ : ByteArray) == ⟨#[]⟩) = false := by decide
 rw [<- hP]
 have q_ := aN hsz <| aN hmin <| aN h46 <| h0
 repeat' first | refine St.go ?_ | ((with_reducible refine cn ?_ ?_) <;> intro h <;> (try simp [q_] at h) <;> try omega) | (refine Ru.go ?_; intro K hK; simp [go_sem, q_]; (try simp (disch := omega) only [wx, z_i]); (first | apply hK | ((try refine .inl ?_); refine ⟨_, by (repeat' first | exact f162s | refine And.intro ?_ ?_ | simp [go_sem, q_]); first | done | omega, ?_⟩; first | apply hK | (refine ⟨by simp [go_sem, q_], ?_⟩; apply hK)) | refine ⟨ob, ?_⟩ | refine ⟨hK _ ?_, fun h => ?_⟩ | refine ⟨?_, ?_⟩); all_goals ((try apply hK); clear hK K))
 all_goals try clear q_
 refine z_k (fun n e => ∃ (i : Nat) (rest : List UInt8), i + n = c /\ pieceL l = (pieceL l).take i ++ pieceL rest /\ rest.length <= l.length /\ e = [(10, .sv (.one (.int .i64 i))), (3, .sv (.one (.int .i64 c))), (9, .sv (.one (.ow 1 ((fillA P (c + 1) i).map encS)))), (1, .sv (.one (.str ⟨#[46]⟩))), (2, .sv (.one (.int .i64 0))), (0, .sv (.one (.str (toB rest))))]) c _ ⟨0, l, by simp, by simp, Nat.le_refl _, rfl⟩ (by simp [go_sem, fillA, encS]) ?_
 rintro n e ⟨i, rest, hi, hpr, hrl, rfl⟩
 have hplen := congrArg List.length hpr
 rw [List.length_append, List.length_take, pieceL_len rest, hpl, hc] at hplen
 have hPL : P = (pieceL l).map toB := by rw [hP, pieceB, list_toB]
 have hsr := size_toB rest
 have hfl := fillA_len P hPn (show i <= c + 1 by omega)
 by_cases hlt : i < c
 ·have hmem : 46 ∈ rest := by
   rcases Nat.eq_zero_or_pos (Lib.countByte rest 46) with h | h
   ·omega
   ·exact List.count_pos_iff.1 h
  obtain ⟨a, b, hab, ha⟩ := split_at rest hmem
  have hix : Lib.indexByte rest 46 = (a.length : Int) := by rw [hab]; exact index_at ha
  have he1 : (toB rest).extract 0 a.length = toB a := by
   rw [extract_toB, hab, List.drop_zero, List.take_left]
  have hrb : rest.length = a.length + 1 + b.length := by rw [hab]; simp; omega
  have he2 : (toB rest).extract (a.length + 1) rest.length = toB b := by
   rw [extract_toB, List.take_of_length_le (Nat.le_refl _), hab]
   have : (a ++ 46 :: b).drop (a.length + 1) = b := by
    have e : a ++ 46 :: b = (a ++ [46]) ++ b := by simp
    rw [e]
    exact List.drop_left' (by simp)
   rw [this]
  have hpr2 : pieceL l = (pieceL l).take i ++ a :: pieceL b := by
   rw [<- pieceL_at ha, <- hab]
   exact hpr
  have hti : ((pieceL l).take i).length = i := by rw [List.length_take, hpl, hc]; omega
  have hil : i < (pieceL l).length := by rw [hpl, hc]; omega
  have hPi : P[i]'(by omega) = toB a := by
   have h1 : (pieceL l)[i]? = some a := by
    rw [hpr2, List.getElem?_append_right (by omega), hti]
    simp
   have h2 : P[i]? = some (toB a) := by rw [hPL, List.getElem?_map, h1]; rfl
   rw [List.getElem?_eq_getElem (by omega)] at h2
   injection h2
  have hset := fillA_set P hPn (show i < c + 1 by omega)
  rw [hPi] at hset
  have hset2 : ((fillA P (c + 1) i).map encS).set i [.str (toB a)] = (fillA P (c + 1) (i + 1)).map encS := by
   rw [<- hset, List.map_set]
   rfl
  have hpr3 : pieceL l = (pieceL l).take (i + 1) ++ pieceL b := by
   have h1 : (pieceL l).take (i + 1) = (pieceL l).take i ++ [a] := by
    conv => lhs; rw [hpr2]
    have e : (pieceL l).take i ++ a :: pieceL b = ((pieceL l).take i ++ [a]) ++ pieceL b := by simp
    rw [e]
    exact List.take_left' (by rw [List.length_append, hti]; rfl)
   rw [h1]
   rw [List.append_assoc]
   exact hpr2
  have f163s := f163 rest
  rw [hix] at f163s
  generalize a.length = m at *
  have hb : b.length <= l.length := by omega
  have hmr : (m : Int) <= rest.length := by omega
  have q_ := aN hlt <| aN h46 <| aN hsr <| aN he1 <| aN he2 <| hfl
  repeat' first | refine St.go ?_ | ((with_reducible refine cn ?_ ?_) <;> intro h <;> (try simp [q_] at h) <;> try omega) | (refine Ru.go ?_; intro K hK; simp [go_sem, encS, q_]; (try simp (disch := omega) only [wx, z_i]); (first | apply hK | ((try refine .inl ?_); refine ⟨_, by (repeat' first | exact f163s | refine And.intro ?_ ?_ | simp [go_sem, encS, q_]); first | done | omega, ?_⟩; first | apply hK | (refine ⟨by simp [go_sem, encS, q_], ?_⟩; apply hK)) | refine ⟨ob, ?_⟩ | refine ⟨hK _ ?_, fun h => ?_⟩ | refine ⟨?_, ?_⟩); all_goals ((try apply hK); clear hK K))
  all_goals try clear q_
  refine z_j (n - 1) _ (by omega) ⟨i + 1, b, by omega, hpr3, hb, rfl⟩ ?_
  simp [go_sem, hset2]
 ·have hic : i = c := by omega
  subst hic
  have hno : 46 ∉ rest := by
   intro h
   have := List.count_pos_iff.2 h
   have : 0 < Lib.countByte rest 46 := this
   omega
  rw [pieceL_no hno] at hpr
  have hti : ((pieceL l).take i).length = i := by rw [List.length_take, hpl, hc]; omega
  have hPi : P[i]'(by omega) = toB rest := by
   have h1 : (pieceL l)[i]? = some rest := by
    rw [hpr, List.getElem?_append_right (by omega), hti]
    simp
   have h2 : P[i]? = some (toB rest) := by rw [hPL, List.getElem?_map, h1]; rfl
   rw [List.getElem?_eq_getElem (by omega)] at h2
   injection h2
  have hset := fillA_set P hPn (show i < i + 1 by omega)
  rw [hPi, fillA_full P hPn] at hset
  have hset2 : ((fillA P (i + 1) i).map encS).set i [.str (toB rest)] = P.map encS := by
   have := congrArg (List.map encS) hset
   rw [List.map_set] at this
   exact this
  have htk : (P.map encS).take (i + 1) = P.map encS := List.take_of_length_le (by simp [hPn])
  have q_ := aN hlt <| aN hfl <| aN hset2 <| aN hPn <| htk
  repeat' first | refine St.go ?_ | ((with_reducible refine cn ?_ ?_) <;> intro h <;> (try simp [q_] at h) <;> try omega) | (refine Ru.go ?_; intro K hK; simp [go_sem, encS, q_]; (try simp (disch := omega) only [wx, z_i]); (first | apply hK | refine ⟨ob, ?_⟩ | refine ⟨hK _ ?_, fun h => ?_⟩ | refine ⟨?_, ?_⟩); all_goals ((try apply hK); clear hK K))
  all_goals try clear q_
  simp [go_sem]
theorem f150 (l : List UInt8) (hl : l.length <= 1000000) : Impl Tryz.prog 150 [.one (.str (toB l)), .one (.str ⟨#[46]⟩)] (.one (.one (.ow 1 ((pieceB (toB l)).map encS)))) := by
 refine impl_w Tryz.func150 z150 Tryz.ntmps150 (by simp) ?_
 simp only [slotsOf]
 conv => arg 2; reduce
 repeat' first | refine St.go ?_ | (refine Ru.go ?_; intro K hK; simp [go_sem]; (first | apply hK | ((try refine .inl ?_); refine ⟨_, by (repeat' first | exact f159 l hl | refine And.intro ?_ ?_ | simp [go_sem]); first | done | omega, ?_⟩; first | apply hK | (refine ⟨by simp [go_sem], ?_⟩; apply hK)) | refine ⟨ob, ?_⟩ | refine ⟨hK _ ?_, fun h => ?_⟩ | refine ⟨?_, ?_⟩); all_goals ((try apply hK); clear hK K))
 simp [go_sem]
def isPath (s : ByteArray) : Bool := decide (s.size <= 50) && (pieceB s).all isWord
theorem f151 (s : ByteArray) : Impl Tryz.prog 151 [.one (.str s)] (.one (.one (.bool (!isWord s)))) := by
 refine impl_w Tryz.func151 z151 Tryz.ntmps151 (by simp) ?_
 simp only [slotsOf]
 conv => arg 2; reduce
 repeat' first | refine St.go ?_ | (refine Ru.go ?_; intro K hK; simp [go_sem]; (first | apply hK | ((try refine .inl ?_); refine ⟨_, by (repeat' first | exact f100 s | refine And.intro ?_ ?_ | simp [go_sem]); first | done | omega, ?_⟩; first | apply hK | (refine ⟨by simp [go_sem], ?_⟩; apply hK)) | refine ⟨ob, ?_⟩ | refine ⟨hK _ ?_, fun h => ?_⟩ | refine ⟨?_, ?_⟩); all_goals ((try apply hK); clear hK K))
 simp [go_sem]
theorem f158 (l : List ByteArray) (g : FuncId) (caps : List DV) (p : ByteArray -> Bool) (hl : l.length <= 1000000) (hg : ∀ x ∈ l, Impl Tryz.prog g (.one (.str x) :: caps.map .one) (.one (.one (.bool (p x))))) :
  Impl Tryz.prog 158 [.one (.sl (l.map encS)), .one (.fn g caps)] (.one (.one (.int .i64 (firstB p l)))) := by
 refine impl_w Tryz.func158 z158 Tryz.ntmps158 (by simp) ?_
 simp only [slotsOf]
 conv => arg 2; reduce
 repeat' first | refine St.go ?_ | ((with_reducible refine cn ?_ ?_) <;> intro h <;> (try simp at h) <;> try omega) | (refine Ru.go ?_; intro K hK; simp [go_sem]; (try simp (disch := omega) only [wx, z_i]); (first | apply hK | refine ⟨ob, ?_⟩ | refine ⟨hK _ ?_, fun h => ?_⟩ | refine ⟨?_, ?_⟩); all_goals ((try apply hK); clear hK K))
 refine z_k (fun n e => ∃ k : Nat, k + n = l.length /\ (l.take k).any p = false /\ e = [(8, .sv (.one (.int .i64 k))), (7, .sv (.one (.int .i64 l.length))), (1, .sv (.one (.fn g caps))), (0, .sv (.one (.sl (l.map encS))))]) l.length _ ⟨0, by simp, by simp, rfl⟩ (by simp [go_sem]) ?_
 rintro n e ⟨k, hk, h0, rfl⟩
 by_cases hlt : k < l.length
 ·have hgs := hg l[k] (List.getElem_mem hlt)
  cases hx : p l[k] with
  | true =>
    have hf := firstB_at hlt h0 hx
    rw [hx] at hgs
    repeat' first | refine St.go ?_ | ((with_reducible refine cn ?_ ?_) <;> intro h <;> (try simp [hlt] at h) <;> try omega) | (refine Ru.go ?_; intro K hK; simp [go_sem, hlt, encS]; (try simp (disch := omega) only [wx, z_i]); (first | apply hK | ((try refine .inl ?_); refine ⟨_, by (repeat' first | exact hgs | refine And.intro ?_ ?_ | simp [go_sem, hlt, encS]); first | done | omega, ?_⟩; first | apply hK | (refine ⟨by simp [go_sem, hlt, encS], ?_⟩; apply hK)) | refine ⟨ob, ?_⟩ | refine ⟨hK _ ?_, fun h => ?_⟩ | refine ⟨?_, ?_⟩); all_goals ((try apply hK); clear hK K))
    simp [go_sem, hf]
  | false =>
    rw [hx] at hgs
    repeat' first | refine St.go ?_ | ((with_reducible refine cn ?_ ?_) <;> intro h <;> (try simp [hlt] at h) <;> try omega) | (refine Ru.go ?_; intro K hK; simp [go_sem, hlt, encS]; (try simp (disch := omega) only [wx, z_i]); (first | apply hK | ((try refine .inl ?_); refine ⟨_, by (repeat' first | exact hgs | refine And.intro ?_ ?_ | simp [go_sem, hlt, encS]); first | done | omega, ?_⟩; first | apply hK | (refine ⟨by simp [go_sem, hlt, encS], ?_⟩; apply hK)) | refine ⟨ob, ?_⟩ | refine ⟨hK _ ?_, fun h => ?_⟩ | refine ⟨?_, ?_⟩); all_goals ((try apply hK); clear hK K))
    refine z_j (n - 1) _ (by omega) ⟨k + 1, by omega, ?_, rfl⟩ ?_
    ·rw [any_succ hlt, h0, hx]; rfl
    ·simp [go_sem]
 ·have hkl : l.take k = l := List.take_of_length_le (by omega)
  rw [hkl] at h0
  have hf := firstB_none h0
  repeat' first | refine St.go ?_ | ((with_reducible refine cn ?_ ?_) <;> intro h <;> (try simp [hlt] at h) <;> try omega) | (refine Ru.go ?_; intro K hK; simp [go_sem, hlt]; (try simp (disch := omega) only [wx, z_i]); (first | apply hK | refine ⟨ob, ?_⟩ | refine ⟨hK _ ?_, fun h => ?_⟩ | refine ⟨?_, ?_⟩); all_goals ((try apply hK); clear hK K))
  simp [go_sem, hf]
theorem f149 (l : List ByteArray) (g : FuncId) (caps : List DV) (p : ByteArray -> Bool) (hl : l.length <= 1000000) (hg : ∀ x ∈ l, Impl Tryz.prog g (.one (.str x) :: caps.map .one) (.one (.one (.bool (p x))))) :
  Impl Tryz.prog 149 [.one (.sl (l.map encS)), .one (.fn g caps)] (.one (.one (.bool (l.any p)))) := by
 refine impl_w Tryz.func149 z149 Tryz.ntmps149 (by simp) ?_
 simp only [slotsOf]
 conv => arg 2; reduce
 have hf := firstB_any p l
 repeat' first | refine St.go ?_ | (refine Ru.go ?_; intro K hK; simp [go_sem]; (first | apply hK | ((try refine .inl ?_); refine ⟨_, by (repeat' first | exact f158 l g caps p hl hg | refine And.intro ?_ ?_ | simp [go_sem]); first | done | omega, ?_⟩; first | apply hK | (refine ⟨by simp [go_sem], ?_⟩; apply hK)) | refine ⟨ob, ?_⟩ | refine ⟨hK _ ?_, fun h => ?_⟩ | refine ⟨?_, ?_⟩); all_goals ((try apply hK); clear hK K))
 simp [go_sem, hf]
theorem any_not {α : Type} (p : α -> Bool) (l : List α) : (!l.any fun x => !p x) = l.all p := by
 rw [Bool.eq_iff_iff]
 simp
theorem f131 (s : ByteArray) : Impl Tryz.prog 131 [.one (.str s)] (.one (.one (.bool (isPath s)))) := by
 refine impl_z Tryz.func131 z131 Tryz.ntmps131 (by simp) ?_
 simp only [c131, slotsOf]
 by_cases h50 : s.size <= 50
 ·have h50' : (s.size : Int) <= 50 := by omega
  have hln : s.data.toList.length = s.size := by simp
  have f150s := f150 s.data.toList (by omega)
  rw [toB_list] at f150s
  have hpl : (pieceB s).length <= 1000000 := by
   rw [pieceB, List.length_map, pieceL_len]
   have : Lib.countByte s.data.toList 46 <= s.data.toList.length := List.count_le_length
   omega
  have f149s := f149 (pieceB s) 151 [] (fun x => !isWord x) hpl (fun x _ => f151 x)
  have ha := any_not isWord (pieceB s)
  repeat' first | refine St.go ?_ | (refine Ru.go ?_; intro K hK; simp [go_sem, h50']; (first | apply hK | ((try refine .inl ?_); refine ⟨_, by (try intro hc); (repeat' first | exact f150s | exact f149s | exact hc | refine And.intro ?_ ?_ | simp [go_sem, h50']); first | done | omega, ?_⟩; first | apply hK | (refine ⟨by simp [go_sem, h50'], ?_⟩; apply hK)) | refine ⟨.one (.one (.bool false)), by simp [go_sem, h50'], hK _ _ ?_⟩ | refine ⟨ob, ?_⟩ | refine ⟨hK _ ?_, fun h => ?_⟩ | refine ⟨?_, ?_⟩); all_goals ((try apply hK); clear hK K))
  simp [go_sem, isPath, h50, ha]
 ·have h50' : ¬ (s.size : Int) <= 50 := by omega
  repeat' first | refine St.go ?_ | (refine Ru.go ?_; intro K hK; simp [go_sem, h50']; (first | apply hK | refine ⟨ob, ?_⟩ | refine ⟨hK _ ?_, fun h => ?_⟩ | refine ⟨?_, ?_⟩); all_goals ((try apply hK); clear hK K))
  simp [go_sem, isPath, h50]
theorem drop_split {L : List UInt8} {i f : Nat} (hf : f <= i) (hi : i < L.length) (h46 : L[i] = 46) : L.drop f = (L.drop f).take (i - f) ++ 46 :: L.drop (i + 1) := by
 have h1 : (L.drop f).drop (i - f) = 46 :: L.drop (i + 1) := by
  rw [List.drop_drop, show f + (i - f) = i by omega, List.drop_eq_getElem_cons hi, h46]
 rw [<- h1, List.take_append_drop]
theorem f129 (s : ByteArray) (hl : s.size <= 1000000000000000) : Impl Tryz.prog 129 [.one (.str s)] (.one (.one (.bool (isPath s)))) := by
 refine impl_w Tryz.func129 z129 Tryz.ntmps129 (by simp) ?_
 simp only [slotsOf]
 conv => arg 2; reduce
 obtain ⟨L, hL⟩ : ∃ L, L = s.data.toList := ⟨_, rfl⟩
 have hsL : s = toB L := by rw [hL, toB_list]
 have hsz : s.size = L.length := by rw [hsL, size_toB]
 have hpB : pieceB s = (pieceL L).map toB := by rw [pieceB, hL]
 repeat' first | refine St.go ?_ | ((with_reducible refine cn ?_ ?_) <;> intro h <;> (try simp at h) <;> try omega) | (refine Ru.go ?_; intro K hK; simp [go_sem]; (try simp (disch := omega) only [wx, z_i]); (first | apply hK | refine ⟨ob, ?_⟩ | refine ⟨hK _ ?_, fun h => ?_⟩ | refine ⟨?_, ?_⟩); all_goals ((try apply hK); clear hK K))
 refine z_k (fun n e => ∃ (i f : Nat), i + n = L.length + 1 /\ ((i <= L.length /\ f <= i /\ 46 ∉ (L.drop f).take (i - f) /\ ∃ pre, pieceL L = pre ++ pieceL (L.drop f) /\ (pre.map toB).all isWord = true) \/ (i = L.length + 1 /\ (pieceB s).all isWord = true)) /\ f <= L.length + 1 /\ e = [(4, .sv (.one (.int .i64 i))), (3, .sv (.one (.int .i64 f))), (0, .sv (.one (.str s)))]) (L.length + 1) _ ⟨0, 0, by simp, .inl ⟨by simp, by simp, by simp, [], by simp, by simp⟩, by simp, rfl⟩ (by simp [go_sem]) ?_
 rintro n e ⟨i, f, hi, hst, hfl, rfl⟩
 rcases hst with ⟨hil, hfi, hno, pre, hpre, hall⟩ | ⟨hie, hall⟩
 ·have hle : (i : Int) <= (s.size : Int) := by omega
  have hex : s.extract f i = toB ((L.take i).drop f) := by rw [hsL, extract_toB]
  have hpc : (L.take i).drop f = (L.drop f).take (i - f) := by rw [List.drop_take]
  by_cases hlt : i < L.length
  ·have hlt' : i < s.size := by omega
   have hne : ¬ (i : Int) = (s.size : Int) := by omega
   have hbi : s[i] = L[i] := by
    simp only [hL, ByteArray.getElem_eq_getElem_data]
    simp
   by_cases h46 : L[i] = 46
   ·have h46' : (s[i].toNat : Int) = 46 := by rw [hbi, h46]; rfl
    have hds := drop_split hfi hlt h46
    have hpl : pieceL (L.drop f) = (L.drop f).take (i - f) :: pieceL (L.drop (i + 1)) := by
     conv => lhs; rw [hds]
     exact pieceL_at hno
    have f147s := f147 (s.extract f i)
    cases hw : isWord (s.extract f i) with
    | false =>
      rw [hw] at f147s
      have hf : isPath s = false := by
       unfold isPath
       rw [hpB, hpre, hpl, List.map_append, List.map_cons, List.all_append, List.all_cons, <- hpc, <- hex, hw]
       simp
      have q_ := aN hle <| aN hne <| aN hlt' <| aN h46' <| hw
      repeat' first | refine St.go ?_ | ((with_reducible refine cn ?_ ?_) <;> intro h <;> (try simp [q_] at h) <;> try omega) | (refine Ru.go ?_; intro K hK; simp [go_sem, q_]; (try simp (disch := omega) only [wx, z_i]); (first | apply hK | ((try refine .inl ?_); refine ⟨_, by (repeat' first | exact f147s | refine And.intro ?_ ?_ | simp [go_sem, q_]); first | done | omega, ?_⟩; first | apply hK | (refine ⟨by simp [go_sem, q_], ?_⟩; apply hK)) | refine ⟨ob, ?_⟩ | refine ⟨hK _ ?_, fun h => ?_⟩ | refine ⟨?_, ?_⟩); all_goals ((try apply hK); clear hK K))
      all_goals try clear q_
      simp [go_sem, hf]
    | true =>
      rw [hw] at f147s
      have q_ := aN hle <| aN hne <| aN hlt' <| aN h46' <| hw
      repeat' first | refine St.go ?_ | ((with_reducible refine cn ?_ ?_) <;> intro h <;> (try simp [q_] at h) <;> try omega) | (refine Ru.go ?_; intro K hK; simp [go_sem, q_]; (try simp (disch := omega) only [wx, z_i]); (first | apply hK | ((try refine .inl ?_); refine ⟨_, by (repeat' first | exact f147s | refine And.intro ?_ ?_ | simp [go_sem, q_]); first | done | omega, ?_⟩; first | apply hK | (refine ⟨by simp [go_sem, q_], ?_⟩; apply hK)) | refine ⟨ob, ?_⟩ | refine ⟨hK _ ?_, fun h => ?_⟩ | refine ⟨?_, ?_⟩); all_goals ((try apply hK); clear hK K))
      all_goals try clear q_
      refine z_j (n - 1) _ (by omega) ⟨i + 1, i + 1, by omega, .inl ⟨by omega, by omega, by simp, pre ++ [(L.drop f).take (i - f)], ?_, ?_⟩, by omega, rfl⟩ ?_
      ·rw [List.append_assoc, List.singleton_append, <- hpl]
       exact hpre
      ·rw [List.map_append, List.all_append, hall, List.map_cons, List.all_cons, <- hpc, <- hex, hw]
       rfl
      ·simp [go_sem]
   ·have h46' : ¬ (s[i].toNat : Int) = 46 := by
     rw [hbi]
     intro e
     apply h46
     have : L[i].toNat = 46 := by omega
     exact UInt8.toNat_inj.1 this
    have q_ := aN hle <| aN hne <| aN hlt' <| h46'
    repeat' first | refine St.go ?_ | ((with_reducible refine cn ?_ ?_) <;> intro h <;> (try simp [q_] at h) <;> try omega) | (refine Ru.go ?_; intro K hK; simp [go_sem, q_]; (try simp (disch := omega) only [wx, z_i]); (first | apply hK | refine ⟨ob, ?_⟩ | refine ⟨hK _ ?_, fun h => ?_⟩ | refine ⟨?_, ?_⟩); all_goals ((try apply hK); clear hK K))
    all_goals try clear q_
    refine z_j (n - 1) _ (by omega) ⟨i + 1, f, by omega, .inl ⟨by omega, by omega, ?_, pre, hpre, hall⟩, hfl, rfl⟩ ?_
    ·have e1 : i + 1 - f = (i - f) + 1 := by omega
     have hlen : i - f < (L.drop f).length := by rw [List.length_drop]; omega
     rw [e1, List.take_succ_eq_append_getElem hlen]
     simp only [List.mem_append, List.mem_singleton, not_or]
     refine ⟨hno, ?_⟩
     rw [List.getElem_drop]
     have e2 : f + (i - f) = i := by omega
     simp only [e2]
     exact fun e => h46 e.symm
    ·simp [go_sem]
  ·have hie : i = L.length := by omega
   have heq : (i : Int) = (s.size : Int) := by omega
   have hext : s.extract f i = s.extract f s.size := by congr 1; omega
   have hde : L.drop f = (L.drop f).take (i - f) := by
    rw [List.take_of_length_le (by rw [List.length_drop]; omega)]
   have hpl : pieceL (L.drop f) = [(L.drop f).take (i - f)] := by
    conv => lhs; rw [hde]
    exact pieceL_no hno
   have f147s := f147 (s.extract f i)
   cases hw : isWord (s.extract f i) with
   | false =>
     rw [hw] at f147s
     have hf : isPath s = false := by
      unfold isPath
      rw [hpB, hpre, hpl, List.map_append, List.map_cons, List.all_append, List.all_cons, <- hpc, <- hex, hw]
      simp
     rw [hext] at f147s
     have q_ := aN hle <| aN heq <| hw
     repeat' first | refine St.go ?_ | ((with_reducible refine cn ?_ ?_) <;> intro h <;> (try simp [q_] at h) <;> try omega) | (refine Ru.go ?_; intro K hK; simp [go_sem, q_]; (try simp (disch := omega) only [wx, z_i]); (first | apply hK | ((try refine .inl ?_); refine ⟨_, by (repeat' first | exact f147s | refine And.intro ?_ ?_ | simp [go_sem, q_]); first | done | omega, ?_⟩; first | apply hK | (refine ⟨by simp [go_sem, q_], ?_⟩; apply hK)) | refine ⟨ob, ?_⟩ | refine ⟨hK _ ?_, fun h => ?_⟩ | refine ⟨?_, ?_⟩); all_goals ((try apply hK); clear hK K))
     all_goals try clear q_
     simp [go_sem, hf]
   | true =>
     rw [hw] at f147s
     rw [hext] at f147s
     have q_ := aN hle <| aN heq <| hw
     repeat' first | refine St.go ?_ | ((with_reducible refine cn ?_ ?_) <;> intro h <;> (try simp [q_] at h) <;> try omega) | (refine Ru.go ?_; intro K hK; simp [go_sem, q_]; (try simp (disch := omega) only [wx, z_i]); (first | apply hK | ((try refine .inl ?_); refine ⟨_, by (repeat' first | exact f147s | refine And.intro ?_ ?_ | simp [go_sem, q_]); first | done | omega, ?_⟩; first | apply hK | (refine ⟨by simp [go_sem, q_], ?_⟩; apply hK)) | refine ⟨ob, ?_⟩ | refine ⟨hK _ ?_, fun h => ?_⟩ | refine ⟨?_, ?_⟩); all_goals ((try apply hK); clear hK K))
     all_goals try clear q_
     refine z_j (n - 1) _ (by omega) ⟨i + 1, i + 1, by omega, .inr ⟨by omega, ?_⟩, by omega, rfl⟩ ?_
     ·rw [hpB, hpre, hpl, List.map_append, List.map_cons, List.all_append, hall, List.all_cons, <- hpc, <- hex, hw]
      rfl
     ·simp [go_sem]
      omega
 ·have hgt : ¬ (i : Int) <= (s.size : Int) := by omega
  repeat' first | refine St.go ?_ | ((with_reducible refine cn ?_ ?_) <;> intro h <;> (try simp [hgt] at h) <;> try omega) | (refine Ru.go ?_; intro K hK; simp [go_sem, hgt]; (try simp (disch := omega) only [wx, z_i]); (first | apply hK | refine ⟨ob, ?_⟩ | refine ⟨hK _ ?_, fun h => ?_⟩ | refine ⟨?_, ?_⟩); all_goals ((try apply hK); clear hK K))
  have : decide ((s.size : Int) <= 50) = decide (s.size <= 50) := by
   by_cases h : s.size <= 50
   ·rw [decide_eq_true h, decide_eq_true (by omega)]
   ·rw [decide_eq_false h, decide_eq_false (by omega)]
  simp [go_sem, isPath, hall]
  omega
structure Fld where
 name : ByteArray
 kind : Int
 lo : Int
 hi : Int
structure Dff where
 x : Int
 y : Int
 c : Int
structure Dcl where
 name : ByteArray
 fields : List Fld
 first : Int
 diffs : List Dff
 equals : List (Int × Int)
structure Edg where
 from_ : Int
 act : Inter
 to : Int
 again : Bool
structure Tmo where
 state : Int
 ticks : Int
 els : Int
structure Glob where
 name : ByteArray
 roles : List ByteArray
 decls : List Dcl
 states : Int
 start : Int
 end_ : Int
 edges : List Edg
 timeouts : List Tmo
def encF (f : Fld) : List DV := [.str f.name, .int .i64 f.kind, .int .i64 f.lo, .int .i64 f.hi]
def encDf (d : Dff) : List DV := [.int .i64 d.x, .int .i64 d.y, .int .i64 d.c]
def encEq (e : Int × Int) : List DV := [.int .i64 e.1, .int .i64 e.2]
def encD (d : Dcl) : List DV := [.str d.name, .sl (d.fields.map encF), .int .i64 d.first, .sl (d.diffs.map encDf), .sl (d.equals.map encEq)]
def encEd (x : Edg) : List DV := [.int .i64 x.from_, .int .i64 x.act.from_, .int .i64 x.act.to, .int .i64 x.act.label, .int .i64 x.to, .bool x.again]
def encT (t : Tmo) : List DV := [.int .i64 t.state, .int .i64 t.ticks, .int .i64 t.els]
def encG (g : Glob) : List DV := [.str g.name, .sl (g.roles.map encS), .sl (g.decls.map encD), .int .i64 g.states, .int .i64 g.start, .int .i64 g.end_, .sl (g.edges.map encEd), .sl (g.timeouts.map encT)]
def goodSort (f : Fld) : Bool :=
 if f.kind = 1 then decide (-1000 <= f.lo) && decide (f.lo <= f.hi) && decide (f.hi <= 1000)
 else if f.kind = 2 then decide (0 <= f.lo) && decide (f.lo <= f.hi) && decide (f.hi <= 40)
 else false
def allF (l : List Dcl) : List Fld := l.flatMap Dcl.fields
def okDff (n : Nat) (d : Dff) : Bool := decide (-1 <= d.x) && decide (-1 <= d.y) && decide (d.x < n) && decide (d.y < n) && decide (-20000 <= d.c) && decide (d.c <= 20000)
def isText (all : List Fld) (x : Int) : Bool := decide (0 <= x) && decide (x < all.length) && match all[x.toNat]? with
 | some f => decide (f.kind = 2)
 | none => false
def okGuard (all : List Fld) (d : Dcl) : Bool := decide (d.diffs.length <= 20) && decide (d.equals.length <= 20) && d.diffs.all (okDff all.length) && d.equals.all fun e => isText all e.1 && isText all e.2
theorem f134 (k lo hi : Int) (nm : ByteArray) : Impl Tryz.prog 134 [.ag [.int .i64 k, .int .i64 lo, .int .i64 hi]] (.one (.one (.bool (goodSort ⟨nm, k, lo, hi⟩)))) := by
 refine impl_w Tryz.func134 z134 Tryz.ntmps134 (by simp) ?_
 simp only [slotsOf]
 conv => arg 2; reduce
 by_cases h1 : k = 1
 ·skip
  repeat' first | refine St.go ?_ | ((with_reducible refine cn ?_ ?_) <;> intro h <;> (try simp [h1] at h) <;> try omega) | (refine Ru.go ?_; intro K hK; simp [go_sem, h1]; (first | apply hK | refine ⟨ob, ?_⟩ | refine ⟨hK _ ?_, fun h => ?_⟩ | refine ⟨?_, ?_⟩); all_goals ((try apply hK); clear hK K))
  simp [go_sem, goodSort, h1]
 ·by_cases h2 : k = 2
  ·skip
   repeat' first | refine St.go ?_ | ((with_reducible refine cn ?_ ?_) <;> intro h <;> (try simp [h1, h2] at h) <;> try omega) | (refine Ru.go ?_; intro K hK; simp [go_sem, h1, h2]; (first | apply hK | refine ⟨ob, ?_⟩ | refine ⟨hK _ ?_, fun h => ?_⟩ | refine ⟨?_, ?_⟩); all_goals ((try apply hK); clear hK K))
   simp [go_sem, goodSort, h1, h2]
  ·skip
   repeat' first | refine St.go ?_ | ((with_reducible refine cn ?_ ?_) <;> intro h <;> (try simp [h1, h2] at h) <;> try omega) | (refine Ru.go ?_; intro K hK; simp [go_sem, h1, h2]; (first | apply hK | refine ⟨ob, ?_⟩ | refine ⟨hK _ ?_, fun h => ?_⟩ | refine ⟨?_, ?_⟩); all_goals ((try apply hK); clear hK K))
   simp [go_sem, goodSort, h1, h2]
theorem f113 (l : List Dcl) (hl : l.length <= 1000) (hf : ∀ d ∈ l, d.fields.length <= 100000) : Impl Tryz.prog 113 [.one (.sl (l.map encD))] (.one (.one (.ow 4 ((allF l).map encF)))) := by
 refine impl_w Tryz.func113 z113 Tryz.ntmps113 (by simp) ?_
 simp only [slotsOf]
 conv => arg 2; reduce
 repeat' first | refine St.go ?_ | ((with_reducible refine cn ?_ ?_) <;> intro h <;> (try simp at h) <;> try omega) | (refine Ru.go ?_; intro K hK; simp [go_sem]; (try simp (disch := omega) only [wx, z_i]); (first | apply hK | refine ⟨by first | omega | (simp [z_f, z_g]; first | done | omega), ?_⟩ | refine ⟨hK _ ?_, fun h => ?_⟩ | refine ⟨?_, ?_⟩); all_goals ((try apply hK); clear hK K))
 refine z_k (fun n e => ∃ k : Nat, k + n = l.length /\ e = [(8, .sv (.one (.int .i64 k))), (7, .sv (.one (.int .i64 l.length))), (6, .sv (.one (.sl (l.map encD)))), (3, .sv (.one (.ow 4 ((allF (l.take k)).map encF)))), (0, .sv (.one (.sl (l.map encD))))]) l.length _ ⟨0, by simp, rfl⟩ (by simp [go_sem, allF]) ?_
 rintro n e ⟨k, hk, rfl⟩
 by_cases hlt : k < l.length
 ·have hfk := hf l[k] (List.getElem_mem hlt)
  have hall : (allF (l.take k)).length <= k * 100000 := by
   have : ∀ (m : List Dcl), (∀ d ∈ m, d.fields.length <= 100000) -> (allF m).length <= m.length * 100000 := by
    intro m
    induction m with
    | nil => simp [allF]
    | cons d m ih =>
      intro h
      have h1 := ih fun x hx => h x (by simp [hx])
      have h2 := h d (by simp)
      simp only [allF, List.flatMap_cons, List.length_append, List.length_cons] at h1 ⊢
      omega
   have h1 := this (l.take k) fun d hd => hf d (List.mem_of_mem_take hd)
   have h2 : (l.take k).length <= k := List.length_take_le _ _
   exact Nat.le_trans h1 (Nat.mul_le_mul_right _ h2)
  have hs : allF (l.take (k + 1)) = allF (l.take k) ++ l[k].fields := by
   unfold allF
   rw [List.take_succ_eq_append_getElem hlt, List.flatMap_append]
   simp
  repeat' first | refine St.go ?_ | ((with_reducible refine cn ?_ ?_) <;> intro h <;> (try simp [hlt] at h) <;> try omega) | (refine Ru.go ?_; intro K hK; simp [go_sem, hlt, encD]; (try simp (disch := omega) only [wx, z_i]); (first | apply hK | refine ⟨by first | omega | (simp [z_f, z_g, hlt, encD, maxLen, DV.flat, encF]; first | done | omega), ?_⟩ | refine ⟨hK _ ?_, fun h => ?_⟩ | refine ⟨?_, ?_⟩); all_goals ((try apply hK); clear hK K))
  refine z_j (n - 1) _ (by omega) ⟨k + 1, by omega, rfl⟩ ?_
  simp [go_sem, hs]
 ·have hkl : l.take k = l := List.take_of_length_le (by omega)
  repeat' first | refine St.go ?_ | ((with_reducible refine cn ?_ ?_) <;> intro h <;> (try simp [hlt, hkl] at h) <;> try omega) | (refine Ru.go ?_; intro K hK; simp [go_sem, hlt, hkl]; (try simp (disch := omega) only [wx, z_i]); (first | apply hK | refine ⟨by first | omega | (simp [z_f, z_g, hlt, hkl]; first | done | omega), ?_⟩ | refine ⟨hK _ ?_, fun h => ?_⟩ | refine ⟨?_, ?_⟩); all_goals ((try apply hK); clear hK K))
  simp [go_sem]
end Go.Av

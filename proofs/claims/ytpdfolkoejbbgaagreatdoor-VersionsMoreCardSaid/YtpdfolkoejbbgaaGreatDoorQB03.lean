/- Part of a proof by symbolic walks on plain data. -/
import Derived.Test.YtpdfolkoejbbgaaGreatDoorQB02
set_option linter.unusedVariables false
set_option linter.unusedSimpArgs false
set_option maxHeartbeats 64000000
namespace Go.Av
open Go Go.RowKit Go.Proofs
set_option maxRecDepth 8000
theorem allF_le {B : Nat} : ∀ (m : List Dcl), (∀ d ∈ m, d.fields.length <= B) -> (allF m).length <= m.length * B
 | [], _ => by simp [allF]
 | d :: m, h => by
   have h1 := allF_le m fun x hx => h x (by simp [hx])
   have h2 := h d (by simp)
   simp only [allF, List.flatMap_cons, List.length_append, List.length_cons, Nat.succ_mul] at h1 ⊢
   omega
theorem allF_take_le {B k : Nat} {l : List Dcl} (hf : ∀ d ∈ l, d.fields.length <= B) : (allF (l.take k)).length <= k * B :=
 Nat.le_trans (allF_le _ fun d hd => hf d (List.mem_of_mem_take hd)) (Nat.mul_le_mul_right _ (List.length_take_le _ _))
theorem allF_succ {l : List Dcl} {k : Nat} (hlt : k < l.length) : allF (l.take (k + 1)) = allF (l.take k) ++ l[k].fields := by
 unfold allF
 rw [List.take_succ_eq_append_getElem hlt, List.flatMap_append]
 simp
theorem allF_split (l : List Dcl) (k : Nat) : allF l = allF (l.take k) ++ allF (l.drop k) := by
 unfold allF
 rw [<- List.flatMap_append, List.take_append_drop]
theorem allF_at {l : List Dcl} {k y : Nat} (hlt : k < l.length) (hy : y < l[k].fields.length) : (allF l)[(allF (l.take k)).length + y]? = some l[k].fields[y] := by
 rw [allF_split l (k + 1), allF_succ hlt, List.append_assoc, List.getElem?_append_right (by omega)]
 rw [List.getElem?_append_left (by omega)]
 have : (allF (l.take k)).length + y - (allF (l.take k)).length = y := by omega
 rw [this, List.getElem?_eq_getElem hy]
theorem f116 (k lo hi : Int) (nm : ByteArray) : Impl Tryz.prog 116 [.ag [.int .i64 k, .int .i64 lo, .int .i64 hi]] (.one (.one (.bool (goodSort ⟨nm, k, lo, hi⟩)))) := by
 refine impl_w Tryz.func116 z116 Tryz.ntmps116 (by simp) ?_
 simp only [slotsOf]
 conv => arg 2; reduce
 by_cases h1 : k = 1
 ·skip
  repeat' first | refine St.go ?_ | ((with_reducible refine z_Y (t := ?_) ?hc (fun h => ?_) (fun h => ?_)); (case hc => rfl); all_goals (try simp [go_sem, h1] at h); all_goals try omega) | (refine Ru.go ?_; intro K hK; simp [go_sem, h1]; (first | apply hK | refine ⟨by first | omega | (simp [z_f, z_g, h1]; first | done | omega), ?_⟩ | refine ⟨hK _ ?_, fun h => ?_⟩ | refine ⟨?_, ?_⟩); all_goals ((try apply hK); clear hK K))
  simp [go_sem, goodSort, h1]
  rw [Bool.eq_iff_iff]
  simp
  omega
 ·by_cases h2 : k = 2
  ·skip
   repeat' first | refine St.go ?_ | ((with_reducible refine z_Y (t := ?_) ?hc (fun h => ?_) (fun h => ?_)); (case hc => rfl); all_goals (try simp [go_sem, h1, h2] at h); all_goals try omega) | (refine Ru.go ?_; intro K hK; simp [go_sem, h1, h2]; (first | apply hK | refine ⟨by first | omega | (simp [z_f, z_g, h1, h2]; first | done | omega), ?_⟩ | refine ⟨hK _ ?_, fun h => ?_⟩ | refine ⟨?_, ?_⟩); all_goals ((try apply hK); clear hK K))
   simp [go_sem, goodSort, h1, h2]
   rw [Bool.eq_iff_iff]
   simp
   omega
  ·skip
   repeat' first | refine St.go ?_ | ((with_reducible refine z_Y (t := ?_) ?hc (fun h => ?_) (fun h => ?_)); (case hc => rfl); all_goals (try simp [go_sem, h1, h2] at h); all_goals try omega) | (refine Ru.go ?_; intro K hK; simp [go_sem, h1, h2]; (first | apply hK | refine ⟨by first | omega | (simp [z_f, z_g, h1, h2]; first | done | omega), ?_⟩ | refine ⟨hK _ ?_, fun h => ?_⟩ | refine ⟨?_, ?_⟩); all_goals ((try apply hK); clear hK K))
   simp [go_sem, goodSort, h1, h2]
theorem f41 (l : List Dcl) (hl : l.length <= 1000) (hf : ∀ d ∈ l, d.fields.length <= 100000) : Impl Tryz.prog 41 [.one (.sl (l.map encD))] (.one (.one (.int .i64 ((allF l).length : Nat)))) := by
 refine impl_w Tryz.func41 z41 Tryz.ntmps41 (by simp) ?_
 simp only [slotsOf]
 conv => arg 2; reduce
 repeat' first | refine St.go ?_ | ((with_reducible refine z_Y (t := ?_) ?hc (fun h => ?_) (fun h => ?_)); (case hc => rfl); all_goals (try simp [go_sem] at h); all_goals try omega) | (refine Ru.go ?_; intro K hK; simp [go_sem]; (try simp (disch := omega) only [z_h, z_i, eq_self, true_and]); (first | apply hK | refine ⟨by first | omega | (simp [z_f, z_g]; first | done | omega), ?_⟩ | refine ⟨hK _ ?_, fun h => ?_⟩ | refine ⟨?_, ?_⟩); all_goals ((try apply hK); clear hK K))
 refine z_k (fun n e => ∃ k : Nat, k + n = l.length /\ e = [(4, .sv (.one (.int .i64 k))), (3, .sv (.one (.int .i64 ((allF (l.take k)).length : Nat)))), (0, .sv (.one (.sl (l.map encD))))]) l.length _ ⟨0, by simp, rfl⟩ (by simp [go_sem, allF]) ?_
 rintro n e ⟨k, hk, rfl⟩
 by_cases hlt : k < l.length
 ·have hfk := hf l[k] (List.getElem_mem hlt)
  have hall := allF_take_le (k := k) hf
  repeat' first | refine St.go ?_ | ((with_reducible refine z_Y (t := ?_) ?hc (fun h => ?_) (fun h => ?_)); (case hc => rfl); all_goals (try simp [go_sem, hlt, encD] at h); all_goals try omega) | (refine Ru.go ?_; intro K hK; simp [go_sem, hlt, encD]; (try simp (disch := omega) only [z_h, z_i, eq_self, true_and]); (first | apply hK | refine ⟨by first | omega | (simp [z_f, z_g, hlt, encD]; first | done | omega), ?_⟩ | refine ⟨hK _ ?_, fun h => ?_⟩ | refine ⟨?_, ?_⟩); all_goals ((try apply hK); clear hK K))
  refine z_j (n - 1) _ (by omega) ⟨k + 1, by omega, rfl⟩ ?_
  simp [go_sem, allF_succ hlt]
 ·have hkl : l.take k = l := List.take_of_length_le (by omega)
  repeat' first | refine St.go ?_ | ((with_reducible refine z_Y (t := ?_) ?hc (fun h => ?_) (fun h => ?_)); (case hc => rfl); all_goals (try simp [go_sem, hlt, hkl] at h); all_goals try omega) | (refine Ru.go ?_; intro K hK; simp [go_sem, hlt, hkl]; (try simp (disch := omega) only [z_h, z_i, eq_self, true_and]); (first | apply hK | refine ⟨by first | omega | (simp [z_f, z_g, hlt, hkl]; first | done | omega), ?_⟩ | refine ⟨hK _ ?_, fun h => ?_⟩ | refine ⟨?_, ?_⟩); all_goals ((try apply hK); clear hK K))
  simp [go_sem]
theorem f144 (l : List Dcl) (x : Nat) (hl : l.length <= 1000) (hf : ∀ d ∈ l, d.fields.length <= 100000) (hx : x < (allF l).length) : Impl Tryz.prog 144 [.one (.sl (l.map encD)), .one (.int .i64 x)] (.one (.ag (encF (allF l)[x]))) := by
 refine impl_w Tryz.func144 z144 Tryz.ntmps144 (by simp) ?_
 simp only [slotsOf]
 conv => arg 2; reduce
 have hxl := allF_le l hf
 repeat' first | refine St.go ?_ | ((with_reducible refine z_Y (t := ?_) ?hc (fun h => ?_) (fun h => ?_)); (case hc => rfl); all_goals (try simp [go_sem] at h); all_goals try omega) | (refine Ru.go ?_; intro K hK; simp [go_sem]; (try simp (disch := omega) only [z_h, z_i, eq_self, true_and]); (first | apply hK | refine ⟨by first | omega | (simp [z_f, z_g]; first | done | omega), ?_⟩ | refine ⟨hK _ ?_, fun h => ?_⟩ | refine ⟨?_, ?_⟩); all_goals ((try apply hK); clear hK K))
 refine z_k (fun n e => ∃ k y : Nat, k + n = l.length /\ (allF (l.take k)).length + y = x /\ e = [(5, .sv (.one (.int .i64 k))), (1, .sv (.one (.int .i64 y))), (4, .sv (.one (.bx [.str ⟨#[]⟩, .int .i64 0, .int .i64 0, .int .i64 0]))), (0, .sv (.one (.sl (l.map encD))))]) l.length _ ⟨0, x, by simp, by simp [allF], rfl⟩ (by simp [go_sem]) ?_
 rintro n e ⟨k, y, hk, hy, rfl⟩
 by_cases hlt : k < l.length
 ·have hfk := hf l[k] (List.getElem_mem hlt)
  by_cases hyl : y < l[k].fields.length
  ·have hat := allF_at hlt hyl
   rw [hy, List.getElem?_eq_getElem hx] at hat
   injection hat with hat
   repeat' first | refine St.go ?_ | ((with_reducible refine z_Y (t := ?_) ?hc (fun h => ?_) (fun h => ?_)); (case hc => rfl); all_goals (try simp [go_sem, hlt, hyl, encD, encF] at h); all_goals try omega) | (refine Ru.go ?_; intro K hK; simp [go_sem, hlt, hyl, encD, encF]; (try simp (disch := omega) only [z_h, z_i, eq_self, true_and]); (first | apply hK | refine ⟨by first | omega | (simp [z_f, z_g, hlt, hyl, encD, encF]; first | done | omega), ?_⟩ | refine ⟨hK _ ?_, fun h => ?_⟩ | refine ⟨?_, ?_⟩); all_goals ((try apply hK); clear hK K))
   simp [go_sem, hat, encF]
  ·have hs := congrArg List.length (allF_succ hlt)
   rw [List.length_append] at hs
   repeat' first | refine St.go ?_ | ((with_reducible refine z_Y (t := ?_) ?hc (fun h => ?_) (fun h => ?_)); (case hc => rfl); all_goals (try simp [go_sem, hlt, hyl, encD] at h); all_goals try omega) | (refine Ru.go ?_; intro K hK; simp [go_sem, hlt, hyl, encD]; (try simp (disch := omega) only [z_h, z_i, eq_self, true_and]); (first | apply hK | refine ⟨by first | omega | (simp [z_f, z_g, hlt, hyl, encD]; first | done | omega), ?_⟩ | refine ⟨hK _ ?_, fun h => ?_⟩ | refine ⟨?_, ?_⟩); all_goals ((try apply hK); clear hK K))
   refine z_j (n - 1) _ (by omega) ⟨k + 1, y - l[k].fields.length, by omega, by omega, rfl⟩ ?_
   simp [go_sem]
   omega
 ·have hkl : l.take k = l := List.take_of_length_le (by omega)
  rw [hkl] at hy
  omega
theorem f129 (l : List Dcl) (x : Int) (hl : l.length <= 1000) (hf : ∀ d ∈ l, d.fields.length <= 100000) : Impl Tryz.prog 129 [.one (.sl (l.map encD)), .one (.int .i64 x)] (.one (.one (.bool (isText (allF l) x)))) := by
 refine impl_w Tryz.func129 z129 Tryz.ntmps129 (by simp) ?_
 simp only [slotsOf]
 conv => arg 2; reduce
 have f41s := f41 l hl hf
 by_cases h0 : 0 <= x
 ·by_cases hxn : x < (allF l).length
  ·have hlt : x.toNat < (allF l).length := by omega
   have f144s := f144 l x.toNat hl hf hlt
   have e0 : ((x.toNat : Nat) : Int) = x := by omega
   rw [e0] at f144s
   obtain ⟨F, hF⟩ : ∃ F, (allF l)[x.toNat] = F := ⟨_, rfl⟩
   rw [hF] at f144s
   simp only [encF] at f144s
   have hit : isText (allF l) x = (F.kind == 2) := by
    simp only [isText, h0, hxn, List.getElem?_eq_getElem hlt, hF, decide_true, Bool.true_and]
    rw [Bool.eq_iff_iff]
    simp
   repeat' first | refine St.go ?_ | (refine Ru.go ?_; intro K hK; simp [go_sem, h0, hxn]; (first | apply hK | ((try refine .inl ?_); refine ⟨_, by (try intro hc); (repeat' first | exact f41s | exact f144s | exact hc | refine And.intro ?_ ?_ | simp [go_sem, h0, hxn]); first | done | omega, ?_⟩; first | apply hK | (refine ⟨by simp [go_sem, h0, hxn], ?_⟩; first | apply hK | refine ⟨by simp [go_sem, h0, hxn], hK _ _ ?_⟩)) | refine ⟨.one (.one (.bool false)), by simp [go_sem, h0, hxn], hK _ _ ?_⟩ | refine ⟨by first | omega | (simp [z_f, z_g, h0, hxn]; first | done | omega), ?_⟩ | refine ⟨hK _ ?_, fun h => ?_⟩ | refine ⟨?_, ?_⟩); all_goals ((try apply hK); clear hK K))
   simp [go_sem, hit]
  ·skip
   repeat' first | refine St.go ?_ | (refine Ru.go ?_; intro K hK; simp [go_sem, h0, hxn]; (first | apply hK | ((try refine .inl ?_); refine ⟨_, by (try intro hc); (repeat' first | exact f41s | exact hc | refine And.intro ?_ ?_ | simp [go_sem, h0, hxn]); first | done | omega, ?_⟩; first | apply hK | (refine ⟨by simp [go_sem, h0, hxn], ?_⟩; first | apply hK | refine ⟨by simp [go_sem, h0, hxn], hK _ _ ?_⟩)) | refine ⟨.one (.one (.bool false)), by simp [go_sem, h0, hxn], hK _ _ ?_⟩ | refine ⟨by first | omega | (simp [z_f, z_g, h0, hxn]; first | done | omega), ?_⟩ | refine ⟨hK _ ?_, fun h => ?_⟩ | refine ⟨?_, ?_⟩); all_goals ((try apply hK); clear hK K))
   simp [go_sem, isText, hxn]
 ·skip
  repeat' first | refine St.go ?_ | (refine Ru.go ?_; intro K hK; simp [go_sem, h0]; (first | apply hK | refine ⟨by first | omega | (simp [z_f, z_g, h0]; first | done | omega), ?_⟩ | refine ⟨hK _ ?_, fun h => ?_⟩ | refine ⟨?_, ?_⟩); all_goals ((try apply hK); clear hK K))
  simp [go_sem, isText, h0]
theorem f118 (l : List Dcl) (d : Dcl) (hl : l.length <= 1000) (hf : ∀ d ∈ l, d.fields.length <= 100000) (hdl : d.diffs.length <= 1000000) (hel : d.equals.length <= 1000000) : Impl Tryz.prog 118 [.one (.sl (l.map encD)), .ag [.sl (d.diffs.map encDf), .sl (d.equals.map encEq)]] (.one (.one (.bool (okGuard (allF l) d)))) := by
 refine impl_w Tryz.func118 z118 Tryz.ntmps118 (by simp) ?_
 simp only [slotsOf]
 conv => arg 2; reduce
 have f41s := f41 l hl hf
 obtain ⟨all, hA⟩ : ∃ all, all = allF l := ⟨_, rfl⟩
 have hal : all.length <= 1000000000 := by
  have := allF_le l hf
  rw [hA]
  have h2 : l.length * 100000 <= 1000 * 100000 := Nat.mul_le_mul_right _ hl
  omega
 have f129s : ∀ x : Int, Impl Tryz.prog 129 [.one (.sl (l.map encD)), .one (.int .i64 x)] (.one (.one (.bool (isText all x)))) := fun x => by rw [hA]; exact f129 l x hl hf
 rw [<- hA] at f41s ⊢
 repeat' first | refine St.go ?_ | ((with_reducible refine z_Y (t := ?_) ?hc (fun h => ?_) (fun h => ?_)); (case hc => rfl); all_goals (try simp [go_sem] at h); all_goals try omega) | (refine Ru.go ?_; intro K hK; simp [go_sem]; (try simp (disch := omega) only [z_h, z_i, eq_self, true_and]); (first | apply hK | ((try refine .inl ?_); refine ⟨_, by (try intro hc); (repeat' first | exact f41s | exact hc | refine And.intro ?_ ?_ | simp [go_sem]); first | done | omega, ?_⟩; first | apply hK | (refine ⟨by simp [go_sem], ?_⟩; first | apply hK | refine ⟨by simp [go_sem], hK _ _ ?_⟩)) | refine ⟨.one (.one (.bool false)), by simp [go_sem], hK _ _ ?_⟩ | refine ⟨by first | omega | (simp [z_f, z_g]; first | done | omega), ?_⟩ | refine ⟨hK _ ?_, fun h => ?_⟩ | refine ⟨?_, ?_⟩); all_goals ((try apply hK); clear hK K))
 refine z_k (fun n e => ∃ k : Nat, k + n = d.diffs.length /\ (d.diffs.take k).all (okDff all.length) = true /\ e = [(6, .sv (.one (.int .i64 k))), (5, .sv (.one (.int .i64 all.length))), (3, .sv (.one (.bx [.sl (d.diffs.map encDf), .sl (d.equals.map encEq)]))), (0, .sv (.one (.sl (l.map encD))))]) d.diffs.length _ ⟨0, by simp, by simp, rfl⟩ (by simp [go_sem]) ?_
 rintro n e ⟨k, hk, hall, rfl⟩
 by_cases hlt : k < d.diffs.length
 ·skip
  repeat' first | refine St.go ?_ | ((with_reducible refine z_Y (t := ?_) ?hc (fun h => ?_) (fun h => ?_)); (case hc => rfl); all_goals (try simp [go_sem, hlt, encDf] at h); all_goals try omega) | (refine Ru.go ?_; intro K hK; simp [go_sem, hlt, encDf]; (try simp (disch := omega) only [z_h, z_i, eq_self, true_and]); (first | apply hK | refine ⟨by first | omega | (simp [z_f, z_g, hlt, encDf]; first | done | omega), ?_⟩ | refine ⟨hK _ ?_, fun h => ?_⟩ | refine ⟨?_, ?_⟩); all_goals ((try apply hK); clear hK K))
  ·have hb : okDff all.length d.diffs[k] = false := by
    cases hb : okDff all.length d.diffs[k] with
    | false => rfl
    | true =>
      simp only [okDff, Bool.and_eq_true, decide_eq_true_eq] at hb
      omega
   have hg : okGuard all d = false := by simp [okGuard, all_no hlt hb]
   simp [go_sem, hg]
  ·have hb : okDff all.length d.diffs[k] = true := by
    simp only [okDff, Bool.and_eq_true, decide_eq_true_eq]
    omega
   refine z_j (n - 1) _ (by omega) ⟨k + 1, by omega, ?_, rfl⟩ ?_
   ·rw [all_succ hlt, hall, hb]; rfl
   ·simp [go_sem]
 ·have hkl : d.diffs.take k = d.diffs := List.take_of_length_le (by omega)
  rw [hkl] at hall
  repeat' first | refine St.go ?_ | ((with_reducible refine z_Y (t := ?_) ?hc (fun h => ?_) (fun h => ?_)); (case hc => rfl); all_goals (try simp [go_sem, hlt] at h); all_goals try omega) | (refine Ru.go ?_; intro K hK; simp [go_sem, hlt]; (try simp (disch := omega) only [z_h, z_i, eq_self, true_and]); (first | apply hK | refine ⟨by first | omega | (simp [z_f, z_g, hlt]; first | done | omega), ?_⟩ | refine ⟨hK _ ?_, fun h => ?_⟩ | refine ⟨?_, ?_⟩); all_goals ((try apply hK); clear hK K))
  refine z_k (fun n e => ∃ k : Nat, k + n = d.equals.length /\ (d.equals.take k).all (fun e => isText all e.1 && isText all e.2) = true /\ e = [(8, .sv (.one (.int .i64 k))), (3, .sv (.one (.bx [.sl (d.diffs.map encDf), .sl (d.equals.map encEq)]))), (0, .sv (.one (.sl (l.map encD))))]) d.equals.length _ ⟨0, by simp, by simp, rfl⟩ (by simp [go_sem]) ?_
  rintro n e ⟨k, hk, hall2, rfl⟩
  by_cases hlt2 : k < d.equals.length
  ·have hbad : (isText all d.equals[k].1 && isText all d.equals[k].2) = false -> okGuard all d = false := by
    intro h
    have := all_no (p := fun e => isText all e.1 && isText all e.2) hlt2 h
    simp [okGuard, this]
   have c1 := f129s d.equals[k].1
   have c2 := f129s d.equals[k].2
   cases ht1 : isText all d.equals[k].1 with
   | false =>
     have hg := hbad (by simp [ht1])
     rw [ht1] at c1
     repeat' first | refine St.go ?_ | ((with_reducible refine z_Y (t := ?_) ?hc (fun h => ?_) (fun h => ?_)); (case hc => rfl); all_goals (try simp [go_sem, hlt2, encEq] at h); all_goals try omega) | (refine Ru.go ?_; intro K hK; simp [go_sem, hlt2, encEq]; (try simp (disch := omega) only [z_h, z_i, eq_self, true_and]); (first | apply hK | ((try refine .inl ?_); refine ⟨_, by (try intro hc); (repeat' first | exact c1 | exact hc | refine And.intro ?_ ?_ | simp [go_sem, hlt2, encEq]); first | done | omega, ?_⟩; first | apply hK | (refine ⟨by simp [go_sem, hlt2, encEq], ?_⟩; first | apply hK | refine ⟨by simp [go_sem, hlt2, encEq], hK _ _ ?_⟩)) | refine ⟨.one (.one (.bool false)), by simp [go_sem, hlt2, encEq], hK _ _ ?_⟩ | refine ⟨by first | omega | (simp [z_f, z_g, hlt2, encEq]; first | done | omega), ?_⟩ | refine ⟨hK _ ?_, fun h => ?_⟩ | refine ⟨?_, ?_⟩); all_goals ((try apply hK); clear hK K))
     simp [go_sem, hg]
   | true =>
     cases ht2 : isText all d.equals[k].2 with
     | false =>
       have hg := hbad (by simp [ht2])
       rw [ht1] at c1
       rw [ht2] at c2
       repeat' first | refine St.go ?_ | ((with_reducible refine z_Y (t := ?_) ?hc (fun h => ?_) (fun h => ?_)); (case hc => rfl); all_goals (try simp [go_sem, hlt2, encEq] at h); all_goals try omega) | (refine Ru.go ?_; intro K hK; simp [go_sem, hlt2, encEq]; (try simp (disch := omega) only [z_h, z_i, eq_self, true_and]); (first | apply hK | ((try refine .inl ?_); refine ⟨_, by (try intro hc); (repeat' first | exact c1 | exact c2 | exact hc | refine And.intro ?_ ?_ | simp [go_sem, hlt2, encEq]); first | done | omega, ?_⟩; first | apply hK | (refine ⟨by simp [go_sem, hlt2, encEq], ?_⟩; first | apply hK | refine ⟨by simp [go_sem, hlt2, encEq], hK _ _ ?_⟩)) | refine ⟨.one (.one (.bool false)), by simp [go_sem, hlt2, encEq], hK _ _ ?_⟩ | refine ⟨by first | omega | (simp [z_f, z_g, hlt2, encEq]; first | done | omega), ?_⟩ | refine ⟨hK _ ?_, fun h => ?_⟩ | refine ⟨?_, ?_⟩); all_goals ((try apply hK); clear hK K))
       simp [go_sem, hg]
     | true =>
       rw [ht1] at c1
       rw [ht2] at c2
       repeat' first | refine St.go ?_ | ((with_reducible refine z_Y (t := ?_) ?hc (fun h => ?_) (fun h => ?_)); (case hc => rfl); all_goals (try simp [go_sem, hlt2, encEq] at h); all_goals try omega) | (refine Ru.go ?_; intro K hK; simp [go_sem, hlt2, encEq]; (try simp (disch := omega) only [z_h, z_i, eq_self, true_and]); (first | apply hK | ((try refine .inl ?_); refine ⟨_, by (try intro hc); (repeat' first | exact c1 | exact c2 | exact hc | refine And.intro ?_ ?_ | simp [go_sem, hlt2, encEq]); first | done | omega, ?_⟩; first | apply hK | (refine ⟨by simp [go_sem, hlt2, encEq], ?_⟩; first | apply hK | refine ⟨by simp [go_sem, hlt2, encEq], hK _ _ ?_⟩)) | refine ⟨.one (.one (.bool false)), by simp [go_sem, hlt2, encEq], hK _ _ ?_⟩ | refine ⟨by first | omega | (simp [z_f, z_g, hlt2, encEq]; first | done | omega), ?_⟩ | refine ⟨hK _ ?_, fun h => ?_⟩ | refine ⟨?_, ?_⟩); all_goals ((try apply hK); clear hK K))
       refine z_j (n - 1) _ (by omega) ⟨k + 1, by omega, ?_, rfl⟩ ?_
       ·rw [all_succ hlt2, hall2, ht1, ht2]; rfl
       ·simp [go_sem]
  ·have hkl2 : d.equals.take k = d.equals := List.take_of_length_le (by omega)
   rw [hkl2] at hall2
   repeat' first | refine St.go ?_ | ((with_reducible refine z_Y (t := ?_) ?hc (fun h => ?_) (fun h => ?_)); (case hc => rfl); all_goals (try simp [go_sem, hlt2] at h); all_goals try omega) | (refine Ru.go ?_; intro K hK; simp [go_sem, hlt2]; (try simp (disch := omega) only [z_h, z_i, eq_self, true_and]); (first | apply hK | refine ⟨by first | omega | (simp [z_f, z_g, hlt2]; first | done | omega), ?_⟩ | refine ⟨hK _ ?_, fun h => ?_⟩ | refine ⟨?_, ?_⟩); all_goals ((try apply hK); clear hK K))
   simp [go_sem, okGuard, hall, hall2]
   rw [Bool.eq_iff_iff]
   simp
   omega
end Go.Av
namespace Go.Av
open Go Go.RowKit Go.Proofs
set_option maxRecDepth 8000
theorem f86 (l : List Dcl) (g : FuncId) (caps : List DV) (p : Dcl -> Bool) (hl : l.length <= 1000000) (hg : ∀ x ∈ l, Impl Tryz.prog g (.ag (encD x) :: caps.map .one) (.one (.one (.bool (p x))))) :
  Impl Tryz.prog 86 [.one (.sl (l.map encD)), .one (.fn g caps)] (.one (.one (.int .i64 (firstB p l)))) := by
 refine impl_w Tryz.func86 z86 Tryz.ntmps86 (by simp) ?_
 simp only [slotsOf]
 conv => arg 2; reduce
 repeat' first | refine St.go ?_ | ((with_reducible refine z_Y (t := ?_) ?hc (fun h => ?_) (fun h => ?_)); (case hc => rfl); all_goals (try simp [go_sem] at h); all_goals try omega) | (refine Ru.go ?_; intro K hK; simp [go_sem]; (try simp (disch := omega) only [z_h, z_i, eq_self, true_and]); (first | apply hK | refine ⟨by first | omega | (simp [z_f, z_g]; first | done | omega), ?_⟩ | refine ⟨hK _ ?_, fun h => ?_⟩ | refine ⟨?_, ?_⟩); all_goals ((try apply hK); clear hK K))
 refine z_k (fun n e => ∃ k : Nat, k + n = l.length /\ (l.take k).any p = false /\ e = [(8, .sv (.one (.int .i64 k))), (7, .sv (.one (.int .i64 l.length))), (1, .sv (.one (.fn g caps))), (0, .sv (.one (.sl (l.map encD))))]) l.length _ ⟨0, by simp, by simp, rfl⟩ (by simp [go_sem]) ?_
 rintro n e ⟨k, hk, h0, rfl⟩
 by_cases hlt : k < l.length
 ·have hgs := hg l[k] (List.getElem_mem hlt)
  simp only [encD] at hgs
  cases hx : p l[k] with
  | true =>
    have hf := firstB_at hlt h0 hx
    rw [hx] at hgs
    repeat' first | refine St.go ?_ | ((with_reducible refine z_Y (t := ?_) ?hc (fun h => ?_) (fun h => ?_)); (case hc => rfl); all_goals (try simp [go_sem, hlt, encD] at h); all_goals try omega) | (refine Ru.go ?_; intro K hK; simp [go_sem, hlt, encD]; (try simp (disch := omega) only [z_h, z_i, eq_self, true_and]); (first | apply hK | ((try refine .inl ?_); refine ⟨_, by (try intro hc); (repeat' first | exact hgs | exact hc | refine And.intro ?_ ?_ | simp [go_sem, hlt, encD]); first | done | omega, ?_⟩; first | apply hK | (refine ⟨by simp [go_sem, hlt, encD], ?_⟩; first | apply hK | refine ⟨by simp [go_sem, hlt, encD], hK _ _ ?_⟩)) | refine ⟨by first | omega | (simp [z_f, z_g, hlt, encD]; first | done | omega), ?_⟩ | refine ⟨hK _ ?_, fun h => ?_⟩ | refine ⟨?_, ?_⟩); all_goals ((try apply hK); clear hK K))
    simp [go_sem, hf]
  | false =>
    rw [hx] at hgs
    repeat' first | refine St.go ?_ | ((with_reducible refine z_Y (t := ?_) ?hc (fun h => ?_) (fun h => ?_)); (case hc => rfl); all_goals (try simp [go_sem, hlt, encD] at h); all_goals try omega) | (refine Ru.go ?_; intro K hK; simp [go_sem, hlt, encD]; (try simp (disch := omega) only [z_h, z_i, eq_self, true_and]); (first | apply hK | ((try refine .inl ?_); refine ⟨_, by (try intro hc); (repeat' first | exact hgs | exact hc | refine And.intro ?_ ?_ | simp [go_sem, hlt, encD]); first | done | omega, ?_⟩; first | apply hK | (refine ⟨by simp [go_sem, hlt, encD], ?_⟩; first | apply hK | refine ⟨by simp [go_sem, hlt, encD], hK _ _ ?_⟩)) | refine ⟨by first | omega | (simp [z_f, z_g, hlt, encD]; first | done | omega), ?_⟩ | refine ⟨hK _ ?_, fun h => ?_⟩ | refine ⟨?_, ?_⟩); all_goals ((try apply hK); clear hK K))
    refine z_j (n - 1) _ (by omega) ⟨k + 1, by omega, ?_, rfl⟩ ?_
    ·rw [any_succ hlt, h0, hx]; rfl
    ·simp [go_sem]
 ·have hkl : l.take k = l := List.take_of_length_le (by omega)
  rw [hkl] at h0
  have hf := firstB_none h0
  repeat' first | refine St.go ?_ | ((with_reducible refine z_Y (t := ?_) ?hc (fun h => ?_) (fun h => ?_)); (case hc => rfl); all_goals (try simp [go_sem, hlt] at h); all_goals try omega) | (refine Ru.go ?_; intro K hK; simp [go_sem, hlt]; (try simp (disch := omega) only [z_h, z_i, eq_self, true_and]); (first | apply hK | refine ⟨by first | omega | (simp [z_f, z_g, hlt]; first | done | omega), ?_⟩ | refine ⟨hK _ ?_, fun h => ?_⟩ | refine ⟨?_, ?_⟩); all_goals ((try apply hK); clear hK K))
  simp [go_sem, hf]
theorem f135 (l : List Dcl) (g : FuncId) (caps : List DV) (p : Dcl -> Bool) (hl : l.length <= 1000000) (hg : ∀ x ∈ l, Impl Tryz.prog g (.ag (encD x) :: caps.map .one) (.one (.one (.bool (p x))))) :
  Impl Tryz.prog 135 [.one (.sl (l.map encD)), .one (.fn g caps)] (.one (.one (.bool (l.any p)))) := by
 refine impl_w Tryz.func135 z135 Tryz.ntmps135 (by simp) ?_
 simp only [slotsOf]
 conv => arg 2; reduce
 have hf := firstB_any p l
 repeat' first | refine St.go ?_ | (refine Ru.go ?_; intro K hK; simp [go_sem]; (first | apply hK | ((try refine .inl ?_); refine ⟨_, by (try intro hc); (repeat' first | exact f86 l g caps p hl hg | exact hc | refine And.intro ?_ ?_ | simp [go_sem]); first | done | omega, ?_⟩; first | apply hK | (refine ⟨by simp [go_sem], ?_⟩; first | apply hK | refine ⟨by simp [go_sem], hK _ _ ?_⟩)) | refine ⟨by first | omega | (simp [z_f, z_g]; first | done | omega), ?_⟩ | refine ⟨hK _ ?_, fun h => ?_⟩ | refine ⟨?_, ?_⟩); all_goals ((try apply hK); clear hK K))
 simp [go_sem, hf]
theorem f136 (x d : Dcl) : Impl Tryz.prog 136 [.ag (encD x), .one (.rf (encD d))] (.one (.one (.bool (x.name == d.name)))) := by
 refine impl_w Tryz.func136 z136 Tryz.ntmps136 (by simp) ?_
 simp only [slotsOf]
 conv => arg 2; reduce
 repeat' first | refine St.go ?_ | (refine Ru.go ?_; intro K hK; simp [go_sem, encD]; (first | apply hK | refine ⟨by first | omega | (simp [z_f, z_g, encD]; first | done | omega), ?_⟩ | refine ⟨hK _ ?_, fun h => ?_⟩ | refine ⟨?_, ?_⟩); all_goals ((try apply hK); clear hK K))
 simp [go_sem]
theorem f150 (l : List Fld) (g : FuncId) (caps : List DV) (p : Fld -> Bool) (hl : l.length <= 1000000) (hg : ∀ x ∈ l, Impl Tryz.prog g (.ag (encF x) :: caps.map .one) (.one (.one (.bool (p x))))) :
  Impl Tryz.prog 150 [.one (.sl (l.map encF)), .one (.fn g caps)] (.one (.one (.int .i64 (firstB p l)))) := by
 refine impl_w Tryz.func150 z150 Tryz.ntmps150 (by simp) ?_
 simp only [slotsOf]
 conv => arg 2; reduce
 repeat' first | refine St.go ?_ | ((with_reducible refine z_Y (t := ?_) ?hc (fun h => ?_) (fun h => ?_)); (case hc => rfl); all_goals (try simp [go_sem] at h); all_goals try omega) | (refine Ru.go ?_; intro K hK; simp [go_sem]; (try simp (disch := omega) only [z_h, z_i, eq_self, true_and]); (first | apply hK | refine ⟨by first | omega | (simp [z_f, z_g]; first | done | omega), ?_⟩ | refine ⟨hK _ ?_, fun h => ?_⟩ | refine ⟨?_, ?_⟩); all_goals ((try apply hK); clear hK K))
 refine z_k (fun n e => ∃ k : Nat, k + n = l.length /\ (l.take k).any p = false /\ e = [(8, .sv (.one (.int .i64 k))), (7, .sv (.one (.int .i64 l.length))), (1, .sv (.one (.fn g caps))), (0, .sv (.one (.sl (l.map encF))))]) l.length _ ⟨0, by simp, by simp, rfl⟩ (by simp [go_sem]) ?_
 rintro n e ⟨k, hk, h0, rfl⟩
 by_cases hlt : k < l.length
 ·have hgs := hg l[k] (List.getElem_mem hlt)
  simp only [encF] at hgs
  cases hx : p l[k] with
  | true =>
    have hf := firstB_at hlt h0 hx
    rw [hx] at hgs
    repeat' first | refine St.go ?_ | ((with_reducible refine z_Y (t := ?_) ?hc (fun h => ?_) (fun h => ?_)); (case hc => rfl); all_goals (try simp [go_sem, hlt, encF] at h); all_goals try omega) | (refine Ru.go ?_; intro K hK; simp [go_sem, hlt, encF]; (try simp (disch := omega) only [z_h, z_i, eq_self, true_and]); (first | apply hK | ((try refine .inl ?_); refine ⟨_, by (try intro hc); (repeat' first | exact hgs | exact hc | refine And.intro ?_ ?_ | simp [go_sem, hlt, encF]); first | done | omega, ?_⟩; first | apply hK | (refine ⟨by simp [go_sem, hlt, encF], ?_⟩; first | apply hK | refine ⟨by simp [go_sem, hlt, encF], hK _ _ ?_⟩)) | refine ⟨by first | omega | (simp [z_f, z_g, hlt, encF]; first | done | omega), ?_⟩ | refine ⟨hK _ ?_, fun h => ?_⟩ | refine ⟨?_, ?_⟩); all_goals ((try apply hK); clear hK K))
    simp [go_sem, hf]
  | false =>
    rw [hx] at hgs
    repeat' first | refine St.go ?_ | ((with_reducible refine z_Y (t := ?_) ?hc (fun h => ?_) (fun h => ?_)); (case hc => rfl); all_goals (try simp [go_sem, hlt, encF] at h); all_goals try omega) | (refine Ru.go ?_; intro K hK; simp [go_sem, hlt, encF]; (try simp (disch := omega) only [z_h, z_i, eq_self, true_and]); (first | apply hK | ((try refine .inl ?_); refine ⟨_, by (try intro hc); (repeat' first | exact hgs | exact hc | refine And.intro ?_ ?_ | simp [go_sem, hlt, encF]); first | done | omega, ?_⟩; first | apply hK | (refine ⟨by simp [go_sem, hlt, encF], ?_⟩; first | apply hK | refine ⟨by simp [go_sem, hlt, encF], hK _ _ ?_⟩)) | refine ⟨by first | omega | (simp [z_f, z_g, hlt, encF]; first | done | omega), ?_⟩ | refine ⟨hK _ ?_, fun h => ?_⟩ | refine ⟨?_, ?_⟩); all_goals ((try apply hK); clear hK K))
    refine z_j (n - 1) _ (by omega) ⟨k + 1, by omega, ?_, rfl⟩ ?_
    ·rw [any_succ hlt, h0, hx]; rfl
    ·simp [go_sem]
 ·have hkl : l.take k = l := List.take_of_length_le (by omega)
  rw [hkl] at h0
  have hf := firstB_none h0
  repeat' first | refine St.go ?_ | ((with_reducible refine z_Y (t := ?_) ?hc (fun h => ?_) (fun h => ?_)); (case hc => rfl); all_goals (try simp [go_sem, hlt] at h); all_goals try omega) | (refine Ru.go ?_; intro K hK; simp [go_sem, hlt]; (try simp (disch := omega) only [z_h, z_i, eq_self, true_and]); (first | apply hK | refine ⟨by first | omega | (simp [z_f, z_g, hlt]; first | done | omega), ?_⟩ | refine ⟨hK _ ?_, fun h => ?_⟩ | refine ⟨?_, ?_⟩); all_goals ((try apply hK); clear hK K))
  simp [go_sem, hf]
theorem f138 (l : List Fld) (g : FuncId) (caps : List DV) (p : Fld -> Bool) (hl : l.length <= 1000000) (hg : ∀ x ∈ l, Impl Tryz.prog g (.ag (encF x) :: caps.map .one) (.one (.one (.bool (p x))))) :
  Impl Tryz.prog 138 [.one (.sl (l.map encF)), .one (.fn g caps)] (.one (.one (.bool (l.any p)))) := by
 refine impl_w Tryz.func138 z138 Tryz.ntmps138 (by simp) ?_
 simp only [slotsOf]
 conv => arg 2; reduce
 have hf := firstB_any p l
 repeat' first | refine St.go ?_ | (refine Ru.go ?_; intro K hK; simp [go_sem]; (first | apply hK | ((try refine .inl ?_); refine ⟨_, by (try intro hc); (repeat' first | exact f150 l g caps p hl hg | exact hc | refine And.intro ?_ ?_ | simp [go_sem]); first | done | omega, ?_⟩; first | apply hK | (refine ⟨by simp [go_sem], ?_⟩; first | apply hK | refine ⟨by simp [go_sem], hK _ _ ?_⟩)) | refine ⟨by first | omega | (simp [z_f, z_g]; first | done | omega), ?_⟩ | refine ⟨hK _ ?_, fun h => ?_⟩ | refine ⟨?_, ?_⟩); all_goals ((try apply hK); clear hK K))
 simp [go_sem, hf]
theorem f139 (x d : Fld) : Impl Tryz.prog 139 [.ag (encF x), .one (.rf (encF d))] (.one (.one (.bool (x.name == d.name)))) := by
 refine impl_w Tryz.func139 z139 Tryz.ntmps139 (by simp) ?_
 simp only [slotsOf]
 conv => arg 2; reduce
 repeat' first | refine St.go ?_ | (refine Ru.go ?_; intro K hK; simp [go_sem, encF]; (first | apply hK | refine ⟨by first | omega | (simp [z_f, z_g, encF]; first | done | omega), ?_⟩ | refine ⟨hK _ ?_, fun h => ?_⟩ | refine ⟨?_, ?_⟩); all_goals ((try apply hK); clear hK K))
 simp [go_sem]
end Go.Av
namespace Go.Av
open Go Go.RowKit Go.Proofs
set_option maxRecDepth 8000
theorem range_succ_all (p : Nat -> Bool) (k : Nat) : (List.range (k + 1)).all p = ((List.range k).all p && p k) := by simp [List.range_succ]
theorem range_all_no {p : Nat -> Bool} {n k : Nat} (h : k < n) (hb : p k = false) : (List.range n).all p = false := by
 rw [List.all_eq_false]
 exact ⟨k, by simp [h], by simp [hb]⟩
theorem frz_encF (x : Fld) : frzL (encF x) = encF x := by simp [encF, frzL, DV.frz]
def okFieldAt (fs : List Fld) (k : Nat) : Bool := match fs[k]? with
 | some f => isWord f.name && goodSort f && !(fs.take k).any (fun x => x.name == f.name)
 | none => true
def okFields (fs : List Fld) : Bool := (List.range fs.length).all (okFieldAt fs)
def okDeclAt (l : List Dcl) (i : Nat) : Bool := match l[i]? with
 | some d => isPath d.name && decide (d.fields.length <= 4) && decide (d.first = ((allF (l.take i)).length : Int)) && !(l.take i).any (fun x => x.name == d.name) && okFields d.fields && okGuard (allF l) d
 | none => true
def validD (l : List Dcl) : Bool := decide (l.length <= 40) && decide ((allF l).length <= 24) && (List.range l.length).all (okDeclAt l)
theorem okFieldAt_get {fs : List Fld} {k : Nat} (h : k < fs.length) : okFieldAt fs k = (isWord fs[k].name && goodSort fs[k] && !(fs.take k).any (fun x => x.name == fs[k].name)) := by
 unfold okFieldAt
 rw [List.getElem?_eq_getElem h]
theorem okDeclAt_get {l : List Dcl} {i : Nat} (h : i < l.length) : okDeclAt l i = (isPath l[i].name && decide (l[i].fields.length <= 4) && decide (l[i].first = ((allF (l.take i)).length : Int)) && !(l.take i).any (fun x => x.name == l[i].name) && okFields l[i].fields && okGuard (allF l) l[i]) := by
 unfold okDeclAt
 rw [List.getElem?_eq_getElem h]
theorem f123 (l : List Dcl) (hl : l.length <= 1000) (hf : ∀ d ∈ l, d.fields.length <= 100000) : Impl Tryz.prog 123 [.one (.sl (l.map encD))] (.one (.one (.bool (validD l)))) := by
 refine impl_w Tryz.func123 z123 Tryz.ntmps123 (by simp) ?_
 simp only [slotsOf]
 conv => arg 2; reduce
 by_cases h40 : l.length <= 40
 ·have h40' : ¬ (40 : Int) < (l.length : Int) := by omega
  have f133s := f133 l hl hf
  obtain ⟨all, hA⟩ : ∃ all, all = allF l := ⟨_, rfl⟩
  rw [<- hA] at f133s
  by_cases h24 : all.length <= 24
  ·have h24' : ¬ (24 : Int) < (all.length : Int) := by omega
   repeat' first | refine St.go ?_ | ((with_reducible refine z_Y (t := ?_) ?hc (fun h => ?_) (fun h => ?_)); (case hc => rfl); all_goals (try simp [go_sem, h40', h24'] at h); all_goals try omega) | (refine Ru.go ?_; intro K hK; simp [go_sem, h40', h24']; (try simp (disch := omega) only [z_h, z_i, eq_self, true_and]); (first | apply hK | ((try refine .inl ?_); refine ⟨_, by (try intro hc); (repeat' first | exact f133s | exact hc | refine And.intro ?_ ?_ | simp [go_sem, h40', h24']); first | done | omega, ?_⟩; first | apply hK | (refine ⟨by simp [go_sem, h40', h24'], ?_⟩; first | apply hK | refine ⟨by simp [go_sem, h40', h24'], hK _ _ ?_⟩)) | refine ⟨.one (.one (.bool false)), by simp [go_sem, h40', h24'], hK _ _ ?_⟩ | refine ⟨by first | omega | (simp [z_f, z_g, h40', h24']; first | done | omega), ?_⟩ | refine ⟨hK _ ?_, fun h => ?_⟩ | refine ⟨?_, ?_⟩); all_goals ((try apply hK); clear hK K))
   refine z_k (fun n e => ∃ i : Nat, i + n = l.length /\ (List.range i).all (okDeclAt l) = true /\ e = [(19, .sv (.one (.int .i64 i))), (18, .sv (.one (.int .i64 l.length))), (17, .sv (.one (.sl (l.map encD)))), (4, .sv (.one (.int .i64 ((allF (l.take i)).length : Nat)))), (3, .sv (.one (.ow 4 (all.map encF)))), (0, .sv (.one (.sl (l.map encD))))]) l.length _ ⟨0, by simp, by simp, rfl⟩ (by simp [go_sem, allF]) ?_
   rintro n e ⟨i, hi, hall, rfl⟩
   by_cases hlt : i < l.length
   ·have hfi := hf l[i] (List.getElem_mem hlt)
    have hok := okDeclAt_get hlt
    have hbad : okDeclAt l i = false -> validD l = false := fun h => by simp [validD, range_all_no hlt h]
    have hat := allF_take_le (k := i) hf
    have hsc := congrArg List.length (allF_succ hlt)
    rw [List.length_append] at hsc
    obtain ⟨d, hd⟩ : ∃ d, l[i] = d := ⟨_, rfl⟩
    rw [hd] at hfi hok hsc
    have f134s := f134 d.name
    have hti : (l.take i).length <= 1000000 := Nat.le_trans (List.length_take_le _ _) (by omega)
    have f135s := f135 (l.take i) 136 [.rf (encD d)] (fun x => x.name == d.name) hti (fun x _ => f136 x d)
    rw [List.map_take] at f135s
    cases hp : isPath d.name with
    | false =>
      have hv := hbad (by rw [hok, hp]; rfl)
      rw [hp] at f134s
      repeat' first | refine St.go ?_ | ((with_reducible refine z_Y (t := ?_) ?hc (fun h => ?_) (fun h => ?_)); (case hc => rfl); all_goals (try simp [go_sem, hlt, hd, encD] at h); all_goals try omega) | (refine Ru.go ?_; intro K hK; simp [go_sem, hlt, hd, encD]; (try simp (disch := omega) only [z_h, z_i, eq_self, true_and]); (first | apply hK | ((try refine .inl ?_); refine ⟨_, by (try intro hc); (repeat' first | exact f134s | exact hc | refine And.intro ?_ ?_ | simp [go_sem, hlt, hd, encD]); first | done | omega, ?_⟩; first | apply hK | (refine ⟨by simp [go_sem, hlt, hd, encD], ?_⟩; first | apply hK | refine ⟨by simp [go_sem, hlt, hd, encD], hK _ _ ?_⟩)) | refine ⟨.one (.one (.bool false)), by simp [go_sem, hlt, hd, encD], hK _ _ ?_⟩ | refine ⟨by first | omega | (simp [z_f, z_g, hlt, hd, encD]; first | done | omega), ?_⟩ | refine ⟨hK _ ?_, fun h => ?_⟩ | refine ⟨?_, ?_⟩); all_goals ((try apply hK); clear hK K))
      simp [go_sem, hv]
    | true =>
      rw [hp] at f134s
      by_cases h4 : d.fields.length <= 4
      ·have h4' : ¬ (4 : Int) < (d.fields.length : Int) := by omega
       by_cases hfst : d.first = ((allF (l.take i)).length : Int)
       ·have hfst' : (d.first != ((allF (l.take i)).length : Int)) = false := by simp [hfst]
        cases hany : (l.take i).any (fun x => x.name == d.name) with
        | true =>
          have hv := hbad (by rw [hok, hany]; simp)
          rw [hany] at f135s
          repeat' first | refine St.go ?_ | ((with_reducible refine z_Y (t := ?_) ?hc (fun h => ?_) (fun h => ?_)); (case hc => rfl); all_goals (try simp [go_sem, hlt, hd, encD, h4', hfst'] at h); all_goals try omega) | (refine Ru.go ?_; intro K hK; simp [go_sem, hlt, hd, encD, h4', hfst']; (try simp (disch := omega) only [z_h, z_i, eq_self, true_and]); (first | apply hK | ((try refine .inl ?_); refine ⟨_, by (try intro hc); (repeat' first | exact f134s | exact f135s | exact hc | refine And.intro ?_ ?_ | simp [go_sem, hlt, hd, encD, h4', hfst']); first | done | omega, ?_⟩; first | apply hK | (refine ⟨by simp [go_sem, hlt, hd, encD, h4', hfst'], ?_⟩; first | apply hK | refine ⟨by simp [go_sem, hlt, hd, encD, h4', hfst'], hK _ _ ?_⟩)) | refine ⟨.one (.one (.bool false)), by simp [go_sem, hlt, hd, encD, h4', hfst'], hK _ _ ?_⟩ | refine ⟨by first | omega | (simp [z_f, z_g, hlt, hd, encD, h4', hfst']; first | done | omega), ?_⟩ | refine ⟨hK _ ?_, fun h => ?_⟩ | refine ⟨?_, ?_⟩); all_goals ((try apply hK); clear hK K))
          simp [go_sem, hv]
        | false =>
          rw [hany] at f135s
          repeat' first | refine St.go ?_ | ((with_reducible refine z_Y (t := ?_) ?hc (fun h => ?_) (fun h => ?_)); (case hc => rfl); all_goals (try simp [go_sem, hlt, hd, encD, h4', hfst'] at h); all_goals try omega) | (refine Ru.go ?_; intro K hK; simp [go_sem, hlt, hd, encD, h4', hfst']; (try simp (disch := omega) only [z_h, z_i, eq_self, true_and]); (first | apply hK | ((try refine .inl ?_); refine ⟨_, by (try intro hc); (repeat' first | exact f134s | exact f135s | exact hc | refine And.intro ?_ ?_ | simp [go_sem, hlt, hd, encD, h4', hfst']); first | done | omega, ?_⟩; first | apply hK | (refine ⟨by simp [go_sem, hlt, hd, encD, h4', hfst'], ?_⟩; first | apply hK | refine ⟨by simp [go_sem, hlt, hd, encD, h4', hfst'], hK _ _ ?_⟩)) | refine ⟨.one (.one (.bool false)), by simp [go_sem, hlt, hd, encD, h4', hfst'], hK _ _ ?_⟩ | refine ⟨by first | omega | (simp [z_f, z_g, hlt, hd, encD, h4', hfst']; first | done | omega), ?_⟩ | refine ⟨hK _ ?_, fun h => ?_⟩ | refine ⟨?_, ?_⟩); all_goals ((try apply hK); clear hK K))
          refine z_k (fun q e => ∃ k : Nat, k + q = d.fields.length /\ (List.range k).all (okFieldAt d.fields) = true /\ e = [(55, .sv (.one (.int .i64 k))), (54, .sv (.one (.int .i64 d.fields.length))), (53, .sv (.one (.sl (d.fields.map encF)))), (6, .sv (.one (.bx (encD d)))), (19, .sv (.one (.int .i64 i))), (18, .sv (.one (.int .i64 l.length))), (17, .sv (.one (.sl (l.map encD)))), (4, .sv (.one (.int .i64 ((allF (l.take (i + 1))).length : Nat)))), (3, .sv (.one (.ow 4 (all.map encF)))), (0, .sv (.one (.sl (l.map encD))))]) d.fields.length _ ⟨0, by simp, by simp, rfl⟩ (by simp [go_sem, encD, hsc]) ?_
          rintro q e ⟨k, hk, hfa, rfl⟩
          by_cases hkl : k < d.fields.length
          ·have hfo := okFieldAt_get hkl
           have hfbad : okFieldAt d.fields k = false -> validD l = false := fun h => hbad (by rw [hok]; simp [okFields, range_all_no hkl h])
           obtain ⟨f, hfe⟩ : ∃ f, d.fields[k] = f := ⟨_, rfl⟩
           rw [hfe] at hfo
           have f105s := f105 f.name
           have f137s := f137 f.kind f.lo f.hi f.name
           have hge : goodSort ⟨f.name, f.kind, f.lo, f.hi⟩ = goodSort f := rfl
           rw [hge] at f137s
           have htk : (d.fields.take k).length <= 1000000 := Nat.le_trans (List.length_take_le _ _) (by omega)
           have f138s := f138 (d.fields.take k) 139 [.rf (encF f)] (fun x => x.name == f.name) htk (fun x _ => f139 x f)
           rw [List.map_take] at f138s
           cases hw : isWord f.name with
           | false =>
             have hv := hfbad (by rw [hfo, hw]; rfl)
             rw [hw] at f105s
             repeat' first | refine St.go ?_ | ((with_reducible refine z_Y (t := ?_) ?hc (fun h => ?_) (fun h => ?_)); (case hc => rfl); all_goals (try simp [go_sem, hkl, hfe, encD, encF] at h); all_goals try omega) | (refine Ru.go ?_; intro K hK; simp [go_sem, hkl, hfe, encD, encF]; (try simp (disch := omega) only [z_h, z_i, eq_self, true_and]); (first | apply hK | ((try refine .inl ?_); refine ⟨_, by (try intro hc); (repeat' first | exact f105s | exact hc | refine And.intro ?_ ?_ | simp [go_sem, hkl, hfe, encD, encF]); first | done | omega, ?_⟩; first | apply hK | (refine ⟨by simp [go_sem, hkl, hfe, encD, encF], ?_⟩; first | apply hK | refine ⟨by simp [go_sem, hkl, hfe, encD, encF], hK _ _ ?_⟩)) | refine ⟨.one (.one (.bool false)), by simp [go_sem, hkl, hfe, encD, encF], hK _ _ ?_⟩ | refine ⟨by first | omega | (simp [z_f, z_g, hkl, hfe, encD, encF]; first | done | omega), ?_⟩ | refine ⟨hK _ ?_, fun h => ?_⟩ | refine ⟨?_, ?_⟩); all_goals ((try apply hK); clear hK K))
             simp [go_sem, hv]
           | true =>
             rw [hw] at f105s
             cases hgs : goodSort f with
             | false =>
               have hv := hfbad (by rw [hfo, hgs]; simp)
               rw [hgs] at f137s
               repeat' first | refine St.go ?_ | ((with_reducible refine z_Y (t := ?_) ?hc (fun h => ?_) (fun h => ?_)); (case hc => rfl); all_goals (try simp [go_sem, hkl, hfe, encD, encF] at h); all_goals try omega) | (refine Ru.go ?_; intro K hK; simp [go_sem, hkl, hfe, encD, encF]; (try simp (disch := omega) only [z_h, z_i, eq_self, true_and]); (first | apply hK | ((try refine .inl ?_); refine ⟨_, by (try intro hc); (repeat' first | exact f105s | exact f137s | exact hc | refine And.intro ?_ ?_ | simp [go_sem, hkl, hfe, encD, encF]); first | done | omega, ?_⟩; first | apply hK | (refine ⟨by simp [go_sem, hkl, hfe, encD, encF], ?_⟩; first | apply hK | refine ⟨by simp [go_sem, hkl, hfe, encD, encF], hK _ _ ?_⟩)) | refine ⟨.one (.one (.bool false)), by simp [go_sem, hkl, hfe, encD, encF], hK _ _ ?_⟩ | refine ⟨by first | omega | (simp [z_f, z_g, hkl, hfe, encD, encF]; first | done | omega), ?_⟩ | refine ⟨hK _ ?_, fun h => ?_⟩ | refine ⟨?_, ?_⟩); all_goals ((try apply hK); clear hK K))
               simp [go_sem, hv]
             | true =>
               rw [hgs] at f137s
               cases hfy : (d.fields.take k).any (fun x => x.name == f.name) with
               | true =>
                 have hv := hfbad (by rw [hfo, hfy]; simp)
                 rw [hfy] at f138s
                 repeat' first | refine St.go ?_ | ((with_reducible refine z_Y (t := ?_) ?hc (fun h => ?_) (fun h => ?_)); (case hc => rfl); all_goals (try simp [go_sem, hkl, hfe, encD, encF] at h); all_goals try omega) | (refine Ru.go ?_; intro K hK; simp [go_sem, hkl, hfe, encD, encF]; (try simp (disch := omega) only [z_h, z_i, eq_self, true_and]); (first | apply hK | ((try refine .inl ?_); refine ⟨_, by (try intro hc); (repeat' first | exact f105s | exact f137s | exact f138s | exact hc | refine And.intro ?_ ?_ | simp [go_sem, hkl, hfe, encD, encF]); first | done | omega, ?_⟩; first | apply hK | (refine ⟨by simp [go_sem, hkl, hfe, encD, encF], ?_⟩; first | apply hK | refine ⟨by simp [go_sem, hkl, hfe, encD, encF], hK _ _ ?_⟩)) | refine ⟨.one (.one (.bool false)), by simp [go_sem, hkl, hfe, encD, encF], hK _ _ ?_⟩ | refine ⟨by first | omega | (simp [z_f, z_g, hkl, hfe, encD, encF]; first | done | omega), ?_⟩ | refine ⟨hK _ ?_, fun h => ?_⟩ | refine ⟨?_, ?_⟩); all_goals ((try apply hK); clear hK K))
                 simp [go_sem, hv]
               | false =>
                 have hfo' : okFieldAt d.fields k = true := by rw [hfo, hw, hgs, hfy]; rfl
                 rw [hfy] at f138s
                 repeat' first | refine St.go ?_ | ((with_reducible refine z_Y (t := ?_) ?hc (fun h => ?_) (fun h => ?_)); (case hc => rfl); all_goals (try simp [go_sem, hkl, hfe, encD, encF] at h); all_goals try omega) | (refine Ru.go ?_; intro K hK; simp [go_sem, hkl, hfe, encD, encF]; (try simp (disch := omega) only [z_h, z_i, eq_self, true_and]); (first | apply hK | ((try refine .inl ?_); refine ⟨_, by (try intro hc); (repeat' first | exact f105s | exact f137s | exact f138s | exact hc | refine And.intro ?_ ?_ | simp [go_sem, hkl, hfe, encD, encF]); first | done | omega, ?_⟩; first | apply hK | (refine ⟨by simp [go_sem, hkl, hfe, encD, encF], ?_⟩; first | apply hK | refine ⟨by simp [go_sem, hkl, hfe, encD, encF], hK _ _ ?_⟩)) | refine ⟨.one (.one (.bool false)), by simp [go_sem, hkl, hfe, encD, encF], hK _ _ ?_⟩ | refine ⟨by first | omega | (simp [z_f, z_g, hkl, hfe, encD, encF]; first | done | omega), ?_⟩ | refine ⟨hK _ ?_, fun h => ?_⟩ | refine ⟨?_, ?_⟩); all_goals ((try apply hK); clear hK K))
                 refine z_j (q - 1) _ (by omega) ⟨k + 1, by omega, ?_, rfl⟩ ?_
                 ·rw [range_succ_all, hfa, hfo']; rfl
                 ·simp [go_sem, encD]
          ·have hke : k = d.fields.length := by omega
           rw [hke] at hfa
           have hfs : okFields d.fields = true := hfa
           have f140s := f140 all d (by omega)
           cases hgd : okGuard all d with
           | false =>
             have hv := hbad (by rw [hok, <- hA, hgd]; simp)
             rw [hgd] at f140s
             repeat' first | refine St.go ?_ | ((with_reducible refine z_Y (t := ?_) ?hc (fun h => ?_) (fun h => ?_)); (case hc => rfl); all_goals (try simp [go_sem, hkl, encD, frz_encF] at h); all_goals try omega) | (refine Ru.go ?_; intro K hK; simp [go_sem, hkl, encD, frz_encF]; (try simp (disch := omega) only [z_h, z_i, eq_self, true_and]); (first | apply hK | ((try refine .inl ?_); refine ⟨_, by (try intro hc); (repeat' first | exact f140s | exact hc | refine And.intro ?_ ?_ | simp [go_sem, hkl, encD, frz_encF]); first | done | omega, ?_⟩; first | apply hK | (refine ⟨by simp [go_sem, hkl, encD, frz_encF], ?_⟩; first | apply hK | refine ⟨by simp [go_sem, hkl, encD, frz_encF], hK _ _ ?_⟩)) | refine ⟨.one (.one (.bool false)), by simp [go_sem, hkl, encD, frz_encF], hK _ _ ?_⟩ | refine ⟨by first | omega | (simp [z_f, z_g, hkl, encD, frz_encF]; first | done | omega), ?_⟩ | refine ⟨hK _ ?_, fun h => ?_⟩ | refine ⟨?_, ?_⟩); all_goals ((try apply hK); clear hK K))
             simp [go_sem, hv]
           | true =>
             have hoi : okDeclAt l i = true := by rw [hok, <- hA, hgd, hp, hany, hfs]; simp [h4, hfst]
             rw [hgd] at f140s
             repeat' first | refine St.go ?_ | ((with_reducible refine z_Y (t := ?_) ?hc (fun h => ?_) (fun h => ?_)); (case hc => rfl); all_goals (try simp [go_sem, hkl, encD, frz_encF] at h); all_goals try omega) | (refine Ru.go ?_; intro K hK; simp [go_sem, hkl, encD, frz_encF]; (try simp (disch := omega) only [z_h, z_i, eq_self, true_and]); (first | apply hK | ((try refine .inl ?_); refine ⟨_, by (try intro hc); (repeat' first | exact f140s | exact hc | refine And.intro ?_ ?_ | simp [go_sem, hkl, encD, frz_encF]); first | done | omega, ?_⟩; first | apply hK | (refine ⟨by simp [go_sem, hkl, encD, frz_encF], ?_⟩; first | apply hK | refine ⟨by simp [go_sem, hkl, encD, frz_encF], hK _ _ ?_⟩)) | refine ⟨.one (.one (.bool false)), by simp [go_sem, hkl, encD, frz_encF], hK _ _ ?_⟩ | refine ⟨by first | omega | (simp [z_f, z_g, hkl, encD, frz_encF]; first | done | omega), ?_⟩ | refine ⟨hK _ ?_, fun h => ?_⟩ | refine ⟨?_, ?_⟩); all_goals ((try apply hK); clear hK K))
             refine z_j (n - 1) _ (by omega) ⟨i + 1, by omega, ?_, rfl⟩ ?_
             ·rw [range_succ_all, hall, hoi]; rfl
             ·simp [go_sem]
       ·have hv := hbad (by rw [hok]; simp [hfst])
        repeat' first | refine St.go ?_ | ((with_reducible refine z_Y (t := ?_) ?hc (fun h => ?_) (fun h => ?_)); (case hc => rfl); all_goals (try simp [go_sem, hlt, hd, encD, h4', hfst] at h); all_goals try omega) | (refine Ru.go ?_; intro K hK; simp [go_sem, hlt, hd, encD, h4', hfst]; (try simp (disch := omega) only [z_h, z_i, eq_self, true_and]); (first | apply hK | ((try refine .inl ?_); refine ⟨_, by (try intro hc); (repeat' first | exact f134s | exact hc | refine And.intro ?_ ?_ | simp [go_sem, hlt, hd, encD, h4', hfst]); first | done | omega, ?_⟩; first | apply hK | (refine ⟨by simp [go_sem, hlt, hd, encD, h4', hfst], ?_⟩; first | apply hK | refine ⟨by simp [go_sem, hlt, hd, encD, h4', hfst], hK _ _ ?_⟩)) | refine ⟨.one (.one (.bool false)), by simp [go_sem, hlt, hd, encD, h4', hfst], hK _ _ ?_⟩ | refine ⟨by first | omega | (simp [z_f, z_g, hlt, hd, encD, h4', hfst]; first | done | omega), ?_⟩ | refine ⟨hK _ ?_, fun h => ?_⟩ | refine ⟨?_, ?_⟩); all_goals ((try apply hK); clear hK K))
        simp [go_sem, hv]
      ·have h4' : (4 : Int) < (d.fields.length : Int) := by omega
       have hv := hbad (by rw [hok]; simp [h4])
       repeat' first | refine St.go ?_ | ((with_reducible refine z_Y (t := ?_) ?hc (fun h => ?_) (fun h => ?_)); (case hc => rfl); all_goals (try simp [go_sem, hlt, hd, encD, h4'] at h); all_goals try omega) | (refine Ru.go ?_; intro K hK; simp [go_sem, hlt, hd, encD, h4']; (try simp (disch := omega) only [z_h, z_i, eq_self, true_and]); (first | apply hK | ((try refine .inl ?_); refine ⟨_, by (try intro hc); (repeat' first | exact f134s | exact hc | refine And.intro ?_ ?_ | simp [go_sem, hlt, hd, encD, h4']); first | done | omega, ?_⟩; first | apply hK | (refine ⟨by simp [go_sem, hlt, hd, encD, h4'], ?_⟩; first | apply hK | refine ⟨by simp [go_sem, hlt, hd, encD, h4'], hK _ _ ?_⟩)) | refine ⟨.one (.one (.bool false)), by simp [go_sem, hlt, hd, encD, h4'], hK _ _ ?_⟩ | refine ⟨by first | omega | (simp [z_f, z_g, hlt, hd, encD, h4']; first | done | omega), ?_⟩ | refine ⟨hK _ ?_, fun h => ?_⟩ | refine ⟨?_, ?_⟩); all_goals ((try apply hK); clear hK K))
       simp [go_sem, hv]
   ·have hie : i = l.length := by omega
    rw [hie] at hall
    repeat' first | refine St.go ?_ | ((with_reducible refine z_Y (t := ?_) ?hc (fun h => ?_) (fun h => ?_)); (case hc => rfl); all_goals (try simp [go_sem, hlt] at h); all_goals try omega) | (refine Ru.go ?_; intro K hK; simp [go_sem, hlt]; (try simp (disch := omega) only [z_h, z_i, eq_self, true_and]); (first | apply hK | refine ⟨by first | omega | (simp [z_f, z_g, hlt]; first | done | omega), ?_⟩ | refine ⟨hK _ ?_, fun h => ?_⟩ | refine ⟨?_, ?_⟩); all_goals ((try apply hK); clear hK K))
    have hv : validD l = true := by simp only [validD, h40, decide_true, Bool.true_and, <- hA, h24, hall]
    simp [go_sem, hv]
  ·have h24' : (24 : Int) < (all.length : Int) := by omega
   repeat' first | refine St.go ?_ | ((with_reducible refine z_Y (t := ?_) ?hc (fun h => ?_) (fun h => ?_)); (case hc => rfl); all_goals (try simp [go_sem, h40', h24'] at h); all_goals try omega) | (refine Ru.go ?_; intro K hK; simp [go_sem, h40', h24']; (try simp (disch := omega) only [z_h, z_i, eq_self, true_and]); (first | apply hK | ((try refine .inl ?_); refine ⟨_, by (try intro hc); (repeat' first | exact f133s | exact hc | refine And.intro ?_ ?_ | simp [go_sem, h40', h24']); first | done | omega, ?_⟩; first | apply hK | (refine ⟨by simp [go_sem, h40', h24'], ?_⟩; first | apply hK | refine ⟨by simp [go_sem, h40', h24'], hK _ _ ?_⟩)) | refine ⟨.one (.one (.bool false)), by simp [go_sem, h40', h24'], hK _ _ ?_⟩ | refine ⟨by first | omega | (simp [z_f, z_g, h40', h24']; first | done | omega), ?_⟩ | refine ⟨hK _ ?_, fun h => ?_⟩ | refine ⟨?_, ?_⟩); all_goals ((try apply hK); clear hK K))
   have hv : validD l = false := by simp [validD, <- hA, h24]
   simp [go_sem, hv]
 ·have h40' : (40 : Int) < (l.length : Int) := by omega
  repeat' first | refine St.go ?_ | ((with_reducible refine z_Y (t := ?_) ?hc (fun h => ?_) (fun h => ?_)); (case hc => rfl); all_goals (try simp [go_sem, h40'] at h); all_goals try omega) | (refine Ru.go ?_; intro K hK; simp [go_sem, h40']; (try simp (disch := omega) only [z_h, z_i, eq_self, true_and]); (first | apply hK | refine ⟨by first | omega | (simp [z_f, z_g, h40']; first | done | omega), ?_⟩ | refine ⟨hK _ ?_, fun h => ?_⟩ | refine ⟨?_, ?_⟩); all_goals ((try apply hK); clear hK K))
  have hv : validD l = false := by simp [validD, h40]
  simp [go_sem, hv]
end Go.Av

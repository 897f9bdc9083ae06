/- Part of a proof. -/
import Derived.Test.YticeobjphcmggaaGreatDoorAvR
import Derived.Test.YticeobjphcmggaaGreatDoorB08
import Derived.Test.YticeobjphcmggaaGreatDoorB00
set_option linter.unusedVariables false
set_option linter.unusedSimpArgs false
set_option maxHeartbeats 64000000
set_option maxRecDepth 8000
namespace Go.Av
open Go Go.RowKit Go.Proofs
set_option maxHeartbeats 64000000
def revK (l : List Int) : Nat -> List Int
 | 0 => l
 | k + 1 => swapI (revK l k) k (l.length - 1 - k)
theorem revK_len (l : List Int) : ∀ k, (revK l k).length = l.length
 | 0 => rfl
 | k + 1 => by rw [revK, swapI_len, revK_len l k]
theorem revK_at (l : List Int) : ∀ k, 2 * k <= l.length -> ∀ i, i < l.length -> (revK l k)[i]? = if i < k \/ l.length <= i + k then l[l.length - 1 - i]? else l[i]?
 | 0, _, i, hi => by
   rw [if_neg (by omega)]
   rfl
 | k + 1, hk, i, hi => by
   have ih := revK_at l k (by omega)
   have hl := revK_len l k
   have g1 : (revK l k).getD (l.length - 1 - k) 0 = l[l.length - 1 - k] := by
    rw [List.getD_eq_getElem?_getD, ih _ (by omega), if_neg (by omega), List.getElem?_eq_getElem (by omega)]
    rfl
   have g2 : (revK l k).getD k 0 = l[k] := by
    rw [List.getD_eq_getElem?_getD, ih _ (by omega), if_neg (by omega), List.getElem?_eq_getElem (by omega)]
    rfl
   rw [revK, swapI, g1, g2, List.getElem?_set, List.length_set, List.getElem?_set, hl, ih i hi]
   by_cases e1 : l.length - 1 - k = i
   ·have e2 : l.length - 1 - i = k := by omega
    rw [if_pos e1, if_pos (by omega), if_pos (by omega), e2, List.getElem?_eq_getElem (by omega)]
   ·rw [if_neg e1]
    by_cases e2 : k = i
    ·subst e2
     rw [if_pos rfl, if_pos (by omega), if_pos (by omega), List.getElem?_eq_getElem (by omega)]
    ·rw [if_neg e2]
     by_cases e3 : i < k \/ l.length <= i + k
     ·rw [if_pos e3, if_pos (by omega)]
     ·rw [if_neg e3, if_neg (by omega)]
theorem revK_rev {l : List Int} {k : Nat} (h1 : 2 * k <= l.length) (h2 : l.length <= 2 * k + 1) : revK l k = l.reverse := by
 apply List.ext_getElem?
 intro i
 by_cases hi : i < l.length
 ·rw [revK_at l k h1 i hi, List.getElem?_reverse hi]
  split
  ·rfl
  ·congr 1
   omega
 ·rw [List.getElem?_eq_none (by rw [revK_len]; omega), List.getElem?_eq_none (by simp; omega)]
theorem f48 (l : List Int) (hl : l.length <= 1000000) : ImplM Tryz.prog 48 (.ow 1 (l.map encN)) [] (.ow 1 (l.reverse.map encN)) := by
 refine implM_intro z48.f z48.b rfl z48.r z48.n z48.t z48.d (shape_ints (by simp)) (closed_ints _) (by simp) (by simp) fun v0 => ?_
 simp only [slotsOf]
 conv => arg 2; reduce
 refine wN ?_
 refine z_k (fun q e => ∃ (k : Nat) (J : Int), 2 * k + q = l.length /\ J = (l.length : Int) - 1 - k /\ e = [(3, .sv (.one (.int .i64 J))), (2, .sv (.one (.int .i64 k))), (1000000, .eqv 0 v0), (0, .sv (.one (.ow 1 ((revK l k).map encN))))]) l.length _ ⟨0, _, by simp, rfl, rfl⟩ (by simp [go_sem, revK]) ?_
 rintro q e ⟨k, J, hq, hJ, rfl⟩
 have hD2 : revK l (k + 1) = swapI (revK l k) k (l.length - 1 - k) := rfl
 have hDl := revK_len l k
 obtain ⟨D, hD⟩ : ∃ D, D = revK l k := ⟨_, rfl⟩
 rw [<- hD] at hD2 hDl ⊢
 by_cases hlt : (k : Int) < J
 ·obtain ⟨j, hj⟩ : ∃ j : Nat, J = j := ⟨J.toNat, by omega⟩
  subst hj
  have hjl : l.length - 1 - k = j := by omega
  rw [hjl] at hD2
  have b1 : k < D.length := by omega
  have b2 : j < D.length := by omega
  obtain ⟨D1, hD1⟩ : ∃ D1, D1 = D.set k D[j] := ⟨_, rfl⟩
  obtain ⟨D2, hDD⟩ : ∃ D2, D2 = revK l (k + 1) := ⟨_, rfl⟩
  have hl1 : D1.length = l.length := by rw [hD1, List.length_set, hDl]
  have hs2 : D1.set j D[k] = D2 := by
   rw [hDD, hD2, hD1, swapI, List.getD_eq_getElem?_getD, List.getD_eq_getElem?_getD, List.getElem?_eq_getElem b1, List.getElem?_eq_getElem b2]
   rfl
  obtain ⟨u, hu⟩ : ∃ u, u = D[k] := ⟨_, rfl⟩
  obtain ⟨v, hv⟩ : ∃ v, v = D[j] := ⟨_, rfl⟩
  rw [<- hv] at hD1
  rw [<- hu] at hs2
  have hset1 : (D.map encN).set k [.int .i64 v] = D1.map encN := by rw [show [DV.int .i64 v] = encN v from rfl, <- List.map_set, hD1]
  have hset2 : (D1.map encN).set j [.int .i64 u] = D2.map encN := by rw [show [DV.int .i64 u] = encN u from rfl, <- List.map_set, hs2]
  have g1 : D[k]? = some u := by rw [List.getElem?_eq_getElem b1, hu]
  have g2 : D[j]? = some v := by rw [List.getElem?_eq_getElem b2, hv]
  obtain ⟨v', g3⟩ : ∃ v', D1[j]? = some v' := ⟨_, List.getElem?_eq_getElem (by omega)⟩
  refine wX (aN hlt <| aN hDl <| aN hl1 <| aN encN.eq_1 <| aN g1 <| aN g2 <| aN g3 <| aN hset1 hset2) ?_
  refine z_j (q - 2) _ (by omega) ⟨k + 1, (j : Int) - 1, by omega, by omega, rfl⟩ ?_
  rw [<- hDD]
  simp [go_sem, encN, hset1, hset2]
 ·have hr : D = l.reverse := by rw [hD]; exact revK_rev (by omega) (by omega)
  rw [<- hr]
  refine wX hlt ?_
  simp [go_sem, endsM]
theorem f46 (h109 : H109) (g : Glob) (H : List (List Ev)) (hs : Small g) (hl : H.length <= 1000000) (hh : ∀ l ∈ H, l.length <= 1000000) : Impl Tryz.prog 46 [.ag (encG g), .one (.sl (H.map encH))] (.one (.one (.bool (goodF g H)))) := by
 have k37 := f37 h109 g hs
 have hrl : g.roles.length <= 1000 := hs.roles
 simp only [encG] at k37
 refine impl_v ?_
 cases hv : valid29 g with
 | false =>
   rw [hv] at k37
   have hg : goodF g H = false := by unfold goodF; rw [hv]; rfl
   rw [hg]
   refine wV encG.eq_1 k37 ?_
   simp [go_sem]
 | true =>
   rw [hv] at k37
   by_cases hlen : H.length = g.roles.length
   rotate_left
   ·have hg : goodF g H = false := by unfold goodF; rw [hv, decide_eq_false hlen]; rfl
    rw [hg]
    have hlen2 : ¬ (H.length : Int) = g.roles.length := by omega
    refine wV (aN encG.eq_1 <| aN hlen hlen2) k37 ?_
    simp [go_sem]
   have hg : goodF g H = properH H := by unfold goodF; rw [hv, decide_eq_true hlen]; simp
   have h6 : H.length <= 6 := by
    have hv' := hv
    unfold valid29 at hv'
    simp only [Bool.and_eq_true] at hv'
    have hn := hv'.1.1.1.1.1.1
    unfold named at hn
    simp only [Bool.and_eq_true, decide_eq_true_eq] at hn
    omega
   rw [hg]
   refine wV (aN encG.eq_1 hlen) k37 ?_
   refine z_k (fun n e => ∃ k, k + n = H.length /\ (∀ i (hi : i < H.length), i < k -> okH H.length i H[i] = true) /\ e = [(22, .sv (.one (.int .i64 (k : Nat)))), (21, .sv (.one (.int .i64 H.length))), (20, .sv (.one (.sl (H.map encH)))), (1, .sv (.one (.sl (H.map encH))))]) H.length _ ⟨0, by simp, by simp, rfl⟩ (by simp [go_sem, hlen]) ?_
   rintro n e ⟨k, hk, hok, rfl⟩
   by_cases hlt : k < H.length
   ·have hh' := hh H[k] (List.getElem_mem hlt)
    repeat' first | refine St.go ?_ | ((with_reducible refine cn ?_ ?_) <;> intro h <;> (try simp at h) <;> try omega) | (refine Ru.go ?_; intro K hK; simp [go_sem, hlt, encH]; (try simp (disch := omega) only [wx, z_i]); (first | apply hK | refine ⟨by first | omega | (simp [z_f, z_g, hlt, encH]; first | done | omega), ?_⟩ | refine ⟨hK _ ?_, fun h => ?_⟩ | refine ⟨?_, ?_⟩); all_goals ((try apply hK); clear hK K))
    refine z_k (fun m e => ∃ j, j + m = H[k].length /\ okH H.length k (H[k].take j) = true /\ e = [(29, .sv (.one (.int .i64 (j : Nat)))), (28, .sv (.one (.int .i64 H[k].length))), (27, .sv (.one (.sl (H[k].map encE)))), (5, .sv (.one (.int .i64 k))), (22, .sv (.one (.int .i64 (k : Nat)))), (21, .sv (.one (.int .i64 H.length))), (20, .sv (.one (.sl (H.map encH)))), (1, .sv (.one (.sl (H.map encH))))]) H[k].length _ ⟨0, by simp, by simp [okH], rfl⟩ (by simp [go_sem]) ?_
    rintro m e ⟨j, hj, hjo, rfl⟩
    by_cases hlj : j < H[k].length
    ·skip
     repeat' first | refine St.go ?_ | ((with_reducible refine cn ?_ ?_) <;> intro h <;> (try simp at h) <;> try omega) | (refine Ru.go ?_; intro K hK; simp [go_sem, hlt, hlj, encE]; (try simp (disch := omega) only [wx, z_i]); (first | apply hK | refine ⟨by first | omega | (simp [z_f, z_g, hlt, hlj, encE]; first | done | omega), ?_⟩ | refine ⟨hK _ ?_, fun h => ?_⟩ | refine ⟨?_, ?_⟩); all_goals ((try apply hK); clear hK K))
     ·have hb : okE H.length k H[k][j] = false := by
       simp only [okE]
       simp_all
       omega
      simp [go_sem, properH_no hlt hlj hb]
     ·refine z_j (m - 1) _ (by omega) ⟨j + 1, by omega, ?_, rfl⟩ ?_
      ·rw [okH_succ hlj, hjo]
       simp only [okE]
       simp_all
      ·simp [go_sem]
    ·refine wX (aN hlt hlj) ?_
     refine z_j (n - 1) _ (by omega) ⟨k + 1, by omega, ?_, rfl⟩ ?_
     ·intro i hi hik
      by_cases he : i = k
      ·subst he
       rwa [List.take_of_length_le (by omega)] at hjo
      ·exact hok i hi (by omega)
     ·simp [go_sem]
   ·refine wX hlt ?_
    rw [properH_yes (fun i hi => hok i hi (by omega))]
    simp [go_sem]
    omega
set_option maxHeartbeats 64000000
theorem und87 : Tryz.prog.underlying 87 = some (.struct #[⟨"state", 3, 0, false, "", "farandole/fit", 0⟩, ⟨"passed", 85, 1, false, "", "farandole/fit", 8⟩]) := by kernel_rfl
theorem und85 : Tryz.prog.underlying 85 = some (.array 6 3) := by kernel_rfl
theorem und3 : Tryz.prog.underlying 3 = some (.int .i64) := by kernel_rfl
theorem size3 : sizeT Tryz.prog 3 = some 1 := by kernel_rfl
theorem size85 : sizeT Tryz.prog 85 = some 6 := by kernel_rfl
theorem kind3 : kindT Tryz.prog 3 = some false := by kernel_rfl
theorem kind85 : kindT Tryz.prog 85 = some true := by kernel_rfl
theorem key3 (em : Bool) (w : World) (n : Nat) (x : Int) : (Instr.checkKey em (n + 1) 3 (.int .i64 x)).run Tryz.prog w = .ok () w := by
 simp [Instr.checkKey, run_underlying und3]
theorem key85 (em : Bool) (w : World) (n : Nat) (a b c d e f : Int) : (Instr.checkKey em (n + 1 + 1) 85 (.agg #[.int .i64 a, .int .i64 b, .int .i64 c, .int .i64 d, .int .i64 e, .int .i64 f])).run Tryz.prog w = .ok () w := by
 rw [Instr.checkKey]
 simp only [Sem.run_bind, run_underlying und85, Result.andThen_ok, Std.Legacy.Range.forIn_eq_forIn_range', Std.Legacy.Range.size, Nat.sub_zero, Nat.add_sub_cancel, Nat.div_one, List.range'_succ, List.range'_zero, List.forIn_cons, List.forIn_nil, run_sizeOf size3, part, run_isAgg kind3, Bool.false_eq_true, if_false]
 simp [key3]
theorem key87 (s a b c d e f : Int) : KeyT Tryz.prog 87 [.ki .i64 s, .ki .i64 a, .ki .i64 b, .ki .i64 c, .ki .i64 d, .ki .i64 e, .ki .i64 f] := by
 intro em w
 show (Instr.checkKey em (9997 + 1 + 1 + 1) 87 _).run Tryz.prog w = _
 rw [Instr.checkKey]
 simp only [KV.key, List.map_cons, List.map_nil, KV.val, Sem.run_bind, run_underlying und87, Result.andThen_ok, Array.forIn_toList, <- Array.forIn_toList, List.forIn_cons, List.forIn_nil, run_sizeOf size3, run_sizeOf size85, part, run_isAgg kind3, run_isAgg kind85, Bool.false_eq_true, if_false, if_true]
 simp [key3, key85]
theorem keyOkN (q : Nd) (all : List Nd) : KeyOk Tryz.prog 87 (keyN q) (metM all) where
 chk := by
  unfold keyN
  obtain ⟨a, b, c, d, e, f, h⟩ := six (pad6_len q.ps)
  rw [h]
  exact key87 _ _ _ _ _ _ _
 cmp := by
  unfold keyN
  obtain ⟨a, b, c, d, e, f, h⟩ := six (pad6_len q.ps)
  rw [h]
  kernel_rfl
 kind := by kernel_rfl
 size := by
  unfold keyN
  obtain ⟨a, b, c, d, e, f, h⟩ := six (pad6_len q.ps)
  rw [h]
  kernel_rfl
 like := fun e he => by
  obtain ⟨p, _, hp⟩ := List.mem_map.1 he
  rw [<- hp]
  unfold keyN
  obtain ⟨a, b, c, d, e, f, h⟩ := six (pad6_len q.ps)
  obtain ⟨a, b, c, d, e, f, h'⟩ := six (pad6_len p.ps)
  rw [h, h']
  rfl
set_option maxHeartbeats 64000000
theorem f75 (l : List Inter) (hl : l.length <= 1000000) : Impl Tryz.prog 75 [.one (.sl (l.map encI))] (.one (.one (.ow 3 (l.map encI)))) := by
 refine impl_v ?_
 repeat' first | refine St.go ?_ | ((with_reducible refine cn ?_ ?_) <;> intro h <;> (try simp at h) <;> try omega) | (refine Ru.go ?_; intro K hK; simp [go_sem, encI]; (try simp (disch := omega) only [wx, z_i]); (first | apply hK | refine ⟨by first | omega | (simp [z_f, z_g, encI, maxLen, DV.flat]; first | done | omega), ?_⟩ | refine ⟨hK _ ?_, fun h => ?_⟩ | refine ⟨?_, ?_⟩); all_goals ((try apply hK); clear hK K))
 all_goals simp_all [go_sem]
theorem f31 (l : List (List Ev)) (hl : l.length <= 1000000) : Impl Tryz.prog 31 [.one (.sl (l.map encH))] (.one (.one (.ow 1 (l.map encH)))) := by
 refine impl_v ?_
 repeat' first | refine St.go ?_ | ((with_reducible refine cn ?_ ?_) <;> intro h <;> (try simp at h) <;> try omega) | (refine Ru.go ?_; intro K hK; simp [go_sem, encH]; (try simp (disch := omega) only [wx, z_i]); (first | apply hK | refine ⟨by first | omega | (simp [z_f, z_g, encH, maxLen, DV.flat]; first | done | omega), ?_⟩ | refine ⟨hK _ ?_, fun h => ?_⟩ | refine ⟨?_, ?_⟩); all_goals ((try apply hK); clear hK K))
 all_goals simp_all [go_sem]
end Go.Av

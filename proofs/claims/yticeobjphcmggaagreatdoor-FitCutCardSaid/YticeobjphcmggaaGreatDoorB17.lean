/- The reference's search. -/
import Derived.Test.YticeobjphcmggaaGreatDoorAvR
import Derived.Test.YticeobjphcmggaaGreatDoorB16
set_option linter.unusedVariables false
set_option linter.unusedSimpArgs false
set_option maxHeartbeats 64000000
set_option maxRecDepth 8000
namespace Go.Av
open Go Go.RowKit Go.Proofs
set_option maxHeartbeats 64000000
@[go_sem ↓ high] theorem frz_encRP (n : Nd) : frzL (encRP n) = encRP n := rfl
@[go_sem] theorem frzLL_rep (v : Int) : ∀ n : Nat, frzLL (List.replicate n [DV.int .i64 v]) = List.replicate n [DV.int .i64 v]
 | 0 => rfl
 | n + 1 => by
   rw [List.replicate_succ, frzLL, frzLL_rep v n]
   rfl
theorem encRP_first (g : Glob) (H : List (List Ev)) : encRP (firstN g H) = [.int .i64 g.start, .sl (List.replicate H.length [.int .i64 0]), .int .i64 (-1), .int .i64 (-1)] := by
 unfold encRP firstN
 simp [encK]
theorem sameN_symm (a b : Nd) : sameN a b = sameN b a := by
 unfold sameN
 rw [Bool.beq_comm (a := a.st), Bool.beq_comm (a := a.ps)]
theorem appendOk_rp {all : List Nd} {q : Nd} (h : all.length <= 100000000) : z_f 4 48 (all.map encRP) [encRP q] := by
 refine ⟨?_, ?_, by omega, ?_, ?_⟩
 ·intro e he; rw [List.mem_singleton.1 he]; rfl
 ·intro e he; rw [List.mem_singleton.1 he]; rfl
 ·simp only [List.length_map, List.length_singleton, maxLen]; omega
 ·simp only [List.length_map, List.length_singleton]; omega
theorem appendOk_n2 {l m : List Int} (h : l.length + m.length <= 100000000) : z_f 1 8 (l.map encN) (m.map encN) := by
 refine ⟨?_, ?_, by omega, ?_, ?_⟩
 ·intro e he
  obtain ⟨z, _, rfl⟩ := List.mem_map.1 he
  rfl
 ·intro e he
  obtain ⟨z, _, rfl⟩ := List.mem_map.1 he
  rfl
 ·simp only [List.length_map, maxLen]; omega
 ·simp only [List.length_map]; omega
theorem edges_enc (es : List Edg) (s : Int) : (edgesOf es s).map encK = (sortedE es s).map encN := by
 rw [<- edges_eq, List.map_map]
 rfl
theorem f28 (g : Glob) (H : List (List Ev)) (hs : Small g) (hh : ∀ l ∈ H, l.length <= 1000000) (hg : goodF g H = true) :
  Impl Tryz.prog 28 [.ag (encG g), .one (.sl (H.map encH))] (.tup [.one (resS (findL g H 20001 0 [firstN g H]).1), .one (.int .i64 (findL g H 20001 0 [firstN g H]).2)]) := by
 have hel := hs.edges
 have k53 : ∀ s, Impl Tryz.prog 53 [.ag (encG g), .one (.int .i64 s)] (.one (.one (.ow 1 ((sortedE g.edges s).map encN)))) := fun s => by
  have := f53 g s hs
  rwa [edges_enc] at this
 obtain ⟨hn, hlr, h6, _⟩ := valid_roles hg
 have hed := edges_ok hg
 have hfo := first_ok hg
 have k54 := fun p k i (h1 : p.ps.length = H.length) h2 h3 h4 => f54 g H p k i (by omega) hh hed h1 h2 h3 h4
 simp only [encG] at k53 k54
 obtain ⟨R, hR⟩ : ∃ R, findL g H 20001 0 [firstN g H] = R := ⟨_, rfl⟩
 rw [hR]
 refine impl_v ?_
 refine z_l [(5, .sv (.one (.int .i64 0))), (4, .sv (.one .nil)), (2, .sv (.one (.bx (encG g)))), (1, .sv (.one (.sl (H.map encH))))] ?_ ?_
 ·refine wX encG.eq_1 ?_
  refine z_m ?_
  simp [go_sem, encG]
 refine z_l [(6, .sv (.one (.ow 4 ([firstN g H].map encRP)))), (5, .sv (.one (.int .i64 0))), (4, .sv (.one .nil)), (2, .sv (.one (.bx (encG g)))), (1, .sv (.one (.sl (H.map encH))))] ?_ ?_
 ·refine wX encG.eq_1 ?_
  refine z_m ?_
  simp [go_sem, encG, encRP_first]
 refine wX encG.eq_1 ?_
 refine z_k (fun fu e => ∃ (i : Nat) (all : List Nd), findL g H fu i all = R /\ (fu + i = 20001 /\ i <= 20000) /\ (AllOk g H all /\ all.length <= 1000 * i + 1) /\ e = [(7, .sv (.one (.int .i64 i))), (6, .sv (.one (.ow 4 (all.map encRP)))), (5, .sv (.one (.int .i64 0))), (4, .sv (.one .nil)), (2, .sv (.one (.bx (encG g)))), (1, .sv (.one (.sl (H.map encH))))]) 20001 _ ⟨0, [firstN g H], hR, ⟨by omega, by omega⟩, ⟨hfo, by simp⟩, rfl⟩ (by simp [go_sem, encG]) ?_
 rintro fu e ⟨i, all, hfi, ⟨hfu, hi20⟩, ⟨hok, hal⟩, rfl⟩
 by_cases hlt : i < all.length
 rotate_left
 ·have hni : all[i]? = none := List.getElem?_eq_none (by omega)
  have hR' : R = (none, 23) := by
   rw [<- hfi]
   cases fu with
   | zero => rfl
   | succ fu => simp only [findL, hni]
  rw [hR']
  refine wX (aN hlt encG.eq_1) ?_
  simp [go_sem, resS]
 obtain ⟨p, hp⟩ : ∃ p, all[i] = p := ⟨_, rfl⟩
 have hpq : all[i]? = some p := by rw [List.getElem?_eq_getElem hlt, hp]
 have hpo := hok i p hpq
 obtain ⟨m, rfl⟩ : ∃ m, fu = m + 1 := ⟨fu - 1, by omega⟩
 simp only [findL, hpq] at hfi
 by_cases h20 : i = 20000
 ·have h20' : ((i : Nat) : Int) = 20000 := by omega
  rw [if_pos h20] at hfi
  rw [<- hfi]
  refine wX (aN hlt <| aN h20' encG.eq_1) ?_
  simp [go_sem, resS]
 have h20' : ¬ ((i : Nat) : Int) = 20000 := by omega
 rw [if_neg h20] at hfi
 refine z_l [(7, .sv (.one (.int .i64 i))), (6, .sv (.one (.ow 4 (all.map encRP)))), (5, .sv (.one (.int .i64 0))), (4, .sv (.one .nil)), (2, .sv (.one (.bx (encG g)))), (1, .sv (.one (.sl (H.map encH))))] ?_ ?_
 ·refine wX (aN hlt encG.eq_1) ?_
  refine z_m ?_
  simp [go_sem, encG]
 refine z_A ?_
 refine z_C ?_
 refine z_l [(7, .sv (.one (.int .i64 i))), (6, .sv (.one (.ow 4 (all.map encRP)))), (5, .sv (.one (.int .i64 0))), (4, .sv (.one .nil)), (2, .sv (.one (.bx (encG g)))), (1, .sv (.one (.sl (H.map encH))))] ?_ ?_
 ·refine wX (aN h20' encG.eq_1) ?_
  refine z_m ?_
  simp [go_sem, encG]
 have k52 := f52 p H hpo.len (by omega) (fun r h h' => by
  have := hpo.le r (by omega) (by omega)
  simpa [psAt, histAt, h, h'] using this) hh
 by_cases hd : p.ps = lensH H
 ·rw [if_pos hd] at hfi
  rw [decide_eq_true hd] at k52
  simp only [encRP] at k52
  rw [<- hfi]
  refine wV (aN hlt <| aN hp <| aN encRP.eq_1 encG.eq_1) k52 ?_
  refine z_k (fun n e => ∃ (f : Nat) (out : List Int), n <= f /\ n < all.length /\ (out.reverse ++ backN all f n = backN all i i /\ f + out.length <= 20000) /\ e = [(9, .sv (.one (.int .i64 n))), (8, .sv (.one (.ow 1 (out.map encN)))), (6, .sv (.one (.ow 4 (all.map encRP))))]) i _ ⟨i, [], Nat.le_refl _, hlt, ⟨by simp, by simpa using hi20⟩, rfl⟩ (by simp [go_sem, encG]) ?_
  rintro n e ⟨f, out, hf, hnl, ⟨hout, hf2⟩, rfl⟩
  obtain ⟨nd, hnd⟩ : ∃ nd, all[n] = nd := ⟨_, rfl⟩
  have hndq : all[n]? = some nd := by rw [List.getElem?_eq_getElem hnl, hnd]
  cases n with
  | zero =>
    have hb0 : backN all f 0 = [] := by cases f <;> rfl
    rw [hb0, List.append_nil] at hout
    have hfr := ((hok 0 nd hndq).fr0 rfl).1
    have hol : out = (backN all i i).reverse := by rw [<- hout, List.reverse_reverse]
    refine wX (aN hnl <| aN hnd <| aN hfr encRP.eq_1) ?_
    simp [go_sem, resS, hol]
  | succ t =>
    obtain ⟨f', rfl⟩ : ∃ f', f = f' + 1 := ⟨f - 1, by omega⟩
    have hno := (hok (t + 1) nd hndq).fr1 (by omega)
    obtain ⟨fr, hfr⟩ : ∃ fr : Nat, nd.fr = fr := ⟨nd.fr.toNat, by omega⟩
    have hbs : backN all (f' + 1) (t + 1) = nd.ed :: backN all f' fr := by
     simp only [backN, hndq, hfr, Int.toNat_natCast]
    rw [hbs] at hout
    have hap := appendOk_n2 (l := [nd.ed]) (m := out) (by simp; omega)
    simp only [List.map_cons, List.map_nil, encN] at hap
    have c2 : ((t : Int) + 1).toNat = t + 1 := by omega
    have c3 : (0 : Int) <= (t : Int) + 1 := by omega
    refine wX (aN hnl <| aN hnd <| aN hfr <| aN hap <| aN c2 <| aN c3 <| aN encRP.eq_1 encN.eq_1) ?_
    refine z_j fr _ (by omega) ⟨f', nd.ed :: out, by omega, by omega, ⟨by rw [List.reverse_cons, List.append_assoc]; exact hout, by simp; omega⟩, rfl⟩ ?_
    simp [go_sem, encRP, encN]
 ·rw [if_neg hd] at hfi
  rw [decide_eq_false hd] at k52
  simp only [encRP] at k52
  have hkm : ∀ k ∈ sortedE g.edges p.st, 0 <= k /\ k.toNat < g.edges.length := fun k hk => by
   obtain ⟨x, hx, h0, _⟩ := mem_sortedE.1 hk
   exact ⟨h0, (List.getElem?_eq_some_iff.1 hx).1⟩
  have hkl : (sortedE g.edges p.st).length <= 1000 := by
   unfold sortedE
   rw [isort_len]
   have := ofState_len g.edges p.st g.edges.length
   omega
  have j53 := k53 p.st
  obtain ⟨ks, hks⟩ : ∃ ks, sortedE g.edges p.st = ks := ⟨_, rfl⟩
  rw [hks] at hfi hkm hkl j53
  refine z_l [(7, .sv (.one (.int .i64 i))), (6, .sv (.one (.ow 4 (all.map encRP)))), (5, .sv (.one (.int .i64 0))), (4, .sv (.one .nil)), (2, .sv (.one (.bx (encG g)))), (1, .sv (.one (.sl (H.map encH))))] ?_ ?_
  ·refine wV (aN hlt <| aN hp <| aN encRP.eq_1 encG.eq_1) k52 ?_
   refine z_m ?_
   simp [go_sem, encG, encRP]
  refine z_l [(10, .sv (.one (.ow 1 (ks.map encN)))), (7, .sv (.one (.int .i64 i))), (6, .sv (.one (.ow 4 (all.map encRP)))), (5, .sv (.one (.int .i64 0))), (4, .sv (.one .nil)), (2, .sv (.one (.bx (encG g)))), (1, .sv (.one (.sl (H.map encH))))] ?_ ?_
  ·refine wV (aN hlt <| aN hp <| aN encRP.eq_1 encG.eq_1) j53 ?_
   refine z_m ?_
   simp [go_sem, encG, encRP]
  refine wX encG.eq_1 ?_
  refine z_k (fun q e => ∃ (j : Nat) (al : List Nd), j + q = ks.length /\ al = (ks.take j).foldl (addN g H i p) all /\ (AllOk g H al /\ i < al.length /\ al.length <= 1000 * i + 1 + j /\ al[i]? = some p) /\ e = [(11, .sv (.one (.int .i64 j))), (10, .sv (.one (.ow 1 (ks.map encN)))), (7, .sv (.one (.int .i64 i))), (6, .sv (.one (.ow 4 (al.map encRP)))), (5, .sv (.one (.int .i64 0))), (4, .sv (.one .nil)), (2, .sv (.one (.bx (encG g)))), (1, .sv (.one (.sl (H.map encH))))]) ks.length _ ⟨0, all, by simp, by simp, ⟨hok, hlt, by omega, hpq⟩, rfl⟩ (by simp [go_sem, encG]) ?_
  rintro q e ⟨j, al, hj, hal2, ⟨hao, hil, hall, hap⟩, rfl⟩
  by_cases hjl : j < ks.length
  rotate_left
  ·have hkj : ks.take j = ks := List.take_of_length_le (by omega)
   rw [hkj] at hal2
   rw [<- hal2] at hfi
   refine wX (aN hjl encG.eq_1) ?_
   refine z_j m _ (by omega) ⟨i + 1, al, hfi, ⟨by omega, by omega⟩, ⟨hao, by omega⟩, rfl⟩ ?_
   simp [go_sem, encG]
  obtain ⟨k, hkj⟩ : ∃ k, ks[j] = k := ⟨_, rfl⟩
  obtain ⟨hk0, hk1⟩ := hkm k (hkj ▸ List.getElem_mem hjl)
  have hpi : al[i] = p := by
   rw [List.getElem?_eq_getElem hil] at hap
   exact Option.some.inj hap
  have hao' := addN_ok hed hao hpo hil hk0
  have hfold : addN g H i p al k = (ks.take (j + 1)).foldl (addN g H i p) all := by rw [foldl_take1 _ _ hjl, <- hal2, hkj]
  have j54 := k54 p k i hpo.len hpo.le hk0 hk1
  refine z_l [(11, .sv (.one (.int .i64 j))), (10, .sv (.one (.ow 1 (ks.map encN)))), (7, .sv (.one (.int .i64 i))), (6, .sv (.one (.ow 4 (al.map encRP)))), (5, .sv (.one (.int .i64 0))), (4, .sv (.one .nil)), (2, .sv (.one (.bx (encG g)))), (1, .sv (.one (.sl (H.map encH))))] ?_ ?_
  ·refine wX (aN hjl encG.eq_1) ?_
   refine z_m ?_
   simp [go_sem, encG]
  refine z_A ?_
  refine z_C ?_
  cases hst : stepN g H i p k with
  | none =>
    have hadd : addN g H i p al k = al := by unfold addN; rw [hst]
    rw [hadd] at hfold hao'
    rw [hst] at j54
    simp only [resN, encRP] at j54
    refine z_l [(13, .sv (.one (.bool false))), (12, .sv (.one (.bx [.int .i64 0, .nil, .int .i64 0, .int .i64 0]))), (11, .sv (.one (.int .i64 j))), (10, .sv (.one (.ow 1 (ks.map encN)))), (7, .sv (.one (.int .i64 i))), (6, .sv (.one (.ow 4 (al.map encRP)))), (5, .sv (.one (.int .i64 0))), (4, .sv (.one .nil)), (2, .sv (.one (.bx (encG g)))), (1, .sv (.one (.sl (H.map encH))))] ?_ ?_
    ·refine wV (aN hil <| aN hpi <| aN hjl <| aN hkj <| aN encN.eq_1 <| aN encRP.eq_1 encG.eq_1) j54 ?_
     refine z_m ?_
     simp [go_sem, encG, encRP, encN]
    refine wX encG.eq_1 ?_
    refine z_k (fun n e => n = 0 /\ e = [(14, .sv (.one (.int .i64 0))), (13, .sv (.one (.bool false))), (12, .sv (.one (.bx [.int .i64 0, .nil, .int .i64 0, .int .i64 0]))), (11, .sv (.one (.int .i64 j))), (10, .sv (.one (.ow 1 (ks.map encN)))), (7, .sv (.one (.int .i64 i))), (6, .sv (.one (.ow 4 (al.map encRP)))), (5, .sv (.one (.int .i64 0))), (4, .sv (.one .nil)), (2, .sv (.one (.bx (encG g)))), (1, .sv (.one (.sl (H.map encH))))]) 0 _ ⟨rfl, rfl⟩ (by simp [go_sem, encG]) ?_
    rintro n e ⟨_, rfl⟩
    refine wX encG.eq_1 ?_
    refine z_j (q - 1) _ (by omega) ⟨j + 1, al, by omega, hfold, ⟨hao, hil, by omega, hap⟩, rfl⟩ ?_
    simp [go_sem, encG]
  | some nq =>
    have hnl : nq.ps.length = H.length := (step_ok hed hpo hk0 hil hst).len
    rw [hst] at j54
    simp only [resN, encRP] at j54
    have k55 : ∀ a ∈ al, Impl Tryz.prog 55 [.ag (encRP a), .ag (encRP nq)] (.one (.one (.bool (sameN nq a)))) := fun a ha => by
     obtain ⟨z, hz⟩ := List.getElem?_of_mem ha
     have hzl := (hao z a hz).len
     rw [sameN_symm]
     exact f55 a nq (by rw [hzl, hnl]) (by omega)
    refine z_l [(13, .sv (.one (.bool true))), (12, .sv (.one (.bx (encRP nq)))), (11, .sv (.one (.int .i64 j))), (10, .sv (.one (.ow 1 (ks.map encN)))), (7, .sv (.one (.int .i64 i))), (6, .sv (.one (.ow 4 (al.map encRP)))), (5, .sv (.one (.int .i64 0))), (4, .sv (.one .nil)), (2, .sv (.one (.bx (encG g)))), (1, .sv (.one (.sl (H.map encH))))] ?_ ?_
    ·refine wV (aN hil <| aN hpi <| aN hjl <| aN hkj <| aN encN.eq_1 <| aN encRP.eq_1 encG.eq_1) j54 ?_
     refine z_m ?_
     simp [go_sem, encG, encRP, encN]
    refine z_l [(13, .sv (.one (.bool (!al.any (sameN nq))))), (12, .sv (.one (.bx (encRP nq)))), (11, .sv (.one (.int .i64 j))), (10, .sv (.one (.ow 1 (ks.map encN)))), (7, .sv (.one (.int .i64 i))), (6, .sv (.one (.ow 4 (al.map encRP)))), (5, .sv (.one (.int .i64 0))), (4, .sv (.one .nil)), (2, .sv (.one (.bx (encG g)))), (1, .sv (.one (.sl (H.map encH))))] ?_ ?_
    ·refine wX encG.eq_1 ?_
     refine z_k (fun n e => ∃ (z : Nat) (ok : Bool), z + n = al.length /\ (al.take z).any (sameN nq) = !ok /\ e = [(14, .sv (.one (.int .i64 z))), (13, .sv (.one (.bool ok))), (12, .sv (.one (.bx (encRP nq)))), (11, .sv (.one (.int .i64 j))), (10, .sv (.one (.ow 1 (ks.map encN)))), (7, .sv (.one (.int .i64 i))), (6, .sv (.one (.ow 4 (al.map encRP)))), (5, .sv (.one (.int .i64 0))), (4, .sv (.one .nil)), (2, .sv (.one (.bx (encG g)))), (1, .sv (.one (.sl (H.map encH))))]) al.length _ ⟨0, true, by simp, by simp, rfl⟩ (by simp [go_sem, encG]) ?_
     rintro n e ⟨z, ok, hz, hany, rfl⟩
     cases ok with
     | false =>
       have ha : al.any (sameN nq) = true := by
        simp only [Bool.not_false, List.any_eq_true] at hany ⊢
        obtain ⟨a, h1, h2⟩ := hany
        exact ⟨a, List.mem_of_mem_take h1, h2⟩
       rw [ha]
       by_cases hzl : z < al.length
       ·refine wX (aN hzl encG.eq_1) ?_
        refine z_m ?_
        simp [go_sem, encG]
       ·refine wX (aN hzl encG.eq_1) ?_
        refine z_m ?_
        simp [go_sem, encG]
     | true =>
       by_cases hzl : z < al.length
       ·obtain ⟨a, haz⟩ : ∃ a, al[z] = a := ⟨_, rfl⟩
        have j55 := k55 a (haz ▸ List.getElem_mem hzl)
        simp only [encRP] at j55
        refine wV (aN hzl <| aN haz <| aN encRP.eq_1 encG.eq_1) j55 ?_
        refine z_j (n - 1) _ (by omega) ⟨z + 1, !sameN nq a, by omega, ?_, rfl⟩ ?_
        ·rw [any_succ hzl, hany, haz]
         simp
        ·simp [go_sem, encG, encRP]
       ·have htl : al.take z = al := List.take_of_length_le (by omega)
        rw [htl] at hany
        rw [hany]
        refine wX (aN hzl encG.eq_1) ?_
        refine z_m ?_
        simp [go_sem, encG]
    cases hany : al.any (sameN nq) with
    | true =>
      have hadd : addN g H i p al k = al := by unfold addN; rw [hst]; simp only [hany, if_true]
      rw [hadd] at hfold hao'
      refine wX encG.eq_1 ?_
      refine z_j (q - 1) _ (by omega) ⟨j + 1, al, by omega, hfold, ⟨hao, hil, by omega, hap⟩, rfl⟩ ?_
      simp [go_sem, encG]
    | false =>
      have hadd : addN g H i p al k = al ++ [nq] := by unfold addN; rw [hst]; simp only [hany, Bool.false_eq_true, if_false]
      rw [hadd] at hfold hao'
      have hap2 := appendOk_rp (all := al) (q := nq) (by omega)
      simp only [encRP] at hap2
      refine wX (aN hap2 <| aN encRP.eq_1 encG.eq_1) ?_
      refine z_j (q - 1) _ (by omega) ⟨j + 1, al ++ [nq], by omega, hfold, ⟨hao'.1, by simp; omega, by simp; omega, by rw [List.getElem?_append_left hil]; exact hap⟩, rfl⟩ ?_
      simp [go_sem, encG, encRP]
end Go.Av

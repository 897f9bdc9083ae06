/- fit.search: breadth first, over states and numbers of events. -/
import Derived.Test.YticeobjphcmggaaGreatDoorAvR
import Derived.Test.YticeobjphcmggaaGreatDoorB13
set_option linter.unusedVariables false
set_option linter.unusedSimpArgs false
set_option maxHeartbeats 64000000
set_option maxRecDepth 8000
namespace Go.Av
open Go Go.RowKit Go.Proofs
set_option maxHeartbeats 64000000
theorem encPl_nil : encPl ⟨0, [], 0, 0⟩ = [.int .i64 0, .int .i64 0, .int .i64 0, .int .i64 0, .int .i64 0, .int .i64 0, .int .i64 0] := rfl
theorem encPl_first (g : Glob) (H : List (List Ev)) : encPl (firstN g H) = [.int .i64 g.start, .int .i64 0, .int .i64 0, .int .i64 0, .int .i64 0, .int .i64 0, .int .i64 0] := by
 unfold encPl firstN
 simp only [pad6_zero]
 rfl
theorem encSp_first (g : Glob) (H : List (List Ev)) : encSp (firstN g H) = [.int .i64 0, .int .i64 0] := rfl
theorem encSp_new (s : Int) (ps : List Nat) (i : Nat) {k : Int} (h : 0 <= k) : encSp ⟨s, ps, i, k⟩ = [.int .i64 i, .int .i64 k] := by
 unfold encSp
 rw [nn_pos h, nn_pos (Int.natCast_nonneg i)]
def resS : Option (List Int) -> DV
 | none => .nil
 | some l => .ow 1 (l.map encN)
theorem appendOk_pl {all : List Nd} {q : Nd} (h : all.length <= 100000000) : z_f 7 56 (all.map encPl) [encPl q] := by
 refine ⟨?_, ?_, by omega, ?_, ?_⟩
 ·intro e he; rw [List.mem_singleton.1 he]; exact encPl_flat q
 ·intro e he; rw [List.mem_singleton.1 he]; exact encPl_len q
 ·simp only [List.length_map, List.length_singleton, maxLen]; omega
 ·simp only [List.length_map, List.length_singleton]; omega
theorem appendOk_sp {all : List Nd} {i k : Int} (h : all.length <= 100000000) : z_f 2 16 (all.map encSp) [[.int .i64 i, .int .i64 k]] := by
 refine ⟨?_, ?_, by omega, ?_, ?_⟩
 ·intro e he; rw [List.mem_singleton.1 he]; rfl
 ·intro e he; rw [List.mem_singleton.1 he]; rfl
 ·simp only [List.length_map, List.length_singleton, maxLen]; omega
 ·simp only [List.length_map, List.length_singleton]; omega
theorem appendOk_n {l : List Int} {x : Int} (h : l.length <= 100000000) : z_f 1 8 (l.map encN) [[.int .i64 x]] := by
 refine ⟨?_, ?_, by omega, ?_, ?_⟩
 ·intro e he; rw [List.mem_singleton.1 he]; rfl
 ·intro e he; rw [List.mem_singleton.1 he]; rfl
 ·simp only [List.length_map, List.length_singleton, maxLen]; omega
 ·simp only [List.length_map, List.length_singleton]; omega
theorem foldl_take1 {α β : Type} (f : β -> α -> β) (a : β) {l : List α} {j : Nat} (h : j < l.length) : (l.take (j + 1)).foldl f a = f ((l.take j).foldl f a) l[j] := by
 rw [List.take_succ_eq_append_getElem h, List.foldl_append]
 rfl
theorem f26 (h109 : H109) (g : Glob) (H : List (List Ev)) (hs : Small g) (hl : H.length <= 1000000) (hh : ∀ l ∈ H, l.length <= 1000000) :
  Impl Tryz.prog 26 [.ag (encG g), .one (.sl (H.map encH))] (.tup [.one (resS (searchF g H).1), .one (.int .i64 (searchF g H).2)]) := by
 have k46 := f46 h109 g H hs hl hh
 have k47 : ∀ s, Impl Tryz.prog 47 [.ag (encG g), .one (.int .i64 s)] (.one (.one (.ow 1 ((sortedE g.edges s).map encN)))) := fun s => f47 g s hs.edges
 have hel := hs.edges
 simp only [encG] at k46 k47
 cases hg : goodF g H with
 | false =>
   have hr : searchF g H = (none, 1) := by unfold searchF; rw [hg]; rfl
   rw [hr]
   rw [hg] at k46
   refine impl_v ?_
   refine wV encG.eq_1 k46 ?_
   simp [go_sem, resS]
 | true =>
   have hr : searchF g H = findL g H 20001 0 [firstN g H] := by unfold searchF; rw [hg]; rfl
   rw [hr]
   rw [hg] at k46
   obtain ⟨hn, hlr, h6, _⟩ := valid_roles hg
   have hed := edges_ok hg
   have hfo := first_ok hg
   obtain ⟨n1, n2, n3, n4, _, _, _⟩ := numbered_facts hn
   obtain ⟨S, hS⟩ : ∃ S : Nat, g.states = S := ⟨g.states.toNat, by omega⟩
   have hS2 : S <= 200 := by omega
   obtain ⟨R, hR⟩ : ∃ R, findL g H 20001 0 [firstN g H] = R := ⟨_, rfl⟩
   rw [hR]
   have hLl : (lensH H).length = H.length := by simp [lensH]
   refine impl_v ?_
   refine z_l [(5, .sv (.one (.int .i64 0))), (4, .sv (.one .nil)), (2, .sv (.one (.bx (encG g)))), (1, .sv (.one (.sl (H.map encH))))] ?_ ?_
   ·refine wX encG.eq_1 ?_
    refine z_m ?_
    simp [go_sem, encG]
   refine z_l [(5, .sv (.one (.int .i64 0))), (4, .sv (.one .nil)), (2, .sv (.one (.bx (encG g)))), (1, .sv (.one (.sl (H.map encH))))] ?_ ?_
   ·refine wV encG.eq_1 k46 ?_
    refine z_m ?_
    simp [go_sem, encG]
   refine z_l [(6, .sv (.one (.bx (encPl ⟨0, [], 0, 0⟩)))), (5, .sv (.one (.int .i64 0))), (4, .sv (.one .nil)), (2, .sv (.one (.bx (encG g)))), (1, .sv (.one (.sl (H.map encH))))] ?_ ?_
   ·refine wX encG.eq_1 ?_
    refine z_m ?_
    simp [go_sem, encG, encPl_nil]
   refine z_l [(6, .sv (.one (.bx (encPl ⟨0, lensH H, 0, 0⟩)))), (5, .sv (.one (.int .i64 0))), (4, .sv (.one .nil)), (2, .sv (.one (.bx (encG g)))), (1, .sv (.one (.sl (H.map encH))))] ?_ ?_
   ·refine wX encG.eq_1 ?_
    refine z_k (fun n e => ∃ k : Nat, k + n = H.length /\ e = [(31, .sv (.one (.int .i64 k))), (30, .sv (.one (.int .i64 H.length))), (29, .sv (.one (.sl (H.map encH)))), (6, .sv (.one (.bx (encPl ⟨0, (lensH H).take k, 0, 0⟩)))), (5, .sv (.one (.int .i64 0))), (4, .sv (.one .nil)), (2, .sv (.one (.bx (encG g)))), (1, .sv (.one (.sl (H.map encH))))]) H.length _ ⟨0, by simp, by simp; rfl⟩ (by simp [go_sem, encG]) ?_
    rintro n e ⟨k, hk, rfl⟩
    by_cases hlt : k < H.length
    ·obtain ⟨h1, hh1⟩ : ∃ h, H[k] = h := ⟨_, rfl⟩
     have hput := encPl_step (L := lensH H) (k := k) (by omega) (by omega)
     have hLk : (lensH H)[k]'(by omega) = h1.length := by simp [lensH, hh1]
     rw [hLk] at hput
     refine wX (aN hlt <| aN hh1 <| aN encH.eq_1 hput) ?_
     refine z_j (n - 1) _ (by omega) ⟨k + 1, by omega, rfl⟩ ?_
     simp [go_sem, encG, hput]
    ·have hk2 : (lensH H).take k = lensH H := List.take_of_length_le (by omega)
     rw [hk2]
     refine wX hlt ?_
     refine z_m ?_
     simp [go_sem, encG]
   refine z_l [(9, .sv (.one (.ow 1 (rowsE g S 0)))), (6, .sv (.one (.bx (encPl ⟨0, lensH H, 0, 0⟩)))), (5, .sv (.one (.int .i64 0))), (4, .sv (.one .nil)), (2, .sv (.one (.bx (encG g)))), (1, .sv (.one (.sl (H.map encH))))] ?_ ?_
   ·refine wX (aN encG.eq_1 hS) ?_
    refine z_m ?_
    simp [go_sem, encG, rowsE_zero, hS]
   refine z_l [(9, .sv (.one (.ow 1 (rowsE g S S)))), (6, .sv (.one (.bx (encPl ⟨0, lensH H, 0, 0⟩)))), (5, .sv (.one (.int .i64 0))), (4, .sv (.one .nil)), (2, .sv (.one (.bx (encG g)))), (1, .sv (.one (.sl (H.map encH))))] ?_ ?_
   ·refine wX (aN encG.eq_1 @rowsE_len) ?_
    refine z_k (fun n e => ∃ k : Nat, k + n = S /\ e = [(47, .sv (.one (.int .i64 k))), (46, .sv (.one (.int .i64 S))), (9, .sv (.one (.ow 1 (rowsE g S k)))), (6, .sv (.one (.bx (encPl ⟨0, lensH H, 0, 0⟩)))), (5, .sv (.one (.int .i64 0))), (4, .sv (.one .nil)), (2, .sv (.one (.bx (encG g)))), (1, .sv (.one (.sl (H.map encH))))]) S _ ⟨0, by simp, rfl⟩ (by simp [go_sem, encG]) ?_
    rintro n e ⟨k, hk, rfl⟩
    by_cases hlt : k < S
    ·have hrk : (rowsE g S k)[k]? = some [.nil] := by rw [rowsE_at hlt, if_neg (by omega)]
     have hrk2 : (rowsE g S k)[k]'(by rw [rowsE_len]; exact hlt) = [.nil] := by
      rw [List.getElem?_eq_getElem (by rw [rowsE_len]; exact hlt)] at hrk
      exact Option.some.inj hrk
     have hrs := rowsE_set (g := g) hlt
     refine wV (aN hlt <| aN hrk <| aN hrk2 <| aN hrs <| aN encG.eq_1 rowsE_len) (fun {x0_} => k47 x0_) ?_
     refine z_j (n - 1) _ (by omega) ⟨k + 1, by omega, rfl⟩ ?_
     simp [go_sem, encG, hrs]
    ·have hk2 : k = S := by omega
     subst hk2
     refine wX hlt ?_
     refine z_m ?_
     simp [go_sem, encG]
   refine z_l [(11, .sv (.one (.ow 7 ([firstN g H].map encPl)))), (9, .sv (.one (.ow 1 (rowsE g S S)))), (6, .sv (.one (.bx (encPl ⟨0, lensH H, 0, 0⟩)))), (5, .sv (.one (.int .i64 0))), (4, .sv (.one .nil)), (2, .sv (.one (.bx (encG g)))), (1, .sv (.one (.sl (H.map encH))))] ?_ ?_
   ·refine wX encG.eq_1 ?_
    refine z_m ?_
    simp [go_sem, encG, encPl_first]
   refine z_l [(12, .sv (.one (.ow 2 ([firstN g H].map encSp)))), (11, .sv (.one (.ow 7 ([firstN g H].map encPl)))), (9, .sv (.one (.ow 1 (rowsE g S S)))), (6, .sv (.one (.bx (encPl ⟨0, lensH H, 0, 0⟩)))), (5, .sv (.one (.int .i64 0))), (4, .sv (.one .nil)), (2, .sv (.one (.bx (encG g)))), (1, .sv (.one (.sl (H.map encH))))] ?_ ?_
   ·refine wX encG.eq_1 ?_
    refine z_m ?_
    simp [go_sem, encG, encSp_first]
   have hko0 := keyOkN (firstN g H) []
   have hm0 : metM [] = [] := rfl
   rw [hm0] at hko0
   refine z_l [(13, .sv (.one (.mp (metM [firstN g H])))), (12, .sv (.one (.ow 2 ([firstN g H].map encSp)))), (11, .sv (.one (.ow 7 ([firstN g H].map encPl)))), (9, .sv (.one (.ow 1 (rowsE g S S)))), (6, .sv (.one (.bx (encPl ⟨0, lensH H, 0, 0⟩)))), (5, .sv (.one (.int .i64 0))), (4, .sv (.one .nil)), (2, .sv (.one (.bx (encG g)))), (1, .sv (.one (.sl (H.map encH))))] ?_ ?_
   ·refine wX (aN encG.eq_1 <| aN hko0 <| aN mpSet.eq_1 mpSet.eq_2) ?_
    refine z_m ?_
    simp [go_sem, encG, metM, mpSet]
   refine wX encG.eq_1 ?_
   refine z_k (fun fu e => ∃ (i : Nat) (all : List Nd), findL g H fu i all = R /\ (fu + i = 20001 /\ i <= 20000) /\ (AllOk g H all /\ all.length <= 1000 * i + 1) /\ e = [(14, .sv (.one (.int .i64 i))), (13, .sv (.one (.mp (metM all)))), (12, .sv (.one (.ow 2 (all.map encSp)))), (11, .sv (.one (.ow 7 (all.map encPl)))), (9, .sv (.one (.ow 1 (rowsE g S S)))), (6, .sv (.one (.bx (encPl ⟨0, lensH H, 0, 0⟩)))), (5, .sv (.one (.int .i64 0))), (4, .sv (.one .nil)), (2, .sv (.one (.bx (encG g)))), (1, .sv (.one (.sl (H.map encH))))]) 20001 _ ⟨0, [firstN g H], hR, ⟨by omega, by omega⟩, ⟨hfo, by simp⟩, rfl⟩ (by simp [go_sem, encG]) ?_
   rintro fu e ⟨i, all, hfi, ⟨hfu, hi20⟩, ⟨hok, hal⟩, rfl⟩
   by_cases hlt : i < all.length
   rotate_left
   ·have hni : all[i]? = none := List.getElem?_eq_none (by omega)
    have hR' : R = (none, 23) := by
     rw [<- hfi]
     cases fu with
     | zero => rfl
     | succ fu => simp only [findL, hni]
    rw [hR']
    refine wX (aN hlt encG.eq_1) ?_
    simp [go_sem, resS]
   obtain ⟨p, hp⟩ : ∃ p, all[i] = p := ⟨_, rfl⟩
   have hpq : all[i]? = some p := by rw [List.getElem?_eq_getElem hlt, hp]
   have hpo := hok i p hpq
   obtain ⟨m, rfl⟩ : ∃ m, fu = m + 1 := ⟨fu - 1, by omega⟩
   simp only [findL, hpq] at hfi
   by_cases h20 : i = 20000
   ·have h20' : ((i : Nat) : Int) = 20000 := by omega
    rw [if_pos h20] at hfi
    rw [<- hfi]
    refine wX (aN hlt <| aN h20' encG.eq_1) ?_
    simp [go_sem, resS]
   have h20' : ¬ ((i : Nat) : Int) = 20000 := by omega
   rw [if_neg h20] at hfi
   refine z_l [(14, .sv (.one (.int .i64 i))), (13, .sv (.one (.mp (metM all)))), (12, .sv (.one (.ow 2 (all.map encSp)))), (11, .sv (.one (.ow 7 (all.map encPl)))), (9, .sv (.one (.ow 1 (rowsE g S S)))), (6, .sv (.one (.bx (encPl ⟨0, lensH H, 0, 0⟩)))), (5, .sv (.one (.int .i64 0))), (4, .sv (.one .nil)), (2, .sv (.one (.bx (encG g)))), (1, .sv (.one (.sl (H.map encH))))] ?_ ?_
   ·refine wX (aN hlt encG.eq_1) ?_
    refine z_m ?_
    simp [go_sem, encG]
   refine z_A ?_
   refine z_C ?_
   refine z_l [(14, .sv (.one (.int .i64 i))), (13, .sv (.one (.mp (metM all)))), (12, .sv (.one (.ow 2 (all.map encSp)))), (11, .sv (.one (.ow 7 (all.map encPl)))), (9, .sv (.one (.ow 1 (rowsE g S S)))), (6, .sv (.one (.bx (encPl ⟨0, lensH H, 0, 0⟩)))), (5, .sv (.one (.int .i64 0))), (4, .sv (.one .nil)), (2, .sv (.one (.bx (encG g)))), (1, .sv (.one (.sl (H.map encH))))] ?_ ?_
   ·refine wX (aN h20' encG.eq_1) ?_
    refine z_m ?_
    simp [go_sem, encG]
   refine z_l [(15, .sv (.one (.bx (encPl p)))), (14, .sv (.one (.int .i64 i))), (13, .sv (.one (.mp (metM all)))), (12, .sv (.one (.ow 2 (all.map encSp)))), (11, .sv (.one (.ow 7 (all.map encPl)))), (9, .sv (.one (.ow 1 (rowsE g S S)))), (6, .sv (.one (.bx (encPl ⟨0, lensH H, 0, 0⟩)))), (5, .sv (.one (.int .i64 0))), (4, .sv (.one .nil)), (2, .sv (.one (.bx (encG g)))), (1, .sv (.one (.sl (H.map encH))))] ?_ ?_
   ·refine wX (aN hlt <| aN hp encG.eq_1) ?_
    refine z_m ?_
    simp [go_sem, encG]
   have hc := cells6 (a := p.ps) (b := lensH H) (by rw [hpo.len, hLl]) (by rw [hpo.len]; omega)
   by_cases hd : p.ps = lensH H
   ·rw [if_pos hd] at hfi
    rw [decide_eq_true hd] at hc
    rw [<- hfi]
    repeat' first | refine St.go ?_ | ((with_reducible refine cn ?_ ?_) <;> intro h <;> (try simp at h) <;> try omega) | (refine Ru.go ?_; intro K hK; simp [go_sem, ↓hc, encG]; (try simp (disch := omega) only [wx, z_i]); (first | apply hK | refine ⟨by first | omega | (simp [z_f, z_g, ↓hc, encG]; first | done | omega), ?_⟩ | refine ⟨hK _ ?_, fun h => ?_⟩ | refine ⟨?_, ?_⟩); all_goals ((try apply hK); clear hK K))
    refine z_k (fun n e => ∃ (f : Nat) (out : List Int), n <= f /\ n < all.length /\ (out ++ backN all f n = backN all i i /\ f + out.length <= 20000) /\ e = [(16, .sv (.one (.ow 1 (out.map encN)))), (14, .sv (.one (.int .i64 n))), (12, .sv (.one (.ow 2 (all.map encSp))))]) i _ ⟨i, [], Nat.le_refl _, hlt, ⟨rfl, by simpa using hi20⟩, rfl⟩ (by simp [go_sem, encG]) ?_
    rintro n e ⟨f, out, hf, hnl, ⟨hout, hf2⟩, rfl⟩
    cases n with
    | zero =>
      have hb0 : backN all f 0 = [] := by cases f <;> rfl
      rw [hb0, List.append_nil] at hout
      have k48 := f48 out (by omega)
      refine wC k48 ?_
      simp [go_sem, resS, hout]
    | succ t =>
      obtain ⟨f', rfl⟩ : ∃ f', f = f' + 1 := ⟨f - 1, by omega⟩
      obtain ⟨nd, hnd⟩ : ∃ nd, all[t + 1] = nd := ⟨_, rfl⟩
      have hndq : all[t + 1]? = some nd := by rw [List.getElem?_eq_getElem hnl, hnd]
      have hno := (hok (t + 1) nd hndq).fr1 (by omega)
      obtain ⟨fr, hfr⟩ : ∃ fr : Nat, nd.fr = fr := ⟨nd.fr.toNat, by omega⟩
      have hsp : encSp nd = [.int .i64 fr, .int .i64 nd.ed] := by
       unfold encSp
       rw [nn_pos hno.1, nn_pos hno.2.2.1, hfr]
      have hbs : backN all (f' + 1) (t + 1) = nd.ed :: backN all f' fr := by
       simp only [backN, hndq, hfr, Int.toNat_natCast]
      rw [hbs] at hout
      have hap := appendOk_n (l := out) (x := nd.ed) (by omega)
      have c0 : ¬ ((t : Int) + 1 <= 0) := by omega
      have c1 : (0 : Int) < (t : Int) + 1 := by omega
      have c2 : ((t : Int) + 1).toNat = t + 1 := by omega
      have c3 : (0 : Int) <= (t : Int) + 1 := by omega
      refine wX (aN hnl <| aN hnd <| aN hsp <| aN hap <| aN c0 <| aN c1 <| aN c2 c3) ?_
      refine z_j fr _ (by omega) ⟨f', out ++ [nd.ed], by omega, by omega, ⟨by rw [List.append_assoc]; exact hout, by simp; omega⟩, rfl⟩ ?_
      simp [go_sem, encN]
   ·rw [if_neg hd] at hfi
    rw [decide_eq_false hd] at hc
    obtain ⟨s, hst⟩ : ∃ s : Nat, p.st = s := ⟨p.st.toNat, by have := hpo.st0; omega⟩
    have hsS : s < S := by have := hpo.st1; omega
    have hrow : (rowsE g S S)[s]? = some [.ow 1 ((sortedE g.edges s).map encN)] := by rw [rowsE_at hsS, if_pos hsS]
    have hkm : ∀ k ∈ sortedE g.edges s, 0 <= k /\ k.toNat < g.edges.length := fun k hk => by
     obtain ⟨x, hx, h0, _⟩ := mem_sortedE.1 hk
     exact ⟨h0, (List.getElem?_eq_some_iff.1 hx).1⟩
    have hkl : (sortedE g.edges s).length <= 1000 := by
     unfold sortedE
     rw [isort_len]
     have := ofState_len g.edges s g.edges.length
     omega
    rw [hst] at hfi
    obtain ⟨ks, hks⟩ : ∃ ks, sortedE g.edges (s : Int) = ks := ⟨_, rfl⟩
    rw [hks] at hfi hrow hkm hkl
    have hrow2 : (rowsE g S S)[s]'(by rw [rowsE_len]; exact hsS) = [.ow 1 (ks.map encN)] := by
     rw [List.getElem?_eq_getElem (by rw [rowsE_len]; exact hsS)] at hrow
     exact Option.some.inj hrow
    repeat' first | refine St.go ?_ | ((with_reducible refine cn ?_ ?_) <;> intro h <;> (try simp at h) <;> try omega) | (refine Ru.go ?_; intro K hK; simp [go_sem, ↓hc, hst, hrow, hrow2, hsS, rowsE_len, encG]; (try simp (disch := omega) only [wx, z_i]); (first | apply hK | refine ⟨by first | omega | (simp [z_f, z_g, ↓hc, hst, hrow, hrow2, hsS, rowsE_len, encG]; first | done | omega), ?_⟩ | refine ⟨hK _ ?_, fun h => ?_⟩ | refine ⟨?_, ?_⟩); all_goals ((try apply hK); clear hK K))
    refine z_k (fun q e => ∃ (j : Nat) (al : List Nd), j + q = ks.length /\ al = (ks.take j).foldl (addN g H i p) all /\ (AllOk g H al /\ i < al.length /\ al.length <= 1000 * i + 1 + j) /\ e = [(109, .sv (.one (.int .i64 j))), (108, .sv (.one (.int .i64 ks.length))), (107, .al 9 [(s, 0)]), (15, .sv (.one (.bx (encPl p)))), (14, .sv (.one (.int .i64 i))), (13, .sv (.one (.mp (metM al)))), (12, .sv (.one (.ow 2 (al.map encSp)))), (11, .sv (.one (.ow 7 (al.map encPl)))), (9, .sv (.one (.ow 1 (rowsE g S S)))), (6, .sv (.one (.bx (encPl ⟨0, lensH H, 0, 0⟩)))), (5, .sv (.one (.int .i64 0))), (4, .sv (.one .nil)), (2, .sv (.one (.bx (encG g)))), (1, .sv (.one (.sl (H.map encH))))]) ks.length _ ⟨0, all, by simp, by simp, ⟨hok, hlt, by omega⟩, rfl⟩ (by simp [go_sem, encG, hrow, hrow2, hsS, rowsE_len]) ?_
    rintro q e ⟨j, al, hj, hal2, ⟨hao, hil, hall⟩, rfl⟩
    by_cases hjl : j < ks.length
    rotate_left
    ·have hkj : ks.take j = ks := List.take_of_length_le (by omega)
     rw [hkj] at hal2
     rw [<- hal2] at hfi
     refine wX (aN hjl encG.eq_1) ?_
     refine z_j m _ (by omega) ⟨i + 1, al, hfi, ⟨by omega, by omega⟩, ⟨hao, by omega⟩, rfl⟩ ?_
     simp [go_sem, encG]
    refine z_l [(110, .sv (.one (.bool true))), (109, .sv (.one (.int .i64 j))), (108, .sv (.one (.int .i64 ks.length))), (107, .al 9 [(s, 0)]), (15, .sv (.one (.bx (encPl p)))), (14, .sv (.one (.int .i64 i))), (13, .sv (.one (.mp (metM al)))), (12, .sv (.one (.ow 2 (al.map encSp)))), (11, .sv (.one (.ow 7 (al.map encPl)))), (9, .sv (.one (.ow 1 (rowsE g S S)))), (6, .sv (.one (.bx (encPl ⟨0, lensH H, 0, 0⟩)))), (5, .sv (.one (.int .i64 0))), (4, .sv (.one .nil)), (2, .sv (.one (.bx (encG g)))), (1, .sv (.one (.sl (H.map encH))))] ?_ ?_
    ·refine wX (aN hjl encG.eq_1) ?_
     refine z_m ?_
     simp [go_sem, encG, hrow]
    refine z_l [(109, .sv (.one (.int .i64 j))), (108, .sv (.one (.int .i64 ks.length))), (107, .al 9 [(s, 0)]), (15, .sv (.one (.bx (encPl p)))), (14, .sv (.one (.int .i64 i))), (13, .sv (.one (.mp (metM al)))), (12, .sv (.one (.ow 2 (al.map encSp)))), (11, .sv (.one (.ow 7 (al.map encPl)))), (9, .sv (.one (.ow 1 (rowsE g S S)))), (6, .sv (.one (.bx (encPl ⟨0, lensH H, 0, 0⟩)))), (5, .sv (.one (.int .i64 0))), (4, .sv (.one .nil)), (2, .sv (.one (.bx (encG g)))), (1, .sv (.one (.sl (H.map encH))))] ?_ ?_
    ·refine wX encG.eq_1 ?_
     refine z_m ?_
     simp [go_sem, encG, hrow]
    refine z_A ?_
    refine z_C ?_
    obtain ⟨k, hkj⟩ : ∃ k, ks[j] = k := ⟨_, rfl⟩
    obtain ⟨hk0, hk1⟩ := hkm k (hkj ▸ List.getElem_mem hjl)
    obtain ⟨x, hkx⟩ : ∃ x, g.edges[k.toNat] = x := ⟨_, rfl⟩
    have hxm : x ∈ g.edges := hkx ▸ List.getElem_mem hk1
    obtain ⟨e1, e2, e3, e4, e5, e6⟩ := hed x hxm
    obtain ⟨fa, hfa⟩ : ∃ n : Nat, x.act.from_ = n := ⟨_, (Int.toNat_of_nonneg e3).symm⟩
    obtain ⟨ta, hta⟩ : ∃ n : Nat, x.act.to = n := ⟨_, (Int.toNat_of_nonneg e5).symm⟩
    have hfl : fa < H.length := by omega
    have htl : ta < H.length := by omega
    have hf6 : fa < 6 := by omega
    have ht6 : ta < 6 := by omega
    obtain ⟨h1, hh1⟩ : ∃ h, H[fa] = h := ⟨_, rfl⟩
    obtain ⟨h2, hh2⟩ : ∃ h, H[ta] = h := ⟨_, rfl⟩
    have hpl := hpo.len
    obtain ⟨a, ha⟩ : ∃ a, p.ps[fa]? = some a := ⟨_, List.getElem?_eq_getElem (by omega)⟩
    obtain ⟨b, hb⟩ : ∃ b, p.ps[ta]? = some b := ⟨_, List.getElem?_eq_getElem (by omega)⟩
    have eh1 : histAt H x.act.from_ = h1 := by simp [histAt, hfa, hfl, hh1]
    have eh2 : histAt H x.act.to = h2 := by simp [histAt, hta, htl, hh2]
    have ea : psAt p.ps x.act.from_ = a := by simp [psAt, hfa, ha]
    have eb : psAt p.ps x.act.to = b := by simp [psAt, hta, hb]
    have ha1 : a <= h1.length := by
     have := hpo.le x.act.from_ e3 e4
     rwa [ea, eh1] at this
    have hb1 : b <= h2.length := by
     have := hpo.le x.act.to e5 e6
     rwa [eb, eh2] at this
    have hl1 : h1.length <= 1000000 := hh _ (hh1 ▸ List.getElem_mem hfl)
    have hl2 : h2.length <= 1000000 := hh _ (hh2 ▸ List.getElem_mem htl)
    obtain ⟨⟨na, oa⟩, hpa⟩ : ∃ v, passV h1 a true x.act.to x.act.label = v := ⟨_, rfl⟩
    obtain ⟨⟨nb, ob⟩, hpb⟩ : ∃ v, passV h2 b false x.act.from_ x.act.label = v := ⟨_, rfl⟩
    have j49a := f49 h1 a true x.act.to x.act.label ha1 hl1
    have j49b := f49 h2 b false x.act.from_ x.act.label hb1 hl2
    rw [hpa, hta] at j49a
    rw [hpb, hfa] at j49b
    dsimp only at j49a j49b
    obtain ⟨q1, hq1⟩ : ∃ q1, q1 = (⟨x.to, p.ps.set fa na, i, k⟩ : Nd) := ⟨_, rfl⟩
    obtain ⟨nq, hnq⟩ : ∃ nq, nq = (⟨x.to, (p.ps.set fa na).set ta nb, i, k⟩ : Nd) := ⟨_, rfl⟩
    have hstep : stepN g H i p k = if oa && ob then some nq else none := by
     have c1 : x.act.from_.toNat = fa := by omega
     have c2 : x.act.to.toNat = ta := by omega
     unfold stepN
     rw [List.getElem?_eq_getElem hk1, hkx]
     simp only
     rw [eh1, eh2, ea, eb, hpa, hpb, c1, c2, hnq]
    have hput1 := encPl_put x.to p.ps i k na (by omega : fa < p.ps.length) hf6
    have hput2 := encPl_put x.to (p.ps.set fa na) i k nb (by rw [List.length_set]; omega : ta < (p.ps.set fa na).length) ht6
    rw [<- hq1] at hput1 hput2
    rw [<- hnq] at hput2
    have hat1 := encPl_at (n := p) ha hf6
    have hat2 := encPl_at (n := p) hb ht6
    have hat1' : (encPl p)[1 + fa]'(by rw [encPl_len]; omega) = .int .i64 (a : Nat) := by
     rw [List.getElem?_eq_getElem (by rw [encPl_len]; omega)] at hat1
     exact Option.some.inj hat1
    have hat2' : (encPl p)[1 + ta]'(by rw [encPl_len]; omega) = .int .i64 (b : Nat) := by
     rw [List.getElem?_eq_getElem (by rw [encPl_len]; omega)] at hat2
     exact Option.some.inj hat2
    have hao' := addN_ok hed hao hpo hil hk0
    have hfold : addN g H i p al k = (ks.take (j + 1)).foldl (addN g H i p) all := by rw [foldl_take1 _ _ hjl, <- hal2, hkj]
    have hadd : addN g H i p al k = if oa && ob then (if al.any (sameN nq) then al else al ++ [nq]) else al := by
     unfold addN
     rw [hstep]
     cases oa && ob <;> rfl
    refine z_l [(18, .sv (.one (.int .i64 k))), (109, .sv (.one (.int .i64 j))), (108, .sv (.one (.int .i64 ks.length))), (107, .al 9 [(s, 0)]), (15, .sv (.one (.bx (encPl p)))), (14, .sv (.one (.int .i64 i))), (13, .sv (.one (.mp (metM al)))), (12, .sv (.one (.ow 2 (al.map encSp)))), (11, .sv (.one (.ow 7 (al.map encPl)))), (9, .sv (.one (.ow 1 (rowsE g S S)))), (6, .sv (.one (.bx (encPl ⟨0, lensH H, 0, 0⟩)))), (5, .sv (.one (.int .i64 0))), (4, .sv (.one .nil)), (2, .sv (.one (.bx (encG g)))), (1, .sv (.one (.sl (H.map encH))))] ?_ ?_
    ·refine wX (aN hjl <| aN hkj <| aN hrow <| aN encN.eq_1 encG.eq_1) ?_
     refine z_m ?_
     simp [go_sem, encG, hrow]
    refine z_l [(19, .sv (.one (.bx (encEd x)))), (18, .sv (.one (.int .i64 k))), (109, .sv (.one (.int .i64 j))), (108, .sv (.one (.int .i64 ks.length))), (107, .al 9 [(s, 0)]), (15, .sv (.one (.bx (encPl p)))), (14, .sv (.one (.int .i64 i))), (13, .sv (.one (.mp (metM al)))), (12, .sv (.one (.ow 2 (al.map encSp)))), (11, .sv (.one (.ow 7 (al.map encPl)))), (9, .sv (.one (.ow 1 (rowsE g S S)))), (6, .sv (.one (.bx (encPl ⟨0, lensH H, 0, 0⟩)))), (5, .sv (.one (.int .i64 0))), (4, .sv (.one .nil)), (2, .sv (.one (.bx (encG g)))), (1, .sv (.one (.sl (H.map encH))))] ?_ ?_
    ·refine wX (aN hk0 <| aN hk1 <| aN hkx <| aN encEd.eq_1 encG.eq_1) ?_
     refine z_m ?_
     simp [go_sem, encG, hrow, encEd]
    refine z_l [(20, .sv (.one (.bx (encPl ⟨x.to, p.ps, i, k⟩)))), (19, .sv (.one (.bx (encEd x)))), (18, .sv (.one (.int .i64 k))), (109, .sv (.one (.int .i64 j))), (108, .sv (.one (.int .i64 ks.length))), (107, .al 9 [(s, 0)]), (15, .sv (.one (.bx (encPl p)))), (14, .sv (.one (.int .i64 i))), (13, .sv (.one (.mp (metM al)))), (12, .sv (.one (.ow 2 (al.map encSp)))), (11, .sv (.one (.ow 7 (al.map encPl)))), (9, .sv (.one (.ow 1 (rowsE g S S)))), (6, .sv (.one (.bx (encPl ⟨0, lensH H, 0, 0⟩)))), (5, .sv (.one (.int .i64 0))), (4, .sv (.one .nil)), (2, .sv (.one (.bx (encG g)))), (1, .sv (.one (.sl (H.map encH))))] ?_ ?_
    ·refine wX (aN encEd.eq_1 encG.eq_1) ?_
     refine z_m ?_
     simp [go_sem, encG, hrow, encEd, encPl]
    refine z_l [(22, .sv (.one (.bool oa))), (21, .sv (.one (.int .i64 (na : Nat)))), (20, .sv (.one (.bx (encPl ⟨x.to, p.ps, i, k⟩)))), (19, .sv (.one (.bx (encEd x)))), (18, .sv (.one (.int .i64 k))), (109, .sv (.one (.int .i64 j))), (108, .sv (.one (.int .i64 ks.length))), (107, .al 9 [(s, 0)]), (15, .sv (.one (.bx (encPl p)))), (14, .sv (.one (.int .i64 i))), (13, .sv (.one (.mp (metM al)))), (12, .sv (.one (.ow 2 (al.map encSp)))), (11, .sv (.one (.ow 7 (al.map encPl)))), (9, .sv (.one (.ow 1 (rowsE g S S)))), (6, .sv (.one (.bx (encPl ⟨0, lensH H, 0, 0⟩)))), (5, .sv (.one (.int .i64 0))), (4, .sv (.one .nil)), (2, .sv (.one (.bx (encG g)))), (1, .sv (.one (.sl (H.map encH))))] ?_ ?_
    ·refine wV (aN hfa <| aN hta <| aN hfl <| aN hh1 <| aN hf6 <| aN hat1 <| aN hat1' <| aN encEd.eq_1 <| aN encG.eq_1 encH.eq_1) j49a ?_
     refine z_m ?_
     simp [go_sem, encG, hrow, encEd, hfa, hta]
    refine z_l [(24, .sv (.one (.bool ob))), (23, .sv (.one (.int .i64 (nb : Nat)))), (22, .sv (.one (.bool oa))), (21, .sv (.one (.int .i64 (na : Nat)))), (20, .sv (.one (.bx (encPl ⟨x.to, p.ps, i, k⟩)))), (19, .sv (.one (.bx (encEd x)))), (18, .sv (.one (.int .i64 k))), (109, .sv (.one (.int .i64 j))), (108, .sv (.one (.int .i64 ks.length))), (107, .al 9 [(s, 0)]), (15, .sv (.one (.bx (encPl p)))), (14, .sv (.one (.int .i64 i))), (13, .sv (.one (.mp (metM al)))), (12, .sv (.one (.ow 2 (al.map encSp)))), (11, .sv (.one (.ow 7 (al.map encPl)))), (9, .sv (.one (.ow 1 (rowsE g S S)))), (6, .sv (.one (.bx (encPl ⟨0, lensH H, 0, 0⟩)))), (5, .sv (.one (.int .i64 0))), (4, .sv (.one .nil)), (2, .sv (.one (.bx (encG g)))), (1, .sv (.one (.sl (H.map encH))))] ?_ ?_
    ·refine wV (aN hfa <| aN hta <| aN htl <| aN hh2 <| aN ht6 <| aN hat2 <| aN hat2' <| aN encEd.eq_1 <| aN encG.eq_1 encH.eq_1) j49b ?_
     refine z_m ?_
     simp [go_sem, encG, hrow, encEd, hfa, hta]
    refine z_l [(24, .sv (.one (.bool ob))), (23, .sv (.one (.int .i64 (nb : Nat)))), (22, .sv (.one (.bool oa))), (21, .sv (.one (.int .i64 (na : Nat)))), (20, .sv (.one (.bx (encPl nq)))), (19, .sv (.one (.bx (encEd x)))), (18, .sv (.one (.int .i64 k))), (109, .sv (.one (.int .i64 j))), (108, .sv (.one (.int .i64 ks.length))), (107, .al 9 [(s, 0)]), (15, .sv (.one (.bx (encPl p)))), (14, .sv (.one (.int .i64 i))), (13, .sv (.one (.mp (metM al)))), (12, .sv (.one (.ow 2 (al.map encSp)))), (11, .sv (.one (.ow 7 (al.map encPl)))), (9, .sv (.one (.ow 1 (rowsE g S S)))), (6, .sv (.one (.bx (encPl ⟨0, lensH H, 0, 0⟩)))), (5, .sv (.one (.int .i64 0))), (4, .sv (.one .nil)), (2, .sv (.one (.bx (encG g)))), (1, .sv (.one (.sl (H.map encH))))] ?_ ?_
    ·refine wX (aN hfa <| aN hta <| aN hf6 <| aN ht6 <| aN hput1 <| aN hput2 <| aN encEd.eq_1 encG.eq_1) ?_
     refine z_m ?_
     simp [go_sem, encG, hrow, encEd, hput1, hput2, hfa, hta]
    have hplen : ∀ n ∈ al, n.ps.length = nq.ps.length := fun n hn => by
     obtain ⟨z, hz⟩ := List.getElem?_of_mem hn
     rw [(hao z n hz).len, hnq]
     simp [hpl]
    have hq6 : nq.ps.length <= 6 := by rw [hnq]; simp; omega
    have hko := keyOkN nq al
    obtain ⟨gb, hgb⟩ : ∃ gb, (mpGet (metM al) (keyN nq)).getD (KV.kb false) = KV.kb gb := by
     cases hany : al.any (sameN nq) with
     | true => exact ⟨true, by rw [met_some hq6 hplen hany]; rfl⟩
     | false => exact ⟨false, by rw [(met_none hq6 hplen hany).1]; rfl⟩
    cases oa with
    | false =>
      have hadd' : addN g H i p al k = al := by rw [hadd]; rfl
      rw [hadd'] at hfold hao'
      refine wX (aN hko <| aN hgb encG.eq_1) ?_
      refine z_j (q - 1) _ (by omega) ⟨j + 1, al, by omega, hfold, ⟨hao, hil, by omega⟩, rfl⟩ ?_
      simp [go_sem, encG]
    | true =>
      cases ob with
      | false =>
        have hadd' : addN g H i p al k = al := by rw [hadd]; rfl
        rw [hadd'] at hfold hao'
        refine wX (aN hko <| aN hgb encG.eq_1) ?_
        refine z_j (q - 1) _ (by omega) ⟨j + 1, al, by omega, hfold, ⟨hao, hil, by omega⟩, rfl⟩ ?_
        simp [go_sem, encG]
      | true =>
        cases hany : al.any (sameN nq) with
        | true =>
          have hadd' : addN g H i p al k = al := by rw [hadd, hany]; rfl
          rw [hadd'] at hfold hao'
          have hget := met_some hq6 hplen hany
          refine wX (aN hko <| aN hget encG.eq_1) ?_
          refine z_j (q - 1) _ (by omega) ⟨j + 1, al, by omega, hfold, ⟨hao, hil, by omega⟩, rfl⟩ ?_
          simp [go_sem, encG]
        | false =>
          have hadd' : addN g H i p al k = al ++ [nq] := by rw [hadd, hany]; rfl
          rw [hadd'] at hfold hao'
          obtain ⟨hget, hset⟩ := met_none hq6 hplen hany
          have hap1 := appendOk_pl (all := al) (q := nq) (by omega)
          have hap2 := appendOk_sp (all := al) (i := i) (k := k) (by omega)
          have hspn : encSp nq = [.int .i64 i, .int .i64 k] := by rw [hnq]; exact encSp_new _ _ _ hk0
          refine wX (aN hko <| aN hget <| aN hset <| aN hap1 <| aN hap2 encG.eq_1) ?_
          refine z_j (q - 1) _ (by omega) ⟨j + 1, al ++ [nq], by omega, hfold, ⟨hao'.1, by simp; omega, by simp; omega⟩, rfl⟩ ?_
          simp [go_sem, encG, hset, hspn]
end Go.Av

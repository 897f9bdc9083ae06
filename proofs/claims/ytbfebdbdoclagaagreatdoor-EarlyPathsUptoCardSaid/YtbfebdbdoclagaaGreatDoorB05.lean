/- Part of a proof. -/
import Derived.Test.YtbfebdbdoclagaaGreatDoorAvR
import Derived.Test.YtbfebdbdoclagaaGreatDoorB04
import Derived.Test.YtbfebdbdoclagaaGreatDoorB02
import Derived.Test.YtbfebdbdoclagaaGreatDoorB03
set_option linter.unusedVariables false
set_option linter.unusedSimpArgs false
set_option maxHeartbeats 64000000
set_option maxRecDepth 8000
namespace Go.Av
open Go Go.RowKit Go.Proofs
set_option maxHeartbeats 64000000
theorem appendOk_kk {a b : List (List DV)} (ha : ∀ e ∈ a, ∃ k : Nat, e = [.int .i64 (k : Int)]) (hb : ∀ e ∈ b, ∃ k : Nat, e = [.int .i64 (k : Int)]) (h : a.length + b.length <= 100000) : z_f 1 8 a b := by
 refine ⟨?_, ?_, by omega, by simp only [maxLen]; omega, by omega⟩
 ·intro e he
  obtain ⟨k, rfl⟩ := hb e he
  simp [DV.flat]
 ·intro e he
  obtain ⟨k, rfl⟩ := hb e he
  simp
theorem kk_sub {out : List Nat} {e : List DV} (h : e ∈ out.map encK) : ∃ k : Nat, e = [.int .i64 (k : Int)] := by
 obtain ⟨k, _, rfl⟩ := List.mem_map.1 h
 exact ⟨k, rfl⟩
theorem kk_one {k : Nat} {e : List DV} (h : e ∈ [[DV.int .i64 (k : Int)]]) : ∃ k : Nat, e = [.int .i64 (k : Int)] := ⟨k, by simpa using h⟩
theorem f84 (g : Glob) (s : Int) (hs : Small g) : Impl Tryz.prog 84 [.ag (encG g), .one (.int .i64 s)] (.one (.one (.ow 1 ((edgesOf g.edges s).map encK)))) := by
 obtain ⟨s1, s2, s3, s4, s5, s6⟩ := hs
 refine impl_intro z84.f z84.b rfl z84.r z84.n z84.t z84.d (by simp) fun hs => ?_
 clear hs s3 s4
 simp only [slotsOf]
 conv => arg 2; reduce
 refine wX encG.eq_1 ?_
 refine z_k (fun n e => ∃ i : Nat, i + n = g.edges.length /\ e = [(6, .sv (.one (.int .i64 i))), (5, .sv (.one (.ow 1 (((List.range i).foldl (edgesStep g.edges s) []).map encK)))), (2, .sv (.one (.bx (encG g)))), (1, .sv (.one (.int .i64 s)))]) g.edges.length _ ⟨0, by simp, rfl⟩ (by simp [go_sem, encG]) ?_
 rintro n e ⟨i, hi, rfl⟩
 obtain ⟨out, hout⟩ : ∃ out, out = (List.range i).foldl (edgesStep g.edges s) [] := ⟨_, rfl⟩
 have hmem : ∀ j (h : j < out.length), out[j] < g.edges.length := fun j h => by
  have := edges_mem (es := g.edges) (s := s) (N := g.edges.length) i (by omega)
  rw [<- hout] at this
  exact this _ (List.getElem_mem h)
 have hol : out.length <= i := by rw [hout]; exact edges_len i
 have hsucc := foldl_range (edgesStep g.edges s) [] i
 rw [<- hout] at hsucc ⊢
 by_cases hlt : i < g.edges.length
 ·obtain ⟨x, hx⟩ : ∃ x, g.edges[i] = x := ⟨_, rfl⟩
  have hstep : edgesStep g.edges s out i = if x.from_ = s then insE g.edges out i else out := by
   unfold edgesStep
   rw [List.getElem?_eq_getElem hlt, hx]
  by_cases hf : x.from_ = s
  ·rw [if_pos hf] at hstep
   refine wX (aN hlt <| aN hx <| aN hf <| aN encG.eq_1 encEd.eq_1) ?_
   refine z_k (fun q e => ∃ k : Nat, k + q = out.length /\ (∀ j (h : j < out.length), j < k -> beforeE g.edges out[j] i = true) /\ e = [(7, .sv (.one (.int .i64 k))), (6, .sv (.one (.int .i64 i))), (5, .sv (.one (.ow 1 (out.map encK)))), (2, .sv (.one (.bx (encG g)))), (1, .sv (.one (.int .i64 s)))]) out.length _ ⟨0, by simp, by simp, rfl⟩ (by simp [go_sem, encG]) ?_
   rintro q e ⟨k, hk, hbef, rfl⟩
   have hfin : ∀ p, insPos g.edges out i = p -> (((out.map encK).take p) ++ (encK i :: (out.map encK).drop p)) = (insE g.edges out i).map encK := by
    intro p hp
    unfold insE
    rw [hp]
    simp
   by_cases hkl : k < out.length
   ·have c1 := f119 g out[k] i (hmem k hkl) hlt
    simp only [encG] at c1
    cases hb : beforeE g.edges out[k] i with
    | true =>
      rw [hb] at c1
      refine wV (aN hkl <| aN encG.eq_1 encK.eq_1) c1 ?_
      refine z_j (q - 1) _ (by omega) ⟨k + 1, by omega, ?_, rfl⟩ ?_
      ·intro j h hj
       by_cases e : j = k
       ·subst e; exact hb
       ·exact hbef j h (by omega)
      ·simp [go_sem, encG, encK]
    | false =>
      have hp := insPos_lt hbef hkl hb
      rw [hb] at c1
      repeat' first | refine St.go ?_ | ((with_reducible refine cn ?_ ?_) <;> intro h <;> (try simp at h) <;> try omega) | (refine Ru.go ?_; intro K hK; simp [go_sem, hkl, encG, encK]; (try simp (disch := omega) only [wx, z_i]); (first | apply hK | ((first | ((try refine .inl ?_); refine ⟨_, by (try intro hc); (repeat' first | exact c1 | exact hc | refine And.intro ?_ ?_ | simp [go_sem, hkl, encG, encK]); first | done | omega, ?_⟩) | refine .inr (.inl ⟨_, by (try intro hc); (repeat' first | exact c1 | exact hc | refine And.intro ?_ ?_ | simp [go_sem, hkl, encG, encK]); first | done | omega, ?_⟩) | refine .inr (.inr ⟨_, by (try intro hc); (repeat' first | exact c1 | exact hc | refine And.intro ?_ ?_ | simp [go_sem, hkl, encG, encK]); first | done | omega, ?_⟩)); first | apply hK | (refine ⟨by simp [go_sem, hkl, encG, encK], ?_⟩; first | apply hK | refine ⟨by simp [go_sem, hkl, encG, encK], hK _ _ ?_⟩)) | refine ⟨.one (.one (.bool false)), by simp [go_sem, hkl, encG, encK], hK _ _ ?_⟩ | refine ⟨by first | omega | (simp [z_f, z_g, hkl, encG, encK, maxLen, DV.flat, encK]; first | done | omega), ?_⟩ | refine ⟨hK _ ?_, fun h => ?_⟩ | refine ⟨?_, ?_⟩); all_goals ((try apply hK); clear hK K))
      all_goals first
       | refine appendOk_kk (fun e he => kk_one he) (fun e he => kk_sub (List.mem_of_mem_drop (List.mem_of_mem_take he))) (by simp; omega)
       | refine appendOk_kk (fun e he => kk_sub (List.mem_of_mem_take he)) (fun e he => ?_) (by simp; omega)
         rcases List.mem_cons.1 he with rfl | he
         ·exact ⟨i, rfl⟩
         ·exact kk_sub (List.mem_of_mem_drop (List.mem_of_mem_take he))
       | refine z_j (n - 1) _ (by omega) ⟨i + 1, by omega, rfl⟩ ?_
         rw [hsucc, hstep, <- hfin k hp]
         simp [go_sem, encG, encK]
         try exact List.take_of_length_le (by simp)
   ·have hke : k = out.length := by omega
    have hp : insPos g.edges out i = k := by rw [hke]; exact insPos_all fun j h => hbef j h (by omega)
    repeat' first | refine St.go ?_ | ((with_reducible refine cn ?_ ?_) <;> intro h <;> (try simp at h) <;> try omega) | (refine Ru.go ?_; intro K hK; simp [go_sem, hkl, encG, encK]; (try simp (disch := omega) only [wx, z_i]); (first | apply hK | refine ⟨by first | omega | (simp [z_f, z_g, hkl, encG, encK, maxLen, DV.flat, encK]; first | done | omega), ?_⟩ | refine ⟨hK _ ?_, fun h => ?_⟩ | refine ⟨?_, ?_⟩); all_goals ((try apply hK); clear hK K))
    all_goals first
     | refine appendOk_kk (fun e he => kk_one he) (fun e he => kk_sub (List.mem_of_mem_drop (List.mem_of_mem_take he))) (by simp; omega)
     | refine appendOk_kk (fun e he => kk_sub (List.mem_of_mem_take he)) (fun e he => ?_) (by simp; omega)
       rcases List.mem_cons.1 he with rfl | he
       ·exact ⟨i, rfl⟩
       ·exact kk_sub (List.mem_of_mem_drop (List.mem_of_mem_take he))
     | refine z_j (n - 1) _ (by omega) ⟨i + 1, by omega, rfl⟩ ?_
       rw [hsucc, hstep, <- hfin k hp]
       simp [go_sem, encG, encK]
       try exact List.take_of_length_le (by simp)
  ·rw [if_neg hf] at hstep
   refine wX (aN hlt <| aN hx <| aN hf <| aN encG.eq_1 encEd.eq_1) ?_
   refine z_j (n - 1) _ (by omega) ⟨i + 1, by omega, rfl⟩ ?_
   rw [hsucc, hstep]
   simp [go_sem, encG]
 ·have hie : i = g.edges.length := by omega
  refine wX (aN hlt encG.eq_1) ?_
  have : edgesOf g.edges s = out := by rw [hout, hie]; rfl
  simp [go_sem, this]
set_option maxHeartbeats 64000000
def encBl (b : Bool) : List DV := [.bool b]
def upS (R : List Bool) (x : Edg) : List Bool := R.set x.to.toNat (R[x.to.toNat]?.getD false || R[x.from_.toNat]?.getD false)
def upR (es : List Edg) (R : List Bool) (_ : Nat) : List Bool := es.foldl upS R
def reached (g : Glob) : List Bool := (List.range g.states.toNat).foldl (upR g.edges) ((List.replicate g.states.toNat false).set g.start.toNat true)
def connAt (g : Glob) (s : Nat) : Bool := (reached g)[s]?.getD false && !decide ((endsOf g)[s]?.getD 0 < 0)
def connP (g : Glob) : Bool := (List.range g.states.toNat).all (connAt g) && (edgesOf g.edges g.end_).length == 0
theorem upS_len (R : List Bool) (x : Edg) : (upS R x).length = R.length := by simp [upS]
theorem foldl_lenB {α : Type} (f : List Bool -> α -> List Bool) (hf : ∀ D a, (f D a).length = D.length) : ∀ (l : List α) (D : List Bool), (l.foldl f D).length = D.length
 | [], D => rfl
 | a :: l, D => by rw [List.foldl_cons, foldl_lenB f hf l, hf]
theorem upR_len (es : List Edg) (R : List Bool) (n : Nat) : (upR es R n).length = R.length := foldl_lenB _ (fun D x => upS_len D x) es R
theorem endsOf_len (g : Glob) : (endsOf g).length = g.states.toNat := by
 unfold endsOf
 rw [foldl_len _ (endsRound_len g.edges)]
 simp
theorem f55 (g : Glob) (hs : Small g) (hn : numbered g = true) : Impl Tryz.prog 55 [.ag (encG g)] (.one (.one (.bool (connP g)))) := by
 have c1 := f83 g hs hn
 have c2 := f84 g g.end_ hs
 obtain ⟨s1, s2, s3, s4, s5, s6⟩ := hs
 obtain ⟨n1, n2, n3, n4, n5, n6, n7⟩ := numbered_facts hn
 refine impl_intro z55.f z55.b rfl z55.r z55.n z55.t z55.d (by simp) fun hs => ?_
 clear hs s3 s4
 simp only [slotsOf]
 conv => arg 2; reduce
 obtain ⟨N, hN⟩ : ∃ N : Nat, g.states = N := ⟨g.states.toNat, by omega⟩
 obtain ⟨S, hS⟩ : ∃ S : Nat, g.start = S := ⟨g.start.toNat, by omega⟩
 have hN2 : g.states.toNat = N := by omega
 have hS2 : g.start.toNat = S := by omega
 have hSN : S < N := by omega
 obtain ⟨R0, hR0⟩ : ∃ R0, R0 = (List.replicate N false).set S true := ⟨_, rfl⟩
 have hset : (List.replicate N [DV.bool false]).set S [.bool true] = R0.map encBl := by
  rw [hR0, List.map_set, List.map_replicate]
  rfl
 have hR0l : R0.length = N := by rw [hR0]; simp
 have hfin : reached g = (List.range N).foldl (upR g.edges) R0 := by
  unfold reached
  rw [hN2, hS2, hR0]
 obtain ⟨EN, hEN⟩ : ∃ EN, EN = endsOf g := ⟨_, rfl⟩
 have hENl : EN.length = N := by rw [hEN, endsOf_len, hN2]
 obtain ⟨ES, hES⟩ : ∃ ES, ES = edgesOf g.edges g.end_ := ⟨_, rfl⟩
 rw [<- hEN] at c1
 rw [<- hES] at c2
 simp only [encG, hN] at c1 c2
 refine wX (aN encG.eq_1 <| aN hN <| aN hS <| aN hSN hset) ?_
 refine z_k (fun n e => ∃ r : Nat, r + n = N /\ e = [(4, .sv (.one (.int .i64 r))), (3, .sv (.one (.ow 1 (((List.range r).foldl (upR g.edges) R0).map encBl)))), (2, .sv (.one (.bool false))), (1, .sv (.one (.bx (encG g))))]) N _ ⟨0, by simp, rfl⟩ (by simp [go_sem, encG, encBl, hN, hS]) ?_
 rintro n2 e ⟨r, hr, rfl⟩
 obtain ⟨D1, hD1⟩ : ∃ D1, D1 = (List.range r).foldl (upR g.edges) R0 := ⟨_, rfl⟩
 have hD1l : D1.length = N := by rw [hD1, foldl_lenB _ (upR_len g.edges), hR0l]
 rw [<- hD1]
 by_cases hrk : r < N
 ·refine wX (aN hrk <| aN encG.eq_1 hN) ?_
  refine z_k (fun n e => ∃ i : Nat, i + n = g.edges.length /\ e = [(5, .sv (.one (.int .i64 i))), (4, .sv (.one (.int .i64 r))), (3, .sv (.one (.ow 1 (((g.edges.take i).foldl upS D1).map encBl)))), (2, .sv (.one (.bool false))), (1, .sv (.one (.bx (encG g))))]) g.edges.length _ ⟨0, by simp, rfl⟩ (by simp only [List.take_zero, List.foldl_nil]; simp [go_sem, encG, hN]) ?_
  rintro n3 e ⟨i, hi, rfl⟩
  obtain ⟨D, hD⟩ : ∃ D, D = (g.edges.take i).foldl upS D1 := ⟨_, rfl⟩
  have hDl : D.length = N := by rw [hD, foldl_lenB _ upS_len, hD1l]
  rw [<- hD]
  by_cases hil : i < g.edges.length
  ·obtain ⟨x, hx⟩ : ∃ x, g.edges[i] = x := ⟨_, rfl⟩
   have hxe := okEdge_facts (n7 g.edges[i] (List.getElem_mem hil))
   have hstep := foldl_take upS D1 hil
   rw [hx] at hxe hstep
   rw [<- hD] at hstep
   obtain ⟨a, ha⟩ : ∃ a : Nat, x.from_ = a := ⟨x.from_.toNat, by omega⟩
   obtain ⟨b, hb⟩ : ∃ b : Nat, x.to = b := ⟨x.to.toNat, by omega⟩
   have hal : a < D.length := by omega
   have hbl : b < D.length := by omega
   have hst : upS D x = D.set b (D[b] || D[a]) := by
    unfold upS
    rw [ha, hb]
    simp [hal, hbl]
   obtain ⟨da, hda⟩ : ∃ da, D[a] = da := ⟨_, rfl⟩
   obtain ⟨D', hD'⟩ : ∃ D', upS D x = D' := ⟨_, rfl⟩
   rw [hD'] at hstep hst
   cases hc1 : D[b] with
   | true =>
     have hset2 : (D.map encBl).set b [.bool true] = D'.map encBl := by
      rw [hst, hc1, List.map_set]
      rfl
     refine wX (aN hil <| aN hx <| aN ha <| aN hb <| aN hal <| aN hbl <| aN hc1 <| aN encG.eq_1 <| aN hN <| aN encBl.eq_1 <| aN encEd.eq_1 hset2) ?_
     refine z_j (n3 - 1) _ (by omega) ⟨i + 1, by omega, rfl⟩ ?_
     rw [hstep]
     simp [go_sem, encG, hN, encBl]
   | false =>
     have hset2 : (D.map encBl).set b [.bool da] = D'.map encBl := by
      rw [hst, hc1, hda, List.map_set]
      rfl
     refine wX (aN hil <| aN hx <| aN ha <| aN hb <| aN hal <| aN hbl <| aN hc1 <| aN hda <| aN encG.eq_1 <| aN hN <| aN encBl.eq_1 <| aN encEd.eq_1 hset2) ?_
     refine z_j (n3 - 1) _ (by omega) ⟨i + 1, by omega, rfl⟩ ?_
     rw [hstep]
     simp [go_sem, encG, hN, encBl]
  ·have hie : i = g.edges.length := by omega
   have hrd : D = upR g.edges D1 r := by
    rw [hD, hie, List.take_length]
    rfl
   refine wX (aN hil <| aN encG.eq_1 hN) ?_
   refine z_j (n2 - 1) _ (by omega) ⟨r + 1, by omega, rfl⟩ ?_
   rw [foldl_range, <- hD1, <- hrd]
   simp [go_sem, encG, hN]
 ·have hre : r = N := by omega
  rw [hre, <- hfin] at hD1
  have hcon : ∀ s, s < N -> connAt g s = (D1[s]?.getD false && !decide (EN[s]?.getD 0 < 0)) := fun s _ => by rw [hD1, hEN]; rfl
  have hval : connP g = ((List.range N).all (connAt g) && ES.length == 0) := by rw [hES, <- hN2]; rfl
  refine wV (aN hrk <| aN encG.eq_1 hN) c1 ?_
  refine z_k (fun n e => ∃ k : Nat, k + n = N /\ (List.range k).all (connAt g) = true /\ e = [(7, .sv (.one (.int .i64 k))), (6, .sv (.one (.ow 1 (EN.map encN)))), (3, .sv (.one (.ow 1 (D1.map encBl)))), (2, .sv (.one (.bool false))), (1, .sv (.one (.bx (encG g))))]) N _ ⟨0, by simp, by simp, rfl⟩ (by simp [go_sem, encG, hN]) ?_
  rintro n3 e ⟨k, hk, hall, rfl⟩
  by_cases hkN : k < N
  ·have hk1 : k < D1.length := by omega
   have hk2 : k < EN.length := by omega
   have hc := hcon k hkN
   rw [List.getElem?_eq_getElem hk1, List.getElem?_eq_getElem hk2] at hc
   simp only [Option.getD_some] at hc
   cases hd : D1[k] with
   | true =>
     by_cases hneg : EN[k] < 0
     ·have hv : connP g = false := by
       rw [hval, range_all_no hkN (by rw [hc, hd]; simp [hneg])]
       rfl
      refine wX (aN hkN <| aN hk1 <| aN hk2 <| aN hd <| aN hneg <| aN encG.eq_1 <| aN hN <| aN encBl.eq_1 encN.eq_1) ?_
      simp [go_sem, hv]
     ·refine wX (aN hkN <| aN hk1 <| aN hk2 <| aN hd <| aN hneg <| aN encG.eq_1 <| aN hN <| aN encBl.eq_1 encN.eq_1) ?_
      refine z_j (n3 - 1) _ (by omega) ⟨k + 1, by omega, ?_, rfl⟩ ?_
      ·rw [range_succ_all, hall, hc, hd]
       simp [hneg]
      ·simp [go_sem, encG, hN, encBl, encN]
   | false =>
     have hv : connP g = false := by
      rw [hval, range_all_no hkN (by rw [hc, hd]; rfl)]
      rfl
     refine wX (aN hkN <| aN hk1 <| aN hk2 <| aN hd <| aN encG.eq_1 <| aN hN <| aN encBl.eq_1 encN.eq_1) ?_
     simp [go_sem, hv]
  ·have hke : k = N := by omega
   rw [hke] at hall
   rw [hall] at hval
   refine wV (aN hkN <| aN encG.eq_1 hN) c2 ?_
   simp [go_sem, hval]
   rw [Bool.eq_iff_iff]
   simp
set_option maxHeartbeats 64000000
def eA (back : Bool) (x : Edg) : Nat := if back then x.to.toNat else x.from_.toNat
def eB (back : Bool) (x : Edg) : Nat := if back then x.from_.toNat else x.to.toNat
def sprEdge (back : Bool) (h : Nat) (st : List Int × List Nat) (x : Edg) : List Int × List Nat :=
 if eA back x = h /\ st.1[eB back x]?.getD 0 < 0 then (st.1.set (eB back x) (st.1[h]?.getD 0 + 1), st.2 ++ [eB back x]) else st
def sprRound (back : Bool) (es : List Edg) (st : List Int × List Nat) : List Int × List Nat :=
 match st.2 with
 | [] => st
 | h :: _ => ((es.foldl (sprEdge back h) st).1, (es.foldl (sprEdge back h) st).2.drop 1)
def sprN (back : Bool) (es : List Edg) : Nat -> List Int × List Nat -> List Int × List Nat
 | 0, st => st
 | n + 1, st => sprN back es n (sprRound back es st)
def spread (g : Glob) (s : Nat) (back : Bool) : List Int := (sprN back g.edges g.states.toNat ((List.replicate g.states.toNat (-1)).set s 0, [s])).1
def unset (D : List Int) : Nat := D.countP fun d => decide (d < 0)
structure SprOk (N m : Nat) (st : List Int × List Nat) : Prop where
 len : st.1.length = N
 cnt : unset st.1 + st.2.length = m
 top : ∀ v (h : v < st.1.length), st.1[v] + unset st.1 <= N
 mem : ∀ v ∈ st.2, v < N /\ 0 <= st.1[v]?.getD 0
theorem sprEdge_ok {N m : Nat} {back : Bool} {h : Nat} {st : List Int × List Nat} {x : Edg} (hst : SprOk N m st) (hm : h ∈ st.2) (hb : eB back x < N) : SprOk N m (sprEdge back h st x) := by
 unfold sprEdge
 split
 ·rename_i hc
  have hl := hst.len
  have hh := (hst.mem h hm).1
  have hb' : eB back x < st.1.length := by omega
  have hh' : h < st.1.length := by omega
  have hneg : st.1[eB back x] < 0 := by simpa [hb'] using hc.2
  have ht := hst.top h hh'
  rw [List.getElem?_eq_getElem hh', Option.getD_some]
  have h0' : 0 <= st.1[h] := by simpa [hh'] using (hst.mem h hm).2
  have h0 : ¬ st.1[h] + 1 < 0 := by omega
  have hpos : 0 < unset st.1 := by
   unfold unset
   rw [List.countP_pos_iff]
   exact ⟨_, List.getElem_mem hb', by simpa using hneg⟩
  have hu : unset (st.1.set (eB back x) (st.1[h] + 1)) = unset st.1 - 1 := by
   unfold unset
   rw [List.countP_set hb']
   simp [hneg, h0]
  refine ⟨by simp [hl], ?_, ?_, ?_⟩
  ·have := hst.cnt
   simp only [hu, List.length_append, List.length_singleton]
   omega
  ·intro v hv
   rw [List.getElem_set]
   simp only [hu]
   split
   ·omega
   ·have := hst.top v (by simpa using hv)
    omega
  ·intro v hv
   rcases List.mem_append.1 hv with hv | hv
   ·obtain ⟨h1, h2⟩ := hst.mem v hv
    refine ⟨h1, ?_⟩
    rw [List.getElem?_set]
    split
    ·simp [hb']; omega
    ·exact h2
   ·simp only [List.mem_singleton] at hv
    subst hv
    refine ⟨hb, ?_⟩
    simp [hb']
    omega
 ·exact hst
theorem sprFold {N m : Nat} {back : Bool} {h : Nat} : ∀ (es : List Edg) {st : List Int × List Nat}, (∀ x ∈ es, eB back x < N) -> SprOk N m st -> (∃ t, st.2 = h :: t) -> SprOk N m (es.foldl (sprEdge back h) st) /\ ∃ t, (es.foldl (sprEdge back h) st).2 = h :: t
 | [], st, _, h1, h2 => ⟨h1, h2⟩
 | x :: es, st, h0, h1, ⟨t, h2⟩ => by
   rw [List.foldl_cons]
   refine sprFold es (fun x hx => h0 x (List.mem_cons_of_mem _ hx)) (sprEdge_ok h1 (by rw [h2]; simp) (h0 x (by simp))) ?_
   unfold sprEdge
   split
   ·exact ⟨t ++ [eB back x], by simp [h2]⟩
   ·exact ⟨t, h2⟩
theorem sprRound_ok {N m : Nat} {back : Bool} {h : Nat} {t : List Nat} {es : List Edg} {st : List Int × List Nat} (hb : ∀ x ∈ es, eB back x < N) (hst : SprOk N (m + 1) st) (ht : st.2 = h :: t) : SprOk N m (sprRound back es st) := by
 obtain ⟨h1, t', h2⟩ := sprFold (back := back) es hb hst ⟨t, ht⟩
 unfold sprRound
 rw [ht]
 refine ⟨h1.len, ?_, h1.top, fun v hv => h1.mem v ?_⟩
 ·have := h1.cnt
  simp only [h2, List.length_cons, List.drop_one, List.tail_cons] at this ⊢
  omega
 ·exact List.mem_of_mem_drop hv
theorem sprN_nil {back : Bool} {es : List Edg} : ∀ (n : Nat) {st : List Int × List Nat}, st.2 = [] -> sprN back es n st = st
 | 0, _, _ => rfl
 | n + 1, st, h => by
   have : sprRound back es st = st := by unfold sprRound; rw [h]
   rw [sprN, this]
   exact sprN_nil n h
theorem spr_start {N s : Nat} (hs : s < N) : SprOk N N ((List.replicate N (-1)).set s 0, [s]) := by
 have hu : unset ((List.replicate N (-1)).set s 0) = N - 1 := by
  unfold unset
  rw [List.countP_set (by simpa using hs)]
  simp [List.countP_replicate]
 refine ⟨by simp, ?_, ?_, ?_⟩
 ·simp only [hu, List.length_singleton]; omega
 ·intro v hv
  simp only [hu]
  rw [List.getElem_set]
  split
  ·omega
  ·simp; omega
 ·intro v hv
  simp only [List.mem_singleton] at hv
  subst hv
  exact ⟨hs, by simp [hs]⟩
theorem f67 (g : Glob) (hs : Small g) (hn : numbered g = true) (h109 : ∀ n : Nat, n <= 200 -> Impl Tryz.prog 98 [.one (.sl [[.int .i64 (-1)]]), .one (.int .i64 n)] (.one (.one (.ow 1 ((List.replicate n (-1)).map encN))))) (s : Nat) (hsN : s < g.states.toNat) (back : Bool) : Impl Tryz.prog 67 [.ag (encG g), .one (.int .i64 s), .one (.bool back)] (.one (.one (.ow 1 ((spread g s back).map encN)))) := by
 obtain ⟨s1, s2, s3, s4, s5, s6⟩ := hs
 obtain ⟨n1, n2, n3, n4, n5, n6, n7⟩ := numbered_facts hn
 refine impl_intro z67.f z67.b rfl z67.r z67.n z67.t z67.d (by simp) fun hs => ?_
 clear hs s3 s4
 simp only [slotsOf]
 conv => arg 2; reduce
 obtain ⟨N, hN⟩ : ∃ N : Nat, g.states = N := ⟨g.states.toNat, by omega⟩
 have hN2 : g.states.toNat = N := by omega
 have c1 := h109 N (by omega)
 rw [hN2] at hsN
 obtain ⟨D0, hD0⟩ : ∃ D0, D0 = (List.replicate N (-1)).set s 0 := ⟨_, rfl⟩
 obtain ⟨D00, hD00⟩ : ∃ D00, D00 = List.replicate N (-1 : Int) := ⟨_, rfl⟩
 have hD00l : s < D00.length := by rw [hD00]; simpa using hsN
 have hset : (D00.map encN).set s [.int .i64 0] = D0.map encN := by
  rw [hD0, hD00, List.map_set]
  rfl
 have hD0l : D0.length = N := by rw [hD0]; simp
 have hfin : spread g s back = (sprN back g.edges N (D0, [s])).1 := by
  unfold spread
  rw [hN2, hD0]
 have hok0 := spr_start hsN
 rw [<- hD0] at hok0
 rw [<- hD00] at c1
 refine wV (aN encG.eq_1 <| aN hN <| aN hsN <| aN hset <| aN hD00l encN.eq_1) c1 ?_
 refine z_k (fun m e => ∃ st : List Int × List Nat, SprOk N m st /\ m <= N /\ (sprN back g.edges m st).1 = spread g s back /\ e = [(8, .sv (.one (.ow 1 (st.2.map encK)))), (7, .sv (.one (.ow 1 (st.1.map encN)))), (3, .sv (.one (.bx (encG g)))), (2, .sv (.one (.bool back))), (1, .sv (.one (.int .i64 s)))]) N _ ⟨(D0, [s]), hok0, Nat.le_refl _, hfin.symm, rfl⟩ (by simp [go_sem, encG, encN, encK, hN]) ?_
 rintro m e ⟨st, hst, hmN, hval, rfl⟩
 have hm2 : unset st.1 + st.2.length = m := hst.cnt
 have hl := hst.len
 cases h2 : st.2 with
 | nil =>
   have hv : spread g s back = st.1 := by rw [<- hval, sprN_nil m h2]
   refine wX (aN encG.eq_1 hN) ?_
   simp [go_sem, hv]
 | cons hd tl =>
   have hhm := hst.mem hd (by rw [h2]; simp)
   obtain ⟨m', rfl⟩ : ∃ m', m = m' + 1 := ⟨m - 1, by rw [h2] at hm2; simp only [List.length_cons] at hm2; omega⟩
   have hB : ∀ x ∈ g.edges, eB back x < N := fun x hx => by
    have := okEdge_facts (n7 x hx)
    unfold eB
    split <;> omega
   refine wX (aN encG.eq_1 hN) ?_
   refine z_k (fun q e => ∃ i : Nat, i + q = g.edges.length /\ e = [(30, .sv (.one (.int .i64 i))), (29, .sv (.one (.int .i64 g.edges.length))), (28, .sv (.one (.sl (g.edges.map encEd)))), (8, .sv (.one (.ow 1 (((g.edges.take i).foldl (sprEdge back hd) st).2.map encK)))), (7, .sv (.one (.ow 1 (((g.edges.take i).foldl (sprEdge back hd) st).1.map encN)))), (3, .sv (.one (.bx (encG g)))), (2, .sv (.one (.bool back))), (1, .sv (.one (.int .i64 s)))]) g.edges.length _ ⟨0, by simp, rfl⟩ (by simp only [List.take_zero, List.foldl_nil, h2]; simp [go_sem, encG, hN]) ?_
   rintro q e ⟨i, hi, rfl⟩
   obtain ⟨hok, t1, ht1⟩ := sprFold (back := back) (h := hd) (g.edges.take i) (fun x hx => hB x (List.mem_of_mem_take hx)) hst ⟨tl, h2⟩
   obtain ⟨st1, hst1⟩ : ∃ st1, st1 = (g.edges.take i).foldl (sprEdge back hd) st := ⟨_, rfl⟩
   rw [<- hst1] at hok ht1 ⊢
   obtain ⟨D1, T1⟩ := st1
   simp only at ht1
   subst ht1
   have hl1 : D1.length = N := hok.len
   have hcnt : unset D1 + (t1.length + 1) = m' + 1 := hok.cnt
   have hm0 : m' + 1 <= N := hmN
   by_cases hil : i < g.edges.length
   ·obtain ⟨x, hx⟩ : ∃ x, g.edges[i] = x := ⟨_, rfl⟩
    have hxe := okEdge_facts (n7 g.edges[i] (List.getElem_mem hil))
    have hstep := foldl_take (sprEdge back hd) st hil
    rw [hx] at hxe hstep
    rw [<- hst1] at hstep
    obtain ⟨a, ha⟩ : ∃ a : Nat, x.from_ = a := ⟨x.from_.toNat, by omega⟩
    obtain ⟨b, hb⟩ : ∃ b : Nat, x.to = b := ⟨x.to.toNat, by omega⟩
    have hal : a < D1.length := by omega
    have hbl : b < D1.length := by omega
    have hhl : hd < D1.length := by omega
    have hvt := hok.top hd hhl
    have hv0 := (hok.mem hd (by simp)).2
    rw [List.getElem?_eq_getElem hhl] at hv0
    simp only [Option.getD_some] at hv0 hvt
    obtain ⟨v, hv⟩ : ∃ v, D1[hd] = v := ⟨_, rfl⟩
    rw [hv] at hv0 hvt
    cases back with
    | false =>
      have hse : sprEdge false hd (D1, hd :: t1) x = if a = hd /\ D1[b] < 0 then (D1.set b (v + 1), hd :: (t1 ++ [b])) else (D1, hd :: t1) := by
       unfold sprEdge eA eB
       simp [ha, hb, hal, hbl, hhl, hv]
      by_cases hc1 : a = hd
      ·by_cases hc2 : D1[b] < 0
       ·rw [if_pos ⟨hc1, hc2⟩] at hse
        subst hc1
        obtain ⟨D', hD'⟩ : ∃ D', D1.set b (v + 1) = D' := ⟨_, rfl⟩
        rw [hD'] at hse
        have hset2 : (D1.map encN).set b [.int .i64 (v + 1)] = D'.map encN := by
         rw [show [DV.int .i64 (v + 1)] = encN (v + 1) from rfl, <- List.map_set, hD']
        repeat' first | refine St.go ?_ | ((with_reducible refine cn ?_ ?_) <;> intro h <;> (try simp at h) <;> try omega) | (refine Ru.go ?_; intro K hK; simp [go_sem, hil, hx, ha, hb, hal, hbl, hv, hc2, encG, hN, encN, encEd, encK, hset2]; (try simp (disch := omega) only [wx, z_i]); (first | apply hK | refine ⟨by first | omega | (simp [z_f, z_g, hil, hx, ha, hb, hal, hbl, hv, hc2, encG, hN, encN, encEd, encK, hset2, maxLen, DV.flat]; first | done | omega), ?_⟩ | refine ⟨hK _ ?_, fun h => ?_⟩ | refine ⟨?_, ?_⟩); all_goals ((try apply hK); clear hK K))
        all_goals first
         | refine z_j (q - 1) _ (by omega) ⟨i + 1, by omega, rfl⟩ ?_
           rw [hstep, hse]
           simp [go_sem, encG, hN, encN, encK]
         | refine appendOk_kk (fun e he => ?_) (fun e he => ?_) (by simp; omega) <;> simp_all [encK] <;> grind
       ·rw [if_neg (fun h => hc2 h.2)] at hse
        subst hc1
        refine wX (aN hil <| aN hx <| aN ha <| aN hb <| aN hal <| aN hbl <| aN hv <| aN hc2 <| aN encG.eq_1 <| aN hN <| aN encN.eq_1 <| aN encEd.eq_1 encK.eq_1) ?_
        refine z_j (q - 1) _ (by omega) ⟨i + 1, by omega, rfl⟩ ?_
        rw [hstep, hse]
        simp [go_sem, encG, hN, encN, encK]
      ·rw [if_neg (fun h => hc1 h.1)] at hse
       have hc1' : ((a : Int) == (hd : Int)) = false := by simp; omega
       refine wX (aN hil <| aN hx <| aN ha <| aN hb <| aN hal <| aN hbl <| aN hc1' <| aN encG.eq_1 <| aN hN <| aN encN.eq_1 <| aN encEd.eq_1 encK.eq_1) ?_
       refine z_j (q - 1) _ (by omega) ⟨i + 1, by omega, rfl⟩ ?_
       rw [hstep, hse]
       simp [go_sem, encG, hN, encN, encK]
    | true =>
      have hse : sprEdge true hd (D1, hd :: t1) x = if b = hd /\ D1[a] < 0 then (D1.set a (v + 1), hd :: (t1 ++ [a])) else (D1, hd :: t1) := by
       unfold sprEdge eA eB
       simp [ha, hb, hal, hbl, hhl, hv]
      by_cases hc1 : b = hd
      ·by_cases hc2 : D1[a] < 0
       ·rw [if_pos ⟨hc1, hc2⟩] at hse
        subst hc1
        obtain ⟨D', hD'⟩ : ∃ D', D1.set a (v + 1) = D' := ⟨_, rfl⟩
        rw [hD'] at hse
        have hset2 : (D1.map encN).set a [.int .i64 (v + 1)] = D'.map encN := by
         rw [show [DV.int .i64 (v + 1)] = encN (v + 1) from rfl, <- List.map_set, hD']
        repeat' first | refine St.go ?_ | ((with_reducible refine cn ?_ ?_) <;> intro h <;> (try simp at h) <;> try omega) | (refine Ru.go ?_; intro K hK; simp [go_sem, hil, hx, ha, hb, hal, hbl, hv, hc2, encG, hN, encN, encEd, encK, hset2]; (try simp (disch := omega) only [wx, z_i]); (first | apply hK | refine ⟨by first | omega | (simp [z_f, z_g, hil, hx, ha, hb, hal, hbl, hv, hc2, encG, hN, encN, encEd, encK, hset2, maxLen, DV.flat]; first | done | omega), ?_⟩ | refine ⟨hK _ ?_, fun h => ?_⟩ | refine ⟨?_, ?_⟩); all_goals ((try apply hK); clear hK K))
        all_goals first
         | refine z_j (q - 1) _ (by omega) ⟨i + 1, by omega, rfl⟩ ?_
           rw [hstep, hse]
           simp [go_sem, encG, hN, encN, encK]
         | refine appendOk_kk (fun e he => ?_) (fun e he => ?_) (by simp; omega) <;> simp_all [encK] <;> grind
       ·rw [if_neg (fun h => hc2 h.2)] at hse
        subst hc1
        refine wX (aN hil <| aN hx <| aN ha <| aN hb <| aN hal <| aN hbl <| aN hv <| aN hc2 <| aN encG.eq_1 <| aN hN <| aN encN.eq_1 <| aN encEd.eq_1 encK.eq_1) ?_
        refine z_j (q - 1) _ (by omega) ⟨i + 1, by omega, rfl⟩ ?_
        rw [hstep, hse]
        simp [go_sem, encG, hN, encN, encK]
      ·rw [if_neg (fun h => hc1 h.1)] at hse
       have hc1' : ((b : Int) == (hd : Int)) = false := by simp; omega
       refine wX (aN hil <| aN hx <| aN ha <| aN hb <| aN hal <| aN hbl <| aN hc1' <| aN encG.eq_1 <| aN hN <| aN encN.eq_1 <| aN encEd.eq_1 encK.eq_1) ?_
       refine z_j (q - 1) _ (by omega) ⟨i + 1, by omega, rfl⟩ ?_
       rw [hstep, hse]
       simp [go_sem, encG, hN, encN, encK]
   ·have hie : i = g.edges.length := by omega
    rw [hie, List.take_length] at hst1
    have hrd : sprRound back g.edges st = (D1, t1) := by
     unfold sprRound
     rw [h2]
     simp only [<- hst1]
     rfl
    have hok2 := sprRound_ok hB hst h2
    refine wX (aN hil <| aN encG.eq_1 <| aN hN encK.eq_1) ?_
    refine z_j m' _ (by omega) ⟨(D1, t1), by rw [<- hrd]; exact hok2, by omega, by rw [<- hrd]; exact hval, rfl⟩ ?_
    simp [go_sem, encG, hN, encN, encK]
    exact List.take_of_length_le (by simp)
set_option maxHeartbeats 64000000
theorem first_before (rs : List ByteArray) {k : Nat} (hk : k < rs.length) : decide (firstB (fun y => y == rs[k]) rs < (k : Int)) = hasS (rs.take k) rs[k] := by
 cases h : hasS (rs.take k) rs[k] with
 | true =>
   rw [decide_eq_true_eq]
   unfold hasS at h
   rw [List.any_eq_true] at h
   obtain ⟨x, hx, he⟩ := h
   obtain ⟨j, hj, rfl⟩ := List.mem_iff_getElem.1 hx
   rw [List.length_take] at hj
   unfold firstB
   cases hf : rs.findIdx? (fun y => y == rs[k]) with
   | none =>
     rw [List.findIdx?_eq_none_iff] at hf
     have := hf rs[k] (List.getElem_mem hk)
     rw [bytes_eq] at this
     simp at this
   | some i =>
     rw [List.findIdx?_eq_some_iff_getElem] at hf
     obtain ⟨hi, h1, h2⟩ := hf
     have hij : ¬ j < i := by
      intro hji
      have := h2 j hji
      rw [List.getElem_take] at he
      exact this he
     show (i : Int) < k
     omega
 | false =>
   rw [decide_eq_false_iff_not]
   unfold hasS at h
   have hkk : (rs[k] == rs[k]) = true := by rw [bytes_eq]; simp
   have := firstB_at (p := fun y => y == rs[k]) hk h hkk
   rw [this]
   omega
def namesR (g : Glob) : Bool := named g && validD g.decls
theorem f52 (g : Glob) (hs : Small g) : Impl Tryz.prog 52 [.ag (encG g)] (.one (.one (.bool (namesR g)))) := by
 obtain ⟨s1, s2, s3, s4, s5, s6⟩ := hs
 have f81s := f81 g.decls s2 s3 s4
 refine impl_intro z52.f z52.b rfl z52.r z52.n z52.t z52.d (by simp) fun hs => ?_
 clear hs s3 s4
 simp only [slotsOf]
 conv => arg 2; reduce
 refine wX encG.eq_1 ?_
 refine z_k (fun n e => ∃ k : Nat, k + n = g.roles.length /\ (List.range k).all (okRoleAt g.roles) = true /\ e = [(3, .sv (.one (.int .i64 k))), (1, .sv (.one (.bx (encG g))))]) g.roles.length _ ⟨0, by simp, by simp, rfl⟩ (by simp [go_sem, encG]) ?_
 rintro n e ⟨k, hk, hall, rfl⟩
 by_cases hlt : k < g.roles.length
 ·have hok := okRoleAt_get hlt
  have hbad : okRoleAt g.roles k = false -> namesR g = false := fun h => by simp [namesR, named, okRoles, range_all_no hlt h]
  have hfb := first_before g.roles hlt
  obtain ⟨s, hsx⟩ : ∃ s, g.roles[k] = s := ⟨_, rfl⟩
  rw [hsx] at hok hfb
  have c1 := f79 s
  have c2 := f80 g.roles s (by omega)
  cases hws : isWord s with
  | false =>
    have hv := hbad (by rw [hok, hws]; rfl)
    rw [hws] at c1
    refine wV (aN hlt <| aN hsx <| aN encG.eq_1 encS.eq_1) c1 ?_
    simp [go_sem, hv]
  | true =>
    rw [hws] at c1
    cases hh : hasS (g.roles.take k) s with
    | true =>
      have hv := hbad (by rw [hok, hh]; simp)
      rw [hh, decide_eq_true_eq] at hfb
      refine wV (aN hlt <| aN hsx <| aN encG.eq_1 <| aN encS.eq_1 hfb) (aN c1 c2) ?_
      simp [go_sem, hv]
    | false =>
      have ho : okRoleAt g.roles k = true := by rw [hok, hws, hh]; rfl
      rw [hh, decide_eq_false_iff_not] at hfb
      refine wV (aN hlt <| aN hsx <| aN encG.eq_1 <| aN encS.eq_1 hfb) (aN c1 c2) ?_
      refine z_j (n - 1) _ (by omega) ⟨k + 1, by omega, ?_, rfl⟩ ?_
      ·rw [range_succ_all, hall, ho]; rfl
      ·simp [go_sem, encG]
 ·have hke : k = g.roles.length := by omega
  rw [hke] at hall
  have c1 := f79 g.name
  cases hw : isWord g.name with
  | false =>
    have hv : namesR g = false := by simp [namesR, named, hw]
    rw [hw] at c1
    refine wV (aN hlt encG.eq_1) c1 ?_
    simp [go_sem, hv]
  | true =>
    rw [hw] at c1
    by_cases h1 : 1 <= g.roles.length
    ·have h1' : (1 : Int) <= (g.roles.length : Int) := by omega
     by_cases h6 : g.roles.length <= 6
     ·have h6' : (g.roles.length : Int) <= 6 := by omega
      have hv : namesR g = validD g.decls := by simp [namesR, named, hw, h1, h6, okRoles, hall]
      refine wV (aN hlt <| aN encG.eq_1 <| aN h1' h6') (aN c1 f81s) ?_
      simp [go_sem, hv]
     ·have h6' : ¬ (g.roles.length : Int) <= 6 := by omega
      have hv : namesR g = false := by simp [namesR, named, h6]
      refine wV (aN hlt <| aN encG.eq_1 <| aN h1' h6') c1 ?_
      simp [go_sem, hv]
    ·have h1' : ¬ (1 : Int) <= (g.roles.length : Int) := by omega
     have hv : namesR g = false := by simp [namesR, named, h1]
     refine wV (aN hlt <| aN encG.eq_1 h1') c1 ?_
     simp [go_sem, hv]
set_option maxHeartbeats 64000000
theorem f54 (g : Glob) (hs : Small g) : Impl Tryz.prog 54 [.ag (encG g)] (.one (.one (.bool (orderedB g false)))) := by
 obtain ⟨s1, s2, s3, s4, s5, s6⟩ := hs
 refine impl_intro z54.f z54.b rfl z54.r z54.n z54.t z54.d (by simp) fun hs => ?_
 clear hs s3 s4
 simp only [slotsOf]
 conv => arg 2; reduce
 refine wX encG.eq_1 ?_
 refine z_k (fun n e => ∃ i : Nat, i + n = g.edges.length /\ (List.range i).all (ordAt g false) = true /\ e = [(3, .sv (.one (.int .i64 i))), (1, .sv (.one (.bx (encG g))))]) g.edges.length _ ⟨0, by simp, by simp, rfl⟩ (by simp [go_sem, encG]) ?_
 rintro n e ⟨i, hi, hall, rfl⟩
 by_cases hlt : i < g.edges.length
 ·have hok := ordAt_get (e := false) hlt
  have hbad : ordAt g false i = false -> orderedB g false = false := fun h => range_all_no hlt h
  obtain ⟨x, hx⟩ : ∃ x, g.edges[i] = x := ⟨_, rfl⟩
  rw [hx] at hok
  cases hc : (x.again && x.from_ == g.start) with
  | true =>
    have hv := hbad (by rw [hok, hc]; simp)
    refine wX (aN hlt <| aN hx <| aN encG.eq_1 <| aN encEd.eq_1 hc) ?_
    simp [go_sem, hv]
  | false =>
    refine wX (aN hlt <| aN hx <| aN encG.eq_1 <| aN encEd.eq_1 hc) ?_
    refine z_k (fun q e => ∃ k : Nat, k + q = g.edges.length /\ (List.range k).all (okPr g.edges i x) = true /\ e = [(5, .sv (.one (.int .i64 k))), (4, .sv (.one (.bx (encEd x)))), (3, .sv (.one (.int .i64 i))), (1, .sv (.one (.bx (encG g))))]) g.edges.length _ ⟨0, by simp, by simp, rfl⟩ (by simp [go_sem, encG, encEd]) ?_
    rintro q e ⟨k, hk, hrow, rfl⟩
    by_cases hkl : k < g.edges.length
    ·obtain ⟨y, hy⟩ : ∃ y, g.edges[k] = y := ⟨_, rfl⟩
     have hpr : okPr g.edges i x k = (!bad1 (i == k) x y && !bad2 x y) := by
      unfold okPr
      rw [List.getElem?_eq_getElem hkl, hy]
     have hpbad : okPr g.edges i x k = false -> orderedB g false = false := fun h => hbad (by rw [hok]; simp [okRow, range_all_no hkl h])
     have hik : ((k : Int) = (i : Int)) ↔ i = k := by omega
     repeat' first | refine St.go ?_ | ((with_reducible refine cn ?_ ?_) <;> intro h <;> (try simp at h) <;> try omega) | (refine Ru.go ?_; intro K hK; simp [go_sem, hkl, hy, encG, encEd]; (try simp (disch := omega) only [wx, z_i]); (first | apply hK | refine ⟨by first | omega | (simp [z_f, z_g, hkl, hy, encG, encEd]; first | done | omega), ?_⟩ | refine ⟨hK _ ?_, fun h => ?_⟩ | refine ⟨?_, ?_⟩); all_goals ((try apply hK); clear hK K))
     ·have hb : bad1 (i == k) x y = true := by
       simp only [hik] at h
       simp [bad1, actEq]
       grind
      have hv := hpbad (by rw [hpr, hb]; rfl)
      simp [go_sem, hv]
     ·grind
     ·have hb : bad2 x y = true := by
       simp [bad2]
       grind
      have hv := hpbad (by rw [hpr, hb]; simp)
      simp [go_sem, hv]
     ·rename_i h'
      have hb1 : bad1 (i == k) x y = false := by
       simp only [hik] at h'
       simp [bad1, actEq]
       grind
      have hb2 : bad2 x y = false := by
       simp [bad2]
       grind
      refine z_j (q - 1) _ (by omega) ⟨k + 1, by omega, ?_, rfl⟩ ?_
      ·rw [range_succ_all, hrow, hpr, hb1, hb2]; rfl
      ·simp [go_sem, encG, encEd]
    ·have hke : k = g.edges.length := by omega
     rw [hke] at hrow
     have ho : ordAt g false i = true := by
      rw [hok]
      have : okRow g.edges i x = true := hrow
      rw [this, hc]
      rfl
     refine wX (aN hkl encG.eq_1) ?_
     refine z_j (n - 1) _ (by omega) ⟨i + 1, by omega, ?_, rfl⟩ ?_
     ·rw [range_succ_all, hall, ho]; rfl
     ·simp [go_sem, encG]
 ·have hie : i = g.edges.length := by omega
  rw [hie] at hall
  have hv : orderedB g false = true := hall
  refine wX (aN hlt encG.eq_1) ?_
  simp [go_sem, hv]
end Go.Av

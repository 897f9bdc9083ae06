/- Part of a proof. -/
import Derived.Test.YticeobjphcmggaaGreatDoorAvR
import Derived.Test.YticeobjphcmggaaGreatDoorB07
import Derived.Test.YticeobjphcmggaaGreatDoorB09
import Derived.Test.YticeobjphcmggaaGreatDoorB00
import Derived.Test.YticeobjphcmggaaGreatDoorC0
set_option linter.unusedVariables false
set_option linter.unusedSimpArgs false
set_option maxHeartbeats 64000000
set_option maxRecDepth 8000
namespace Go.Av
open Go Go.RowKit Go.Proofs
set_option maxHeartbeats 64000000
def anyNeg (l : List Int) : Bool := l.any fun y => (-1 : Int) == y
def valid29 (g : Glob) : Bool := named g && numbered g && validD g.decls && orderedB g true && timedP g && !anyNeg (spread g g.start.toNat false) && !anyNeg (spread g g.end_.toNat true)
def valid26 (g : Glob) : Bool := namesR g && numbered g && orderedB g false && connP g && timedR g
theorem sprN_len {back : Bool} {es : List Edg} {N : Nat} (hb : ∀ x ∈ es, eB back x < N) : ∀ (n : Nat) {st : List Int × List Nat}, (∃ m, SprOk N m st /\ st.2.length <= m) -> (sprN back es n st).1.length = N
 | 0, st, ⟨m, h, _⟩ => h.len
 | n + 1, st, ⟨m, h, hm⟩ => by
   rw [sprN]
   cases h2 : st.2 with
   | nil =>
     have : sprRound back es st = st := by unfold sprRound; rw [h2]
     rw [this]
     exact sprN_len hb n ⟨m, h, hm⟩
   | cons a t =>
     rw [h2] at hm
     obtain ⟨m', rfl⟩ : ∃ m', m = m' + 1 := ⟨m - 1, by simp only [List.length_cons] at hm; omega⟩
     have hr := sprRound_ok hb h h2
     exact sprN_len hb n ⟨m', hr, by have := hr.cnt; omega⟩
theorem spread_len (g : Glob) (hn : numbered g = true) (s : Nat) (hs : s < g.states.toNat) (back : Bool) : (spread g s back).length = g.states.toNat := by
 obtain ⟨n1, n2, n3, n4, n5, n6, n7⟩ := numbered_facts hn
 unfold spread
 refine sprN_len (fun x hx => ?_) _ ⟨_, spr_start hs, ?_⟩
 ·have := okEdge_facts (n7 x hx)
  unfold eB
  split <;> omega
 ·simp; omega
abbrev H109 : Prop := ∀ n : Nat, n <= 200 -> Impl Tryz.prog 104 [.one (.sl [[.int .i64 (-1)]]), .one (.int .i64 n)] (.one (.one (.ow 1 ((List.replicate n (-1)).map encN))))
theorem f37 (h109 : H109) (g : Glob) (hs : Small g) : Impl Tryz.prog 37 [.ag (encG g)] (.one (.one (.bool (valid29 g)))) := by
 have c1 := f67 g (by have := hs.roles; omega)
 have c2 := f68 g hs
 have c3 := f69 g.decls (by have := hs.decls; omega) hs.fields
 have c4 := f70 g hs
 have c5 := f71 g hs
 have c6 : numbered g = true -> Impl Tryz.prog 73 [.ag (encG g), .one (.int .i64 g.start), .one (.bool false)] (.one (.one (.ow 1 ((spread g g.start.toNat false).map encN)))) /\ Impl Tryz.prog 73 [.ag (encG g), .one (.int .i64 g.end_), .one (.bool true)] (.one (.one (.ow 1 ((spread g g.end_.toNat true).map encN)))) /\ (spread g g.start.toNat false).length <= 1000000 /\ (spread g g.end_.toNat true).length <= 1000000 := by
  intro hn
  obtain ⟨n1, n2, n3, n4, n5, n6, n7⟩ := numbered_facts hn
  have e1 := f73 g hs hn h109 g.start.toNat (by omega) false
  have e2 := f73 g hs hn h109 g.end_.toNat (by omega) true
  rw [Int.toNat_of_nonneg n3] at e1
  rw [Int.toNat_of_nonneg n5] at e2
  exact ⟨e1, e2, by rw [spread_len g hn _ (by omega)]; omega, by rw [spread_len g hn _ (by omega)]; omega⟩
 refine impl_v ?_
 have hv : valid29 g = (named g && numbered g && validD g.decls && orderedB g true && timedP g && !anyNeg (spread g g.start.toNat false) && !anyNeg (spread g g.end_.toNat true)) := rfl
 obtain ⟨V, hV⟩ : ∃ V, valid29 g = V := ⟨_, rfl⟩
 rw [hV] at hv ⊢
 simp only [encG] at c1 c2 c3 c4 c5 c6
 cases h1 : named g with
 | false =>
   rw [h1] at c1 hv
   refine wV encG.eq_1 c1 ?_
   simp [go_sem, hv]
 | true =>
   rw [h1] at c1 hv
   cases h2 : numbered g with
   | false =>
     rw [h2] at c2 hv
     refine wV encG.eq_1 (aN c1 c2) ?_
     simp [go_sem, hv]
   | true =>
     obtain ⟨c6a, c7, l1, l2⟩ := c6 h2
     clear c6
     rw [h2] at c2 hv
     cases h3 : validD g.decls with
     | false =>
       rw [h3] at c3 hv
       refine wV encG.eq_1 (aN c1 <| aN c2 c3) ?_
       simp [go_sem, hv]
     | true =>
       rw [h3] at c3 hv
       cases h4 : orderedB g true with
       | false =>
         rw [h4] at c4 hv
         refine wV encG.eq_1 (aN c1 <| aN c2 <| aN c3 c4) ?_
         simp [go_sem, hv]
       | true =>
         rw [h4] at c4 hv
         cases h5 : timedP g with
         | false =>
           rw [h5] at c5 hv
           refine wV encG.eq_1 (aN c1 <| aN c2 <| aN c3 <| aN c4 c5) ?_
           simp [go_sem, hv]
         | true =>
           rw [h5] at c5 hv
           have c8 := f72 (spread g g.start.toNat false) (-1) l1
           have c9 := f72 (spread g g.end_.toNat true) (-1) l2
           change Impl Tryz.prog 72 [_, _] (.one (.one (.bool (anyNeg _)))) at c8
           change Impl Tryz.prog 72 [_, _] (.one (.one (.bool (anyNeg _)))) at c9
           generalize spread g g.start.toNat false = A at *
           generalize spread g g.end_.toNat true = B at *
           cases h6 : anyNeg A with
           | true =>
             rw [h6] at c8 hv
             refine wV encG.eq_1 (aN c1 <| aN c2 <| aN c3 <| aN c4 <| aN c5 <| aN c6a c8) ?_
             simp [go_sem, hv]
           | false =>
             rw [h6] at c8 hv
             refine wV encG.eq_1 (aN c1 <| aN c2 <| aN c3 <| aN c4 <| aN c5 <| aN c6a <| aN c8 <| aN c7 c9) ?_
             simp [go_sem, hv]
theorem f50 (g : Glob) (hs : Small g) : Impl Tryz.prog 50 [.ag (encG g)] (.one (.one (.bool (valid26 g)))) := by
 have c1 := f82 g hs
 have c2 := f83 g hs
 have c3 := f84 g hs
 have c4 := f85 g hs
 have c5 := f86 g hs
 refine impl_v ?_
 have hv : valid26 g = (namesR g && numbered g && orderedB g false && connP g && timedR g) := rfl
 obtain ⟨V, hV⟩ : ∃ V, valid26 g = V := ⟨_, rfl⟩
 rw [hV] at hv ⊢
 simp only [encG] at c1 c2 c3 c4 c5
 cases h1 : namesR g with
 | false =>
   rw [h1] at c1 hv
   refine wV encG.eq_1 c1 ?_
   simp [go_sem, hv]
 | true =>
   rw [h1] at c1 hv
   cases h2 : numbered g with
   | false =>
     rw [h2] at c2 hv
     refine wV encG.eq_1 (aN c1 c2) ?_
     simp [go_sem, hv]
   | true =>
     have c4 := c4 h2
     rw [h2] at c2 hv
     cases h3 : orderedB g false with
     | false =>
       rw [h3] at c3 hv
       refine wV encG.eq_1 (aN c1 <| aN c2 c3) ?_
       simp [go_sem, hv]
     | true =>
       rw [h3] at c3 hv
       cases h4 : connP g with
       | false =>
         rw [h4] at c4 hv
         refine wV encG.eq_1 (aN c1 <| aN c2 <| aN c3 c4) ?_
         simp [go_sem, hv]
       | true =>
         rw [h4] at c4 hv
         refine wV encG.eq_1 (aN c1 <| aN c2 <| aN c3 <| aN c4 c5) ?_
         simp [go_sem, hv]
end Go.Av
namespace Go.Av
open Go Go.RowKit Go.Proofs
set_option maxHeartbeats 64000000
def passV (h : List Ev) (n : Nat) (s : Bool) (p l : Int) : Nat × Bool := match h[n]? with
 | none => (n, true)
 | some x => (n + 1, x.send == s && (x.peer == p && x.label == l))
theorem passV_at {h : List Ev} {n : Nat} {x : Ev} (hn : n < h.length) (hx : h[n] = x) (s : Bool) (p l : Int) : passV h n s p l = (n + 1, x.send == s && (x.peer == p && x.label == l)) := by
 unfold passV
 rw [List.getElem?_eq_getElem hn, hx]
theorem passV_end {h : List Ev} {n : Nat} (hn : n = h.length) (s : Bool) (p l : Int) : passV h n s p l = (n, true) := by
 unfold passV
 rw [List.getElem?_eq_none (by omega)]
theorem f49 (h : List Ev) (n : Nat) (s : Bool) (p l : Int) (hn : n <= h.length) (hl : h.length <= 1000000) : Impl Tryz.prog 49 [.one (.sl (h.map encE)), .one (.int .i64 n), .one (.bool s), .one (.int .i64 p), .one (.int .i64 l)] (.tup [.one (.int .i64 ((passV h n s p l).1 : Nat)), .one (.bool (passV h n s p l).2)]) := by
 refine impl_v ?_
 by_cases hlt : n < h.length
 ·obtain ⟨x, hx⟩ : ∃ x, h[n] = x := ⟨_, rfl⟩
  obtain ⟨b, hb⟩ : ∃ b, (x.send == s && (x.peer == p && x.label == l)) = b := ⟨_, rfl⟩
  rw [passV_at hlt hx, hb]
  have hne : ¬ n = h.length := by omega
  cases c1 : (x.send == s) with
  | false =>
    have hbf : b = false := by rw [<- hb, c1]; rfl
    subst hbf
    refine wX (aN hlt <| aN hx <| aN hne <| aN c1 encE.eq_1) ?_
    simp [go_sem]
  | true =>
    cases c2 : (x.peer == p) with
    | false =>
      have hbf : b = false := by rw [<- hb, c1, c2]; rfl
      subst hbf
      refine wX (aN hlt <| aN hx <| aN hne <| aN c1 <| aN c2 encE.eq_1) ?_
      simp [go_sem]
    | true =>
      have hbf : b = (x.label == l) := by rw [<- hb, c1, c2]; rfl
      subst hbf
      refine wX (aN hlt <| aN hx <| aN hne <| aN c1 <| aN c2 encE.eq_1) ?_
      simp [go_sem]
 ·have hne : n = h.length := by omega
  subst hne
  rw [passV_end rfl]
  refine wN ?_
  simp [go_sem]
end Go.Av
namespace Go.Av
open Go Go.RowKit Go.Proofs
set_option maxHeartbeats 64000000
def okE (n i : Nat) (e : Ev) : Bool := decide (e.role = i) && decide (e.peer ≠ i) && decide (0 <= e.peer) && decide (e.peer < n)
def okH (n i : Nat) (l : List Ev) : Bool := l.all (okE n i)
def properH (h : List (List Ev)) : Bool := ((List.range h.length).all fun i => okH h.length i (h[i]?.getD [])) && decide (h.length <= 6)
theorem properH_no {h : List (List Ev)} {i j : Nat} (hi : i < h.length) (hj : j < h[i].length) (hb : okE h.length i h[i][j] = false) : properH h = false := by
 unfold properH
 rw [Bool.and_eq_false_iff]
 left
 rw [List.all_eq_false]
 refine ⟨i, by simp [hi], ?_⟩
 simp only [hi, List.getElem?_eq_getElem, Option.getD_some, okH]
 rw [Bool.not_eq_true, List.all_eq_false]
 exact ⟨_, List.getElem_mem hj, by simp [hb]⟩
theorem properH_yes {h : List (List Ev)} (hb : ∀ i (hi : i < h.length), okH h.length i h[i] = true) : properH h = decide (h.length <= 6) := by
 unfold properH
 have : ((List.range h.length).all fun i => okH h.length i (h[i]?.getD [])) = true := by
  rw [List.all_eq_true]
  intro i hi
  have hi : i < h.length := by simpa using hi
  simpa [hi] using hb i hi
 rw [this, Bool.true_and]
theorem okH_succ {n i j : Nat} {l : List Ev} (hj : j < l.length) : okH n i (l.take (j + 1)) = (okH n i (l.take j) && okE n i l[j]) := by
 unfold okH
 rw [List.take_succ_eq_append_getElem hj, List.all_append]
 simp
theorem f39 (H : List (List Ev)) (hl : H.length <= 1000000) (hh : ∀ l ∈ H, l.length <= 1000000) : Impl Tryz.prog 39 [.one (.sl (H.map encH))] (.one (.one (.bool (properH H)))) := by
 refine impl_v ?_
 refine wN ?_
 refine z_k (fun n e => ∃ k, k + n = H.length /\ (∀ i (hi : i < H.length), i < k -> okH H.length i H[i] = true) /\ e = [(9, .sv (.one (.int .i64 (k : Nat)))), (8, .sv (.one (.int .i64 H.length))), (7, .sv (.one (.sl (H.map encH)))), (0, .sv (.one (.sl (H.map encH))))]) H.length _ ⟨0, by simp, by simp, rfl⟩ (by simp [go_sem]) ?_
 rintro n e ⟨k, hk, hok, rfl⟩
 by_cases hlt : k < H.length
 ·have hh' := hh H[k] (List.getElem_mem hlt)
  repeat' first | refine St.go ?_ | ((with_reducible refine cn ?_ ?_) <;> intro h <;> (try simp at h) <;> try omega) | (refine Ru.go ?_; intro K hK; simp [go_sem, hlt, encH]; (try simp (disch := omega) only [wx, z_i]); (first | apply hK | refine ⟨by first | omega | (simp [z_f, z_g, hlt, encH]; first | done | omega), ?_⟩ | refine ⟨hK _ ?_, fun h => ?_⟩ | refine ⟨?_, ?_⟩); all_goals ((try apply hK); clear hK K))
  refine z_k (fun m e => ∃ j, j + m = H[k].length /\ okH H.length k (H[k].take j) = true /\ e = [(16, .sv (.one (.int .i64 (j : Nat)))), (15, .sv (.one (.int .i64 H[k].length))), (14, .sv (.one (.sl (H[k].map encE)))), (3, .sv (.one (.int .i64 k))), (9, .sv (.one (.int .i64 (k : Nat)))), (8, .sv (.one (.int .i64 H.length))), (7, .sv (.one (.sl (H.map encH)))), (0, .sv (.one (.sl (H.map encH))))]) H[k].length _ ⟨0, by simp, by simp [okH], rfl⟩ (by simp [go_sem]) ?_
  rintro m e ⟨j, hj, hjo, rfl⟩
  by_cases hlj : j < H[k].length
  ·skip
   repeat' first | refine St.go ?_ | ((with_reducible refine cn ?_ ?_) <;> intro h <;> (try simp at h) <;> try omega) | (refine Ru.go ?_; intro K hK; simp [go_sem, hlt, hlj, encE]; (try simp (disch := omega) only [wx, z_i]); (first | apply hK | refine ⟨by first | omega | (simp [z_f, z_g, hlt, hlj, encE]; first | done | omega), ?_⟩ | refine ⟨hK _ ?_, fun h => ?_⟩ | refine ⟨?_, ?_⟩); all_goals ((try apply hK); clear hK K))
   ·have hb : okE H.length k H[k][j] = false := by
     simp only [okE]
     simp_all
     omega
    simp [go_sem, properH_no hlt hlj hb]
   ·refine z_j (m - 1) _ (by omega) ⟨j + 1, by omega, ?_, rfl⟩ ?_
    ·rw [okH_succ hlj, hjo]
     simp only [okE]
     simp_all
    ·simp [go_sem]
  ·refine wX (aN hlt hlj) ?_
   refine z_j (n - 1) _ (by omega) ⟨k + 1, by omega, ?_, rfl⟩ ?_
   ·intro i hi hik
    by_cases he : i = k
    ·subst he
     rwa [List.take_of_length_le (by omega)] at hjo
    ·exact hok i hi (by omega)
   ·simp [go_sem]
 ·refine wX hlt ?_
  rw [properH_yes (fun i hi => hok i hi (by omega))]
  simp [go_sem]
  omega
theorem f51 (H : List (List Ev)) (hl : H.length <= 1000000) (hh : ∀ l ∈ H, l.length <= 1000000) : Impl Tryz.prog 51 [.one (.sl (H.map encH))] (.one (.one (.bool (properH H)))) := by
 refine impl_v ?_
 refine wN ?_
 refine z_k (fun n e => ∃ k, k + n = H.length /\ (∀ i (hi : i < H.length), i < k -> okH H.length i H[i] = true) /\ e = [(3, .sv (.one (.int .i64 (k : Nat)))), (0, .sv (.one (.sl (H.map encH))))]) H.length _ ⟨0, by simp, by simp, rfl⟩ (by simp [go_sem]) ?_
 rintro n e ⟨k, hk, hok, rfl⟩
 by_cases hlt : k < H.length
 ·have hh' := hh H[k] (List.getElem_mem hlt)
  refine wX (aN hlt encH.eq_1) ?_
  refine z_k (fun m e => ∃ j, j + m = H[k].length /\ okH H.length k (H[k].take j) = true /\ e = [(4, .sv (.one (.int .i64 (j : Nat)))), (3, .sv (.one (.int .i64 (k : Nat)))), (0, .sv (.one (.sl (H.map encH))))]) H[k].length _ ⟨0, by simp, by simp [okH], rfl⟩ (by simp [go_sem]) ?_
  rintro m e ⟨j, hj, hjo, rfl⟩
  by_cases hlj : j < H[k].length
  ·skip
   repeat' first | refine St.go ?_ | ((with_reducible refine cn ?_ ?_) <;> intro h <;> (try simp at h) <;> try omega) | (refine Ru.go ?_; intro K hK; simp [go_sem, hlt, hlj, encH, encE]; (try simp (disch := omega) only [wx, z_i]); (first | apply hK | refine ⟨by first | omega | (simp [z_f, z_g, hlt, hlj, encH, encE]; first | done | omega), ?_⟩ | refine ⟨hK _ ?_, fun h => ?_⟩ | refine ⟨?_, ?_⟩); all_goals ((try apply hK); clear hK K))
   ·have hb : okE H.length k H[k][j] = false := by
     simp only [okE]
     simp_all
     omega
    simp [go_sem, properH_no hlt hlj hb]
   ·refine z_j (m - 1) _ (by omega) ⟨j + 1, by omega, ?_, rfl⟩ ?_
    ·rw [okH_succ hlj, hjo]
     simp only [okE]
     simp_all
    ·simp [go_sem]
  ·refine wX (aN hlt <| aN hlj encH.eq_1) ?_
   refine z_j (n - 1) _ (by omega) ⟨k + 1, by omega, ?_, rfl⟩ ?_
   ·intro i hi hik
    by_cases he : i = k
    ·subst he
     rwa [List.take_of_length_le (by omega)] at hjo
    ·exact hok i hi (by omega)
   ·simp [go_sem]
 ·refine wX hlt ?_
  rw [properH_yes (fun i hi => hok i hi (by omega))]
  simp [go_sem]
  omega
end Go.Av
namespace Go.Av
open Go Go.RowKit Go.Proofs
set_option maxHeartbeats 64000000
theorem shape_map {α β : Type} {f : α -> List DV} {g : β -> List DV} {z : Nat} (hf : ∀ x, (f x).length = z) (hg : ∀ x, (g x).length = z) {l : List α} {m : List β} (h : m.length = l.length) : Shape (.ow z (l.map f)) (.ow z (m.map g)) := by
 refine ⟨fun i el he => ?_, fun u => ?_, fun els he => ?_⟩
 ·simp only [DV.elAt, List.getElem?_map, Option.map_eq_some_iff] at he ⊢
  obtain ⟨x, hx, rfl⟩ := he
  have hi : i < m.length := by rw [h]; exact (List.getElem?_eq_some_iff.1 hx).1
  exact ⟨_, ⟨m[i], List.getElem?_eq_getElem hi, rfl⟩, by rw [hf, hg]⟩
 ·cases u with
  | slice a n c => cases a <;> rfl
  | pointer a => cases a <;> rfl
  | _ => rfl
 ·simp only [DV.elsOf, Option.some.injEq] at he ⊢
  subst he
  refine ⟨_, rfl, by simp [h], fun z' hz' e he => ?_⟩
  obtain ⟨y, hy, rfl⟩ := List.mem_map.1 he
  rw [hg]
  cases l with
  | nil => simp at h; subst h; cases hy
  | cons x l => rw [<- hz' (f x) (by simp), hf]
theorem shape_ints {l m : List Int} (h : m.length = l.length) : Shape (.ow 1 (l.map encN)) (.ow 1 (m.map encN)) := shape_map (f := encN) (g := encN) (fun _ => rfl) (fun _ => rfl) h
theorem closed_ints (l : List Int) : Closed (.ow 1 (l.map encN)) := by
 refine .ow _ _ fun e he d hd => ?_
 obtain ⟨x, _, rfl⟩ := List.mem_map.1 he
 simp only [encN, List.mem_singleton] at hd
 subst hd
 exact .int _ _
def swapI (l : List Int) (i k : Nat) : List Int := (l.set i (l.getD k 0)).set k (l.getD i 0)
theorem swapI_len (l : List Int) (i k : Nat) : (swapI l i k).length = l.length := by simp [swapI]
def swapN (l : List Int) (i k : Nat) : Nat -> List Int
 | 0 => l
 | n + 1 => swapI (swapN l i k n) (i + n) (k + n)
theorem swapN_len (l : List Int) (i k : Nat) : ∀ n, (swapN l i k n).length = l.length
 | 0 => rfl
 | n + 1 => by rw [swapN, swapI_len, swapN_len l i k n]
theorem f156 (l : List Int) (hl : l.length <= 1000000) (i k n : Nat) (hi : i + n <= l.length) (hk : k + n <= l.length) (g : FuncId) (caps : List DV) :
  ImplM Tryz.prog 156 (.ow 1 (l.map encN)) [.one (.int .i64 i), .one (.int .i64 k), .one (.int .i64 n), .one (.fn g caps)] (.ow 1 ((swapN l i k n).map encN)) := by
 refine implM_intro z156.f z156.b rfl z156.r z156.n z156.t z156.d (shape_ints (swapN_len _ _ _ _)) (closed_ints _) (by simp) (by simp) fun v0 => ?_
 simp only [slotsOf]
 conv => arg 2; reduce
 refine wN ?_
 refine z_k (fun q e => ∃ j : Nat, j + q = n /\ e = [(10, .sv (.one (.int .i64 j))), (1000000, .eqv 0 v0), (0, .sv (.one (.ow 1 ((swapN l i k j).map encN)))), (1, .sv (.one (.int .i64 i))), (2, .sv (.one (.int .i64 k))), (3, .sv (.one (.int .i64 n)))]) n _ ⟨0, by simp, rfl⟩ (by simp [go_sem, swapN]) ?_
 rintro q e ⟨j, hj, rfl⟩
 have hD2 : swapN l i k (j + 1) = swapI (swapN l i k j) (i + j) (k + j) := rfl
 have hDl := swapN_len l i k j
 obtain ⟨D, hD⟩ : ∃ D, D = swapN l i k j := ⟨_, rfl⟩
 rw [<- hD] at hD2 hDl ⊢
 by_cases hlt : j < n
 ·have b1 : i + j < D.length := by omega
  have b2 : k + j < D.length := by omega
  obtain ⟨D1, hD1⟩ : ∃ D1, D1 = D.set (i + j) D[k + j] := ⟨_, rfl⟩
  obtain ⟨D2, hDD⟩ : ∃ D2, D2 = swapN l i k (j + 1) := ⟨_, rfl⟩
  have hl1 : D1.length = l.length := by rw [hD1, List.length_set, hDl]
  have hs2 : D1.set (k + j) D[i + j] = D2 := by
   rw [hDD, hD2, hD1, swapI, List.getD_eq_getElem?_getD, List.getD_eq_getElem?_getD, List.getElem?_eq_getElem b1, List.getElem?_eq_getElem b2]
   rfl
  obtain ⟨u, hu⟩ : ∃ u, u = D[i + j] := ⟨_, rfl⟩
  obtain ⟨v, hv⟩ : ∃ v, v = D[k + j] := ⟨_, rfl⟩
  rw [<- hv] at hD1
  rw [<- hu] at hs2
  have hset1 : (D.map encN).set (i + j) [.int .i64 v] = D1.map encN := by rw [show [DV.int .i64 v] = encN v from rfl, <- List.map_set, hD1]
  have hset2 : (D1.map encN).set (k + j) [.int .i64 u] = D2.map encN := by rw [show [DV.int .i64 u] = encN u from rfl, <- List.map_set, hs2]
  have c1 : ((i : Int) + j).toNat = i + j := by omega
  have c2 : ((k : Int) + j).toNat = k + j := by omega
  have p1 : (0 : Int) <= (i : Int) + j := by omega
  have p2 : (0 : Int) <= (k : Int) + j := by omega
  have g1 : D[i + j]? = some u := by rw [List.getElem?_eq_getElem b1, hu]
  have g2 : D[k + j]? = some v := by rw [List.getElem?_eq_getElem b2, hv]
  obtain ⟨v', g3⟩ : ∃ v', D1[k + j]? = some v' := ⟨_, List.getElem?_eq_getElem (by omega)⟩
  refine wX (aN hlt <| aN hDl <| aN hl1 <| aN encN.eq_1 <| aN c1 <| aN c2 <| aN g1 <| aN g2 <| aN g3 <| aN hset1 <| aN hset2 <| aN p1 p2) ?_
  refine z_j (n - (j + 1)) _ (by omega) ⟨j + 1, by omega, rfl⟩ ?_
  rw [<- hDD]
  simp [go_sem, encN, hset1, hset2]
 ·have hjn : j = n := by omega
  subst hjn
  refine wN ?_
  simp [go_sem, endsM, hD]
end Go.Av
namespace Go.Av
open Go Go.RowKit Go.Proofs
theorem swapI_mid (p w s : List Int) (x y : Int) : swapI (p ++ x :: (w ++ y :: s)) p.length (p.length + 1 + w.length) = p ++ y :: (w ++ x :: s) := by
 unfold swapI
 have h1 : (p ++ x :: (w ++ y :: s)).getD (p.length + 1 + w.length) 0 = y := by
  rw [List.getD_eq_getElem?_getD, List.getElem?_append_right (by omega), show p.length + 1 + w.length - p.length = w.length + 1 by omega, List.getElem?_cons_succ, List.getElem?_append_right (by omega)]
  simp
 have h2 : (p ++ x :: (w ++ y :: s)).getD p.length 0 = x := by
  rw [List.getD_eq_getElem?_getD, List.getElem?_append_right (by omega)]
  simp
 rw [h1, h2, List.set_append_right _ _ (by omega)]
 simp only [Nat.sub_self, List.set_cons_zero]
 rw [List.set_append_right _ _ (by omega), show p.length + 1 + w.length - p.length = w.length + 1 by omega, List.set_cons_succ, List.set_append_right _ _ (by omega)]
 simp
theorem swapN_mid : ∀ (n : Nat) (p u w v s : List Int), u.length = n -> v.length = n -> swapN (p ++ (u ++ (w ++ (v ++ s)))) p.length (p.length + n + w.length) n = p ++ (v ++ (w ++ (u ++ s)))
 | 0, p, u, w, v, s, hu, hv => by
   have e1 := List.eq_nil_of_length_eq_zero hu
   have e2 := List.eq_nil_of_length_eq_zero hv
   subst e1 e2
   rfl
 | n + 1, p, u, w, v, s, hu, hv => by
   obtain ⟨u', x, rfl⟩ : ∃ u' x, u = u' ++ [x] := by
    rcases List.eq_nil_or_concat u with h | ⟨a, b, h⟩
    ·subst h; simp at hu
    ·exact ⟨a, b, by simpa using h⟩
   obtain ⟨v', y, rfl⟩ : ∃ v' y, v = v' ++ [y] := by
    rcases List.eq_nil_or_concat v with h | ⟨a, b, h⟩
    ·subst h; simp at hv
    ·exact ⟨a, b, by simpa using h⟩
   simp only [List.length_append, List.length_singleton] at hu hv
   have ih := swapN_mid n p u' (x :: w) v' (y :: s) (by omega) (by omega)
   simp only [List.length_cons] at ih
   have e0 : p ++ (u' ++ [x] ++ (w ++ (v' ++ [y] ++ s))) = p ++ (u' ++ (x :: w ++ (v' ++ y :: s))) := by simp
   have e1 : p.length + (n + 1) + w.length = p.length + n + (w.length + 1) := by omega
   rw [swapN, e0, e1, ih]
   have h2 := swapI_mid (p ++ v') (w ++ u') s x y
   have e2 : p ++ (v' ++ (x :: w ++ (u' ++ y :: s))) = p ++ v' ++ x :: (w ++ u' ++ y :: s) := by simp
   rw [e2]
   have e3 : p.length + n = (p ++ v').length := by simp; omega
   have e4 : p.length + n + (w.length + 1) + n = (p ++ v').length + 1 + (w ++ u').length := by simp; omega
   rw [e4, e3, h2]
   simp
def rotF : Nat -> List Int -> Nat -> Nat -> Nat -> List Int
 | 0, l, _, _, _ => l
 | n + 1, l, m, i, j => if i = j then swapN l (m - i) m i else if j < i then rotF n (swapN l (m - i) m j) m (i - j) j else rotF n (swapN l (m - i) (m + j - i) i) m i (j - i)
theorem rotF_ok : ∀ (n : Nat) (p x y s : List Int) (m i j : Nat), x.length = i -> y.length = j -> m = p.length + i -> 0 < i -> 0 < j -> i + j <= n -> rotF n (p ++ (x ++ (y ++ s))) m i j = p ++ (y ++ (x ++ s))
 | 0, p, x, y, s, m, i, j, _, _, _, h1, h2, h3 => by omega
 | n + 1, p, x, y, s, m, i, j, hx, hy, hm, hi, hj, hn => by
   rw [rotF]
   split
   ·rename_i e
    have := swapN_mid i p x [] y s hx (by omega)
    simp only [List.length_nil, Nat.add_zero, List.nil_append] at this
    rw [show m - i = p.length by omega, hm]
    exact this
   ·split
    ·rename_i h1 h2
     obtain ⟨x1, x2, rfl, e1, e2⟩ : ∃ x1 x2, x = x1 ++ x2 /\ x1.length = j /\ x2.length = i - j := ⟨x.take j, x.drop j, (List.take_append_drop _ _).symm, by rw [List.length_take]; omega, by rw [List.length_drop]; omega⟩
     have h3 := swapN_mid j p x1 x2 y s e1 hy
     have e3 : p ++ (x1 ++ x2 ++ (y ++ s)) = p ++ (x1 ++ (x2 ++ (y ++ s))) := by simp
     rw [e3, show m - i = p.length by omega, show m = p.length + j + x2.length by omega, h3]
     have h4 := rotF_ok n (p ++ y) x2 x1 s (p.length + j + x2.length) (i - j) j e2 e1 (by simp; omega) (by omega) hj (by omega)
     have e4 : p ++ (y ++ (x2 ++ (x1 ++ s))) = p ++ y ++ (x2 ++ (x1 ++ s)) := by simp
     rw [e4, h4]
     simp
    ·rename_i h1 h2
     obtain ⟨y1, y2, rfl, e1, e2⟩ : ∃ y1 y2, y = y1 ++ y2 /\ y1.length = j - i /\ y2.length = i := ⟨y.take (j - i), y.drop (j - i), (List.take_append_drop _ _).symm, by rw [List.length_take]; omega, by rw [List.length_drop]; omega⟩
     have h3 := swapN_mid i p x y1 y2 s hx e2
     have e3 : p ++ (x ++ (y1 ++ y2 ++ s)) = p ++ (x ++ (y1 ++ (y2 ++ s))) := by simp
     rw [e3, show m - i = p.length by omega, show m + j - i = p.length + i + y1.length by omega, h3, hm]
     have h4 := rotF_ok n p y2 y1 (x ++ s) (p.length + i) i (j - i) e2 e1 rfl hi (by omega) (by omega)
     rw [h4]
     simp
theorem rotF_len : ∀ (n : Nat) (l : List Int) (m i j : Nat), (rotF n l m i j).length = l.length
 | 0, _, _, _, _ => rfl
 | n + 1, l, m, i, j => by
   rw [rotF]
   split
   ·rw [swapN_len]
   ·split
    ·rw [rotF_len n, swapN_len]
    ·rw [rotF_len n, swapN_len]
end Go.Av
namespace Go.Av
open Go Go.RowKit Go.Proofs
structure OrdR (ok : Int -> Prop) (lt R : Int -> Int -> Bool) : Prop where
 sub : ∀ x y, ok x -> ok y -> lt x y = true -> R x y = true
 asym : ∀ x y, ok x -> ok y -> R x y = true -> R y x = false
 trans : ∀ x y z, ok x -> ok y -> ok z -> R x y = true -> R y z = true -> R x z = true
 tot : ∀ x y, ok x -> ok y -> x ≠ y -> R x y = true \/ R y x = true
abbrev Srt (R : Int -> Int -> Bool) (l : List Int) : Prop := l.Pairwise fun x y => R x y = true
def Crs (lt R : Int -> Int -> Bool) (x y : List Int) : Prop := ∀ a ∈ x, ∀ b ∈ y, lt b a = false -> R a b = true
def insR (R : Int -> Int -> Bool) (x : Int) : List Int -> List Int
 | [] => [x]
 | y :: l => if R x y then x :: y :: l else y :: insR R x l
def isort (R : Int -> Int -> Bool) : List Int -> List Int
 | [] => []
 | x :: l => insR R x (isort R l)
variable {ok : Int -> Prop} {lt R : Int -> Int -> Bool}
theorem insR_perm (x : Int) : ∀ l, (insR R x l).Perm (x :: l)
 | [] => .refl _
 | y :: l => by
   rw [insR]
   split
   ·exact .refl _
   ·exact ((insR_perm x l).cons y).trans (.swap x y l)
theorem isort_perm : ∀ l, (isort R l).Perm l
 | [] => .refl _
 | x :: l => (insR_perm x _).trans ((isort_perm l).cons x)
theorem isort_len (l : List Int) : (isort R l).length = l.length := (isort_perm l).length_eq
theorem isort_mem {l : List Int} {x : Int} : x ∈ isort R l ↔ x ∈ l := (isort_perm l).mem_iff
theorem insR_srt (h : OrdR ok lt R) {x : Int} (hx : ok x) : ∀ {l : List Int}, (∀ y ∈ l, ok y) -> x ∉ l -> Srt R l -> Srt R (insR R x l)
 | [], _, _, _ => by simp [insR, Srt]
 | y :: l, ho, hn, hs => by
   obtain ⟨h1, h2⟩ := List.pairwise_cons.1 hs
   have hy := ho y (by simp)
   rw [insR]
   split
   ·rename_i hxy
    refine List.pairwise_cons.2 ⟨fun z hz => ?_, hs⟩
    rcases List.mem_cons.1 hz with rfl | hz
    ·exact hxy
    ·exact h.trans x y z hx hy (ho z (by simp [hz])) hxy (h1 z hz)
   ·rename_i hxy
    have hyx : R y x = true := (h.tot x y hx hy (fun e => hn (by simp [e]))).resolve_left hxy
    refine List.pairwise_cons.2 ⟨fun z hz => ?_, insR_srt h hx (fun z hz => ho z (by simp [hz])) (fun hm => hn (by simp [hm])) h2⟩
    rcases List.mem_cons.1 ((insR_perm x l).mem_iff.1 hz) with rfl | hz
    ·exact hyx
    ·exact h1 z hz
theorem isort_srt (h : OrdR ok lt R) : ∀ {l : List Int}, (∀ y ∈ l, ok y) -> l.Nodup -> Srt R (isort R l)
 | [], _, _ => by simp [isort, Srt]
 | x :: l, ho, hn => by
   obtain ⟨h1, h2⟩ := List.nodup_cons.1 hn
   exact insR_srt h (ho x (by simp)) (fun y hy => ho y (by simp [isort_mem.1 hy])) (fun hm => h1 (isort_mem.1 hm)) (isort_srt h (fun y hy => ho y (by simp [hy])) h2)
theorem srt_uniq (h : OrdR ok lt R) : ∀ {l m : List Int}, (∀ y ∈ l, ok y) -> l.Perm m -> Srt R l -> Srt R m -> l = m
 | [], m, _, hp, _, _ => (List.nil_perm.1 hp).symm
 | x :: l, [], _, hp, _, _ => by simp at hp
 | x :: l, y :: m, ho, hp, h1, h2 => by
   obtain ⟨a1, a2⟩ := List.pairwise_cons.1 h1
   obtain ⟨b1, b2⟩ := List.pairwise_cons.1 h2
   have hxy : x = y := by
    have hx : x ∈ y :: m := hp.mem_iff.1 (by simp)
    have hy : y ∈ x :: l := hp.mem_iff.2 (by simp)
    rcases List.mem_cons.1 hx with e | hx
    ·exact e
    ·rcases List.mem_cons.1 hy with e | hy
     ·exact e.symm
     ·have e1 := a1 y hy
      have e2 := b1 x hx
      rw [h.asym x y (ho x (by simp)) (ho y (by simp [hy])) e1] at e2
      cases e2
   subst hxy
   rw [srt_uniq h (fun z hz => ho z (by simp [hz])) (List.perm_cons x |>.1 hp) a2 b2]
theorem isort_eq (h : OrdR ok lt R) {l m : List Int} (ho : ∀ y ∈ l, ok y) (hp : m.Perm l) (hs : Srt R m) : isort R l = m := by
 have hirr : ∀ x, ok x -> R x x = false := fun x hx => by
  cases hr : R x x with
  | false => rfl
  | true => rw [<- hr]; exact h.asym x x hx hx hr
 have hm : m.Nodup := by
  have : ∀ (m : List Int), (∀ y ∈ m, ok y) -> Srt R m -> m.Nodup := by
   intro m
   induction m with
   | nil => intro _ _; exact List.nodup_nil
   | cons x m ih =>
     intro ho hs
     obtain ⟨a1, a2⟩ := List.pairwise_cons.1 hs
     refine List.nodup_cons.2 ⟨fun hx => ?_, ih (fun y hy => ho y (by simp [hy])) a2⟩
     have := a1 x hx
     rw [hirr x (ho x (by simp))] at this
     cases this
  exact this m (fun y hy => ho y (hp.mem_iff.1 hy)) hs
 have hn : l.Nodup := hp.nodup_iff.1 hm
 exact srt_uniq h (fun y hy => ho y (isort_mem.1 hy)) ((isort_perm l).trans hp.symm) (isort_srt h ho hn) hs
theorem srt_append {l m : List Int} : Srt R (l ++ m) ↔ Srt R l /\ Srt R m /\ ∀ a ∈ l, ∀ b ∈ m, R a b = true := List.pairwise_append
theorem isort_split (h : OrdR ok lt R) {l a b : List Int} (ho : ∀ y ∈ l, ok y) (hn : l.Nodup) (hp : (a ++ b).Perm l) (hab : ∀ x ∈ a, ∀ y ∈ b, R x y = true) : isort R l = isort R a ++ isort R b := by
 have hnd : (a ++ b).Nodup := hp.nodup_iff.2 hn
 have hoa : ∀ y ∈ a, ok y := fun y hy => ho y (hp.mem_iff.1 (by simp [hy]))
 have hob : ∀ y ∈ b, ok y := fun y hy => ho y (hp.mem_iff.1 (by simp [hy]))
 obtain ⟨n1, n2, _⟩ := List.nodup_append.1 hnd
 refine isort_eq h ho (((isort_perm a).append (isort_perm b)).trans hp) (srt_append.2 ⟨isort_srt h hoa n1, isort_srt h hob n2, fun x hx y hy => hab x (isort_mem.1 hx) y (isort_mem.1 hy)⟩)
theorem isort_self (h : OrdR ok lt R) {l : List Int} (ho : ∀ y ∈ l, ok y) (hs : Srt R l) : isort R l = l := isort_eq h ho (.refl _) hs
theorem isort_congr (h : OrdR ok lt R) {l m : List Int} (ho : ∀ y ∈ l, ok y) (hn : l.Nodup) (hp : m.Perm l) : isort R m = isort R l :=
 (isort_eq h ho ((isort_perm m).trans hp) (isort_srt h (fun y hy => ho y (hp.mem_iff.1 hy)) (hp.nodup_iff.2 hn))).symm
theorem isort_mid (h : OrdR ok lt R) {l s1 s2 : List Int} {e : Int} (ho : ∀ y ∈ l, ok y) (hp : (s1 ++ e :: s2).Perm l) (hs : Srt R (s1 ++ s2)) (h1 : ∀ y ∈ s1, R y e = true) (h2 : ∀ y ∈ s2, R e y = true) : isort R l = s1 ++ e :: s2 := by
 obtain ⟨a1, a2, a3⟩ := srt_append.1 hs
 refine isort_eq h ho hp (srt_append.2 ⟨a1, List.pairwise_cons.2 ⟨h2, a2⟩, fun a ha b hb => ?_⟩)
 rcases List.mem_cons.1 hb with rfl | hb
 ·exact h1 a ha
 ·exact a3 a ha b hb
end Go.Av
namespace Go.Av
open Go Go.RowKit Go.Proofs
set_option maxHeartbeats 64000000
theorem f144 (l : List Int) (hl : l.length <= 1000000) (a m b : Nat) (h1 : a < m) (h2 : m < b) (h3 : b <= l.length) (g : FuncId) (caps : List DV) :
  ImplM Tryz.prog 144 (.ow 1 (l.map encN)) [.one (.int .i64 a), .one (.int .i64 m), .one (.int .i64 b), .one (.fn g caps)] (.ow 1 ((rotF (b - a) l m (m - a) (b - m)).map encN)) := by
 refine implM_intro z144.f z144.b rfl z144.r z144.n z144.t z144.d (shape_ints (rotF_len _ _ _ _ _)) (closed_ints _) (by simp) (by simp) fun v0 => ?_
 simp only [slotsOf]
 conv => arg 2; reduce
 refine wN ?_
 refine z_k (fun q e => ∃ (i j : Nat) (D : List Int), i + j <= q /\ 0 < i /\ 0 < j /\ i <= m /\ m + j <= l.length /\ D.length = l.length /\ rotF q D m i j = rotF (b - a) l m (m - a) (b - m) /\ e = [(11, .sv (.one (.int .i64 j))), (10, .sv (.one (.int .i64 i))), (1000000, .eqv 0 v0), (0, .sv (.one (.ow 1 (D.map encN)))), (2, .sv (.one (.int .i64 m))), (4, .sv (.one (.fn g caps)))]) (b - a) _ ⟨m - a, b - m, l, by omega, by omega, by omega, by omega, by omega, rfl, rfl, rfl⟩ (by simp [go_sem]; omega) ?_
 rintro q e ⟨i, j, D, q1, q2, q3, q4, q5, q6, q7, rfl⟩
 obtain ⟨q, rfl⟩ : ∃ q', q = q' + 1 := ⟨q - 1, by omega⟩
 rw [rotF] at q7
 by_cases hij : i = j
 ·subst hij
  rw [if_pos rfl] at q7
  have k1 := f156 D (by omega) (m - i) m i (by omega) (by omega) g caps
  have c1 : ((m - i : Nat) : Int) = (m : Int) - i := by omega
  rw [c1, q7] at k1
  refine wC k1 ?_
  simp [go_sem, endsM]
 ·by_cases hlt : j < i
  ·rw [if_neg hij, if_pos hlt] at q7
   have k1 := f156 D (by omega) (m - i) m j (by omega) (by omega) g caps
   have c1 : ((m - i : Nat) : Int) = (m : Int) - i := by omega
   rw [c1] at k1
   obtain ⟨D1, hD1⟩ : ∃ D1, D1 = swapN D (m - i) m j := ⟨_, rfl⟩
   rw [<- hD1] at k1 q7
   have hl1 : D1.length = l.length := by rw [hD1, swapN_len, q6]
   refine wV (aN hij hlt) k1 ?_
   refine z_j q _ (by omega) ⟨i - j, j, D1, by omega, by omega, by omega, by omega, by omega, hl1, q7, rfl⟩ ?_
   simp [go_sem]
   omega
  ·rw [if_neg hij, if_neg hlt] at q7
   have k1 := f156 D (by omega) (m - i) (m + j - i) i (by omega) (by omega) g caps
   have c1 : ((m - i : Nat) : Int) = (m : Int) - i := by omega
   have c2 : ((m + j - i : Nat) : Int) = (m : Int) + j - i := by omega
   rw [c1, c2] at k1
   obtain ⟨D1, hD1⟩ : ∃ D1, D1 = swapN D (m - i) (m + j - i) i := ⟨_, rfl⟩
   rw [<- hD1] at k1 q7
   have hl1 : D1.length = l.length := by rw [hD1, swapN_len, q6]
   refine wV (aN hij hlt) k1 ?_
   refine z_j q _ (by omega) ⟨i, j - i, D1, by omega, by omega, by omega, by omega, by omega, hl1, q7, rfl⟩ ?_
   simp [go_sem]
   omega
end Go.Av
namespace Go.Av
open Go Go.RowKit Go.Proofs
set_option maxHeartbeats 64000000
structure CmpFn (g : FuncId) (caps : List DV) (ok : Int -> Prop) (cm : Int -> Int -> Int) : Prop where
 flat : ∀ d ∈ caps, d.flat = true
 call : ∀ x y, ok x -> ok y -> Impl Tryz.prog g ([.one (.int .i64 x), .one (.int .i64 y)] ++ caps.map .one) (.one (.one (.int .i64 (cm x y))))
def ltOf (cm : Int -> Int -> Int) (x y : Int) : Bool := decide (cm x y < 0)
theorem swap_facts (D : List Int) (i k : Nat) (b1 : i < D.length) (b2 : k < D.length) : ∃ (u v v' : Int) (D1 : List Int), D[i]? = some u /\ D[k]? = some v /\ D1[k]? = some v' /\ D1.length = D.length /\
  (D.map encN).set i [.int .i64 v] = D1.map encN /\ (D1.map encN).set k [.int .i64 u] = (swapI D i k).map encN := by
 refine ⟨D[i], D[k], (D.set i D[k])[k]'(by rw [List.length_set]; exact b2), D.set i D[k], List.getElem?_eq_getElem b1, List.getElem?_eq_getElem b2, List.getElem?_eq_getElem _, List.length_set, ?_, ?_⟩
 ·rw [show [DV.int .i64 D[k]] = encN D[k] from rfl, <- List.map_set]
 ·rw [show [DV.int .i64 D[i]] = encN D[i] from rfl, <- List.map_set, swapI, List.getD_eq_getElem?_getD, List.getD_eq_getElem?_getD, List.getElem?_eq_getElem b1, List.getElem?_eq_getElem b2]
  rfl
theorem swapI_back (p s : List Int) (x y : Int) : swapI (p ++ x :: y :: s) (p.length + 1) p.length = p ++ y :: x :: s := by
 unfold swapI
 have h1 : (p ++ x :: y :: s).getD p.length 0 = x := by rw [List.getD_eq_getElem?_getD, List.getElem?_append_right (by omega)]; simp
 have h2 : (p ++ x :: y :: s).getD (p.length + 1) 0 = y := by rw [List.getD_eq_getElem?_getD, List.getElem?_append_right (by omega)]; simp
 rw [h1, h2, List.set_append_right _ _ (by omega), List.set_append_right _ _ (by omega)]
 simp
theorem at_mid (p s : List Int) (x : Int) : (p ++ x :: s)[p.length]? = some x := by rw [List.getElem?_append_right (by omega)]; simp
variable {ok : Int -> Prop} {R : Int -> Int -> Bool}
theorem f123 {g : FuncId} {caps : List DV} {cm : Int -> Int -> Int} (hg : CmpFn g caps ok cm) (hR : OrdR ok (ltOf cm) R) (p x s : List Int) (hl : (p ++ (x ++ s)).length <= 1000000) (ho : ∀ y ∈ x, ok y) (hnd : x.Nodup)
  (hc : x.Pairwise fun a b => ltOf cm b a = false -> R a b = true) :
  ImplM Tryz.prog 123 (.ow 1 ((p ++ (x ++ s)).map encN)) [.one (.int .i64 p.length), .one (.int .i64 (p.length + x.length : Nat)), .one (.fn g caps)] (.ow 1 ((p ++ (isort R x ++ s)).map encN)) := by
 refine implM_intro z123.f z123.b rfl z123.r z123.n z123.t z123.d (shape_ints (by simp [isort_len])) (closed_ints _) (by simp) (by simp) fun v0 => ?_
 simp only [slotsOf]
 conv => arg 2; reduce
 obtain ⟨a, ha⟩ : ∃ a, a = p.length := ⟨_, rfl⟩
 obtain ⟨b, hb⟩ : ∃ b, b = p.length + x.length := ⟨_, rfl⟩
 rw [<- hb, <- ha]
 obtain ⟨L, hL⟩ : ∃ L, L = p ++ (x ++ s) := ⟨_, rfl⟩
 obtain ⟨Y, hY⟩ : ∃ Y, Y = p ++ (isort R x ++ s) := ⟨_, rfl⟩
 rw [<- hL, <- hY]
 have hlen : L.length = p.length + (x.length + s.length) := by rw [hL]; simp
 simp only [List.length_append] at hl
 have htk : L = p ++ (isort R (x.take 1) ++ (x.drop 1 ++ s)) := by rw [hL]; cases x <;> simp [isort, insR]
 refine wN ?_
 refine z_k (fun q e => ∃ (i : Nat) (x1 x2 D : List Int), (x = [] /\ x1 = [] /\ x2 = [] /\ i = a + 1 \/ x1 ≠ [] /\ i = a + x1.length) /\ x = x1 ++ x2 /\ q = x2.length /\ D = p ++ (isort R x1 ++ (x2 ++ s)) /\ e = [(8, .sv (.one (.int .i64 i))), (1000000, .eqv 0 v0), (0, .sv (.one (.ow 1 (D.map encN)))), (1, .sv (.one (.int .i64 a))), (2, .sv (.one (.int .i64 b))), (3, .sv (.one (.fn g caps)))]) (x.length - 1) _
  ⟨a + 1, x.take 1, x.drop 1, L, by cases x <;> simp, (List.take_append_drop _ _).symm, by simp, htk, rfl⟩ (by simp [go_sem]) ?_
 rintro q e ⟨i, x1, x2, D, hi, hx, hq, hD, rfl⟩
 by_cases hlt : i < b
 ·obtain ⟨hne, hi⟩ : x1 ≠ [] /\ i = a + x1.length := by
   rcases hi with ⟨h0, _, _, hi⟩ | hi
   ·rw [h0] at hb; simp at hb; omega
   ·exact hi
  obtain ⟨e, x3, rfl⟩ : ∃ e x3, x2 = e :: x3 := by
   cases x2 with
   | nil => rw [hx] at hb; simp at hb; omega
   | cons e x3 => exact ⟨e, x3, rfl⟩
  have hoe : ok e := ho e (by rw [hx]; simp)
  have ho1 : ∀ y ∈ x1, ok y := fun y hy => ho y (by rw [hx]; simp [hy])
  have hc' := hc
  rw [hx, List.pairwise_append] at hc'
  have hce : ∀ y ∈ x1, ltOf cm e y = false -> R y e = true := fun y hy => hc'.2.2 y hy e (by simp)
  have hnd' := hnd
  rw [hx, List.nodup_append] at hnd'
  have hs1 : Srt R (isort R x1) := isort_srt hR ho1 hnd'.1
  have hxl : x.length = x1.length + (x3.length + 1) := by rw [hx]; simp
  refine wX hlt ?_
  refine z_k (fun q e' => ∃ (s1 s2 D' : List Int), s1 ++ s2 = isort R x1 /\ (∀ y ∈ s2, R e y = true) /\ q = s1.length /\ D' = p ++ (s1 ++ (e :: (s2 ++ (x3 ++ s)))) /\ e' = [(9, .sv (.one (.int .i64 (a + s1.length : Nat)))), (8, .sv (.one (.int .i64 i))), (1000000, .eqv 0 v0), (0, .sv (.one (.ow 1 (D'.map encN)))), (1, .sv (.one (.int .i64 a))), (2, .sv (.one (.int .i64 b))), (3, .sv (.one (.fn g caps)))]) x1.length _ ⟨isort R x1, [], D, by simp, by simp, by simp [isort_len], by rw [hD]; simp, rfl⟩ (by simp [go_sem, isort_len]; omega) ?_
  rintro q' e' ⟨s1, s2, D', hs12, hs2, hq', hD', rfl⟩
  have hsl : s1.length + s2.length = x1.length := by rw [<- List.length_append, hs12, isort_len]
  have hDl : D'.length = L.length := by rw [hD', hlen]; simp; omega
  have hfin : (∀ y ∈ s1, R y e = true) -> D' = p ++ (isort R (x1 ++ [e]) ++ (x3 ++ s)) := by
   intro hy
   have hperm : (s1 ++ e :: s2).Perm (x1 ++ [e]) := by
    have h1 : (s1 ++ s2).Perm x1 := hs12 ▸ isort_perm x1
    exact List.perm_middle.trans ((h1.cons e).trans (List.perm_append_singleton e x1).symm)
   rw [isort_mid hR (fun y hy => ?_) hperm (by rw [hs12]; exact hs1) hy hs2, hD']
   ·simp
   ·rcases List.mem_append.1 hy with hy | hy
    ·exact ho1 y hy
    ·rw [List.mem_singleton.1 hy]; exact hoe
  have hxe : x = (x1 ++ [e]) ++ x3 := by rw [hx]; simp
  rcases List.eq_nil_or_concat s1 with hnil | ⟨s1', y, hs1e⟩
  ·subst hnil
   have hj : ¬ a < a + ([] : List Int).length := by simp
   simp only [List.length_nil, Nat.add_zero]
   have hD2 := hfin (by simp)
   have g1 : D'[a]? = some e := by rw [hD', ha]; exact at_mid _ _ _
   have hal : a < D'.length := (List.getElem?_eq_some_iff.1 g1).1
   obtain ⟨z, g2⟩ : ∃ z, D'[a - 1]? = some z := ⟨_, List.getElem?_eq_getElem (by omega)⟩
   refine wV (aN g1 <| aN g2 encN.eq_1) @trivial ?_
   refine z_j x3.length _ (by rw [hq]; simp) ⟨i + 1, x1 ++ [e], x3, D', .inr ⟨by simp, by simp; omega⟩, hxe, rfl, hD2, rfl⟩ ?_
   simp [go_sem]
  ·have hs1e : s1 = s1' ++ [y] := by simpa using hs1e
   subst hs1e
   have hym : y ∈ x1 := isort_mem.1 (by rw [<- hs12]; simp)
   have hoy := ho1 y hym
   obtain ⟨j, hj⟩ : ∃ j, j = a + s1'.length := ⟨_, rfl⟩
   have hj1 : a + (s1' ++ [y]).length = j + 1 := by simp; omega
   rw [hj1]
   have hDs : D' = (p ++ s1') ++ y :: e :: (s2 ++ (x3 ++ s)) := by rw [hD']; simp
   have hpl : (p ++ s1').length = j := by simp; omega
   have g1 : D'[j]? = some y := by rw [hDs, <- hpl]; exact at_mid _ _ _
   have g2 : D'[j + 1]? = some e := by
    rw [hDs, <- hpl, List.getElem?_append_right (by omega)]
    simp
   have hjl : j + 1 < D'.length := (List.getElem?_eq_some_iff.1 g2).1
   have k1 := hg.call e y hoe hoy
   simp only [List.length_append, List.length_singleton] at hsl
   by_cases hcm : cm e y < 0
   ·obtain ⟨u, v, v', D1, m1, m2, m3, m4, m5, m6⟩ := swap_facts D' (j + 1) j hjl (by omega)
    have hsw := swapI_back (p ++ s1') (s2 ++ (x3 ++ s)) y e
    rw [hpl, <- hDs] at hsw
    obtain ⟨D2, hD2⟩ : ∃ D2, D2 = swapI D' (j + 1) j := ⟨_, rfl⟩
    rw [<- hD2] at m6 hsw
    rw [g2] at m1
    rw [g1] at m2
    injection m1 with m1
    injection m2 with m2
    subst m1 m2
    have c1 : ((j : Int) + 1).toNat = j + 1 := by omega
    have hja : (a : Int) < (j : Int) + 1 := by omega
    refine wV (aN hja <| aN g1 <| aN g2 <| aN hcm <| aN hDl <| aN m3 <| aN m4 <| aN m5 <| aN m6 <| aN encN.eq_1 c1) k1 ?_
    have hRe : R e y = true := hR.sub e y hoe hoy (by simp [ltOf, hcm])
    refine z_j s1'.length _ (by rw [hq']; simp) ⟨s1', y :: s2, D2, by rw [<- hs12]; simp, fun z hz => ?_, rfl, by rw [hsw]; simp, rfl⟩ ?_
    ·rcases List.mem_cons.1 hz with rfl | hz
     ·exact hRe
     ·exact hs2 z hz
    ·simp [go_sem, hj]
   ·have hy : ∀ z ∈ s1' ++ [y], R z e = true := by
     have hye := hce y hym (by simp [ltOf, hcm])
     intro z hz
     rcases List.mem_append.1 hz with hz | hz
     ·have hzy : R z y = true := by
       rw [<- hs12] at hs1
       exact (srt_append.1 (srt_append.1 hs1).1).2.2 z hz y (by simp)
      exact hR.trans z y e (ho1 z (isort_mem.1 (by rw [<- hs12]; simp [hz]))) hoy hoe hzy hye
     ·rw [List.mem_singleton.1 hz]; exact hye
    have hD2 := hfin hy
    have c1 : ((j : Int) + 1).toNat = j + 1 := by omega
    have hja : (a : Int) < (j : Int) + 1 := by omega
    refine wV (aN hja <| aN g1 <| aN g2 <| aN hcm <| aN hDl <| aN encN.eq_1 c1) k1 ?_
    refine z_j x3.length _ (by rw [hq]; simp) ⟨i + 1, x1 ++ [e], x3, D', .inr ⟨by simp, by simp; omega⟩, hxe, rfl, hD2, rfl⟩ ?_
    simp [go_sem]
 ·have hx2 : x2 = [] := by
   rcases hi with ⟨_, _, h, _⟩ | ⟨_, h⟩
   ·exact h
   ·rw [hx, List.length_append] at hb
    exact List.eq_nil_of_length_eq_zero (by omega)
  subst hx2
  simp only [List.append_nil] at hx
  subst hx
  have : D = Y := by rw [hD, hY]; simp
  subst this
  refine wX hlt ?_
  simp [go_sem, endsM]
end Go.Av
namespace Go.Av
open Go Go.RowKit Go.Proofs
variable {ok : Int -> Prop} {lt R : Int -> Int -> Bool}
theorem merge_split (h : OrdR ok lt R) {x1 x2 y1 y2 : List Int} (ho : ∀ z ∈ x1 ++ x2 ++ (y1 ++ y2), ok z) (hn : (x1 ++ x2 ++ (y1 ++ y2)).Nodup) (hab : ∀ u ∈ x1 ++ y1, ∀ v ∈ x2 ++ y2, R u v = true) :
  isort R (x1 ++ x2 ++ (y1 ++ y2)) = isort R (x1 ++ y1) ++ isort R (x2 ++ y2) := by
 refine isort_split h ho hn ?_ hab
 have e1 : (x1 ++ y1 ++ (x2 ++ y2)) = x1 ++ (y1 ++ x2) ++ y2 := by simp
 have e2 : (x1 ++ x2 ++ (y1 ++ y2)) = x1 ++ (x2 ++ y1) ++ y2 := by simp
 rw [e1, e2]
 exact ((List.perm_append_comm (l₁ := y1) (l₂ := x2)).append_left x1).append_right y2
theorem srt_before (h : OrdR ok lt R) {x : List Int} (ho : ∀ z ∈ x, ok z) (hs : Srt R x) {e : Int} (he : ok e) {i : Nat} (hi : i < x.length) (hx : R x[i] e = true) : ∀ z ∈ x.take (i + 1), R z e = true := by
 intro z hz
 obtain ⟨k, hk, rfl⟩ := List.mem_iff_getElem.1 hz
 rw [List.getElem_take]
 rw [List.length_take] at hk
 by_cases e1 : k = i
 ·subst e1; exact hx
 ·exact h.trans _ _ _ (ho _ (List.getElem_mem _)) (ho _ (List.getElem_mem _)) he (List.pairwise_iff_getElem.1 hs k i (by omega) hi (by omega)) hx
theorem srt_behind (h : OrdR ok lt R) {x : List Int} (ho : ∀ z ∈ x, ok z) (hs : Srt R x) {e : Int} (he : ok e) {i : Nat} (hi : i < x.length) (hx : R e x[i] = true) : ∀ z ∈ x.drop i, R e z = true := by
 intro z hz
 obtain ⟨k, hk, rfl⟩ := List.mem_iff_getElem.1 hz
 rw [List.getElem_drop]
 rw [List.length_drop] at hk
 by_cases e1 : k = 0
 ·subst e1; exact hx
 ·exact h.trans _ _ _ he (ho _ (List.getElem_mem _)) (ho _ (List.getElem_mem _)) hx (List.pairwise_iff_getElem.1 hs i (i + k) hi (by omega) (by omega))
theorem u64_small {x : Int} (h0 : 0 <= x) (h : x <= 4000000) : IntKind.u64.wrap x = x := by
 unfold IntKind.wrap
 simp only [IntKind.bits, IntKind.signed, Bool.false_and, Bool.false_eq_true, if_false]
 omega
theorem fdiv_two (n : Nat) : (n : Int).fdiv 2 = ((n / 2 : Nat) : Int) := by
 rw [Int.fdiv_eq_ediv_of_nonneg _ (by decide)]
 omega
end Go.Av
namespace Go.Av
open Go Go.RowKit Go.Proofs
set_option maxHeartbeats 64000000
variable {ok : Int -> Prop} {R : Int -> Int -> Bool}
abbrev SymM (g : FuncId) (caps : List DV) (ok : Int -> Prop) (cm : Int -> Int -> Int) (R : Int -> Int -> Bool) (p x y s : List Int) : Prop :=
 x ≠ [] -> y ≠ [] -> (p ++ (x ++ (y ++ s))).length <= 1000000 -> (∀ z ∈ x, ok z) -> (∀ z ∈ y, ok z) -> (x ++ y).Nodup -> Srt R x -> Srt R y -> Crs (ltOf cm) R x y ->
  ImplM Tryz.prog 124 (.ow 1 ((p ++ (x ++ (y ++ s))).map encN)) [.one (.int .i64 p.length), .one (.int .i64 (p.length + x.length : Nat)), .one (.int .i64 (p.length + x.length + y.length : Nat)), .one (.fn g caps)] (.ow 1 ((p ++ (isort R (x ++ y) ++ s)).map encN))
theorem sym_left {g : FuncId} {caps : List DV} {cm : Int -> Int -> Int} (hg : CmpFn g caps ok cm) (hR : OrdR ok (ltOf cm) R) (p y s : List Int) (e : Int) : SymM g caps ok cm R p [e] y s := by
 intro hx hy hl hox hoy hnd hsx hsy hcr
 refine implM_intro z124.f z124.b rfl z124.r z124.n z124.t z124.d (shape_ints (by simp [isort_len]; omega)) (closed_ints _) (by simp) (by simp) fun v0 => ?_
 simp only [slotsOf]
 conv => arg 2; reduce
 obtain ⟨a, ha⟩ : ∃ a, a = p.length := ⟨_, rfl⟩
 obtain ⟨b, hb⟩ : ∃ b, b = p.length + [e].length + y.length := ⟨_, rfl⟩
 rw [<- hb, <- ha]
 simp only [List.length_singleton]
 obtain ⟨L, hL⟩ : ∃ L, L = p ++ ([e] ++ (y ++ s)) := ⟨_, rfl⟩
 obtain ⟨Y, hY⟩ : ∃ Y, Y = p ++ (isort R ([e] ++ y) ++ s) := ⟨_, rfl⟩
 rw [<- hL, <- hY]
 have hlen : L.length = p.length + (1 + (y.length + s.length)) := by rw [hL]; simp; omega
 rw [<- hL] at hl
 have hoe : ok e := hox e (by simp)
 have hae : L[a]? = some e := by rw [hL, ha]; exact at_mid _ _ _
 simp only [List.length_singleton] at hb
 refine wN ?_
 refine z_k (fun q e' => ∃ (i j : Nat), i <= j /\ j <= y.length /\ q = j - i /\ (∀ z ∈ y.take i, R z e = true) /\ (∀ z ∈ y.drop j, R e z = true) /\ e' = [(11, .sv (.one (.int .i64 (a + 1 + j : Nat)))), (10, .sv (.one (.int .i64 (a + 1 + i : Nat)))), (1000000, .eqv 0 v0), (0, .sv (.one (.ow 1 (L.map encN)))), (1, .sv (.one (.int .i64 a))), (4, .sv (.one (.fn g caps)))]) y.length _ ⟨0, y.length, by omega, by omega, rfl, by simp, by simp, rfl⟩ (by simp [go_sem]; omega) ?_
 rintro q e' ⟨i, j, hij, hj, hq, h1, h2, rfl⟩
 by_cases hlt : i < j
 ·obtain ⟨md, hh⟩ : ∃ md, md = (i + j) / 2 := ⟨_, rfl⟩
  have hhy : md < y.length := by omega
  obtain ⟨v, hv⟩ : ∃ v, v = y[md] := ⟨_, rfl⟩
  have hov : ok v := by rw [hv]; exact hoy _ (List.getElem_mem _)
  have g1 : L[a + 1 + md]? = some v := by
   rw [hL, ha, List.getElem?_append_right (by omega), show p.length + 1 + md - p.length = md + 1 by omega, List.singleton_append, List.getElem?_cons_succ, List.getElem?_append_left hhy, List.getElem?_eq_getElem hhy, hv]
  have k1 := hg.call v e hov hoe
  have e1 : (((a + 1 + i : Nat) : Int) + ((a + 1 + j : Nat) : Int)) = ((2 * (a + 1) + (i + j) : Nat) : Int) := by omega
  have e2 := u64_small (x := ((2 * (a + 1) + (i + j) : Nat) : Int)) (by omega) (by omega)
  have e3 := fdiv_two (2 * (a + 1) + (i + j))
  have e4 : (2 * (a + 1) + (i + j)) / 2 = a + 1 + md := by omega
  rw [e4] at e3
  have e5 := u64_small (x := ((a + 1 + md : Nat) : Int)) (by omega) (by omega)
  obtain ⟨I, hI⟩ : ∃ I, I = a + 1 + i := ⟨_, rfl⟩
  obtain ⟨J, hJ⟩ : ∃ J, J = a + 1 + j := ⟨_, rfl⟩
  obtain ⟨H, hH⟩ : ∃ H, H = a + 1 + md := ⟨_, rfl⟩
  obtain ⟨T, hT⟩ : ∃ T, T = 2 * (a + 1) + (i + j) := ⟨_, rfl⟩
  rw [<- hI, <- hJ, <- hT] at e1
  rw [<- hT] at e2 e3
  rw [<- hH] at e3 e5 g1
  rw [<- hI, <- hJ]
  have hIJ : I < J := by omega
  have hHl : H < L.length := by omega
  by_cases hcm : cm v e < 0
  ·refine wV (aN hIJ <| aN e1 <| aN e2 <| aN e3 <| aN e5 <| aN g1 <| aN hae <| aN hcm encN.eq_1) k1 ?_
   have hve : R v e = true := hR.sub v e hov hoe (by simp [ltOf, hcm])
   refine z_j (j - (md + 1)) _ (by omega) ⟨md + 1, j, by omega, hj, rfl, srt_before hR hoy hsy hoe hhy (hv ▸ hve), h2, rfl⟩ ?_
   simp [go_sem, hH, hJ]
   omega
  ·have hev : R e v = true := hcr e (by simp) v (by rw [hv]; exact List.getElem_mem _) (by simp [ltOf, hcm])
   refine wV (aN hIJ <| aN e1 <| aN e2 <| aN e3 <| aN e5 <| aN g1 <| aN hae <| aN hcm encN.eq_1) k1 ?_
   refine z_j (md - i) _ (by omega) ⟨i, md, by omega, by omega, rfl, h1, srt_behind hR hoy hsy hoe hhy (hv ▸ hev), rfl⟩ ?_
   simp [go_sem, hH, hI]
 ·have hij : i = j := by omega
  subst hij
  have hfin : isort R ([e] ++ y) = y.take i ++ e :: y.drop i := by
   refine isort_mid hR (fun z hz => ?_) ?_ ?_ h1 h2
   ·rcases List.mem_append.1 hz with hz | hz
    ·exact hox z hz
    ·exact hoy z hz
   ·refine List.perm_middle.trans ?_
    rw [List.take_append_drop]
    exact .refl _
   ·rw [List.take_append_drop]; exact hsy
  refine wN ?_
  refine z_k (fun q e' => ∃ (t : Nat) (D : List Int), t <= i /\ q = i - t /\ D = p ++ (y.take t ++ (e :: (y.drop t ++ s))) /\ e' = [(13, .sv (.one (.int .i64 (a + t : Nat)))), (10, .sv (.one (.int .i64 (a + 1 + i : Nat)))), (1000000, .eqv 0 v0), (0, .sv (.one (.ow 1 (D.map encN))))]) i _ ⟨0, L, by omega, rfl, by rw [hL]; simp, rfl⟩ (by simp [go_sem]) ?_
  rintro q e' ⟨t, D, ht, hq, hD, rfl⟩
  by_cases hlt2 : t < i
  ·obtain ⟨v, hv⟩ : ∃ v, v = y[t] := ⟨_, rfl⟩
   have hdr : y.drop t = v :: y.drop (t + 1) := by rw [hv]; exact List.drop_eq_getElem_cons _
   have htk : y.take (t + 1) = y.take t ++ [v] := by rw [hv]; exact List.take_succ_eq_append_getElem _
   have hDs : D = (p ++ y.take t) ++ e :: v :: (y.drop (t + 1) ++ s) := by
    rw [hD, hdr]
    simp
   have hpl : (p ++ y.take t).length = a + t := by rw [List.length_append, List.length_take, ha]; omega
   have hDl : D.length = L.length := by rw [hD, hlen]; simp; omega
   have g1 : D[a + t]? = some e := by rw [hDs, <- hpl]; exact at_mid _ _ _
   have g2 : D[a + t + 1]? = some v := by
    rw [hDs, <- hpl, List.getElem?_append_right (by omega)]
    simp
   obtain ⟨u, w, v', D1, m1, m2, m3, m4, m5, m6⟩ := swap_facts D (a + t) (a + t + 1) (by omega) (by omega)
   have hsw := swapI_mid (p ++ y.take t) [] (y.drop (t + 1) ++ s) e v
   simp only [List.length_nil, Nat.add_zero, List.nil_append] at hsw
   rw [hpl, <- hDs] at hsw
   obtain ⟨D2, hD2⟩ : ∃ D2, D2 = swapI D (a + t) (a + t + 1) := ⟨_, rfl⟩
   rw [<- hD2] at m6 hsw
   rw [g1] at m1
   rw [g2] at m2
   injection m1 with m1
   injection m2 with m2
   subst m1 m2
   obtain ⟨K, hK⟩ : ∃ K, K = a + t := ⟨_, rfl⟩
   rw [<- hK] at g1 g2 m3 m5 m6 ⊢
   have c1 : ((K : Int) + 1).toNat = K + 1 := by omega
   have hK2 : (K : Int) < ((a + 1 + i : Nat) : Int) - 1 := by omega
   obtain ⟨I, hI⟩ : ∃ I, I = a + 1 + i := ⟨_, rfl⟩
   rw [<- hI] at hK2 ⊢
   have hDl2 : K + 1 < D.length := by omega
   have hDl3 : K < D.length := by omega
   refine wX (aN hK2 <| aN g1 <| aN g2 <| aN m3 <| aN m4 <| aN m5 <| aN m6 <| aN encN.eq_1 c1) ?_
   refine z_j (i - (t + 1)) _ (by omega) ⟨t + 1, D2, by omega, rfl, ?_, rfl⟩ ?_
   ·rw [hsw, htk]
    simp
   ·simp [go_sem, encN, m5, m6]
    omega
  ·have hti : t = i := by omega
   subst hti
   have hDY : D = Y := by rw [hD, hY, hfin]; simp
   subst hDY
   refine wN ?_
   simp [go_sem, endsM]
end Go.Av

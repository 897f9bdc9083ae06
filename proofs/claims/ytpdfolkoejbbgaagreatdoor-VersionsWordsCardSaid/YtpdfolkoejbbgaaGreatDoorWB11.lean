/- Part of a proof. -/
import Derived.Test.YtpdfolkoejbbgaaGreatDoorWB08
import Derived.Test.YtpdfolkoejbbgaaGreatDoorWB10
import Derived.Test.YtpdfolkoejbbgaaGreatDoorWB00
import Derived.Test.YtpdfolkoejbbgaaGreatDoorWB01
import Derived.Test.YtpdfolkoejbbgaaGreatDoorWB03
import Derived.Test.YtpdfolkoejbbgaaGreatDoorWB06
set_option linter.unusedVariables false
set_option linter.unusedSimpArgs false
set_option maxHeartbeats 64000000
set_option maxRecDepth 8000
namespace Go.Av
open Go Go.RowKit Go.Proofs
variable {ok : Int -> Prop} {lt R : Int -> Int -> Bool}
def chunkS (R : Int -> Int -> Bool) : Nat -> Nat -> List Int -> List Int
 | 0, _, l => isort R l
 | n + 1, k, l => if l.length <= k then isort R l else isort R (l.take k) ++ chunkS R n k (l.drop k)
theorem chunkS_fuel {k : Nat} (hk : 0 < k) : ∀ (n n' : Nat) (l : List Int), l.length <= n -> l.length <= n' -> chunkS R n k l = chunkS R n' k l
 | 0, 0, l, _, _ => rfl
 | 0, n' + 1, l, h, _ => by rw [chunkS, chunkS, if_pos (by omega)]
 | n + 1, 0, l, _, h => by rw [chunkS, chunkS, if_pos (by omega)]
 | n + 1, n' + 1, l, h, h' => by
   rw [chunkS, chunkS]
   split
   ·rfl
   ·rw [chunkS_fuel hk n n' (l.drop k) (by rw [List.length_drop]; omega) (by rw [List.length_drop]; omega)]
def chunks (R : Int -> Int -> Bool) (k : Nat) (l : List Int) : List Int := chunkS R l.length k l
theorem chunks_small {k : Nat} {l : List Int} (h : l.length <= k) : chunks R k l = isort R l := by
 unfold chunks
 cases hl : l.length with
 | zero => rfl
 | succ n => rw [chunkS, if_pos h]
theorem chunks_cons {k : Nat} (hk : 0 < k) {c l : List Int} (hc : c.length = k) : chunks R k (c ++ l) = isort R c ++ chunks R k l := by
 unfold chunks
 obtain ⟨n, hn⟩ : ∃ n, (c ++ l).length = n + 1 := ⟨(c ++ l).length - 1, by rw [List.length_append]; omega⟩
 rw [hn, chunkS]
 rw [List.length_append] at hn
 have e1 : (c ++ l).take k = c := List.take_left' hc
 have e2 : (c ++ l).drop k = l := List.drop_left' hc
 split
 ·rename_i h
  rw [List.length_append] at h
  have h0 : l = [] := List.eq_nil_of_length_eq_zero (by omega)
  subst h0
  simp [chunkS, isort]
 ·rw [e1, e2, chunkS_fuel hk n l.length l (by omega) (by omega)]
theorem chunks_len {k : Nat} : ∀ (n : Nat) (l : List Int), (chunkS R n k l).length = l.length
 | 0, l => isort_len l
 | n + 1, l => by
   rw [chunkS]
   split
   ·exact isort_len l
   ·rw [List.length_append, isort_len, chunks_len n, List.length_take, List.length_drop]
    omega
theorem chunks_length {k : Nat} (l : List Int) : (chunks R k l).length = l.length := chunks_len _ _
theorem isort_two (h : OrdR ok lt R) {c d : List Int} (ho : ∀ z ∈ c ++ d, ok z) (hn : (c ++ d).Nodup) : isort R (isort R c ++ isort R d) = isort R (c ++ d) :=
 isort_congr h ho hn ((isort_perm c).append (isort_perm d))
end Go.Av
namespace Go.Av
open Go Go.RowKit Go.Proofs
variable {ok : Int -> Prop} {R : Int -> Int -> Bool}
theorem f103 {g : FuncId} {caps : List DV} {cm : Int -> Int -> Int} (hg : CmpFn g caps ok cm) (hR : OrdR ok (ltOf cm) R) (l : List Int) (hl : l.length <= 100000) (ho : ∀ y ∈ l, ok y) (hnd : l.Nodup)
  (hc : l.Pairwise fun a b => ltOf cm b a = false -> R a b = true) :
  ImplM Tryz.prog 103 (.ow 1 (l.map encN)) [.one (.int .i64 l.length), .one (.fn g caps)] (.ow 1 ((isort R l).map encN)) := by
 refine implM_intro Tryz.func103 z103.b rfl z103.r z103.n Tryz.ntmps103 z103.d (shape_ints (isort_len _)) (closed_ints _) (by simp) (by simp) fun v0 => ?_
 simp only [slotsOf]
 conv => arg 2; reduce
 obtain ⟨n, hn⟩ : ∃ n, n = l.length := ⟨_, rfl⟩
 obtain ⟨Y, hY⟩ : ∃ Y, Y = isort R l := ⟨_, rfl⟩
 rw [<- hn, <- hY]
 have hcd : ∀ {a : Nat} {u v : List Int}, l.drop a = u ++ v -> (∀ z ∈ u, ok z) /\ (∀ z ∈ v, ok z) /\ (u ++ v).Nodup /\ (u ++ v).Pairwise (fun a b => ltOf cm b a = false -> R a b = true) := by
  intro a u v h
  have h1 : ∀ z ∈ l.drop a, ok z := fun z hz => ho z (List.mem_of_mem_drop hz)
  rw [h] at h1
  exact ⟨fun z hz => h1 z (by simp [hz]), fun z hz => h1 z (by simp [hz]), h ▸ hnd.sublist (List.drop_sublist a l), h ▸ hc.sublist (List.drop_sublist a l)⟩
 repeat' first | refine St.go ?_ | ((with_reducible refine cn ?_ ?_) <;> intro h <;> (try simp at h) <;> try omega) | (refine Ru.go ?_; intro K hK; simp [go_sem]; (try simp (disch := omega) only [wx, z_i]); (first | apply hK | refine ⟨ob, ?_⟩ | refine ⟨hK _ ?_, fun h => ?_⟩ | refine ⟨?_, ?_⟩); all_goals ((try apply hK); clear hK K))
 refine z_k (fun q e => ∃ (a : Nat) (P D : List Int), a <= n /\ P.length = a /\ q = n - a /\ D = P ++ l.drop a /\ P ++ chunks R 20 (l.drop a) = chunks R 20 l /\
  e = [(8, .sv (.one (.int .i64 (a + 20 : Nat)))), (7, .sv (.one (.int .i64 a))), (6, .sv (.one (.int .i64 20))), (1000000, .eqv 0 v0), (0, .sv (.one (.ow 1 (D.map encN)))), (1, .sv (.one (.int .i64 n))), (2, .sv (.one (.fn g caps)))]) n _ ⟨0, [], l, by omega, rfl, rfl, by simp, by simp, rfl⟩ (by simp [go_sem]) ?_
 rintro q e ⟨a, P, D, ha, hP, hq, hD, hch, rfl⟩
 by_cases hlt : a + 20 <= n
 ·obtain ⟨c, hcc⟩ : ∃ c, c = (l.drop a).take 20 := ⟨_, rfl⟩
  have hdr : l.drop a = c ++ l.drop (a + 20) := by rw [hcc, <- List.drop_drop, List.take_append_drop]
  have hcl : c.length = 20 := by rw [hcc, List.length_take, List.length_drop]; omega
  obtain ⟨o1, o2, o3, o4⟩ := hcd hdr
  have k1 := f119 hg hR P c (l.drop (a + 20)) (by rw [<- hdr, List.length_append, List.length_drop]; omega) o1 (List.nodup_append.1 o3).1 (List.pairwise_append.1 o4).1
  obtain ⟨D2, hD2⟩ : ∃ D2, D2 = P ++ (isort R c ++ l.drop (a + 20)) := ⟨_, rfl⟩
  rw [<- hdr, <- hD, hP, hcl, <- hD2] at k1
  have hlt' : ((a + 20 : Nat) : Int) <= (n : Int) := by omega
  obtain ⟨b, hb⟩ : ∃ b, b = a + 20 := ⟨_, rfl⟩
  rw [<- hb] at k1 hlt' ⊢
  repeat' first | refine St.go ?_ | ((with_reducible refine cn ?_ ?_) <;> intro h <;> (try simp [hlt'] at h) <;> try omega) | (refine Ru.go ?_; intro K hK; simp [go_sem, hlt']; (try simp (disch := omega) only [wx, z_i]); (first | apply hK | ((first | ((try refine .inl ?_); refine ⟨_, by (try intro hc); (repeat' first | exact k1 | exact hc | refine And.intro ?_ ?_ | simp [go_sem, hlt']); first | done | omega, ?_⟩) | refine .inr (.inl ⟨_, by (try intro hc); (repeat' first | exact k1 | exact hc | refine And.intro ?_ ?_ | simp [go_sem, hlt']); first | done | omega, ?_⟩) | refine .inr (.inr ⟨_, by (try intro hc); (repeat' first | exact k1 | exact hc | refine And.intro ?_ ?_ | simp [go_sem, hlt']); first | done | omega, ?_⟩)); first | apply hK | (refine ⟨by simp [go_sem, hlt'], ?_⟩; first | apply hK | refine ⟨by simp [go_sem, hlt'], hK _ _ ?_⟩)) | refine ⟨ob, ?_⟩ | refine ⟨hK _ ?_, fun h => ?_⟩ | refine ⟨?_, ?_⟩); all_goals ((try apply hK); clear hK K))
  refine z_j (n - b) _ (by omega) ⟨b, P ++ isort R c, D2, by omega, by simp [isort_len]; omega, rfl, by rw [hD2, hb]; simp, by rw [<- hch, hdr, chunks_cons (by omega) hcl, hb]; simp, rfl⟩ ?_
  simp [go_sem]
 ·obtain ⟨o1, o2, o3, o4⟩ := hcd (show l.drop a = l.drop a ++ [] by simp)
  simp only [List.append_nil] at o3 o4
  have k1 := f119 hg hR P (l.drop a) [] (by rw [List.append_nil, List.length_append, List.length_drop]; omega) o1 o3 o4
  have hd1 : P ++ isort R (l.drop a) = chunks R 20 l := by rw [<- hch, chunks_small (by rw [List.length_drop]; omega)]
  obtain ⟨D2, hD2⟩ : ∃ D2, D2 = chunks R 20 l := ⟨_, rfl⟩
  rw [List.append_nil, List.append_nil, <- hD, hP, hd1, <- hD2, show a + (l.drop a).length = n by rw [List.length_drop]; omega] at k1
  have hlt' : ¬ ((a + 20 : Nat) : Int) <= (n : Int) := by omega
  obtain ⟨b, hb⟩ : ∃ b, b = a + 20 := ⟨_, rfl⟩
  rw [<- hb] at hlt' ⊢
  repeat' first | refine St.go ?_ | ((with_reducible refine cn ?_ ?_) <;> intro h <;> (try simp [hlt'] at h) <;> try omega) | (refine Ru.go ?_; intro K hK; simp [go_sem, hlt']; (try simp (disch := omega) only [wx, z_i]); (first | apply hK | ((first | ((try refine .inl ?_); refine ⟨_, by (try intro hc); (repeat' first | exact k1 | exact hc | refine And.intro ?_ ?_ | simp [go_sem, hlt']); first | done | omega, ?_⟩) | refine .inr (.inl ⟨_, by (try intro hc); (repeat' first | exact k1 | exact hc | refine And.intro ?_ ?_ | simp [go_sem, hlt']); first | done | omega, ?_⟩) | refine .inr (.inr ⟨_, by (try intro hc); (repeat' first | exact k1 | exact hc | refine And.intro ?_ ?_ | simp [go_sem, hlt']); first | done | omega, ?_⟩)); first | apply hK | (refine ⟨by simp [go_sem, hlt'], ?_⟩; first | apply hK | refine ⟨by simp [go_sem, hlt'], hK _ _ ?_⟩)) | refine ⟨ob, ?_⟩ | refine ⟨hK _ ?_, fun h => ?_⟩ | refine ⟨?_, ?_⟩); all_goals ((try apply hK); clear hK K))
  clear k1 hD hP hch hlt hlt' hb
  refine z_k (fun q e => ∃ (bs : Nat) (D : List Int), 0 < bs /\ bs <= 1000000 /\ q = n - bs /\ D = chunks R bs l /\
   e = [(6, .sv (.one (.int .i64 bs))), (1000000, .eqv 0 v0), (0, .sv (.one (.ow 1 (D.map encN)))), (1, .sv (.one (.int .i64 n))), (2, .sv (.one (.fn g caps)))]) (n - 20) _ ⟨20, D2, by omega, by omega, rfl, hD2, rfl⟩ (by simp [go_sem]) ?_
  rintro q e ⟨bs, D, hbs, hbs2, hq, hD, rfl⟩
  by_cases hlt : bs < n
  ·have h2b : (2 : Int) * (bs : Int) = ((2 * bs : Nat) : Int) := by omega
   obtain ⟨b2, hb2⟩ : ∃ b2, b2 = 2 * bs := ⟨_, rfl⟩
   rw [<- hb2] at h2b
   repeat' first | refine St.go ?_ | ((with_reducible refine cn ?_ ?_) <;> intro h <;> (try simp [hlt, h2b] at h) <;> try omega) | (refine Ru.go ?_; intro K hK; simp [go_sem, hlt, h2b]; (try simp (disch := omega) only [wx, z_i]); (first | apply hK | refine ⟨ob, ?_⟩ | refine ⟨hK _ ?_, fun h => ?_⟩ | refine ⟨?_, ?_⟩); all_goals ((try apply hK); clear hK K))
   refine z_k (fun q e => ∃ (a : Nat) (P D : List Int), a <= n /\ P.length = a /\ q = n - a /\ D = P ++ chunks R bs (l.drop a) /\ P ++ chunks R b2 (l.drop a) = chunks R b2 l /\
    e = [(8, .sv (.one (.int .i64 (a + b2 : Nat)))), (7, .sv (.one (.int .i64 a))), (6, .sv (.one (.int .i64 bs))), (1000000, .eqv 0 v0), (0, .sv (.one (.ow 1 (D.map encN)))), (1, .sv (.one (.int .i64 n))), (2, .sv (.one (.fn g caps)))]) n _ ⟨0, [], D, by omega, rfl, rfl, by rw [hD]; simp, by simp, rfl⟩ (by simp [go_sem]) ?_
   rintro q' e ⟨a, P, D', ha, hP, hq', hD', hch, rfl⟩
   have hl7 : (l.drop a).length = n - a := by rw [List.length_drop, hn]
   by_cases hlt2 : a + b2 <= n
   ·obtain ⟨c, hcc⟩ : ∃ c, c = (l.drop a).take bs := ⟨_, rfl⟩
    obtain ⟨d, hdd⟩ : ∃ d, d = (l.drop (a + bs)).take bs := ⟨_, rfl⟩
    have hdr1 : l.drop (a + bs) = d ++ l.drop (a + b2) := by rw [hdd, hb2, show a + 2 * bs = a + bs + bs by omega, <- List.drop_drop (i := bs) (j := a + bs), List.take_append_drop]
    have hdr : l.drop a = (c ++ d) ++ l.drop (a + b2) := by rw [List.append_assoc, <- hdr1, hcc, <- List.drop_drop, List.take_append_drop]
    have hcl : c.length = bs := by rw [hcc, List.length_take, List.length_drop]; omega
    have hdl : d.length = bs := by rw [hdd, List.length_take, List.length_drop]; omega
    obtain ⟨o1, o2, o3, o4⟩ := hcd hdr
    have n1 := (List.nodup_append.1 o3).1
    have p1 := (List.pairwise_append.1 o4).1
    have oc : ∀ z ∈ c, ok z := fun z hz => o1 z (by simp [hz])
    have od : ∀ z ∈ d, ok z := fun z hz => o1 z (by simp [hz])
    have hmem := List.pairwise_append.1 p1
    have hic : isort R c ≠ [] := by intro h0; rw [<- List.length_eq_zero_iff, isort_len] at h0; omega
    have hid : isort R d ≠ [] := by intro h0; rw [<- List.length_eq_zero_iff, isort_len] at h0; omega
    have hch2 : chunks R bs (l.drop a) = isort R c ++ (isort R d ++ chunks R bs (l.drop (a + b2))) := by rw [hdr, List.append_assoc, chunks_cons hbs hcl, chunks_cons hbs hdl]
    have k1 := f120 hg hR (isort R c ++ isort R d).length P (isort R c) (isort R d) (chunks R bs (l.drop (a + b2))) (by rw [List.length_append]; omega) hic hid (by rw [<- hch2, List.length_append, chunks_length, hl7]; omega) (fun z hz => oc z (isort_mem.1 hz)) (fun z hz => od z (isort_mem.1 hz)) ((((isort_perm c).append (isort_perm d)).nodup_iff).2 n1)
     (isort_srt hR oc (List.nodup_append.1 n1).1) (isort_srt hR od (List.nodup_append.1 n1).2.1) (fun u hu v hv => hmem.2.2 u (isort_mem.1 hu) v (isort_mem.1 hv))
    obtain ⟨D3, hD3⟩ : ∃ D3, D3 = P ++ (isort R (c ++ d) ++ chunks R bs (l.drop (a + b2))) := ⟨_, rfl⟩
    rw [isort_two hR o1 n1, <- hch2, <- hD', <- hD3, hP, isort_len, isort_len, hcl, hdl, show a + bs + bs = a + b2 by omega] at k1
    have hlt' : ((a + b2 : Nat) : Int) <= (n : Int) := by omega
    obtain ⟨M, hM⟩ : ∃ M, M = a + bs := ⟨_, rfl⟩
    have hab : ((a : Int) + bs) = (M : Int) := by omega
    rw [<- hM] at k1
    have hlen2 : (P ++ isort R (c ++ d)).length = a + b2 := by rw [List.length_append, isort_len, List.length_append]; omega
    have hch3 : P ++ isort R (c ++ d) ++ chunks R b2 (l.drop (a + b2)) = chunks R b2 l := by rw [<- hch, hdr, chunks_cons (by omega) (by rw [List.length_append]; omega), List.append_assoc]
    obtain ⟨b, hb⟩ : ∃ b, b = a + b2 := ⟨_, rfl⟩
    rw [<- hb] at k1 hlt' hD3 hlen2 hch3 ⊢
    have q_ := aN hlt' <| aN hab <| h2b
    repeat' first | refine St.go ?_ | ((with_reducible refine cn ?_ ?_) <;> intro h <;> (try simp [q_] at h) <;> try omega) | (refine Ru.go ?_; intro K hK; simp [go_sem, q_]; (try simp (disch := omega) only [wx, z_i]); (first | apply hK | ((first | ((try refine .inl ?_); refine ⟨_, by (try intro hc); (repeat' first | exact k1 | exact hc | refine And.intro ?_ ?_ | simp [go_sem, q_]); first | done | omega, ?_⟩) | refine .inr (.inl ⟨_, by (try intro hc); (repeat' first | exact k1 | exact hc | refine And.intro ?_ ?_ | simp [go_sem, q_]); first | done | omega, ?_⟩) | refine .inr (.inr ⟨_, by (try intro hc); (repeat' first | exact k1 | exact hc | refine And.intro ?_ ?_ | simp [go_sem, q_]); first | done | omega, ?_⟩)); first | apply hK | (refine ⟨by simp [go_sem, q_], ?_⟩; first | apply hK | refine ⟨by simp [go_sem, q_], hK _ _ ?_⟩)) | refine ⟨ob, ?_⟩ | refine ⟨hK _ ?_, fun h => ?_⟩ | refine ⟨?_, ?_⟩); all_goals ((try apply hK); clear hK K))
    all_goals try clear q_
    refine z_j (n - b) _ (by omega) ⟨b, P ++ isort R (c ++ d), D3, by omega, hlen2, rfl, by rw [hD3]; simp, hch3, rfl⟩ ?_
    simp [go_sem]
   ·have hlt' : ¬ ((a + b2 : Nat) : Int) <= (n : Int) := by omega
    obtain ⟨b, hb⟩ : ∃ b, b = a + b2 := ⟨_, rfl⟩
    obtain ⟨M, hM⟩ : ∃ M, M = a + bs := ⟨_, rfl⟩
    have hab : ((a : Int) + bs) = (M : Int) := by omega
    have hbb : ((bs : Int) * 2) = (b2 : Int) := by omega
    rw [<- hb] at hlt' ⊢
    by_cases hmn : M < n
    ·obtain ⟨c, hcc⟩ : ∃ c, c = (l.drop a).take bs := ⟨_, rfl⟩
     obtain ⟨d, hdd⟩ : ∃ d, d = l.drop M := ⟨_, rfl⟩
     have hdr : l.drop a = (c ++ d) ++ [] := by rw [List.append_nil, hdd, hM, hcc, <- List.drop_drop, List.take_append_drop]
     have hcl : c.length = bs := by rw [hcc, List.length_take, List.length_drop]; omega
     have hdl : d.length = n - M := by rw [hdd, List.length_drop, hn]
     obtain ⟨o1, o2, o3, o4⟩ := hcd hdr
     rw [List.append_nil] at o3 o4 hdr
     have oc : ∀ z ∈ c, ok z := fun z hz => o1 z (by simp [hz])
     have od : ∀ z ∈ d, ok z := fun z hz => o1 z (by simp [hz])
     have hmem := List.pairwise_append.1 o4
     have hic : isort R c ≠ [] := by intro h0; rw [<- List.length_eq_zero_iff, isort_len] at h0; omega
     have hid : isort R d ≠ [] := by intro h0; rw [<- List.length_eq_zero_iff, isort_len] at h0; omega
     have hch2 : chunks R bs (l.drop a) = isort R c ++ (isort R d ++ []) := by rw [hdr, chunks_cons hbs hcl, chunks_small (by omega), List.append_nil]
     have k1 := f120 hg hR (isort R c ++ isort R d).length P (isort R c) (isort R d) [] (by rw [List.length_append]; omega) hic hid (by rw [<- hch2, List.length_append, chunks_length, hl7]; omega) (fun z hz => oc z (isort_mem.1 hz)) (fun z hz => od z (isort_mem.1 hz)) ((((isort_perm c).append (isort_perm d)).nodup_iff).2 o3)
      (isort_srt hR oc (List.nodup_append.1 o3).1) (isort_srt hR od (List.nodup_append.1 o3).2.1) (fun u hu v hv => hmem.2.2 u (isort_mem.1 hu) v (isort_mem.1 hv))
     have hfin : P ++ (isort R (c ++ d) ++ []) = chunks R b2 l := by rw [List.append_nil, <- hch, hdr, chunks_small (by rw [List.length_append]; omega)]
     obtain ⟨D3, hD3⟩ : ∃ D3, D3 = chunks R b2 l := ⟨_, rfl⟩
     rw [isort_two hR o1 o3, <- hch2, <- hD', hfin, <- hD3, hP, isort_len, isort_len, hcl, hdl, <- hM, show M + (n - M) = n by omega] at k1
     have q_ := aN hlt' <| aN hab <| aN hmn <| hbb
     repeat' first | refine St.go ?_ | ((with_reducible refine cn ?_ ?_) <;> intro h <;> (try simp [q_] at h) <;> try omega) | (refine Ru.go ?_; intro K hK; simp [go_sem, q_]; (try simp (disch := omega) only [wx, z_i]); (first | apply hK | ((first | ((try refine .inl ?_); refine ⟨_, by (try intro hc); (repeat' first | exact k1 | exact hc | refine And.intro ?_ ?_ | simp [go_sem, q_]); first | done | omega, ?_⟩) | refine .inr (.inl ⟨_, by (try intro hc); (repeat' first | exact k1 | exact hc | refine And.intro ?_ ?_ | simp [go_sem, q_]); first | done | omega, ?_⟩) | refine .inr (.inr ⟨_, by (try intro hc); (repeat' first | exact k1 | exact hc | refine And.intro ?_ ?_ | simp [go_sem, q_]); first | done | omega, ?_⟩)); first | apply hK | (refine ⟨by simp [go_sem, q_], ?_⟩; first | apply hK | refine ⟨by simp [go_sem, q_], hK _ _ ?_⟩)) | refine ⟨ob, ?_⟩ | refine ⟨hK _ ?_, fun h => ?_⟩ | refine ⟨?_, ?_⟩); all_goals ((try apply hK); clear hK K))
     all_goals try clear q_
     refine z_j (n - b2) _ (by omega) ⟨b2, D3, by omega, by omega, rfl, hD3, rfl⟩ ?_
     simp [go_sem]
    ·have hfin : D' = chunks R b2 l := by rw [hD', <- hch, chunks_small (by omega), chunks_small (by omega)]
     have q_ := aN hlt' <| aN hab <| aN hmn <| hbb
     repeat' first | refine St.go ?_ | ((with_reducible refine cn ?_ ?_) <;> intro h <;> (try simp [q_] at h) <;> try omega) | (refine Ru.go ?_; intro K hK; simp [go_sem, q_]; (try simp (disch := omega) only [wx, z_i]); (first | apply hK | refine ⟨ob, ?_⟩ | refine ⟨hK _ ?_, fun h => ?_⟩ | refine ⟨?_, ?_⟩); all_goals ((try apply hK); clear hK K))
     all_goals try clear q_
     refine z_j (n - b2) _ (by omega) ⟨b2, D', by omega, by omega, rfl, hfin, rfl⟩ ?_
     simp [go_sem]
  ·have hDY : D = Y := by rw [hD, hY, chunks_small (by omega)]
   subst hDY
   repeat' first | refine St.go ?_ | ((with_reducible refine cn ?_ ?_) <;> intro h <;> (try simp [hlt] at h) <;> try omega) | (refine Ru.go ?_; intro K hK; simp [go_sem, hlt]; (try simp (disch := omega) only [wx, z_i]); (first | apply hK | refine ⟨ob, ?_⟩ | refine ⟨hK _ ?_, fun h => ?_⟩ | refine ⟨?_, ?_⟩); all_goals ((try apply hK); clear hK K))
   simp [go_sem, endsM]
end Go.Av
namespace Go.Av
open Go Go.RowKit Go.Proofs
def cmpI (a b : Int) : Int := if a < b then -1 else if b < a then 1 else 0
theorem f104 (a : Int) : Impl Tryz.prog 104 [.one (.int .i64 a)] (.one (.one (.bool false))) := by
 refine impl_intro Tryz.func104 z104.b rfl z104.r z104.n Tryz.ntmps104 z104.d (by simp) fun hs => ?_
 simp only [slotsOf]
 conv => arg 2; reduce
 repeat' first | refine St.go ?_ | (refine Ru.go ?_; intro K hK; simp [go_sem]; (first | apply hK | refine ⟨ob, ?_⟩ | refine ⟨hK _ ?_, fun h => ?_⟩ | refine ⟨?_, ?_⟩); all_goals ((try apply hK); clear hK K))
 simp [go_sem]
theorem f66 (a b : Int) : Impl Tryz.prog 66 [.one (.int .i64 a), .one (.int .i64 b)] (.one (.one (.int .i64 (cmpI a b)))) := by
 refine impl_w Tryz.func66 z66 Tryz.ntmps66 (by simp) ?_
 simp only [slotsOf]
 conv => arg 2; reduce
 repeat' first | refine St.go ?_ | ((with_reducible refine cn ?_ ?_) <;> intro h <;> (try simp at h) <;> try omega) | (refine Ru.go ?_; intro K hK; simp [go_sem]; (first | apply hK | ((try refine .inl ?_); refine ⟨_, by (repeat' first | exact f104 _ | refine And.intro ?_ ?_ | simp [go_sem]); first | done | omega, ?_⟩; first | apply hK | (refine ⟨by simp [go_sem], ?_⟩; apply hK)) | refine ⟨ob, ?_⟩ | refine ⟨hK _ ?_, fun h => ?_⟩ | refine ⟨?_, ?_⟩); all_goals ((try apply hK); clear hK K))
 all_goals
  simp [go_sem]
  unfold cmpI
  repeat' split
  all_goals omega
def key (x : Inter) : List Int := [x.from_, x.to, x.label]
end Go.Av
namespace Go.Av
open Go Go.RowKit Go.Proofs
def okEd (es : List Edg) (z : Int) : Prop := 0 <= z /\ z.toNat < es.length
def cmE (es : List Edg) (i k : Int) : Int := match es[i.toNat]?, es[k.toNat]? with
 | some x, some y => if cmpI x.act.to y.act.to ≠ 0 then cmpI x.act.to y.act.to else cmpI x.act.label y.act.label
 | _, _ => 0
theorem f65 (u v : Int) : Impl Tryz.prog 65 [.one (.sl [[.int .i64 u], [.int .i64 v]])] (.one (.one (.int .i64 (if u ≠ 0 then u else v)))) := by
 refine impl_w Tryz.func65 z65 Tryz.ntmps65 (by simp) ?_
 simp only [slotsOf]
 conv => arg 2; reduce
 repeat' first | refine St.go ?_ | ((with_reducible refine cn ?_ ?_) <;> intro h <;> (try simp at h) <;> try omega) | (refine Ru.go ?_; intro K hK; simp [go_sem]; (try simp (disch := omega) only [wx, z_i]); (first | apply hK | refine ⟨ob, ?_⟩ | refine ⟨hK _ ?_, fun h => ?_⟩ | refine ⟨?_, ?_⟩); all_goals ((try apply hK); clear hK K))
 refine z_k (fun q e => ∃ k : Nat, k + q = 2 /\ (1 <= k -> u = 0) /\ (2 <= k -> v = 0) /\ e = [(8, .sv (.one (.int .i64 k))), (7, .sv (.one (.int .i64 2))), (6, .sv (.one (.sl [[.int .i64 u], [.int .i64 v]]))), (3, .sv (.one (.int .i64 0)))]) 2 _ ⟨0, by omega, by omega, by omega, rfl⟩ (by simp [go_sem]) ?_
 rintro q e ⟨k, hk, h1, h2, rfl⟩
 match k, hk, h1, h2 with
 | 0, hk, _, _ =>
   by_cases hu : u = 0
   ·subst hu
    repeat' first | refine St.go ?_ | ((with_reducible refine cn ?_ ?_) <;> intro h <;> (try simp at h) <;> try omega) | (refine Ru.go ?_; intro K hK; simp [go_sem]; (try simp (disch := omega) only [wx, z_i]); (first | apply hK | refine ⟨ob, ?_⟩ | refine ⟨hK _ ?_, fun h => ?_⟩ | refine ⟨?_, ?_⟩); all_goals ((try apply hK); clear hK K))
    refine z_j 1 _ (by omega) ⟨1, by omega, by omega, by omega, rfl⟩ ?_
    simp [go_sem]
   ·skip
    repeat' first | refine St.go ?_ | ((with_reducible refine cn ?_ ?_) <;> intro h <;> (try simp [hu] at h) <;> try omega) | (refine Ru.go ?_; intro K hK; simp [go_sem, hu]; (try simp (disch := omega) only [wx, z_i]); (first | apply hK | refine ⟨ob, ?_⟩ | refine ⟨hK _ ?_, fun h => ?_⟩ | refine ⟨?_, ?_⟩); all_goals ((try apply hK); clear hK K))
    simp [go_sem, hu]
 | 1, hk, h1, _ =>
   have hu := h1 (by omega)
   subst hu
   by_cases hv : v = 0
   ·subst hv
    repeat' first | refine St.go ?_ | ((with_reducible refine cn ?_ ?_) <;> intro h <;> (try simp at h) <;> try omega) | (refine Ru.go ?_; intro K hK; simp [go_sem]; (try simp (disch := omega) only [wx, z_i]); (first | apply hK | refine ⟨ob, ?_⟩ | refine ⟨hK _ ?_, fun h => ?_⟩ | refine ⟨?_, ?_⟩); all_goals ((try apply hK); clear hK K))
    refine z_j 0 _ (by omega) ⟨2, by omega, by omega, by omega, rfl⟩ ?_
    simp [go_sem]
   ·skip
    repeat' first | refine St.go ?_ | ((with_reducible refine cn ?_ ?_) <;> intro h <;> (try simp [hv] at h) <;> try omega) | (refine Ru.go ?_; intro K hK; simp [go_sem, hv]; (try simp (disch := omega) only [wx, z_i]); (first | apply hK | refine ⟨ob, ?_⟩ | refine ⟨hK _ ?_, fun h => ?_⟩ | refine ⟨?_, ?_⟩); all_goals ((try apply hK); clear hK K))
    simp [go_sem]
 | 2, hk, h1, h2 =>
   have hu := h1 (by omega)
   have hv := h2 (by omega)
   subst hu hv
   repeat' first | refine St.go ?_ | ((with_reducible refine cn ?_ ?_) <;> intro h <;> (try simp at h) <;> try omega) | (refine Ru.go ?_; intro K hK; simp [go_sem]; (try simp (disch := omega) only [wx, z_i]); (first | apply hK | refine ⟨ob, ?_⟩ | refine ⟨hK _ ?_, fun h => ?_⟩ | refine ⟨?_, ?_⟩); all_goals ((try apply hK); clear hK K))
   simp [go_sem]
 | k + 3, hk, _, _ => exact absurd hk (by omega)
theorem f64 (g : Glob) (i k : Int) (hi : okEd g.edges i) (hk : okEd g.edges k) : Impl Tryz.prog 64 [.one (.int .i64 i), .one (.int .i64 k), .one (.rf (encG g))] (.one (.one (.int .i64 (cmE g.edges i k)))) := by
 obtain ⟨x, hx⟩ : ∃ x, g.edges[i.toNat]? = some x := ⟨_, List.getElem?_eq_getElem hi.2⟩
 obtain ⟨y, hy⟩ : ∃ y, g.edges[k.toNat]? = some y := ⟨_, List.getElem?_eq_getElem hk.2⟩
 have h0 := hi.1
 have h1 := hk.1
 have k1 := f66 x.act.to y.act.to
 have k2 := f66 x.act.label y.act.label
 have k3 := f65 (cmpI x.act.to y.act.to) (cmpI x.act.label y.act.label)
 have hcm : cmE g.edges i k = if cmpI x.act.to y.act.to ≠ 0 then cmpI x.act.to y.act.to else cmpI x.act.label y.act.label := by unfold cmE; rw [hx, hy]
 rw [<- hcm] at k3
 refine impl_w Tryz.func64 z64 Tryz.ntmps64 (by simp) ?_
 simp only [slotsOf]
 conv => arg 2; reduce
 have q_ := aN hx <| aN hy <| aN h0 <| h1
 repeat' first | refine St.go ?_ | (refine Ru.go ?_; intro K hK; simp [go_sem, encG, encEd, q_]; (try simp (disch := omega) only [wx, z_i]); (first | apply hK | ((first | ((try refine .inl ?_); refine ⟨_, by (try intro hc); (repeat' first | exact k1 | exact k2 | exact k3 | exact hc | refine And.intro ?_ ?_ | simp [go_sem, encG, encEd, q_]); first | done | omega, ?_⟩) | refine .inr (.inl ⟨_, by (try intro hc); (repeat' first | exact k1 | exact k2 | exact k3 | exact hc | refine And.intro ?_ ?_ | simp [go_sem, encG, encEd, q_]); first | done | omega, ?_⟩) | refine .inr (.inr ⟨_, by (try intro hc); (repeat' first | exact k1 | exact k2 | exact k3 | exact hc | refine And.intro ?_ ?_ | simp [go_sem, encG, encEd, q_]); first | done | omega, ?_⟩)); first | apply hK | (refine ⟨by simp [go_sem, encG, encEd, q_], ?_⟩; first | apply hK | refine ⟨by simp [go_sem, encG, encEd, q_], hK _ _ ?_⟩)) | refine ⟨ob, ?_⟩ | refine ⟨hK _ ?_, fun h => ?_⟩ | refine ⟨?_, ?_⟩); all_goals ((try apply hK); clear hK K))
 all_goals try clear q_
 simp [go_sem]
end Go.Av
namespace Go.Av
open Go Go.RowKit Go.Proofs
theorem beforeE_iff {es : List Edg} {i k : Nat} {x y : Edg} (hx : es[i]? = some x) (hy : es[k]? = some y) : beforeE es i k = true ↔ (x.act.to < y.act.to \/ (x.act.to = y.act.to /\ (x.act.label < y.act.label \/ (x.act.label = y.act.label /\ i < k)))) := by
 unfold beforeE
 rw [hx, hy]
 simp only
 split
 ·simp only [decide_eq_true_eq]; omega
 ·split
  ·simp only [decide_eq_true_eq]; omega
  ·simp only [decide_eq_true_eq]; omega
def bfE (es : List Edg) (i k : Int) : Bool := beforeE es i.toNat k.toNat
theorem cmE_iff {es : List Edg} {i k : Int} {x y : Edg} (hx : es[i.toNat]? = some x) (hy : es[k.toNat]? = some y) : cmE es i k < 0 ↔ (x.act.to < y.act.to \/ (x.act.to = y.act.to /\ x.act.label < y.act.label)) := by
 unfold cmE
 rw [hx, hy]
 simp only [cmpI]
 repeat' split
 all_goals omega
theorem ordE (es : List Edg) : OrdR (okEd es) (ltOf (cmE es)) (bfE es) := by
 have get : ∀ z, okEd es z -> ∃ x, es[z.toNat]? = some x := fun z hz => ⟨_, List.getElem?_eq_getElem hz.2⟩
 refine ⟨fun x y hx hy h => ?_, fun x y hx hy h => ?_, fun x y z hx hy hz h1 h2 => ?_, fun x y hx hy h => ?_⟩
 ·obtain ⟨a, ha⟩ := get x hx
  obtain ⟨b, hb⟩ := get y hy
  have := (cmE_iff ha hb).1 (by simpa [ltOf] using h)
  refine (beforeE_iff ha hb).2 ?_
  omega
 ·obtain ⟨a, ha⟩ := get x hx
  obtain ⟨b, hb⟩ := get y hy
  have h1 := (beforeE_iff ha hb).1 h
  rw [<- Bool.not_eq_true]
  intro h2
  have h2 := (beforeE_iff hb ha).1 h2
  omega
 ·obtain ⟨a, ha⟩ := get x hx
  obtain ⟨b, hb⟩ := get y hy
  obtain ⟨c, hc⟩ := get z hz
  have h1 := (beforeE_iff ha hb).1 h1
  have h2 := (beforeE_iff hb hc).1 h2
  refine (beforeE_iff ha hc).2 ?_
  omega
 ·obtain ⟨a, ha⟩ := get x hx
  obtain ⟨b, hb⟩ := get y hy
  have hne : x.toNat ≠ y.toNat := by have := hx.1; have := hy.1; omega
  have e1 := beforeE_iff ha hb
  have e2 := beforeE_iff hb ha
  unfold bfE
  rw [e1, e2]
  omega
def ofState (es : List Edg) (s : Int) (n : Nat) : List Int := ((List.range n).filter fun i => match es[i]? with | some x => decide (x.from_ = s) | none => false).map Int.ofNat
theorem ofState_succ (es : List Edg) (s : Int) {i : Nat} {x : Edg} (hx : es[i]? = some x) : ofState es s (i + 1) = ofState es s i ++ (if x.from_ = s then [(i : Int)] else []) := by
 unfold ofState
 rw [List.range_succ, List.filter_append, List.map_append]
 congr 1
 simp only [List.filter_cons, List.filter_nil, hx]
 split
 ·rename_i h
  rw [if_pos (by simpa using h)]
  rfl
 ·rename_i h
  rw [if_neg (by simpa using h)]
  rfl
theorem ofState_mem {es : List Edg} {s : Int} {n : Nat} {z : Int} (h : z ∈ ofState es s n) : 0 <= z /\ z.toNat < n := by
 unfold ofState at h
 obtain ⟨k, hk, rfl⟩ := List.mem_map.1 h
 have := List.mem_range.1 (List.mem_filter.1 hk).1
 exact ⟨Int.natCast_nonneg k, by simpa using this⟩
theorem ofState_len (es : List Edg) (s : Int) (n : Nat) : (ofState es s n).length <= n := by
 unfold ofState
 rw [List.length_map]
 have := List.length_filter_le (fun i => match es[i]? with | some x => decide (x.from_ = s) | none => false) (List.range n)
 rw [List.length_range] at this
 exact this
theorem ofState_lt (es : List Edg) (s : Int) (n : Nat) : (ofState es s n).Pairwise (· < ·) := by
 unfold ofState
 refine List.Pairwise.map Int.ofNat (fun a b h => ?_) (List.pairwise_lt_range.sublist List.filter_sublist)
 exact Int.ofNat_lt.2 h
variable {ok : Int -> Prop} {R : Int -> Int -> Bool}
theorem f63 {g : FuncId} {caps : List DV} {cm : Int -> Int -> Int} (hg : CmpFn g caps ok cm) (hR : OrdR ok (ltOf cm) R) (l : List Int) (hl : l.length <= 100000) (ho : ∀ y ∈ l, ok y) (hnd : l.Nodup)
  (hc : l.Pairwise fun a b => ltOf cm b a = false -> R a b = true) : ImplM Tryz.prog 63 (.ow 1 (l.map encN)) [.one (.fn g caps)] (.ow 1 ((isort R l).map encN)) := by
 have k1 := f103 hg hR l hl ho hnd hc
 refine implM_intro Tryz.func63 z63.b rfl z63.r z63.n Tryz.ntmps63 z63.d (shape_ints (isort_len _)) (closed_ints _) (by simp) (by simp) fun v0 => ?_
 simp only [slotsOf]
 conv => arg 2; reduce
 repeat' first | refine St.go ?_ | (refine Ru.go ?_; intro K hK; simp [go_sem]; (first | apply hK | ((first | ((try refine .inl ?_); refine ⟨_, by (try intro hc); (repeat' first | exact k1 | exact hc | refine And.intro ?_ ?_ | simp [go_sem]); first | done | omega, ?_⟩) | refine .inr (.inl ⟨_, by (try intro hc); (repeat' first | exact k1 | exact hc | refine And.intro ?_ ?_ | simp [go_sem]); first | done | omega, ?_⟩) | refine .inr (.inr ⟨_, by (try intro hc); (repeat' first | exact k1 | exact hc | refine And.intro ?_ ?_ | simp [go_sem]); first | done | omega, ?_⟩)); first | apply hK | (refine ⟨by simp [go_sem], ?_⟩; first | apply hK | refine ⟨by simp [go_sem], hK _ _ ?_⟩)) | refine ⟨ob, ?_⟩ | refine ⟨hK _ ?_, fun h => ?_⟩ | refine ⟨?_, ?_⟩); all_goals ((try apply hK); clear hK K))
 simp [go_sem, endsM]
theorem cmpFn64 (g : Glob) : CmpFn 64 [.rf (encG g)] (okEd g.edges) (cmE g.edges) := ⟨by simp [DV.flat], fun x y hx hy => f64 g x y hx hy⟩
def sortedE (es : List Edg) (s : Int) : List Int := isort (bfE es) (ofState es s es.length)
theorem f28 (g : Glob) (s : Int) (hs : g.edges.length <= 1000) : Impl Tryz.prog 28 [.ag (encG g), .one (.int .i64 s)] (.one (.one (.ow 1 ((sortedE g.edges s).map encN)))) := by
 have hmem : ∀ z ∈ ofState g.edges s g.edges.length, okEd g.edges z := fun z hz => ofState_mem hz
 have hlt2 := ofState_lt g.edges s g.edges.length
 have k1 := f63 (cmpFn64 g) (ordE g.edges) (ofState g.edges s g.edges.length) (by have := ofState_len g.edges s g.edges.length; omega) hmem (hlt2.imp fun h => by omega) (by
  refine hlt2.imp_of_mem fun {a b} ha hb hab h => ?_
  have oa := hmem a ha
  have ob := hmem b hb
  have ea := List.getElem?_eq_getElem oa.2
  have eb := List.getElem?_eq_getElem ob.2
  refine (beforeE_iff ea eb).2 ?_
  have h' : ¬ cmE g.edges b a < 0 := by simpa [ltOf] using h
  rw [cmE_iff eb ea] at h'
  have := oa.1
  omega)
 refine impl_w Tryz.func28 z28 Tryz.ntmps28 (by simp) ?_
 simp only [slotsOf]
 conv => arg 2; reduce
 repeat' first | refine St.go ?_ | ((with_reducible refine cn ?_ ?_) <;> intro h <;> (try simp at h) <;> try omega) | (refine Ru.go ?_; intro K hK; simp [go_sem, encG]; (try simp (disch := omega) only [wx, z_i]); (first | apply hK | refine ⟨by first | omega | (simp [z_f, z_g, encG]; first | done | omega), ?_⟩ | refine ⟨hK _ ?_, fun h => ?_⟩ | refine ⟨?_, ?_⟩); all_goals ((try apply hK); clear hK K))
 refine z_k (fun q e => ∃ (i : Nat) (out : List Int), i + q = g.edges.length /\ out = ofState g.edges s i /\ e = [(11, .sv (.one (.int .i64 i))), (10, .sv (.one (.int .i64 g.edges.length))), (9, .sv (.one (.sl (g.edges.map encEd)))), (5, .sv (.one (.ow 1 (out.map encN)))), (2, .sv (.one (.bx (encG g)))), (1, .sv (.one (.int .i64 s)))]) g.edges.length _ ⟨0, [], by simp, rfl, rfl⟩ (by simp [go_sem, encG]) ?_
 rintro q e ⟨i, out, hi, hout, rfl⟩
 by_cases hlt : i < g.edges.length
 ·obtain ⟨x, hx⟩ : ∃ x, g.edges[i] = x := ⟨_, rfl⟩
  have hsucc := ofState_succ g.edges s (show g.edges[i]? = some x by rw [List.getElem?_eq_getElem hlt, hx])
  rw [<- hout] at hsucc
  have hol : out.length <= i := by rw [hout]; exact ofState_len _ _ _
  have hfl : z_g (out.map encN) := by
   rw [flatEls_map]
   intro z _
   rfl
  by_cases hf : x.from_ = s
  ·rw [if_pos hf] at hsucc
   repeat' first | refine St.go ?_ | ((with_reducible refine cn ?_ ?_) <;> intro h <;> (try simp [hlt, hx, hf] at h) <;> try omega) | (refine Ru.go ?_; intro K hK; simp [go_sem, hlt, hx, encEd, hf]; (try simp (disch := omega) only [wx, z_i]); (first | apply hK | refine ⟨by first | omega | (simp [z_f, z_g, hlt, hx, encEd, hf, maxLen, DV.flat, encN]; first | done | omega), ?_⟩ | refine ⟨hK _ ?_, fun h => ?_⟩ | refine ⟨?_, ?_⟩); all_goals ((try apply hK); clear hK K))
   refine z_j (q - 1) _ (by omega) ⟨i + 1, out ++ [(i : Int)], by omega, hsucc.symm, rfl⟩ ?_
   simp [go_sem, encN]
  ·rw [if_neg hf, List.append_nil] at hsucc
   repeat' first | refine St.go ?_ | ((with_reducible refine cn ?_ ?_) <;> intro h <;> (try simp [hlt, hx, hf] at h) <;> try omega) | (refine Ru.go ?_; intro K hK; simp [go_sem, hlt, hx, encEd, hf]; (try simp (disch := omega) only [wx, z_i]); (first | apply hK | refine ⟨by first | omega | (simp [z_f, z_g, hlt, hx, encEd, hf]; first | done | omega), ?_⟩ | refine ⟨hK _ ?_, fun h => ?_⟩ | refine ⟨?_, ?_⟩); all_goals ((try apply hK); clear hK K))
   refine z_j (q - 1) _ (by omega) ⟨i + 1, out, by omega, hsucc.symm, rfl⟩ ?_
   simp [go_sem]
 ·have hie : i = g.edges.length := by omega
  subst hie
  rw [<- hout] at k1
  obtain ⟨Y, hY⟩ : ∃ Y, Y = sortedE g.edges s := ⟨_, rfl⟩
  have hY2 : isort (bfE g.edges) out = Y := by rw [hY, sortedE, hout]
  rw [hY2] at k1
  rw [<- hY]
  simp only [encG] at k1
  repeat' first | refine St.go ?_ | ((with_reducible refine cn ?_ ?_) <;> intro h <;> (try simp at h) <;> try omega) | (refine Ru.go ?_; intro K hK; simp [go_sem, encG]; (try simp (disch := omega) only [wx, z_i]); (first | apply hK | ((first | ((try refine .inl ?_); refine ⟨_, by (try intro hc); (repeat' first | exact k1 | exact hc | refine And.intro ?_ ?_ | simp [go_sem, encG]); first | done | omega, ?_⟩) | refine .inr (.inl ⟨_, by (try intro hc); (repeat' first | exact k1 | exact hc | refine And.intro ?_ ?_ | simp [go_sem, encG]); first | done | omega, ?_⟩) | refine .inr (.inr ⟨_, by (try intro hc); (repeat' first | exact k1 | exact hc | refine And.intro ?_ ?_ | simp [go_sem, encG]); first | done | omega, ?_⟩)); first | apply hK | (refine ⟨by simp [go_sem, encG], ?_⟩; first | apply hK | refine ⟨by simp [go_sem, encG], hK _ _ ?_⟩)) | refine ⟨by first | omega | (simp [z_f, z_g, encG]; first | done | omega), ?_⟩ | refine ⟨hK _ ?_, fun h => ?_⟩ | refine ⟨?_, ?_⟩); all_goals ((try apply hK); clear hK K))
  simp [go_sem]
end Go.Av
namespace Go.Av
open Go Go.RowKit Go.Proofs
def labAt (b : Glob) (d : Dcl) : Int := firstB (fun e => e.name == d.name) b.decls
def okLab (a b : Glob) (d : Dcl) : Bool := decide (labAt b d < 0) || agreeB (varsOf a.decls) (varsOf b.decls) d (b.decls[(labAt b d).toNat]?.getD d)
def tab0 (a b : Glob) : Tab := ⟨a, b, a.decls.map (labAt b), [], []⟩
def stepX (t : Tab) (p : Pr) (x : Edg) : Pr := (x.to, folB t p.2 x)
def stepK (t : Tab) (p : Pr) (k : Int) : Pr := match t.old.edges[k.toNat]? with
 | some x => stepX t p x
 | none => (0, 0)
def succP (t : Tab) (p : Pr) : List Pr := (sortedE t.old.edges p.1).map (stepK t p)
def initB (t : Tab) (p : Pr) : Bool := decide (0 <= p.2) && (!(p.1 == t.old.end_) || p.2 == t.new.end_)
def sizeP (t : Tab) : Nat := t.old.states.toNat * (t.new.states.toNat + 1)
def cmpPairs (t : Tab) : List Pr := bfs (succP t) (sizeP t) 0 [(t.old.start, t.new.start)]
def cmpRows (t : Tab) (ps : List Pr) : List (List Int) := ps.map (rowOf (succP t) ps)
def cmpGood (t : Tab) (ps : List Pr) : List Bool := del (cmpRows t ps) ps.length (ps.map (initB t))
def fillT (t : Tab) (ps : List Pr) (g : List Bool) : Tab := ⟨t.old, t.new, t.labels, ps, g⟩
def cmpTab (a b : Glob) : Tab := fillT (tab0 a b) (cmpPairs (tab0 a b)) (cmpGood (tab0 a b) (cmpPairs (tab0 a b)))
def noG : Glob := ⟨⟨#[]⟩, [], [], 0, 0, 0, [], []⟩
def noTab : Tab := ⟨noG, noG, [], [], []⟩
def compareV (a b : Glob) : Tab × Int := if valid29 a = true /\ valid29 b = true then (if a.roles = b.roles then (if a.decls.all (okLab a b) = true then (cmpTab a b, 0) else (noTab, 24)) else (noTab, 24)) else (noTab, 1)
theorem mem_ofState {es : List Edg} {s z : Int} : z ∈ ofState es s es.length ↔ ∃ x, es[z.toNat]? = some x /\ 0 <= z /\ x.from_ = s := by
 unfold ofState
 simp only [List.mem_map, List.mem_filter, List.mem_range]
 constructor
 ·rintro ⟨i, ⟨hi, h2⟩, rfl⟩
  rw [List.getElem?_eq_getElem hi] at h2
  refine ⟨es[i], ?_, Int.natCast_nonneg i, by simpa using h2⟩
  show es[i]? = _
  exact List.getElem?_eq_getElem hi
 ·rintro ⟨x, hx, h0, hs⟩
  obtain ⟨hi, _⟩ := List.getElem?_eq_some_iff.1 hx
  exact ⟨z.toNat, ⟨hi, by simp [hx, hs]⟩, by simp; omega⟩
theorem mem_sortedE {es : List Edg} {s z : Int} : z ∈ sortedE es s ↔ ∃ x, es[z.toNat]? = some x /\ 0 <= z /\ x.from_ = s := by
 unfold sortedE
 rw [isort_mem, mem_ofState]
theorem folE_cases (es : List Edg) (s : Int) (a : Inter) (b : Bool) : folE es s a b = -1 \/ ∃ y ∈ es, folE es s a b = y.to := by
 induction es with
 | nil => exact .inl rfl
 | cons x es ih =>
   simp only [folE]
   split
   ·exact .inr ⟨x, by simp, rfl⟩
   ·rcases ih with h | ⟨y, hy, h⟩
    ·exact .inl h
    ·exact .inr ⟨y, by simp [hy], h⟩
theorem folB_cases (t : Tab) (s : Int) (x : Edg) : folB t s x = -1 \/ ∃ y ∈ t.new.edges, folB t s x = y.to := by
 unfold folB
 split
 ·exact folE_cases _ _ _ _
 ·exact .inl rfl
theorem succ_mem {t : Tab} {p q : Pr} : q ∈ succP t p ↔ ∃ x ∈ t.old.edges, x.from_ = p.1 /\ q = stepX t p x := by
 unfold succP
 simp only [List.mem_map, mem_sortedE]
 constructor
 ·rintro ⟨k, ⟨x, hx, h0, hs⟩, rfl⟩
  exact ⟨x, List.mem_of_getElem? hx, hs, by simp [stepK, hx]⟩
 ·rintro ⟨x, hx, hs, rfl⟩
  obtain ⟨i, hi, rfl⟩ := List.mem_iff_getElem.1 hx
  have hg : t.old.edges[((i : Nat) : Int).toNat]? = some t.old.edges[i] := List.getElem?_eq_getElem hi
  exact ⟨(i : Nat), ⟨_, hg, Int.natCast_nonneg i, hs⟩, by simp only [stepK, hg]⟩
def numT (t : Tab) : Prop := numbered t.old = true /\ numbered t.new = true
theorem succ_box {t : Tab} (h : numT t) : ∀ p, inBox t.old.states.toNat t.new.states.toNat p -> ∀ q ∈ succP t p, inBox t.old.states.toNat t.new.states.toNat q := by
 intro p _ q hq
 obtain ⟨x, hx, _, rfl⟩ := succ_mem.1 hq
 obtain ⟨_, _, _, _, _, _, n7⟩ := numbered_facts h.1
 obtain ⟨_, _, _, _, _, _, m7⟩ := numbered_facts h.2
 have h1 := okEdge_facts (n7 x hx)
 have h2 : -1 <= folB t p.2 x /\ folB t p.2 x < t.new.states.toNat := by
  rcases folB_cases t p.2 x with h | ⟨y, hy, h⟩
  ·rw [h]; omega
  ·have := okEdge_facts (m7 y hy)
   rw [h]; omega
 show 0 <= x.to /\ x.to < _ /\ -1 <= folB t p.2 x /\ folB t p.2 x < _
 omega
theorem start_box {t : Tab} (h : numT t) : inBox t.old.states.toNat t.new.states.toNat (t.old.start, t.new.start) := by
 obtain ⟨n1, n2, n3, n4, n5, n6, n7⟩ := numbered_facts h.1
 obtain ⟨m1, m2, m3, m4, m5, m6, m7⟩ := numbered_facts h.2
 show 0 <= t.old.start /\ t.old.start < _ /\ -1 <= t.new.start /\ t.new.start < _
 omega
theorem valid_num {g : Glob} (h : valid29 g = true) : numbered g = true /\ validD g.decls = true := by
 unfold valid29 at h
 simp only [Bool.and_eq_true] at h
 exact ⟨h.1.1.1.1.1.2, h.1.1.1.1.2⟩
theorem varsOf_len (l : List Dcl) : (varsOf l).length = (allF l).length := by
 unfold varsOf allF
 induction l with
 | nil => rfl
 | cons d l ih => simp [ih]
theorem valid_vars {g : Glob} (h : valid29 g = true) : ∀ d ∈ g.decls, (∀ e ∈ d.diffs, e.x < (varsOf g.decls).length /\ e.y < (varsOf g.decls).length) /\ ∀ e ∈ d.equals, e.1 < (varsOf g.decls).length /\ e.2 < (varsOf g.decls).length := by
 have hv := (valid_num h).2
 intro d hd
 obtain ⟨i, hi, rfl⟩ := List.mem_iff_getElem.1 hd
 unfold validD at hv
 simp only [Bool.and_eq_true, List.all_eq_true, List.mem_range] at hv
 have hk := hv.2 i hi
 rw [okDeclAt_get hi] at hk
 simp only [Bool.and_eq_true] at hk
 have hg := hk.2
 unfold okGuard at hg
 simp only [Bool.and_eq_true, List.all_eq_true] at hg
 obtain ⟨⟨_, h1⟩, h2⟩ := hg
 rw [varsOf_len]
 refine ⟨fun e he => ?_, fun e he => ?_⟩
 ·have := h1 e he
  simp only [okDff, Bool.and_eq_true, decide_eq_true_eq] at this
  omega
 ·have := h2 e he
  simp only [isText, Bool.and_eq_true, decide_eq_true_eq] at this
  omega
def keyP (p : Pr) : List KV := [.ki .i64 p.1, .ki .i64 p.2]
def mapFrom : Nat -> List Pr -> List (List KV × KV)
 | _, [] => []
 | i, p :: ps => (keyP p, .ki .i64 (i : Nat)) :: mapFrom (i + 1) ps
theorem keyP_inj {p q : Pr} (h : keyP p = keyP q) : p = q := by
 simp only [keyP, List.cons.injEq, KV.ki.injEq, true_and, and_true] at h
 exact Prod.ext h.1 h.2
theorem mapFrom_none {q : Pr} : ∀ {i : Nat} {ps : List Pr}, q ∉ ps -> mpGet (mapFrom i ps) (keyP q) = none /\ mpSet (mapFrom i ps) (keyP q) (.ki .i64 ((i + ps.length : Nat) : Int)) = mapFrom i (ps ++ [q])
 | i, [], _ => ⟨rfl, rfl⟩
 | i, p :: ps, h => by
   simp only [List.mem_cons, not_or] at h
   have hne : ¬ keyP q = keyP p := fun e => h.1 (keyP_inj e)
   obtain ⟨h1, h2⟩ := mapFrom_none (i := i + 1) h.2
   have e : i + (p :: ps).length = i + 1 + ps.length := by simp; omega
   refine ⟨?_, ?_⟩
   ·simp only [mapFrom, mpGet, hne, if_false]
    exact h1
   ·rw [e]
    simp only [mapFrom, mpSet, hne, if_false, List.cons_append]
    rw [h2]
theorem mapFrom_some {q : Pr} : ∀ {i : Nat} {ps : List Pr}, q ∈ ps -> mpGet (mapFrom i ps) (keyP q) = some (.ki .i64 ((i + ps.idxOf q : Nat) : Int))
 | i, p :: ps, h => by
   by_cases e : q = p
   ·subst e
    simp [mapFrom, mpGet]
   ·have hne : ¬ keyP q = keyP p := fun e' => e (keyP_inj e')
    have hm : q ∈ ps := by
     rcases List.mem_cons.1 h with h | h
     ·exact (e h).elim
     ·exact h
    have := mapFrom_some (i := i + 1) hm
    simp only [mapFrom, mpGet, hne, if_false, this]
    have hidx : (p :: ps).idxOf q = ps.idxOf q + 1 := by
     rw [List.idxOf_cons]
     have : (p == q) = false := by simp; exact fun e' => e e'.symm
     simp [this]
    rw [hidx]
    congr 2
    omega
def mapP (ps : List Pr) : List (List KV × KV) := mapFrom 0 ps
theorem mapP_none {q : Pr} {ps : List Pr} (h : q ∉ ps) : mpGet (mapP ps) [.ki .i64 q.1, .ki .i64 q.2] = none := (mapFrom_none (i := 0) h).1
theorem mapP_set {q : Pr} {ps : List Pr} (h : q ∉ ps) : mpSet (mapP ps) [.ki .i64 q.1, .ki .i64 q.2] (.ki .i64 (ps.length : Int)) = mapP (ps ++ [q]) := by
 have := (mapFrom_none (i := 0) h).2
 rw [Nat.zero_add] at this
 exact this
theorem mapP_some {q : Pr} {ps : List Pr} (h : q ∈ ps) : mpGet (mapP ps) [.ki .i64 q.1, .ki .i64 q.2] = some (.ki .i64 (idxP ps q)) := by
 have := mapFrom_some (i := 0) h
 rw [Nat.zero_add] at this
 exact this
theorem mapFrom_keys : ∀ {i : Nat} {ps : List Pr} (x : List KV × KV), x ∈ mapFrom i ps -> ∃ p, x.1 = keyP p
 | i, p :: ps, x, h => by
   simp only [mapFrom, List.mem_cons] at h
   rcases h with rfl | h
   ·exact ⟨p, rfl⟩
   ·exact mapFrom_keys x h
theorem keyOkP (q : Pr) (ps : List Pr) : KeyOk Tryz.prog 61 [.ki .i64 q.1, .ki .i64 q.2] (mapP ps) where
 chk := key61 _ _
 cmp := by kernel_rfl
 kind := by kernel_rfl
 size := by kernel_rfl
 like := fun e he => by
  obtain ⟨p, hp⟩ := mapFrom_keys e he
  rw [hp]
  rfl
end Go.Av

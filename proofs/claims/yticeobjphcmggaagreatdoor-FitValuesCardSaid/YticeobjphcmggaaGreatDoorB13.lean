/- Part of a proof. -/
import Derived.Test.YticeobjphcmggaaGreatDoorB10
import Derived.Test.YticeobjphcmggaaGreatDoorAvR
import Derived.Test.YticeobjphcmggaaGreatDoorB12
import Derived.Test.YticeobjphcmggaaGreatDoorB00
import Derived.Test.YticeobjphcmggaaGreatDoorB01
import Derived.Test.YticeobjphcmggaaGreatDoorB07
set_option linter.unusedVariables false
set_option linter.unusedSimpArgs false
set_option maxHeartbeats 64000000
set_option maxRecDepth 8000
namespace Go.Av
open Go Go.RowKit Go.Proofs
variable {ok : Int -> Prop} {lt R : Int -> Int -> Bool}
def chunkS (R : Int -> Int -> Bool) : Nat -> Nat -> List Int -> List Int
 | 0, _, l => isort R l
 | n + 1, k, l => if l.length <= k then isort R l else isort R (l.take k) ++ chunkS R n k (l.drop k)
theorem chunkS_fuel {k : Nat} (hk : 0 < k) : ∀ (n n' : Nat) (l : List Int), l.length <= n -> l.length <= n' -> chunkS R n k l = chunkS R n' k l
 | 0, 0, l, _, _ => rfl
 | 0, n' + 1, l, h, _ => by rw [chunkS, chunkS, if_pos (by omega)]
 | n + 1, 0, l, _, h => by rw [chunkS, chunkS, if_pos (by omega)]
 | n + 1, n' + 1, l, h, h' => by
   rw [chunkS, chunkS]
   split
   ·rfl
   ·rw [chunkS_fuel hk n n' (l.drop k) (by rw [List.length_drop]; omega) (by rw [List.length_drop]; omega)]
def chunks (R : Int -> Int -> Bool) (k : Nat) (l : List Int) : List Int := chunkS R l.length k l
theorem chunks_small {k : Nat} {l : List Int} (h : l.length <= k) : chunks R k l = isort R l := by
 unfold chunks
 cases hl : l.length with
 | zero => rfl
 | succ n => rw [chunkS, if_pos h]
theorem chunks_cons {k : Nat} (hk : 0 < k) {c l : List Int} (hc : c.length = k) : chunks R k (c ++ l) = isort R c ++ chunks R k l := by
 unfold chunks
 obtain ⟨n, hn⟩ : ∃ n, (c ++ l).length = n + 1 := ⟨(c ++ l).length - 1, by rw [List.length_append]; omega⟩
 rw [hn, chunkS]
 rw [List.length_append] at hn
 have e1 : (c ++ l).take k = c := List.take_left' hc
 have e2 : (c ++ l).drop k = l := List.drop_left' hc
 split
 ·rename_i h
  rw [List.length_append] at h
  have h0 : l = [] := List.eq_nil_of_length_eq_zero (by omega)
  subst h0
  simp [chunkS, isort]
 ·rw [e1, e2, chunkS_fuel hk n l.length l (by omega) (by omega)]
theorem chunks_len {k : Nat} : ∀ (n : Nat) (l : List Int), (chunkS R n k l).length = l.length
 | 0, l => isort_len l
 | n + 1, l => by
   rw [chunkS]
   split
   ·exact isort_len l
   ·rw [List.length_append, isort_len, chunks_len n, List.length_take, List.length_drop]
    omega
theorem chunks_length {k : Nat} (l : List Int) : (chunks R k l).length = l.length := chunks_len _ _
theorem isort_two (h : OrdR ok lt R) {c d : List Int} (ho : ∀ z ∈ c ++ d, ok z) (hn : (c ++ d).Nodup) : isort R (isort R c ++ isort R d) = isort R (c ++ d) :=
 isort_congr h ho hn ((isort_perm c).append (isort_perm d))
end Go.Av
namespace Go.Av
open Go Go.RowKit Go.Proofs
set_option maxHeartbeats 64000000
variable {ok : Int -> Prop} {R : Int -> Int -> Bool}
theorem f106 {g : FuncId} {caps : List DV} {cm : Int -> Int -> Int} (hg : CmpFn g caps ok cm) (hR : OrdR ok (ltOf cm) R) (l : List Int) (hl : l.length <= 100000) (ho : ∀ y ∈ l, ok y) (hnd : l.Nodup)
  (hc : l.Pairwise fun a b => ltOf cm b a = false -> R a b = true) :
  ImplM Tryz.prog 106 (.ow 1 (l.map encN)) [.one (.int .i64 l.length), .one (.fn g caps)] (.ow 1 ((isort R l).map encN)) := by
 refine implM_intro z106.f z106.b rfl z106.r z106.n z106.t z106.d (shape_ints (isort_len _)) (closed_ints _) (by simp) (by simp) fun v0 => ?_
 simp only [slotsOf]
 conv => arg 2; reduce
 obtain ⟨n, hn⟩ : ∃ n, n = l.length := ⟨_, rfl⟩
 obtain ⟨Y, hY⟩ : ∃ Y, Y = isort R l := ⟨_, rfl⟩
 rw [<- hn, <- hY]
 have hcd : ∀ {a : Nat} {u v : List Int}, l.drop a = u ++ v -> (∀ z ∈ u, ok z) /\ (∀ z ∈ v, ok z) /\ (u ++ v).Nodup /\ (u ++ v).Pairwise (fun a b => ltOf cm b a = false -> R a b = true) := by
  intro a u v h
  have h1 : ∀ z ∈ l.drop a, ok z := fun z hz => ho z (List.mem_of_mem_drop hz)
  rw [h] at h1
  exact ⟨fun z hz => h1 z (by simp [hz]), fun z hz => h1 z (by simp [hz]), h ▸ hnd.sublist (List.drop_sublist a l), h ▸ hc.sublist (List.drop_sublist a l)⟩
 refine wN ?_
 refine z_k (fun q e => ∃ (a : Nat) (P D : List Int), a <= n /\ P.length = a /\ q = n - a /\ D = P ++ l.drop a /\ P ++ chunks R 20 (l.drop a) = chunks R 20 l /\
  e = [(8, .sv (.one (.int .i64 (a + 20 : Nat)))), (7, .sv (.one (.int .i64 a))), (6, .sv (.one (.int .i64 20))), (1000000, .eqv 0 v0), (0, .sv (.one (.ow 1 (D.map encN)))), (1, .sv (.one (.int .i64 n))), (2, .sv (.one (.fn g caps)))]) n _ ⟨0, [], l, by omega, rfl, rfl, by simp, by simp, rfl⟩ (by simp [go_sem]) ?_
 rintro q e ⟨a, P, D, ha, hP, hq, hD, hch, rfl⟩
 by_cases hlt : a + 20 <= n
 ·obtain ⟨c, hcc⟩ : ∃ c, c = (l.drop a).take 20 := ⟨_, rfl⟩
  have hdr : l.drop a = c ++ l.drop (a + 20) := by rw [hcc, <- List.drop_drop, List.take_append_drop]
  have hcl : c.length = 20 := by rw [hcc, List.length_take, List.length_drop]; omega
  obtain ⟨o1, o2, o3, o4⟩ := hcd hdr
  have k1 := f123 hg hR P c (l.drop (a + 20)) (by rw [<- hdr, List.length_append, List.length_drop]; omega) o1 (List.nodup_append.1 o3).1 (List.pairwise_append.1 o4).1
  obtain ⟨D2, hD2⟩ : ∃ D2, D2 = P ++ (isort R c ++ l.drop (a + 20)) := ⟨_, rfl⟩
  rw [<- hdr, <- hD, hP, hcl, <- hD2] at k1
  have hlt' : ((a + 20 : Nat) : Int) <= (n : Int) := by omega
  obtain ⟨b, hb⟩ : ∃ b, b = a + 20 := ⟨_, rfl⟩
  rw [<- hb] at k1 hlt' ⊢
  refine wV hlt' k1 ?_
  refine z_j (n - b) _ (by omega) ⟨b, P ++ isort R c, D2, by omega, by simp [isort_len]; omega, rfl, by rw [hD2, hb]; simp, by rw [<- hch, hdr, chunks_cons (by omega) hcl, hb]; simp, rfl⟩ ?_
  simp [go_sem]
 ·obtain ⟨o1, o2, o3, o4⟩ := hcd (show l.drop a = l.drop a ++ [] by simp)
  simp only [List.append_nil] at o3 o4
  have k1 := f123 hg hR P (l.drop a) [] (by rw [List.append_nil, List.length_append, List.length_drop]; omega) o1 o3 o4
  have hd1 : P ++ isort R (l.drop a) = chunks R 20 l := by rw [<- hch, chunks_small (by rw [List.length_drop]; omega)]
  obtain ⟨D2, hD2⟩ : ∃ D2, D2 = chunks R 20 l := ⟨_, rfl⟩
  rw [List.append_nil, List.append_nil, <- hD, hP, hd1, <- hD2, show a + (l.drop a).length = n by rw [List.length_drop]; omega] at k1
  have hlt' : ¬ ((a + 20 : Nat) : Int) <= (n : Int) := by omega
  obtain ⟨b, hb⟩ : ∃ b, b = a + 20 := ⟨_, rfl⟩
  rw [<- hb] at hlt' ⊢
  refine wV hlt' k1 ?_
  clear k1 hD hP hch hlt hlt' hb
  refine z_k (fun q e => ∃ (bs : Nat) (D : List Int), 0 < bs /\ bs <= 1000000 /\ q = n - bs /\ D = chunks R bs l /\
   e = [(6, .sv (.one (.int .i64 bs))), (1000000, .eqv 0 v0), (0, .sv (.one (.ow 1 (D.map encN)))), (1, .sv (.one (.int .i64 n))), (2, .sv (.one (.fn g caps)))]) (n - 20) _ ⟨20, D2, by omega, by omega, rfl, hD2, rfl⟩ (by simp [go_sem]) ?_
  rintro q e ⟨bs, D, hbs, hbs2, hq, hD, rfl⟩
  by_cases hlt : bs < n
  ·have h2b : (2 : Int) * (bs : Int) = ((2 * bs : Nat) : Int) := by omega
   obtain ⟨b2, hb2⟩ : ∃ b2, b2 = 2 * bs := ⟨_, rfl⟩
   rw [<- hb2] at h2b
   refine wX (aN hlt h2b) ?_
   refine z_k (fun q e => ∃ (a : Nat) (P D : List Int), a <= n /\ P.length = a /\ q = n - a /\ D = P ++ chunks R bs (l.drop a) /\ P ++ chunks R b2 (l.drop a) = chunks R b2 l /\
    e = [(8, .sv (.one (.int .i64 (a + b2 : Nat)))), (7, .sv (.one (.int .i64 a))), (6, .sv (.one (.int .i64 bs))), (1000000, .eqv 0 v0), (0, .sv (.one (.ow 1 (D.map encN)))), (1, .sv (.one (.int .i64 n))), (2, .sv (.one (.fn g caps)))]) n _ ⟨0, [], D, by omega, rfl, rfl, by rw [hD]; simp, by simp, rfl⟩ (by simp [go_sem]) ?_
   rintro q' e ⟨a, P, D', ha, hP, hq', hD', hch, rfl⟩
   have hl7 : (l.drop a).length = n - a := by rw [List.length_drop, hn]
   by_cases hlt2 : a + b2 <= n
   ·obtain ⟨c, hcc⟩ : ∃ c, c = (l.drop a).take bs := ⟨_, rfl⟩
    obtain ⟨d, hdd⟩ : ∃ d, d = (l.drop (a + bs)).take bs := ⟨_, rfl⟩
    have hdr1 : l.drop (a + bs) = d ++ l.drop (a + b2) := by rw [hdd, hb2, show a + 2 * bs = a + bs + bs by omega, <- List.drop_drop (i := bs) (j := a + bs), List.take_append_drop]
    have hdr : l.drop a = (c ++ d) ++ l.drop (a + b2) := by rw [List.append_assoc, <- hdr1, hcc, <- List.drop_drop, List.take_append_drop]
    have hcl : c.length = bs := by rw [hcc, List.length_take, List.length_drop]; omega
    have hdl : d.length = bs := by rw [hdd, List.length_take, List.length_drop]; omega
    obtain ⟨o1, o2, o3, o4⟩ := hcd hdr
    have n1 := (List.nodup_append.1 o3).1
    have p1 := (List.pairwise_append.1 o4).1
    have oc : ∀ z ∈ c, ok z := fun z hz => o1 z (by simp [hz])
    have od : ∀ z ∈ d, ok z := fun z hz => o1 z (by simp [hz])
    have hmem := List.pairwise_append.1 p1
    have hic : isort R c ≠ [] := by intro h0; rw [<- List.length_eq_zero_iff, isort_len] at h0; omega
    have hid : isort R d ≠ [] := by intro h0; rw [<- List.length_eq_zero_iff, isort_len] at h0; omega
    have hch2 : chunks R bs (l.drop a) = isort R c ++ (isort R d ++ chunks R bs (l.drop (a + b2))) := by rw [hdr, List.append_assoc, chunks_cons hbs hcl, chunks_cons hbs hdl]
    have k1 := f124 hg hR (isort R c ++ isort R d).length P (isort R c) (isort R d) (chunks R bs (l.drop (a + b2))) (by rw [List.length_append]; omega) hic hid (by rw [<- hch2, List.length_append, chunks_length, hl7]; omega) (fun z hz => oc z (isort_mem.1 hz)) (fun z hz => od z (isort_mem.1 hz)) ((((isort_perm c).append (isort_perm d)).nodup_iff).2 n1)
     (isort_srt hR oc (List.nodup_append.1 n1).1) (isort_srt hR od (List.nodup_append.1 n1).2.1) (fun u hu v hv => hmem.2.2 u (isort_mem.1 hu) v (isort_mem.1 hv))
    obtain ⟨D3, hD3⟩ : ∃ D3, D3 = P ++ (isort R (c ++ d) ++ chunks R bs (l.drop (a + b2))) := ⟨_, rfl⟩
    rw [isort_two hR o1 n1, <- hch2, <- hD', <- hD3, hP, isort_len, isort_len, hcl, hdl, show a + bs + bs = a + b2 by omega] at k1
    have hlt' : ((a + b2 : Nat) : Int) <= (n : Int) := by omega
    obtain ⟨M, hM⟩ : ∃ M, M = a + bs := ⟨_, rfl⟩
    have hab : ((a : Int) + bs) = (M : Int) := by omega
    rw [<- hM] at k1
    have hlen2 : (P ++ isort R (c ++ d)).length = a + b2 := by rw [List.length_append, isort_len, List.length_append]; omega
    have hch3 : P ++ isort R (c ++ d) ++ chunks R b2 (l.drop (a + b2)) = chunks R b2 l := by rw [<- hch, hdr, chunks_cons (by omega) (by rw [List.length_append]; omega), List.append_assoc]
    obtain ⟨b, hb⟩ : ∃ b, b = a + b2 := ⟨_, rfl⟩
    rw [<- hb] at k1 hlt' hD3 hlen2 hch3 ⊢
    refine wV (aN hlt' <| aN hab h2b) k1 ?_
    refine z_j (n - b) _ (by omega) ⟨b, P ++ isort R (c ++ d), D3, by omega, hlen2, rfl, by rw [hD3]; simp, hch3, rfl⟩ ?_
    simp [go_sem]
   ·have hlt' : ¬ ((a + b2 : Nat) : Int) <= (n : Int) := by omega
    obtain ⟨b, hb⟩ : ∃ b, b = a + b2 := ⟨_, rfl⟩
    obtain ⟨M, hM⟩ : ∃ M, M = a + bs := ⟨_, rfl⟩
    have hab : ((a : Int) + bs) = (M : Int) := by omega
    have hbb : ((bs : Int) * 2) = (b2 : Int) := by omega
    rw [<- hb] at hlt' ⊢
    by_cases hmn : M < n
    ·obtain ⟨c, hcc⟩ : ∃ c, c = (l.drop a).take bs := ⟨_, rfl⟩
     obtain ⟨d, hdd⟩ : ∃ d, d = l.drop M := ⟨_, rfl⟩
     have hdr : l.drop a = (c ++ d) ++ [] := by rw [List.append_nil, hdd, hM, hcc, <- List.drop_drop, List.take_append_drop]
     have hcl : c.length = bs := by rw [hcc, List.length_take, List.length_drop]; omega
     have hdl : d.length = n - M := by rw [hdd, List.length_drop, hn]
     obtain ⟨o1, o2, o3, o4⟩ := hcd hdr
     rw [List.append_nil] at o3 o4 hdr
     have oc : ∀ z ∈ c, ok z := fun z hz => o1 z (by simp [hz])
     have od : ∀ z ∈ d, ok z := fun z hz => o1 z (by simp [hz])
     have hmem := List.pairwise_append.1 o4
     have hic : isort R c ≠ [] := by intro h0; rw [<- List.length_eq_zero_iff, isort_len] at h0; omega
     have hid : isort R d ≠ [] := by intro h0; rw [<- List.length_eq_zero_iff, isort_len] at h0; omega
     have hch2 : chunks R bs (l.drop a) = isort R c ++ (isort R d ++ []) := by rw [hdr, chunks_cons hbs hcl, chunks_small (by omega), List.append_nil]
     have k1 := f124 hg hR (isort R c ++ isort R d).length P (isort R c) (isort R d) [] (by rw [List.length_append]; omega) hic hid (by rw [<- hch2, List.length_append, chunks_length, hl7]; omega) (fun z hz => oc z (isort_mem.1 hz)) (fun z hz => od z (isort_mem.1 hz)) ((((isort_perm c).append (isort_perm d)).nodup_iff).2 o3)
      (isort_srt hR oc (List.nodup_append.1 o3).1) (isort_srt hR od (List.nodup_append.1 o3).2.1) (fun u hu v hv => hmem.2.2 u (isort_mem.1 hu) v (isort_mem.1 hv))
     have hfin : P ++ (isort R (c ++ d) ++ []) = chunks R b2 l := by rw [List.append_nil, <- hch, hdr, chunks_small (by rw [List.length_append]; omega)]
     obtain ⟨D3, hD3⟩ : ∃ D3, D3 = chunks R b2 l := ⟨_, rfl⟩
     rw [isort_two hR o1 o3, <- hch2, <- hD', hfin, <- hD3, hP, isort_len, isort_len, hcl, hdl, <- hM, show M + (n - M) = n by omega] at k1
     refine wV (aN hlt' <| aN hab <| aN hmn hbb) k1 ?_
     refine z_j (n - b2) _ (by omega) ⟨b2, D3, by omega, by omega, rfl, hD3, rfl⟩ ?_
     simp [go_sem]
    ·have hfin : D' = chunks R b2 l := by rw [hD', <- hch, chunks_small (by omega), chunks_small (by omega)]
     refine wX (aN hlt' <| aN hab <| aN hmn hbb) ?_
     refine z_j (n - b2) _ (by omega) ⟨b2, D', by omega, by omega, rfl, hfin, rfl⟩ ?_
     simp [go_sem]
  ·have hDY : D = Y := by rw [hD, hY, chunks_small (by omega)]
   subst hDY
   refine wX hlt ?_
   simp [go_sem, endsM]
end Go.Av
namespace Go.Av
open Go Go.RowKit Go.Proofs
set_option maxHeartbeats 64000000
def cmpI (a b : Int) : Int := if a < b then -1 else if b < a then 1 else 0
theorem f74 (a : Int) : Impl Tryz.prog 74 [.one (.int .i64 a)] (.one (.one (.bool false))) := by
 refine impl_intro z74.f z74.b rfl z74.r z74.n z74.t z74.d (by simp) fun hs => ?_
 simp only [slotsOf]
 conv => arg 2; reduce
 refine wN ?_
 simp [go_sem]
theorem f41 (a b : Int) : Impl Tryz.prog 41 [.one (.int .i64 a), .one (.int .i64 b)] (.one (.one (.int .i64 (cmpI a b)))) := by
 refine impl_v ?_
 repeat' first | refine St.go ?_ | ((with_reducible refine cn ?_ ?_) <;> intro h <;> (try simp at h) <;> try omega) | (refine Ru.go ?_; intro K hK; simp [go_sem]; (try simp (disch := omega) only [wx, z_i]); (first | apply hK | ((first | ((try refine .inl ?_); refine ⟨_, by (try intro hc); (repeat' first | exact f74 _ | exact hc | refine And.intro ?_ ?_ | simp [go_sem]); first | done | omega, ?_⟩) | refine .inr (.inl ⟨_, by (try intro hc); (repeat' first | exact f74 _ | exact hc | refine And.intro ?_ ?_ | simp [go_sem]); first | done | omega, ?_⟩) | refine .inr (.inr ⟨_, by (try intro hc); (repeat' first | exact f74 _ | exact hc | refine And.intro ?_ ?_ | simp [go_sem]); first | done | omega, ?_⟩)); first | apply hK | (refine ⟨by simp [go_sem], ?_⟩; first | apply hK | refine ⟨by simp [go_sem], hK _ _ ?_⟩)) | refine ⟨.one (.one (.bool false)), by simp [go_sem], hK _ _ ?_⟩ | refine ⟨by first | omega | (simp [z_f, z_g]; first | done | omega), ?_⟩ | refine ⟨hK _ ?_, fun h => ?_⟩ | refine ⟨?_, ?_⟩); all_goals ((try apply hK); clear hK K))
 all_goals
  simp [go_sem]
  unfold cmpI
  repeat' split
  all_goals omega
def key (x : Inter) : List Int := [x.from_, x.to, x.label]
end Go.Av
namespace Go.Av
open Go Go.RowKit Go.Proofs
set_option maxHeartbeats 64000000
def okEd (es : List Edg) (z : Int) : Prop := 0 <= z /\ z.toNat < es.length
def cmE (es : List Edg) (i k : Int) : Int := match es[i.toNat]?, es[k.toNat]? with
 | some x, some y => if cmpI x.act.to y.act.to ≠ 0 then cmpI x.act.to y.act.to else cmpI x.act.label y.act.label
 | _, _ => 0
theorem f81 (u v : Int) : Impl Tryz.prog 81 [.one (.sl [[.int .i64 u], [.int .i64 v]])] (.one (.one (.int .i64 (if u ≠ 0 then u else v)))) := by
 refine impl_v ?_
 refine wN ?_
 refine z_k (fun q e => ∃ k : Nat, k + q = 2 /\ (1 <= k -> u = 0) /\ (2 <= k -> v = 0) /\ e = [(8, .sv (.one (.int .i64 k))), (7, .sv (.one (.int .i64 2))), (6, .sv (.one (.sl [[.int .i64 u], [.int .i64 v]]))), (3, .sv (.one (.int .i64 0)))]) 2 _ ⟨0, by omega, by omega, by omega, rfl⟩ (by simp [go_sem]) ?_
 rintro q e ⟨k, hk, h1, h2, rfl⟩
 match k, hk, h1, h2 with
 | 0, hk, _, _ =>
   by_cases hu : u = 0
   ·subst hu
    refine wN ?_
    refine z_j 1 _ (by omega) ⟨1, by omega, by omega, by omega, rfl⟩ ?_
    simp [go_sem]
   ·refine wX hu ?_
    simp [go_sem, hu]
 | 1, hk, h1, _ =>
   have hu := h1 (by omega)
   subst hu
   by_cases hv : v = 0
   ·subst hv
    refine wN ?_
    refine z_j 0 _ (by omega) ⟨2, by omega, by omega, by omega, rfl⟩ ?_
    simp [go_sem]
   ·refine wX hv ?_
    simp [go_sem]
 | 2, hk, h1, h2 =>
   have hu := h1 (by omega)
   have hv := h2 (by omega)
   subst hu hv
   refine wN ?_
   simp [go_sem]
 | k + 3, hk, _, _ => exact absurd hk (by omega)
theorem f80 (g : Glob) (i k : Int) (hi : okEd g.edges i) (hk : okEd g.edges k) : Impl Tryz.prog 80 [.one (.int .i64 i), .one (.int .i64 k), .one (.rf (encG g))] (.one (.one (.int .i64 (cmE g.edges i k)))) := by
 obtain ⟨x, hx⟩ : ∃ x, g.edges[i.toNat]? = some x := ⟨_, List.getElem?_eq_getElem hi.2⟩
 obtain ⟨y, hy⟩ : ∃ y, g.edges[k.toNat]? = some y := ⟨_, List.getElem?_eq_getElem hk.2⟩
 have h0 := hi.1
 have h1 := hk.1
 have k1 := f41 x.act.to y.act.to
 have k2 := f41 x.act.label y.act.label
 have k3 := f81 (cmpI x.act.to y.act.to) (cmpI x.act.label y.act.label)
 have hcm : cmE g.edges i k = if cmpI x.act.to y.act.to ≠ 0 then cmpI x.act.to y.act.to else cmpI x.act.label y.act.label := by unfold cmE; rw [hx, hy]
 rw [<- hcm] at k3
 refine impl_v ?_
 refine wV (aN hx <| aN hy <| aN h0 <| aN h1 <| aN encG.eq_1 encEd.eq_1) (aN k1 <| aN k2 k3) ?_
 simp [go_sem]
end Go.Av
namespace Go.Av
open Go Go.RowKit Go.Proofs
set_option maxHeartbeats 64000000
theorem beforeE_iff {es : List Edg} {i k : Nat} {x y : Edg} (hx : es[i]? = some x) (hy : es[k]? = some y) : beforeE es i k = true ↔ (x.act.to < y.act.to \/ (x.act.to = y.act.to /\ (x.act.label < y.act.label \/ (x.act.label = y.act.label /\ i < k)))) := by
 unfold beforeE
 rw [hx, hy]
 simp only
 split
 ·simp only [decide_eq_true_eq]; omega
 ·split
  ·simp only [decide_eq_true_eq]; omega
  ·simp only [decide_eq_true_eq]; omega
def bfE (es : List Edg) (i k : Int) : Bool := beforeE es i.toNat k.toNat
theorem cmE_iff {es : List Edg} {i k : Int} {x y : Edg} (hx : es[i.toNat]? = some x) (hy : es[k.toNat]? = some y) : cmE es i k < 0 ↔ (x.act.to < y.act.to \/ (x.act.to = y.act.to /\ x.act.label < y.act.label)) := by
 unfold cmE
 rw [hx, hy]
 simp only [cmpI]
 repeat' split
 all_goals omega
theorem ordE (es : List Edg) : OrdR (okEd es) (ltOf (cmE es)) (bfE es) := by
 have get : ∀ z, okEd es z -> ∃ x, es[z.toNat]? = some x := fun z hz => ⟨_, List.getElem?_eq_getElem hz.2⟩
 refine ⟨fun x y hx hy h => ?_, fun x y hx hy h => ?_, fun x y z hx hy hz h1 h2 => ?_, fun x y hx hy h => ?_⟩
 ·obtain ⟨a, ha⟩ := get x hx
  obtain ⟨b, hb⟩ := get y hy
  have := (cmE_iff ha hb).1 (by simpa [ltOf] using h)
  refine (beforeE_iff ha hb).2 ?_
  omega
 ·obtain ⟨a, ha⟩ := get x hx
  obtain ⟨b, hb⟩ := get y hy
  have h1 := (beforeE_iff ha hb).1 h
  rw [<- Bool.not_eq_true]
  intro h2
  have h2 := (beforeE_iff hb ha).1 h2
  omega
 ·obtain ⟨a, ha⟩ := get x hx
  obtain ⟨b, hb⟩ := get y hy
  obtain ⟨c, hc⟩ := get z hz
  have h1 := (beforeE_iff ha hb).1 h1
  have h2 := (beforeE_iff hb hc).1 h2
  refine (beforeE_iff ha hc).2 ?_
  omega
 ·obtain ⟨a, ha⟩ := get x hx
  obtain ⟨b, hb⟩ := get y hy
  have hne : x.toNat ≠ y.toNat := by have := hx.1; have := hy.1; omega
  have e1 := beforeE_iff ha hb
  have e2 := beforeE_iff hb ha
  unfold bfE
  rw [e1, e2]
  omega
def ofState (es : List Edg) (s : Int) (n : Nat) : List Int := ((List.range n).filter fun i => match es[i]? with | some x => decide (x.from_ = s) | none => false).map Int.ofNat
theorem ofState_succ (es : List Edg) (s : Int) {i : Nat} {x : Edg} (hx : es[i]? = some x) : ofState es s (i + 1) = ofState es s i ++ (if x.from_ = s then [(i : Int)] else []) := by
 unfold ofState
 rw [List.range_succ, List.filter_append, List.map_append]
 congr 1
 simp only [List.filter_cons, List.filter_nil, hx]
 split
 ·rename_i h
  rw [if_pos (by simpa using h)]
  rfl
 ·rename_i h
  rw [if_neg (by simpa using h)]
  rfl
theorem ofState_mem {es : List Edg} {s : Int} {n : Nat} {z : Int} (h : z ∈ ofState es s n) : 0 <= z /\ z.toNat < n := by
 unfold ofState at h
 obtain ⟨k, hk, rfl⟩ := List.mem_map.1 h
 have := List.mem_range.1 (List.mem_filter.1 hk).1
 exact ⟨Int.natCast_nonneg k, by simpa using this⟩
theorem ofState_len (es : List Edg) (s : Int) (n : Nat) : (ofState es s n).length <= n := by
 unfold ofState
 rw [List.length_map]
 have := List.length_filter_le (fun i => match es[i]? with | some x => decide (x.from_ = s) | none => false) (List.range n)
 rw [List.length_range] at this
 exact this
theorem ofState_lt (es : List Edg) (s : Int) (n : Nat) : (ofState es s n).Pairwise (· < ·) := by
 unfold ofState
 refine List.Pairwise.map Int.ofNat (fun a b h => ?_) (List.pairwise_lt_range.sublist List.filter_sublist)
 exact Int.ofNat_lt.2 h
variable {ok : Int -> Prop} {R : Int -> Int -> Bool}
theorem f79 {g : FuncId} {caps : List DV} {cm : Int -> Int -> Int} (hg : CmpFn g caps ok cm) (hR : OrdR ok (ltOf cm) R) (l : List Int) (hl : l.length <= 100000) (ho : ∀ y ∈ l, ok y) (hnd : l.Nodup)
  (hc : l.Pairwise fun a b => ltOf cm b a = false -> R a b = true) : ImplM Tryz.prog 79 (.ow 1 (l.map encN)) [.one (.fn g caps)] (.ow 1 ((isort R l).map encN)) := by
 have k1 := f106 hg hR l hl ho hnd hc
 refine implM_intro z79.f z79.b rfl z79.r z79.n z79.t z79.d (shape_ints (isort_len _)) (closed_ints _) (by simp) (by simp) fun v0 => ?_
 simp only [slotsOf]
 conv => arg 2; reduce
 refine wC k1 ?_
 simp [go_sem, endsM]
theorem cmpFn64 (g : Glob) : CmpFn 80 [.rf (encG g)] (okEd g.edges) (cmE g.edges) := ⟨by simp [DV.flat], fun x y hx hy => f80 g x y hx hy⟩
def sortedE (es : List Edg) (s : Int) : List Int := isort (bfE es) (ofState es s es.length)
theorem f47 (g : Glob) (s : Int) (hs : g.edges.length <= 1000) : Impl Tryz.prog 47 [.ag (encG g), .one (.int .i64 s)] (.one (.one (.ow 1 ((sortedE g.edges s).map encN)))) := by
 have hmem : ∀ z ∈ ofState g.edges s g.edges.length, okEd g.edges z := fun z hz => ofState_mem hz
 have hlt2 := ofState_lt g.edges s g.edges.length
 have k1 := f79 (cmpFn64 g) (ordE g.edges) (ofState g.edges s g.edges.length) (by have := ofState_len g.edges s g.edges.length; omega) hmem (hlt2.imp fun h => by omega) (by
  refine hlt2.imp_of_mem fun {a b} ha hb hab h => ?_
  have oa := hmem a ha
  have ob := hmem b hb
  have ea := List.getElem?_eq_getElem oa.2
  have eb := List.getElem?_eq_getElem ob.2
  refine (beforeE_iff ea eb).2 ?_
  have h' : ¬ cmE g.edges b a < 0 := by simpa [ltOf] using h
  rw [cmE_iff eb ea] at h'
  have := oa.1
  omega)
 refine impl_v ?_
 refine wX encG.eq_1 ?_
 refine z_k (fun q e => ∃ (i : Nat) (out : List Int), i + q = g.edges.length /\ out = ofState g.edges s i /\ e = [(11, .sv (.one (.int .i64 i))), (10, .sv (.one (.int .i64 g.edges.length))), (9, .sv (.one (.sl (g.edges.map encEd)))), (5, .sv (.one (.ow 1 (out.map encN)))), (2, .sv (.one (.bx (encG g)))), (1, .sv (.one (.int .i64 s)))]) g.edges.length _ ⟨0, [], by simp, rfl, rfl⟩ (by simp [go_sem, encG]) ?_
 rintro q e ⟨i, out, hi, hout, rfl⟩
 by_cases hlt : i < g.edges.length
 ·obtain ⟨x, hx⟩ : ∃ x, g.edges[i] = x := ⟨_, rfl⟩
  have hsucc := ofState_succ g.edges s (show g.edges[i]? = some x by rw [List.getElem?_eq_getElem hlt, hx])
  rw [<- hout] at hsucc
  have hol : out.length <= i := by rw [hout]; exact ofState_len _ _ _
  have hfl : z_g (out.map encN) := by
   rw [flatEls_map]
   intro z _
   rfl
  by_cases hf : x.from_ = s
  ·rw [if_pos hf] at hsucc
   repeat' first | refine St.go ?_ | ((with_reducible refine cn ?_ ?_) <;> intro h <;> (try simp at h) <;> try omega) | (refine Ru.go ?_; intro K hK; simp [go_sem, hlt, hx, encEd, hf]; (try simp (disch := omega) only [wx, z_i]); (first | apply hK | refine ⟨by first | omega | (simp [z_f, z_g, hlt, hx, encEd, hf, maxLen, DV.flat, encN]; first | done | omega), ?_⟩ | refine ⟨hK _ ?_, fun h => ?_⟩ | refine ⟨?_, ?_⟩); all_goals ((try apply hK); clear hK K))
   refine z_j (q - 1) _ (by omega) ⟨i + 1, out ++ [(i : Int)], by omega, hsucc.symm, rfl⟩ ?_
   simp [go_sem, encN]
  ·rw [if_neg hf, List.append_nil] at hsucc
   refine wX (aN hlt <| aN hx <| aN encEd.eq_1 hf) ?_
   refine z_j (q - 1) _ (by omega) ⟨i + 1, out, by omega, hsucc.symm, rfl⟩ ?_
   simp [go_sem]
 ·have hie : i = g.edges.length := by omega
  subst hie
  rw [<- hout] at k1
  obtain ⟨Y, hY⟩ : ∃ Y, Y = sortedE g.edges s := ⟨_, rfl⟩
  have hY2 : isort (bfE g.edges) out = Y := by rw [hY, sortedE, hout]
  rw [hY2] at k1
  rw [<- hY]
  simp only [encG] at k1
  refine wV encG.eq_1 k1 ?_
  simp [go_sem]
theorem edges_isort (es : List Edg) (s : Int) : ∀ n, n <= es.length -> ((List.range n).foldl (edgesStep es s) []).map Int.ofNat = isort (bfE es) (ofState es s n)
 | 0, _ => rfl
 | n + 1, hn => by
   have ih := edges_isort es s n (by omega)
   have hR := ordE es
   rw [foldl_range]
   obtain ⟨out, hout⟩ : ∃ out, out = (List.range n).foldl (edgesStep es s) [] := ⟨_, rfl⟩
   rw [<- hout] at ih ⊢
   obtain ⟨x, hx⟩ : ∃ x, es[n]? = some x := ⟨_, List.getElem?_eq_getElem (by omega)⟩
   have hsucc := ofState_succ es s hx
   unfold edgesStep
   rw [hx, hsucc]
   simp only
   by_cases hf : x.from_ = s
   ·rw [if_pos hf, if_pos hf]
    have hok : ∀ z ∈ ofState es s n, okEd es z := fun z hz => by have := ofState_mem hz; exact ⟨this.1, by omega⟩
    have hon : okEd es (n : Int) := ⟨Int.natCast_nonneg n, by simp; omega⟩
    have hlt := ofState_lt es s n
    have hsrt : Srt (bfE es) (out.map Int.ofNat) := by rw [ih]; exact isort_srt hR hok (hlt.imp fun h => by omega)
    have hoko : ∀ z ∈ out.map Int.ofNat, okEd es z := fun z hz => hok z (isort_mem.1 (ih ▸ hz))
    obtain ⟨p, hp⟩ : ∃ p, p = insPos es out n := ⟨_, rfl⟩
    have htw : out.take p = out.takeWhile fun j => beforeE es j n := by
     rw [hp, insPos]
     exact List.prefix_iff_eq_take.1 (List.takeWhile_prefix _) |>.symm
    have hperm : ((out.take p).map Int.ofNat ++ (n : Int) :: (out.drop p).map Int.ofNat).Perm (ofState es s n ++ [(n : Int)]) := by
     refine List.perm_middle.trans ?_
     rw [<- List.map_append, List.take_append_drop, ih]
     exact ((isort_perm _).cons _).trans (List.perm_append_singleton _ _).symm
    have hno : ∀ z ∈ ofState es s n ++ [(n : Int)], okEd es z := fun z hz => by
     rcases List.mem_append.1 hz with hz | hz
     ·exact hok z hz
     ·rw [List.mem_singleton.1 hz]; exact hon
    have h := isort_mid hR hno hperm (by rw [<- List.map_append, List.take_append_drop]; exact hsrt) (fun y hy => ?_) (fun y hy => ?_)
    ·rw [h, insE, <- hp]
     simp
    ·obtain ⟨k, hk, rfl⟩ := List.mem_map.1 hy
     rw [htw] at hk
     have := List.all_eq_true.1 (List.all_takeWhile (p := fun j => beforeE es j n) (l := out)) k hk
     simpa [bfE] using this
    ·by_cases hpl : p < out.length
     ·have hne : beforeE es out[p] n = false := by
       rw [<- Bool.not_eq_true]
       intro hb
       have hlen : (out.takeWhile fun j => beforeE es j n).length = p := by rw [hp]; rfl
       have := List.takeWhile_append_dropWhile (p := fun j => beforeE es j n) (l := out)
       have hdw : out.dropWhile (fun j => beforeE es j n) = out.drop p := by
        have h1 : out.takeWhile (fun j => beforeE es j n) ++ out.dropWhile (fun j => beforeE es j n) = out.take p ++ out.drop p := by rw [List.takeWhile_append_dropWhile, List.take_append_drop]
        rw [<- htw] at h1
        exact List.append_cancel_left h1
       have h2 : (out.dropWhile fun j => beforeE es j n).head? = some out[p] := by rw [hdw, List.head?_drop, List.getElem?_eq_getElem hpl]
       have h3 := List.head?_dropWhile_not (fun j => beforeE es j n) out
       rw [h2] at h3
       simp [hb] at h3
      have hg : (out.map Int.ofNat)[p]'(by simpa using hpl) = (out[p] : Int) := by simp
      have hop := hoko _ (List.getElem_mem (l := out.map Int.ofNat) (n := p) (by simpa using hpl))
      rw [hg] at hop
      have hnp : ((n : Int)) ≠ (out[p] : Int) := by
       intro e
       have hmem : (out[p] : Int) ∈ ofState es s n := isort_mem.1 (by rw [<- ih]; exact List.mem_map.2 ⟨out[p], List.getElem_mem _, rfl⟩)
       have := (ofState_mem hmem).2
       rw [<- e] at this
       simp at this
      have hRe : bfE es (n : Int) (out[p] : Int) = true := (hR.tot _ _ hon hop hnp).resolve_right (by simp [bfE, hne])
      exact srt_behind hR hoko hsrt hon (i := p) (by simpa using hpl) (by rw [hg]; exact hRe) y (by rw [<- List.map_drop]; exact hy)
     ·rw [List.drop_eq_nil_of_le (by omega)] at hy
      cases hy
   ·rw [if_neg hf, if_neg hf, List.append_nil]
    exact ih
theorem edges_eq (es : List Edg) (s : Int) : (edgesOf es s).map Int.ofNat = sortedE es s := edges_isort es s es.length (Nat.le_refl _)
end Go.Av
namespace Go.Av
open Go Go.RowKit Go.Proofs
set_option maxHeartbeats 64000000
theorem mem_ofState {es : List Edg} {s z : Int} : z ∈ ofState es s es.length ↔ ∃ x, es[z.toNat]? = some x /\ 0 <= z /\ x.from_ = s := by
 unfold ofState
 simp only [List.mem_map, List.mem_filter, List.mem_range]
 constructor
 ·rintro ⟨i, ⟨hi, h2⟩, rfl⟩
  rw [List.getElem?_eq_getElem hi] at h2
  refine ⟨es[i], ?_, Int.natCast_nonneg i, by simpa using h2⟩
  show es[i]? = _
  exact List.getElem?_eq_getElem hi
 ·rintro ⟨x, hx, h0, hs⟩
  obtain ⟨hi, _⟩ := List.getElem?_eq_some_iff.1 hx
  exact ⟨z.toNat, ⟨hi, by simp [hx, hs]⟩, by simp; omega⟩
theorem mem_sortedE {es : List Edg} {s z : Int} : z ∈ sortedE es s ↔ ∃ x, es[z.toNat]? = some x /\ 0 <= z /\ x.from_ = s := by
 unfold sortedE
 rw [isort_mem, mem_ofState]
structure Nd where
 st : Int
 ps : List Nat
 fr : Int
 ed : Int
def sameN (a b : Nd) : Bool := a.st == b.st && a.ps == b.ps
def histAt (H : List (List Ev)) (r : Int) : List Ev := H[r.toNat]?.getD []
def psAt (ps : List Nat) (r : Int) : Nat := ps[r.toNat]?.getD 0
def stepN (g : Glob) (H : List (List Ev)) (i : Nat) (p : Nd) (k : Int) : Option Nd := match g.edges[k.toNat]? with
 | none => none
 | some x =>
   if (passV (histAt H x.act.from_) (psAt p.ps x.act.from_) true x.act.to x.act.label).2 && (passV (histAt H x.act.to) (psAt p.ps x.act.to) false x.act.from_ x.act.label).2 then
    some ⟨x.to, (p.ps.set x.act.from_.toNat (passV (histAt H x.act.from_) (psAt p.ps x.act.from_) true x.act.to x.act.label).1).set x.act.to.toNat (passV (histAt H x.act.to) (psAt p.ps x.act.to) false x.act.from_ x.act.label).1, i, k⟩
   else none
def addN (g : Glob) (H : List (List Ev)) (i : Nat) (p : Nd) (all : List Nd) (k : Int) : List Nd := match stepN g H i p k with
 | none => all
 | some q => if all.any (sameN q) then all else all ++ [q]
def backN (all : List Nd) : Nat -> Nat -> List Int
 | 0, _ => []
 | _ + 1, 0 => []
 | f + 1, i + 1 => match all[i + 1]? with
   | some n => n.ed :: backN all f n.fr.toNat
   | none => []
def lensH (H : List (List Ev)) : List Nat := H.map List.length
def findL (g : Glob) (H : List (List Ev)) : Nat -> Nat -> List Nd -> Option (List Int) × Int
 | 0, _, _ => (none, 23)
 | f + 1, i, all => match all[i]? with
   | none => (none, 23)
   | some p => if i = 20000 then (none, 6) else if p.ps = lensH H then (some (backN all i i).reverse, 0) else findL g H f (i + 1) ((sortedE g.edges p.st).foldl (addN g H i p) all)
def firstN (g : Glob) (H : List (List Ev)) : Nd := ⟨g.start, List.replicate H.length 0, -1, -1⟩
def goodF (g : Glob) (H : List (List Ev)) : Bool := valid29 g && decide (H.length = g.roles.length) && properH H
def searchF (g : Glob) (H : List (List Ev)) : Option (List Int) × Int := if goodF g H then findL g H 20001 0 [firstN g H] else (none, 1)
structure NdOk (g : Glob) (H : List (List Ev)) (i : Nat) (n : Nd) : Prop where
 st0 : 0 <= n.st
 st1 : n.st < g.states
 len : n.ps.length = H.length
 le : ∀ r : Int, 0 <= r -> r < H.length -> psAt n.ps r <= (histAt H r).length
 fr0 : i = 0 -> n.fr = -1 /\ n.ed = -1
 fr1 : 0 < i -> 0 <= n.fr /\ n.fr < i /\ 0 <= n.ed /\ n.ed.toNat < g.edges.length
def AllOk (g : Glob) (H : List (List Ev)) (all : List Nd) : Prop := ∀ (i : Nat) n, all[i]? = some n -> NdOk g H i n
def EdOk (g : Glob) (H : List (List Ev)) : Prop := ∀ x ∈ g.edges, 0 <= x.to /\ x.to < g.states /\ 0 <= x.act.from_ /\ x.act.from_ < H.length /\ 0 <= x.act.to /\ x.act.to < H.length
theorem passV_le {h : List Ev} {n : Nat} (hn : n <= h.length) (s : Bool) (p l : Int) : (passV h n s p l).1 <= h.length := by
 unfold passV
 split
 ·exact hn
 ·rename_i x hx
  exact (List.getElem?_eq_some_iff.1 hx).1
theorem psAt_set {ps : List Nat} {r q : Int} {v : Nat} (hr : 0 <= r) (hq : 0 <= q) (hl : q.toNat < ps.length) : psAt (ps.set q.toNat v) r = if r = q then v else psAt ps r := by
 unfold psAt
 rw [List.getElem?_set]
 by_cases h : r = q
 ·subst h
  simp [hl]
 ·have : ¬ q.toNat = r.toNat := by omega
  simp [this, h]
theorem step_ok {g : Glob} {H : List (List Ev)} (he : EdOk g H) {i m : Nat} {p q : Nd} {k : Int} (hp : NdOk g H i p) (hk : 0 <= k) (him : i < m) (h : stepN g H i p k = some q) : NdOk g H m q := by
 unfold stepN at h
 split at h
 ·cases h
 ·rename_i x hx
  have hxm := List.mem_of_getElem? hx
  obtain ⟨e1, e2, e3, e4, e5, e6⟩ := he x hxm
  split at h
  ·injection h with h
   subst h
   have hl := hp.len
   refine ⟨e1, e2, by simp [hl], ?_, by omega, fun _ => ⟨by show (0 : Int) <= (i : Int); omega, by show (i : Int) < m; omega, hk, (List.getElem?_eq_some_iff.1 hx).1⟩⟩
   intro r h0 h1
   rw [psAt_set h0 e5 (by rw [List.length_set]; omega)]
   split
   ·rename_i he; subst he
    exact passV_le (hp.le _ h0 h1) _ _ _
   ·rw [psAt_set h0 e3 (by omega)]
    split
    ·rename_i he; subst he
     exact passV_le (hp.le _ h0 h1) _ _ _
    ·exact hp.le _ h0 h1
  ·cases h
theorem addN_ok {g : Glob} {H : List (List Ev)} (he : EdOk g H) {i : Nat} {p : Nd} {all : List Nd} {k : Int} (ha : AllOk g H all) (hp : NdOk g H i p) (hi : i < all.length) (hk : 0 <= k) : AllOk g H (addN g H i p all k) /\ all.length <= (addN g H i p all k).length /\ (addN g H i p all k).length <= all.length + 1 := by
 unfold addN
 split
 ·exact ⟨ha, by omega, by omega⟩
 ·rename_i q hq
  split
  ·exact ⟨ha, by omega, by omega⟩
  ·refine ⟨fun j n hj => ?_, by simp, by simp⟩
   rw [List.getElem?_append] at hj
   split at hj
   ·exact ha j n hj
   ·rename_i hjl
    have hjz : j - all.length = 0 := by
     cases h : j - all.length with
     | zero => rfl
     | succ z => rw [h] at hj; cases hj
    rw [hjz] at hj
    simp only [List.getElem?_cons_zero, Option.some.injEq] at hj
    subst hj
    exact step_ok he hp hk (by omega) hq
theorem valid_roles {g : Glob} {H : List (List Ev)} (h : goodF g H = true) : numbered g = true /\ H.length = g.roles.length /\ H.length <= 6 /\ properH H = true := by
 unfold goodF at h
 simp only [Bool.and_eq_true, decide_eq_true_eq] at h
 have hv := h.1.1
 unfold valid29 at hv
 simp only [Bool.and_eq_true] at hv
 have hn := hv.1.1.1.1.1.1
 unfold named at hn
 simp only [Bool.and_eq_true, decide_eq_true_eq] at hn
 exact ⟨hv.1.1.1.1.1.2, h.1.2, by omega, h.2⟩
theorem edges_ok {g : Glob} {H : List (List Ev)} (h : goodF g H = true) : EdOk g H := by
 obtain ⟨hn, hl, _, _⟩ := valid_roles h
 obtain ⟨_, _, _, _, _, _, n7⟩ := numbered_facts hn
 intro x hx
 have := n7 x hx
 simp only [okEdge, stateB, Bool.and_eq_true, decide_eq_true_eq] at this
 omega
theorem first_ok {g : Glob} {H : List (List Ev)} (h : goodF g H = true) : AllOk g H [firstN g H] := by
 obtain ⟨hn, hl, _, _⟩ := valid_roles h
 obtain ⟨n1, n2, n3, n4, _, _, _⟩ := numbered_facts hn
 intro i n hi
 cases i with
 | zero =>
   simp only [List.getElem?_cons_zero, Option.some.injEq] at hi
   subst hi
   refine ⟨n3, n4, by simp [firstN], fun r h0 h1 => ?_, fun _ => ⟨rfl, rfl⟩, by omega⟩
   unfold psAt firstN
   simp only
   rw [List.getElem?_replicate]
   split <;> simp
 | succ i => cases hi
def encA (n : Nat) : DV := .int .i64 n
@[go_sem ↓ high] theorem flat_encA (n : Nat) : (encA n).flat = true := rfl
@[go_sem ↓ high] theorem frz_encA (n : Nat) : (encA n).frz = encA n := rfl
def pad6 (ps : List Nat) : List Nat := (ps ++ List.replicate 6 0).take 6
@[go_sem] theorem pad6_len (ps : List Nat) : (pad6 ps).length = 6 := by simp [pad6]
theorem pad6_at {ps : List Nat} {k : Nat} (h : k < ps.length) (h6 : k < 6) : (pad6 ps)[k]? = ps[k]? := by
 unfold pad6
 rw [List.getElem?_take, if_pos h6, List.getElem?_append_left h]
theorem pad6_set {ps : List Nat} {k v : Nat} (h : k < ps.length) : (pad6 ps).set k v = pad6 (ps.set k v) := by
 unfold pad6
 rw [<- List.take_set, List.set_append_left _ _ h]
theorem pad6_inj {a b : List Nat} (h : a.length = b.length) (h6 : a.length <= 6) (e : pad6 a = pad6 b) : a = b := by
 unfold pad6 at e
 have := congrArg (List.take a.length) e
 rw [List.take_take, List.take_take, Nat.min_eq_left h6] at this
 rw [List.take_append_of_le_length (Nat.le_refl _), List.take_length, h, List.take_append_of_le_length (Nat.le_refl _), List.take_length] at this
 exact this
theorem pad6_zero (n : Nat) : pad6 (List.replicate n 0) = List.replicate 6 0 := by
 unfold pad6
 rw [List.replicate_append_replicate, List.take_replicate]
 have : min 6 (n + 6) = 6 := by omega
 rw [this]
theorem pad6_step {L : List Nat} {k : Nat} (h : k < L.length) (h6 : L.length <= 6) : (pad6 (L.take k)).set k L[k] = pad6 (L.take (k + 1)) := by
 have h1 : (L.take k).length = k := by rw [List.length_take]; omega
 unfold pad6
 rw [<- List.take_set, List.set_append_right _ _ (by omega), h1, Nat.sub_self, List.take_succ_eq_append_getElem h, List.append_assoc]
 show List.take 6 (List.take k L ++ L[k] :: List.replicate 5 0) = List.take 6 (List.take k L ++ L[k] :: List.replicate 6 0)
 rw [List.take_append, List.take_append, h1]
 congr 1
 obtain ⟨m, hm⟩ : ∃ m, 6 - k = m + 1 := ⟨5 - k, by omega⟩
 rw [hm, List.take_succ_cons, List.take_succ_cons, List.take_replicate, List.take_replicate]
 have : min m 5 = min m 6 := by omega
 rw [this]
def nn (x : Int) : Int := if x < 0 then 0 else x
theorem nn_pos {x : Int} (h : 0 <= x) : nn x = x := by unfold nn; rw [if_neg (by omega)]
def encPl (n : Nd) : List DV := .int .i64 n.st :: (pad6 n.ps).map encA
def encSp (n : Nd) : List DV := [.int .i64 (nn n.fr), .int .i64 (nn n.ed)]
def keyN (n : Nd) : List KV := .ki .i64 n.st :: (pad6 n.ps).map (fun v => .ki .i64 (v : Nat))
def metM (all : List Nd) : List (List KV × KV) := all.map fun n => (keyN n, .kb true)
theorem ki_inj : ∀ {a b : List Nat}, a.map (fun v => KV.ki .i64 (v : Nat)) = b.map (fun v => KV.ki .i64 (v : Nat)) -> a = b
 | [], [], _ => rfl
 | [], _ :: _, h => by cases h
 | _ :: _, [], h => by cases h
 | x :: a, y :: b, h => by
   simp only [List.map_cons, List.cons.injEq, KV.ki.injEq, true_and] at h
   rw [ki_inj h.2]
   congr 1
   omega
theorem keyN_inj {a b : Nd} (h : a.ps.length = b.ps.length) (h6 : a.ps.length <= 6) : keyN a = keyN b ↔ sameN a b = true := by
 unfold keyN sameN
 simp only [Bool.and_eq_true, beq_iff_eq]
 constructor
 ·intro e
  simp only [List.cons.injEq, KV.ki.injEq, true_and] at e
  exact ⟨e.1, pad6_inj h h6 (ki_inj e.2)⟩
 ·rintro ⟨h1, h2⟩
  rw [h1, h2]
theorem met_none {q : Nd} : ∀ {all : List Nd}, q.ps.length <= 6 -> (∀ n ∈ all, n.ps.length = q.ps.length) -> all.any (sameN q) = false -> mpGet (metM all) (keyN q) = none /\ mpSet (metM all) (keyN q) (.kb true) = metM (all ++ [q])
 | [], _, _, _ => ⟨rfl, rfl⟩
 | n :: all, h6, hl, h => by
   simp only [List.any_cons, Bool.or_eq_false_iff] at h
   have hne : ¬ keyN q = keyN n := by
    rw [keyN_inj (hl n (by simp)).symm h6, h.1]
    simp
   obtain ⟨h1, h2⟩ := met_none h6 (fun n hn => hl n (List.mem_cons_of_mem _ hn)) h.2
   refine ⟨?_, ?_⟩
   ·show mpGet ((keyN n, .kb true) :: metM all) (keyN q) = none
    simp only [mpGet, hne, if_false]
    exact h1
   ·show mpSet ((keyN n, .kb true) :: metM all) (keyN q) (.kb true) = _
    simp only [mpSet, hne, if_false, h2]
    rfl
theorem met_some {q : Nd} : ∀ {all : List Nd}, q.ps.length <= 6 -> (∀ n ∈ all, n.ps.length = q.ps.length) -> all.any (sameN q) = true -> mpGet (metM all) (keyN q) = some (.kb true)
 | n :: all, h6, hl, h => by
   show mpGet ((keyN n, .kb true) :: metM all) (keyN q) = _
   simp only [mpGet]
   split
   ·rfl
   ·rename_i hne
    rw [keyN_inj (hl n (by simp)).symm h6] at hne
    simp only [List.any_cons, Bool.or_eq_true, hne, Bool.false_eq_true, false_or] at h
    exact met_some h6 (fun n hn => hl n (List.mem_cons_of_mem _ hn)) h
@[go_sem] theorem encPl_len (n : Nd) : (encPl n).length = 7 := by simp [encPl, pad6_len]
@[go_sem] theorem encPl_take (n : Nd) : (encPl n).take 7 = encPl n := List.take_of_length_le (by rw [encPl_len]; omega)
@[go_sem] theorem encPl_flat (n : Nd) : (encPl n).all DV.flat = true := by
 simp [encPl, encA, DV.flat]
@[go_sem] theorem hasOw_A : ∀ l : List Nat, hasOw (l.map encA) = false
 | [] => rfl
 | x :: l => hasOw_A l
@[go_sem] theorem flat_A (l : List Nat) : (l.map encA).all DV.flat = true := by simp [encA, DV.flat]
@[go_sem] theorem encPl_own (n : Nd) : hasOw (encPl n) = false := hasOw_A (pad6 n.ps)
theorem kvs_A : ∀ l : List Nat, kvs (l.map encA) = some (l.map (fun v => .ki .i64 (v : Nat)))
 | [] => rfl
 | x :: l => by
   simp only [List.map_cons, kvs, kvs_A l]
   rfl
@[go_sem] theorem encPl_kvs (n : Nd) : kvs (encPl n) = some (keyN n) := by
 unfold encPl keyN
 simp only [kvs, kvs_A]
 rfl
theorem frz_A : ∀ l : List Nat, frzL (l.map encA) = l.map encA
 | [] => rfl
 | x :: l => by
   simp only [List.map_cons, frzL, frz_A l]
   rfl
@[go_sem] theorem encPl_frz (n : Nd) : frzL (encPl n) = encPl n := by
 unfold encPl
 simp only [frzL, frz_A]
 rfl
@[go_sem] theorem encPl_zero (n : Nd) : (encPl n)[0]? = some (.int .i64 n.st) := rfl
@[go_sem] theorem encPl_zero2 (n : Nd) (h : 0 < (encPl n).length) : (encPl n)[0] = .int .i64 n.st := rfl
@[go_sem] theorem encPl_drop (n : Nd) : List.take 6 (List.drop 1 (encPl n)) = (pad6 n.ps).map encA := by
 show List.take 6 ((pad6 n.ps).map encA) = _
 exact List.take_of_length_le (by rw [List.length_map, pad6_len]; exact Nat.le_refl 6)
@[go_sem] theorem encPl_tail (n : Nd) : List.take 6 (encPl n).tail = (pad6 n.ps).map encA := by
 show List.take 6 ((pad6 n.ps).map encA) = _
 exact List.take_of_length_le (by rw [List.length_map, pad6_len]; exact Nat.le_refl 6)
theorem encPl_at {n : Nd} {k v : Nat} (h : n.ps[k]? = some v) (h6 : k < 6) : (encPl n)[1 + k]? = some (.int .i64 (v : Nat)) := by
 rw [Nat.add_comm]
 show ((pad6 n.ps).map encA)[k]? = _
 rw [List.getElem?_map, pad6_at (List.getElem?_eq_some_iff.1 h).1 h6, h]
 rfl
theorem encPl_put (s : Int) (ps : List Nat) (f e : Int) {k : Nat} (v : Nat) (h : k < ps.length) (h6 : k < 6) : List.take (1 + k) (encPl ⟨s, ps, f, e⟩) ++ (DV.int .i64 (v : Nat) :: List.drop (1 + k + 1) (encPl ⟨s, ps, f, e⟩)) = encPl ⟨s, ps.set k v, f, e⟩ := by
 have h1 : (encPl ⟨s, ps, f, e⟩).set (1 + k) (.int .i64 (v : Nat)) = encPl ⟨s, ps.set k v, f, e⟩ := by
  rw [Nat.add_comm]
  show DV.int .i64 s :: ((pad6 ps).map encA).set k (encA v) = DV.int .i64 s :: (pad6 (ps.set k v)).map encA
  rw [<- List.map_set, pad6_set h]
 rw [<- h1, List.set_eq_take_append_cons_drop, if_pos (by rw [encPl_len]; omega)]
theorem encPl_step {L : List Nat} {k : Nat} (h : k < L.length) (h6 : L.length <= 6) : List.take (1 + k) (encPl ⟨0, L.take k, 0, 0⟩) ++ (DV.int .i64 (L[k] : Nat) :: List.drop (1 + k + 1) (encPl ⟨0, L.take k, 0, 0⟩)) = encPl ⟨0, L.take (k + 1), 0, 0⟩ := by
 have h1 : (encPl ⟨0, L.take k, 0, 0⟩).set (1 + k) (.int .i64 (L[k] : Nat)) = encPl ⟨0, L.take (k + 1), 0, 0⟩ := by
  rw [Nat.add_comm]
  show DV.int .i64 0 :: ((pad6 (L.take k)).map encA).set k (encA L[k]) = DV.int .i64 0 :: (pad6 (L.take (k + 1))).map encA
  rw [<- List.map_set, pad6_step h h6]
 rw [<- h1, List.set_eq_take_append_cons_drop, if_pos (by rw [encPl_len]; omega)]
theorem six {l : List Nat} (h : l.length = 6) : ∃ a b c d e f, l = [a, b, c, d, e, f] := by
 match l, h with
 | [a, b, c, d, e, f], _ => exact ⟨a, b, c, d, e, f, rfl⟩
theorem cells6 {a b : List Nat} (hl : a.length = b.length) (h6 : a.length <= 6) : cellsEq ((pad6 a).map encA) ((pad6 b).map encA) [(0, 0), (1, 0), (2, 0), (3, 0), (4, 0), (5, 0)] = some (decide (a = b)) := by
 have e : (a = b) = (pad6 a = pad6 b) := propext ⟨fun e => by rw [e], pad6_inj hl h6⟩
 have e2 : decide (a = b) = decide (pad6 a = pad6 b) := by simp only [e]
 rw [e2]
 obtain ⟨a1, a2, a3, a4, a5, a6, ha⟩ := six (pad6_len a)
 obtain ⟨b1, b2, b3, b4, b5, b6, hb⟩ := six (pad6_len b)
 rw [ha, hb]
 simp only [List.map_cons, List.map_nil, cellsEq, encA, List.getElem?_cons_zero, List.getElem?_cons_succ, cellEq, if_true, Option.some.injEq]
 rw [Bool.eq_iff_iff]
 simp
 omega
@[go_sem] theorem encA_len (l : List Nat) : ((pad6 l).map encA).length = 6 := by rw [List.length_map, pad6_len]
def rowsE (g : Glob) (S k : Nat) : List (List DV) := (List.range S).map fun i => [if i < k then .ow 1 ((sortedE g.edges i).map encN) else .nil]
theorem rowsE_zero (g : Glob) (S : Nat) : rowsE g S 0 = List.replicate S [.nil] := by
 unfold rowsE
 simp only [Nat.not_lt_zero, if_false]
 apply List.ext_getElem?
 intro i
 rw [List.getElem?_map, List.getElem?_replicate]
 by_cases h : i < S
 ·rw [List.getElem?_range h, if_pos h]; rfl
 ·rw [List.getElem?_eq_none (by simpa using h), if_neg h]; rfl
theorem rowsE_len (g : Glob) (S k : Nat) : (rowsE g S k).length = S := by simp [rowsE]
theorem rowsE_at {g : Glob} {S k i : Nat} (h : i < S) : (rowsE g S k)[i]? = some [if i < k then .ow 1 ((sortedE g.edges i).map encN) else .nil] := by
 unfold rowsE
 rw [List.getElem?_map, List.getElem?_range h]
 rfl
theorem rowsE_set {g : Glob} {S k : Nat} (h : k < S) : (rowsE g S k).set k [.ow 1 ((sortedE g.edges k).map encN)] = rowsE g S (k + 1) := by
 apply List.ext_getElem?
 intro i
 rw [List.getElem?_set]
 by_cases hi : k = i
 ·subst hi
  rw [if_pos rfl, if_pos (by rw [rowsE_len]; exact h), rowsE_at h, if_pos (by omega)]
 ·rw [if_neg hi]
  by_cases hs : i < S
  ·rw [rowsE_at hs, rowsE_at hs]
   by_cases h2 : i < k
   ·rw [if_pos h2, if_pos (by omega)]
   ·rw [if_neg h2, if_neg (by omega)]
  ·rw [List.getElem?_eq_none (by rw [rowsE_len]; omega), List.getElem?_eq_none (by rw [rowsE_len]; omega)]
end Go.Av
namespace Go.Av
open Go Go.RowKit Go.Proofs
set_option maxHeartbeats 64000000
def revK (l : List Int) : Nat -> List Int
 | 0 => l
 | k + 1 => swapI (revK l k) k (l.length - 1 - k)
theorem revK_len (l : List Int) : ∀ k, (revK l k).length = l.length
 | 0 => rfl
 | k + 1 => by rw [revK, swapI_len, revK_len l k]
theorem revK_at (l : List Int) : ∀ k, 2 * k <= l.length -> ∀ i, i < l.length -> (revK l k)[i]? = if i < k \/ l.length <= i + k then l[l.length - 1 - i]? else l[i]?
 | 0, _, i, hi => by
   rw [if_neg (by omega)]
   rfl
 | k + 1, hk, i, hi => by
   have ih := revK_at l k (by omega)
   have hl := revK_len l k
   have g1 : (revK l k).getD (l.length - 1 - k) 0 = l[l.length - 1 - k] := by
    rw [List.getD_eq_getElem?_getD, ih _ (by omega), if_neg (by omega), List.getElem?_eq_getElem (by omega)]
    rfl
   have g2 : (revK l k).getD k 0 = l[k] := by
    rw [List.getD_eq_getElem?_getD, ih _ (by omega), if_neg (by omega), List.getElem?_eq_getElem (by omega)]
    rfl
   rw [revK, swapI, g1, g2, List.getElem?_set, List.length_set, List.getElem?_set, hl, ih i hi]
   by_cases e1 : l.length - 1 - k = i
   ·have e2 : l.length - 1 - i = k := by omega
    rw [if_pos e1, if_pos (by omega), if_pos (by omega), e2, List.getElem?_eq_getElem (by omega)]
   ·rw [if_neg e1]
    by_cases e2 : k = i
    ·subst e2
     rw [if_pos rfl, if_pos (by omega), if_pos (by omega), List.getElem?_eq_getElem (by omega)]
    ·rw [if_neg e2]
     by_cases e3 : i < k \/ l.length <= i + k
     ·rw [if_pos e3, if_pos (by omega)]
     ·rw [if_neg e3, if_neg (by omega)]
theorem revK_rev {l : List Int} {k : Nat} (h1 : 2 * k <= l.length) (h2 : l.length <= 2 * k + 1) : revK l k = l.reverse := by
 apply List.ext_getElem?
 intro i
 by_cases hi : i < l.length
 ·rw [revK_at l k h1 i hi, List.getElem?_reverse hi]
  split
  ·rfl
  ·congr 1
   omega
 ·rw [List.getElem?_eq_none (by rw [revK_len]; omega), List.getElem?_eq_none (by simp; omega)]
theorem f48 (l : List Int) (hl : l.length <= 1000000) : ImplM Tryz.prog 48 (.ow 1 (l.map encN)) [] (.ow 1 (l.reverse.map encN)) := by
 refine implM_intro z48.f z48.b rfl z48.r z48.n z48.t z48.d (shape_ints (by simp)) (closed_ints _) (by simp) (by simp) fun v0 => ?_
 simp only [slotsOf]
 conv => arg 2; reduce
 refine wN ?_
 refine z_k (fun q e => ∃ (k : Nat) (J : Int), 2 * k + q = l.length /\ J = (l.length : Int) - 1 - k /\ e = [(3, .sv (.one (.int .i64 J))), (2, .sv (.one (.int .i64 k))), (1000000, .eqv 0 v0), (0, .sv (.one (.ow 1 ((revK l k).map encN))))]) l.length _ ⟨0, _, by simp, rfl, rfl⟩ (by simp [go_sem, revK]) ?_
 rintro q e ⟨k, J, hq, hJ, rfl⟩
 have hD2 : revK l (k + 1) = swapI (revK l k) k (l.length - 1 - k) := rfl
 have hDl := revK_len l k
 obtain ⟨D, hD⟩ : ∃ D, D = revK l k := ⟨_, rfl⟩
 rw [<- hD] at hD2 hDl ⊢
 by_cases hlt : (k : Int) < J
 ·obtain ⟨j, hj⟩ : ∃ j : Nat, J = j := ⟨J.toNat, by omega⟩
  subst hj
  have hjl : l.length - 1 - k = j := by omega
  rw [hjl] at hD2
  have b1 : k < D.length := by omega
  have b2 : j < D.length := by omega
  obtain ⟨D1, hD1⟩ : ∃ D1, D1 = D.set k D[j] := ⟨_, rfl⟩
  obtain ⟨D2, hDD⟩ : ∃ D2, D2 = revK l (k + 1) := ⟨_, rfl⟩
  have hl1 : D1.length = l.length := by rw [hD1, List.length_set, hDl]
  have hs2 : D1.set j D[k] = D2 := by
   rw [hDD, hD2, hD1, swapI, List.getD_eq_getElem?_getD, List.getD_eq_getElem?_getD, List.getElem?_eq_getElem b1, List.getElem?_eq_getElem b2]
   rfl
  obtain ⟨u, hu⟩ : ∃ u, u = D[k] := ⟨_, rfl⟩
  obtain ⟨v, hv⟩ : ∃ v, v = D[j] := ⟨_, rfl⟩
  rw [<- hv] at hD1
  rw [<- hu] at hs2
  have hset1 : (D.map encN).set k [.int .i64 v] = D1.map encN := by rw [show [DV.int .i64 v] = encN v from rfl, <- List.map_set, hD1]
  have hset2 : (D1.map encN).set j [.int .i64 u] = D2.map encN := by rw [show [DV.int .i64 u] = encN u from rfl, <- List.map_set, hs2]
  have g1 : D[k]? = some u := by rw [List.getElem?_eq_getElem b1, hu]
  have g2 : D[j]? = some v := by rw [List.getElem?_eq_getElem b2, hv]
  obtain ⟨v', g3⟩ : ∃ v', D1[j]? = some v' := ⟨_, List.getElem?_eq_getElem (by omega)⟩
  refine wX (aN hlt <| aN hDl <| aN hl1 <| aN encN.eq_1 <| aN g1 <| aN g2 <| aN g3 <| aN hset1 hset2) ?_
  refine z_j (q - 2) _ (by omega) ⟨k + 1, (j : Int) - 1, by omega, by omega, rfl⟩ ?_
  rw [<- hDD]
  simp [go_sem, encN, hset1, hset2]
 ·have hr : D = l.reverse := by rw [hD]; exact revK_rev (by omega) (by omega)
  rw [<- hr]
  refine wX hlt ?_
  simp [go_sem, endsM]
theorem f46 (h109 : H109) (g : Glob) (H : List (List Ev)) (hs : Small g) (hl : H.length <= 1000000) (hh : ∀ l ∈ H, l.length <= 1000000) : Impl Tryz.prog 46 [.ag (encG g), .one (.sl (H.map encH))] (.one (.one (.bool (goodF g H)))) := by
 have k37 := f37 h109 g hs
 have hrl : g.roles.length <= 1000 := hs.roles
 simp only [encG] at k37
 refine impl_v ?_
 cases hv : valid29 g with
 | false =>
   rw [hv] at k37
   have hg : goodF g H = false := by unfold goodF; rw [hv]; rfl
   rw [hg]
   refine wV encG.eq_1 k37 ?_
   simp [go_sem]
 | true =>
   rw [hv] at k37
   by_cases hlen : H.length = g.roles.length
   rotate_left
   ·have hg : goodF g H = false := by unfold goodF; rw [hv, decide_eq_false hlen]; rfl
    rw [hg]
    have hlen2 : ¬ (H.length : Int) = g.roles.length := by omega
    refine wV (aN encG.eq_1 <| aN hlen hlen2) k37 ?_
    simp [go_sem]
   have hg : goodF g H = properH H := by unfold goodF; rw [hv, decide_eq_true hlen]; simp
   have h6 : H.length <= 6 := by
    have hv' := hv
    unfold valid29 at hv'
    simp only [Bool.and_eq_true] at hv'
    have hn := hv'.1.1.1.1.1.1
    unfold named at hn
    simp only [Bool.and_eq_true, decide_eq_true_eq] at hn
    omega
   rw [hg]
   refine wV (aN encG.eq_1 hlen) k37 ?_
   refine z_k (fun n e => ∃ k, k + n = H.length /\ (∀ i (hi : i < H.length), i < k -> okH H.length i H[i] = true) /\ e = [(22, .sv (.one (.int .i64 (k : Nat)))), (21, .sv (.one (.int .i64 H.length))), (20, .sv (.one (.sl (H.map encH)))), (1, .sv (.one (.sl (H.map encH))))]) H.length _ ⟨0, by simp, by simp, rfl⟩ (by simp [go_sem, hlen]) ?_
   rintro n e ⟨k, hk, hok, rfl⟩
   by_cases hlt : k < H.length
   ·have hh' := hh H[k] (List.getElem_mem hlt)
    repeat' first | refine St.go ?_ | ((with_reducible refine cn ?_ ?_) <;> intro h <;> (try simp at h) <;> try omega) | (refine Ru.go ?_; intro K hK; simp [go_sem, hlt, encH]; (try simp (disch := omega) only [wx, z_i]); (first | apply hK | refine ⟨by first | omega | (simp [z_f, z_g, hlt, encH]; first | done | omega), ?_⟩ | refine ⟨hK _ ?_, fun h => ?_⟩ | refine ⟨?_, ?_⟩); all_goals ((try apply hK); clear hK K))
    refine z_k (fun m e => ∃ j, j + m = H[k].length /\ okH H.length k (H[k].take j) = true /\ e = [(29, .sv (.one (.int .i64 (j : Nat)))), (28, .sv (.one (.int .i64 H[k].length))), (27, .sv (.one (.sl (H[k].map encE)))), (5, .sv (.one (.int .i64 k))), (22, .sv (.one (.int .i64 (k : Nat)))), (21, .sv (.one (.int .i64 H.length))), (20, .sv (.one (.sl (H.map encH)))), (1, .sv (.one (.sl (H.map encH))))]) H[k].length _ ⟨0, by simp, by simp [okH], rfl⟩ (by simp [go_sem]) ?_
    rintro m e ⟨j, hj, hjo, rfl⟩
    by_cases hlj : j < H[k].length
    ·skip
     repeat' first | refine St.go ?_ | ((with_reducible refine cn ?_ ?_) <;> intro h <;> (try simp at h) <;> try omega) | (refine Ru.go ?_; intro K hK; simp [go_sem, hlt, hlj, encE]; (try simp (disch := omega) only [wx, z_i]); (first | apply hK | refine ⟨by first | omega | (simp [z_f, z_g, hlt, hlj, encE]; first | done | omega), ?_⟩ | refine ⟨hK _ ?_, fun h => ?_⟩ | refine ⟨?_, ?_⟩); all_goals ((try apply hK); clear hK K))
     ·have hb : okE H.length k H[k][j] = false := by
       simp only [okE]
       simp_all
       omega
      simp [go_sem, properH_no hlt hlj hb]
     ·refine z_j (m - 1) _ (by omega) ⟨j + 1, by omega, ?_, rfl⟩ ?_
      ·rw [okH_succ hlj, hjo]
       simp only [okE]
       simp_all
      ·simp [go_sem]
    ·refine wX (aN hlt hlj) ?_
     refine z_j (n - 1) _ (by omega) ⟨k + 1, by omega, ?_, rfl⟩ ?_
     ·intro i hi hik
      by_cases he : i = k
      ·subst he
       rwa [List.take_of_length_le (by omega)] at hjo
      ·exact hok i hi (by omega)
     ·simp [go_sem]
   ·refine wX hlt ?_
    rw [properH_yes (fun i hi => hok i hi (by omega))]
    simp [go_sem]
    omega
end Go.Av
namespace Go.Av
open Go Go.RowKit Go.Proofs
set_option maxHeartbeats 64000000
theorem und87 : Tryz.prog.underlying 87 = some (.struct #[⟨"state", 3, 0, false, "", "farandole/fit", 0⟩, ⟨"passed", 85, 1, false, "", "farandole/fit", 8⟩]) := by kernel_rfl
theorem und85 : Tryz.prog.underlying 85 = some (.array 6 3) := by kernel_rfl
theorem und3 : Tryz.prog.underlying 3 = some (.int .i64) := by kernel_rfl
theorem size3 : sizeT Tryz.prog 3 = some 1 := by kernel_rfl
theorem size85 : sizeT Tryz.prog 85 = some 6 := by kernel_rfl
theorem kind3 : kindT Tryz.prog 3 = some false := by kernel_rfl
theorem kind85 : kindT Tryz.prog 85 = some true := by kernel_rfl
theorem key3 (em : Bool) (w : World) (n : Nat) (x : Int) : (Instr.checkKey em (n + 1) 3 (.int .i64 x)).run Tryz.prog w = .ok () w := by
 simp [Instr.checkKey, run_underlying und3]
theorem key85 (em : Bool) (w : World) (n : Nat) (a b c d e f : Int) : (Instr.checkKey em (n + 1 + 1) 85 (.agg #[.int .i64 a, .int .i64 b, .int .i64 c, .int .i64 d, .int .i64 e, .int .i64 f])).run Tryz.prog w = .ok () w := by
 rw [Instr.checkKey]
 simp only [Sem.run_bind, run_underlying und85, Result.andThen_ok, Std.Legacy.Range.forIn_eq_forIn_range', Std.Legacy.Range.size, Nat.sub_zero, Nat.add_sub_cancel, Nat.div_one, List.range'_succ, List.range'_zero, List.forIn_cons, List.forIn_nil, run_sizeOf size3, part, run_isAgg kind3, Bool.false_eq_true, if_false]
 simp [key3]
theorem key87 (s a b c d e f : Int) : KeyT Tryz.prog 87 [.ki .i64 s, .ki .i64 a, .ki .i64 b, .ki .i64 c, .ki .i64 d, .ki .i64 e, .ki .i64 f] := by
 intro em w
 show (Instr.checkKey em (9997 + 1 + 1 + 1) 87 _).run Tryz.prog w = _
 rw [Instr.checkKey]
 simp only [KV.key, List.map_cons, List.map_nil, KV.val, Sem.run_bind, run_underlying und87, Result.andThen_ok, Array.forIn_toList, <- Array.forIn_toList, List.forIn_cons, List.forIn_nil, run_sizeOf size3, run_sizeOf size85, part, run_isAgg kind3, run_isAgg kind85, Bool.false_eq_true, if_false, if_true]
 simp [key3, key85]
theorem keyOkN (q : Nd) (all : List Nd) : KeyOk Tryz.prog 87 (keyN q) (metM all) where
 chk := by
  unfold keyN
  obtain ⟨a, b, c, d, e, f, h⟩ := six (pad6_len q.ps)
  rw [h]
  exact key87 _ _ _ _ _ _ _
 cmp := by
  unfold keyN
  obtain ⟨a, b, c, d, e, f, h⟩ := six (pad6_len q.ps)
  rw [h]
  kernel_rfl
 kind := by kernel_rfl
 size := by
  unfold keyN
  obtain ⟨a, b, c, d, e, f, h⟩ := six (pad6_len q.ps)
  rw [h]
  kernel_rfl
 like := fun e he => by
  obtain ⟨p, _, hp⟩ := List.mem_map.1 he
  rw [<- hp]
  unfold keyN
  obtain ⟨a, b, c, d, e, f, h⟩ := six (pad6_len q.ps)
  obtain ⟨a, b, c, d, e, f, h'⟩ := six (pad6_len p.ps)
  rw [h, h']
  rfl
end Go.Av
namespace Go.Av
open Go Go.RowKit Go.Proofs
set_option maxHeartbeats 64000000
theorem f31 (l : List (List Ev)) (hl : l.length <= 1000000) : Impl Tryz.prog 31 [.one (.sl (l.map encH))] (.one (.one (.ow 1 (l.map encH)))) := by
 refine impl_v ?_
 repeat' first | refine St.go ?_ | ((with_reducible refine cn ?_ ?_) <;> intro h <;> (try simp at h) <;> try omega) | (refine Ru.go ?_; intro K hK; simp [go_sem, encH]; (try simp (disch := omega) only [wx, z_i]); (first | apply hK | refine ⟨by first | omega | (simp [z_f, z_g, encH, maxLen, DV.flat]; first | done | omega), ?_⟩ | refine ⟨hK _ ?_, fun h => ?_⟩ | refine ⟨?_, ?_⟩); all_goals ((try apply hK); clear hK K))
 all_goals simp_all [go_sem]
end Go.Av

/- Part of a proof. -/
import Derived.Test.YticeobjphcmggaaGreatDoorB01
import Derived.Test.YticeobjphcmggaaGreatDoorB22
import Derived.Test.YticeobjphcmggaaGreatDoorAvR
import Derived.Test.YticeobjphcmggaaGreatDoorB00
set_option linter.unusedVariables false
set_option linter.unusedSimpArgs false
set_option maxHeartbeats 64000000
set_option maxRecDepth 8000
namespace Go.Proofs.YticeobjphcmggaaGreatDoor
open Go.ChangeShapes Go.WideShapes Go.ChangeAt Go.RowKit Go.Av
set_option maxRecDepth 100000
theorem val_ofB {n : Nat} {l : List DV} (h : TyLB Tryz.prog (n + 2) 111 l) : ∃ v : Vl, l = encVl v /\ v.txt.size <= reachBytes := by
 unfold TyLB at h
 rw [Tryz.underlying111] at h
 simp only [TyFB] at h
 obtain ⟨l1, l2, rfl, h1, l3, l4, rfl, h2, l5, l6, rfl, h3, rfl⟩ := h
 obtain ⟨a, rfl, _⟩ := int_ofB Tryz.underlying3 h1
 obtain ⟨b, rfl, _⟩ := int_ofB Tryz.underlying3 h2
 obtain ⟨c, rfl, hc⟩ := str_ofB Tryz.underlying9 h3
 exact ⟨⟨a, b, c⟩, rfl, hc⟩
theorem dec_all (L : List Vl) : (L.map encVl).map decVl = L := by
 induction L with
 | nil => rfl
 | cons v L ih => simp only [List.map_cons, dec_enc, ih]
def EvB (x : Ev) : Prop := EvOk x /\ TxtOk (evV x)
theorem ev2_ofB {n : Nat} {l : List DV} (h : TyLB Tryz.prog (n + 4) 64 l) : ∃ x : Ev, l = encE x /\ EvB x := by
 unfold TyLB at h
 rw [Tryz.underlying64] at h
 simp only [TyFB] at h
 obtain ⟨l1, l2, rfl, h1, l3, l4, rfl, h2, l5, l6, rfl, h3, l7, l8, rfl, h4, l9, l10, rfl, h5, rfl⟩ := h
 obtain ⟨a, rfl, _⟩ := int_ofB Tryz.underlying3 h1
 obtain ⟨b, rfl⟩ := bool_ofB Tryz.underlying4 h2
 obtain ⟨c, rfl, _⟩ := int_ofB Tryz.underlying3 h3
 obtain ⟨d, rfl, _⟩ := int_ofB Tryz.underlying3 h4
 obtain ⟨els, rfl, hl, hel⟩ := slice_ofB Tryz.underlying62 h5
 obtain ⟨L, rfl, hL⟩ := list_ofB (enc := encVl) (p := fun v => v.txt.size <= reachBytes) els fun el h => val_ofB (hel el h)
 have he : evV ⟨a, b, c, d, some (L.map encVl)⟩ = L := dec_all L
 refine ⟨⟨a, b, c, d, some (L.map encVl)⟩, rfl, ⟨?_, ?_⟩, ?_⟩
 ·rw [he]
 ·rw [he]
  exact reach_small (by simpa using hl)
 ·rw [he]
  exact fun v hv => reach_small (hL v hv)
theorem evs2_ofB {n : Nat} {l : List DV} (h : TyLB Tryz.prog (n + 5) 37 l) : ∃ L : List Ev, l = encH L /\ L.length <= reachBytes /\ ∀ x ∈ L, EvB x := by
 obtain ⟨els, rfl, hl, hel⟩ := slice_ofB Tryz.underlying37 h
 obtain ⟨L, rfl, hL⟩ := list_ofB (enc := encE) (p := EvB) els fun el h => ev2_ofB (hel el h)
 exact ⟨L, rfl, by simpa using hl, hL⟩
theorem hists2_ofB {n : Nat} {l : List DV} (h : TyLB Tryz.prog (n + 6) 28 l) : ∃ H : List (List Ev), l = [.sl (H.map encH)] /\ HistA H /\ ∀ x ∈ H, ∀ e ∈ x, EvB e := by
 obtain ⟨els, rfl, hl, hel⟩ := slice_ofB Tryz.underlying28 h
 obtain ⟨L, rfl, hL⟩ := list_ofB (enc := encH) (p := fun x => x.length <= reachBytes /\ ∀ e ∈ x, EvB e) els fun el h => by
  obtain ⟨x, h1, h2, h3⟩ := evs2_ofB (hel el h)
  exact ⟨x, h1, h2, h3⟩
 exact ⟨L, rfl, ⟨reach_small (by simpa using hl), fun x hx => reach_small (hL x hx).1⟩, fun x hx => (hL x hx).2⟩
end Go.Proofs.YticeobjphcmggaaGreatDoor
namespace Go.Av
open Go Go.RowKit Go.Proofs
set_option maxHeartbeats 64000000
theorem mask_all : ∀ n : Fin 201, IntKind.u64.wrap ((BitVec.ofInt IntKind.u64.bits (n.val : Int) &&& BitVec.ofInt IntKind.u64.bits 4294967295).toNat : Int) = (n.val : Int) := by decide +kernel
theorem shift_all : ∀ n : Fin 201, (n.val : Int).fdiv 4294967296 = 0 := by decide +kernel
theorem wrap_all : ∀ n : Fin 201, IntKind.u64.wrap (n.val : Int) = (n.val : Int) := by decide +kernel
theorem f143 (n : Nat) (h : n <= 200) : Impl Tryz.prog 143 [.one (.int .u64 1), .one (.int .u64 n)] (.tup [.one (.int .u64 0), .one (.int .u64 n)]) := by
 have m1 : IntKind.u64.wrap ((BitVec.ofInt IntKind.u64.bits (n : Int) &&& BitVec.ofInt IntKind.u64.bits 4294967295).toNat : Int) = (n : Int) := mask_all ⟨n, by omega⟩
 have m0 : IntKind.u64.wrap ((BitVec.ofInt IntKind.u64.bits (0 : Int) &&& BitVec.ofInt IntKind.u64.bits 4294967295).toNat : Int) = (0 : Int) := mask_all ⟨0, by omega⟩
 simp [go_sem] at m1
 have s1 : (n : Int).fdiv 4294967296 = 0 := shift_all ⟨n, by omega⟩
 have w1 : IntKind.u64.wrap (n : Int) = (n : Int) := wrap_all ⟨n, by omega⟩
 have w2 : IntKind.u64.wrap 0 = 0 := wrap_all ⟨0, by omega⟩
 have w3 : IntKind.u64.wrap 1 = 1 := wrap_all ⟨1, by omega⟩
 refine impl_v ?_
 refine wX (aN m1 <| aN s1 <| aN w1 <| aN w2 w3) ?_
 simp [go_sem, m1, s1, w1, w2, w3]
theorem f122 (n : Nat) (h : n <= 200) : Impl Tryz.prog 122 [.one (.int .u64 1), .one (.int .u64 n)] (.tup [.one (.int .u64 0), .one (.int .u64 n)]) := by
 have k1 := f143 n h
 refine impl_v ?_
 refine wC k1 ?_
 simp [go_sem]
set_option maxHeartbeats 64000000
def half (k n : Nat) : List (List DV) := (List.replicate k (-1 : Int) ++ List.replicate (n - k) 0).map encN
theorem half_len {k n : Nat} (h : k <= n) : (half k n).length = n := by simp [half]; omega
theorem half_flat (k n : Nat) : z_g (half k n) := by
 unfold half
 rw [flatEls_map]
 intro x hx
 rfl
theorem half_one (k n : Nat) : ∀ e ∈ half k n, e.length = 1 := by
 intro e he
 obtain ⟨x, _, rfl⟩ := List.mem_map.1 he
 rfl
theorem flat_take {els : List (List DV)} (h : z_g els) (k : Nat) : z_g (els.take k) := fun e he => h e (List.mem_of_mem_take he)
theorem half_start (n : Nat) : List.take n [[DV.int .i64 (-1)]] ++ List.replicate (n - min 1 n) [DV.int .i64 0] = half (min 1 n) n := by
 cases n with
 | zero => simp [half]
 | succ n =>
   have : min 1 (n + 1) = 1 := by omega
   rw [this]
   simp [half, encN]
theorem half_done (n : Nat) : half n n = (List.replicate n (-1 : Int)).map encN := by simp [half]
theorem half_step {k n : Nat} (h : k <= n) : (half k n).take k ++ (((half k n).take k).take (n - k) ++ (half k n).drop (k + min k (n - k))) = half (k + min k (n - k)) n := by
 have e1 : (half k n).take k = (List.replicate k (-1 : Int)).map encN := by
  unfold half
  rw [<- List.map_take, List.take_left' (by simp)]
 have e2 : (half k n).drop (k + min k (n - k)) = (List.replicate (n - (k + min k (n - k))) (0 : Int)).map encN := by
  unfold half
  rw [<- List.map_drop, <- List.drop_drop, List.drop_left' (by simp)]
  rw [List.drop_replicate]
  congr 2
  omega
 rw [e1, e2]
 unfold half
 rw [<- List.map_take, List.take_replicate, <- List.map_append, <- List.map_append, <- List.append_assoc, List.replicate_append_replicate]
 congr 2
 congr 1
 omega
theorem f104 (n : Nat) (hn : n <= 200) : Impl Tryz.prog 104 [.one (.sl [[.int .i64 (-1)]]), .one (.int .i64 n)] (.one (.one (.ow 1 ((List.replicate n (-1)).map encN)))) := by
 have k1 := f122 n hn
 have w1 : IntKind.u64.wrap (n : Int) = (n : Int) := wrap_all ⟨n, by omega⟩
 have w3 : IntKind.u64.wrap 1 = 1 := wrap_all ⟨1, by omega⟩
 have fr : z_g (List.replicate n [DV.int .i64 0]) := by
  intro e he
  rw [(List.mem_replicate.1 he).2]
  rfl
 have f1 : z_g [[DV.int .i64 (-1)]] := by
  intro e he
  rw [List.mem_singleton.1 he]
  rfl
 have hm : min 1 n <= n := by omega
 have hst := half_start n
 refine impl_z Tryz.func104 z104 Tryz.ntmps104 (by simp) ?_
 simp only [c104, slotsOf]
 repeat' first | refine St.go ?_ | ((with_reducible refine cn ?_ ?_) <;> intro h <;> (try simp at h) <;> try omega) | (refine Ru.go ?_; intro K hK; simp [go_sem, w1, w3]; (try simp (disch := omega) only [wx, z_i]); (first | apply hK | ((first | ((try refine .inl ?_); refine ⟨_, by (try intro hc); (repeat' first | exact k1 | exact hc | refine And.intro ?_ ?_ | simp [go_sem, w1, w3]); first | done | omega, ?_⟩) | refine .inr (.inl ⟨_, by (try intro hc); (repeat' first | exact k1 | exact hc | refine And.intro ?_ ?_ | simp [go_sem, w1, w3]); first | done | omega, ?_⟩) | refine .inr (.inr ⟨_, by (try intro hc); (repeat' first | exact k1 | exact hc | refine And.intro ?_ ?_ | simp [go_sem, w1, w3]); first | done | omega, ?_⟩)); first | apply hK | (refine ⟨by simp [go_sem, w1, w3], ?_⟩; first | apply hK | refine ⟨by simp [go_sem, w1, w3], hK _ _ ?_⟩)) | refine ⟨.one (.one (.bool false)), by simp [go_sem, w1, w3], hK _ _ ?_⟩ | refine ⟨by first | omega | (simp [z_f, z_g, w1, w3, fr, f1]; first | done | omega), ?_⟩ | refine ⟨hK _ ?_, fun h => ?_⟩ | refine ⟨?_, ?_⟩); all_goals ((try apply hK); clear hK K))
 ·exact ⟨fr, f1⟩
 rw [hst]
 refine z_k (fun q e => ∃ k : Nat, k + q = n /\ (n = 0 \/ 1 <= k) /\ e = [(8, .sv (.one (.int .i64 k))), (7, .sv (.one (.ow 1 (half k n))))]) (n - min 1 n) _ ⟨min 1 n, by omega, by omega, rfl⟩ (by simp [go_sem]) ?_
 rintro q e ⟨k, hk, hk1, rfl⟩
 have hl := half_len (show k <= n by omega)
 have hf := half_flat k n
 have hft := flat_take hf k
 have ho := half_one k n
 by_cases hlt : k < n
 ·have hst := half_step (show k <= n by omega)
  repeat' first | refine St.go ?_ | ((with_reducible refine cn ?_ ?_) <;> intro h <;> (try simp at h) <;> try omega) | (refine Ru.go ?_; intro K hK; simp [go_sem, hlt, hl]; (try simp (disch := omega) only [wx, z_i]); (first | apply hK | refine ⟨by first | omega | (simp [z_f, z_g, hlt, hl, hf, hft, ho, hl]; first | done | omega), ?_⟩ | refine ⟨hK _ ?_, fun h => ?_⟩ | refine ⟨?_, ?_⟩); all_goals ((try apply hK); clear hK K))
  ·exact ⟨by omega, ho⟩
  ·exact ⟨by omega, ho⟩
  ·exact ⟨hf, hft, fun e he => ho e (List.mem_of_mem_take he)⟩
  refine z_j (n - (k + min k (n - k))) _ (by omega) ⟨k + min k (n - k), by omega, by omega, rfl⟩ ?_
  simp [go_sem, hst]
 ·have hkn : k = n := by omega
  subst hkn
  rw [half_done] at hl ⊢
  repeat' first | refine St.go ?_ | ((with_reducible refine cn ?_ ?_) <;> intro h <;> (try simp at h) <;> try omega) | (refine Ru.go ?_; intro K hK; simp [go_sem, hl]; (try simp (disch := omega) only [wx, z_i]); (first | apply hK | refine ⟨by first | omega | (simp [z_f, z_g, hl]; first | done | omega), ?_⟩ | refine ⟨hK _ ?_, fun h => ?_⟩ | refine ⟨?_, ?_⟩); all_goals ((try apply hK); clear hK K))
  simp [go_sem]
set_option maxHeartbeats 64000000
theorem f5 (h109 : H109) (g : Glob) (H : List (List Ev)) (hg : GlobA g) (hH : HistA H) (hev : ∀ l ∈ H, ∀ x ∈ l, EvOk x /\ TxtOk (evV x)) : Impl Tryz.prog 5 [.ag (encG g), .one (.sl (H.map encH))] (.one (.one (.bool true))) := by
 have k9 := f9 h109
 have k10 := f10 g H 12 hg.1 (fun d hd => (hg.2 d hd).2) hH.1 hH.2
 simp only [encG] at k10
 refine impl_v ?_
 cases hf : fewF g H 12 with
 | false =>
   rw [hf] at k10
   refine wV encG.eq_1 (aN k9 k10) ?_
   simp [go_sem]
 | true =>
   rw [hf] at k10
   obtain ⟨f1, f2, f3⟩ := few_facts hf
   have sg := few_small f1 fun d hd => (hg.2 d hd).1
   have hl : H.length <= 1000000 := by omega
   have hh : ∀ l ∈ H, l.length <= 100000 := fun l hl' => by have := sumH_mem hl'; omega
   have k17 := f17 h109 f138 g H sg hl hh fun l hl x hx => (hev l hl x hx).1
   have k18 := f18 g H sg hl hh hev
   simp only [encG] at k17 k18
   generalize valuesF g H = v at *
   refine wV encG.eq_1 (aN k9 <| aN k10 <| aN k17 k18) ?_
   simp [go_sem]
end Go.Av

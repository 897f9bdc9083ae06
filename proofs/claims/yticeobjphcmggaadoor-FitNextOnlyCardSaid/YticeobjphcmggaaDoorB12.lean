/- Part of a proof. -/
import Derived.Test.YticeobjphcmggaaDoorAvR
import Derived.Test.YticeobjphcmggaaDoorB11
import Derived.Test.YticeobjphcmggaaDoorB01
import Derived.Test.YticeobjphcmggaaDoorB00
import Derived.Test.YticeobjphcmggaaDoorC0
set_option linter.unusedVariables false
set_option linter.unusedSimpArgs false
set_option maxHeartbeats 64000000
set_option maxRecDepth 8000
namespace Go.Av
open Go Go.RowKit Go.Proofs
set_option maxHeartbeats 64000000
theorem Impl.frz {P : Program} {f : FuncId} {xs : List SV} {r : RV} (h : Impl P f xs r) : Impl P f xs r.frz := by
 refine ⟨h.1, fun w S vs hS hcz => (h.2 w S vs hS hcz).mono fun e w' => ?_⟩
 rintro ⟨v, rs, he, hb, hr, hnd, hcr⟩
 refine ⟨v, [], he, hb, by simp, by simp, ?_⟩
 have hS' : ∀ b, (S b \/ (w.heap.size <= b /\ b < w'.heap.size /\ b ∉ rs)) -> (S b \/ (w.heap.size <= b /\ b < w'.heap.size /\ b ∉ ([] : List Nat))) := fun b h => h.imp_right fun ⟨h1, h2, _⟩ => ⟨h1, h2, by simp⟩
 have hr' : ∀ b ∈ rs, S b \/ (w.heap.size <= b /\ b < w'.heap.size /\ b ∉ ([] : List Nat)) := fun b hb => .inr ⟨(hr b hb).1, (hr b hb).2, by simp⟩
 cases hcr with
 | one v x r h => exact .one _ _ _ (h.freeze hS' hr')
 | tup vs l r h => exact .tup _ _ _ (h.freeze hS' hr')
theorem appendOk_h {l : List (List Ev)} (h : l.length <= 100000000) : z_f 1 24 [] (l.map encH) := by
 refine ⟨?_, ?_, by omega, ?_, ?_⟩
 ·intro e he
  obtain ⟨z, _, rfl⟩ := List.mem_map.1 he
  rfl
 ·intro e he
  obtain ⟨z, _, rfl⟩ := List.mem_map.1 he
  rfl
 ·simp only [List.length_map, List.length_nil, maxLen]; omega
 ·simp only [List.length_map, List.length_nil]; omega
set_option maxHeartbeats 64000000
def encU (b : Int) : DV := .int .u8 b
def byAt (B : List Int) (r : Nat) : Int := B[r % 6]?.getD 0
def cutL (h : List Ev) (b : Int) : List Ev := h.take ((h.length : Int) - b.tmod (h.length + 1)).toNat
def cutK (H : List (List Ev)) (B : List Int) (k : Nat) : List (List Ev) := (List.range k).map fun r => cutL (H[r]?.getD []) (byAt B r)
theorem cutK_succ (H : List (List Ev)) (B : List Int) {k : Nat} (hk : k < H.length) : cutK H B (k + 1) = cutK H B k ++ [cutL H[k] (byAt B k)] := by
 unfold cutK
 rw [List.range_succ, List.map_append, List.map_singleton, List.getElem?_eq_getElem hk]
 rfl
theorem cutK_len (H : List (List Ev)) (B : List Int) (k : Nat) : (cutK H B k).length = k := by simp [cutK]
theorem appendOk_h1 {C : List (List Ev)} {x : List Ev} (h : C.length <= 1000000) : z_f 1 24 (C.map encH) [encH x] := by
 refine ⟨?_, ?_, by omega, ?_, ?_⟩
 ·intro e he
  rw [List.mem_singleton.1 he]
  rfl
 ·intro e he
  rw [List.mem_singleton.1 he]
  rfl
 ·simp only [List.length_map, maxLen, List.length_singleton]; omega
 ·simp only [List.length_map, List.length_singleton]; omega
theorem f8 (H : List (List Ev)) (B : List Int) (hB : B.length = 6) (hb : ∀ b ∈ B, 0 <= b /\ b < 256) (hl : H.length <= 1000000) (hh : ∀ l ∈ H, l.length <= 1000000) :
  Impl Tryd.prog 8 [.one (.sl (H.map encH)), .ag (B.map encU)] (.one (.one (.ow 1 ((cutK H B H.length).map encH)))) := by
 refine impl_v ?_
 have hf1 : (B.map encU).all DV.flat = true := by
  rw [List.all_eq_true]
  intro d hd
  obtain ⟨z, _, rfl⟩ := List.mem_map.1 hd
  rfl
 have hf2 : ∀ (b : Int), b ∈ B -> (encU b).flat = true := fun _ _ => rfl
 refine wX (aN hf1 hf2) ?_
 refine z_k (fun n e => ∃ k : Nat, k + n = H.length /\ e = [(9, .sv (.one (.int .i64 k))), (8, .sv (.one (.int .i64 H.length))), (5, .sv (.one (.ow 1 ((cutK H B k).map encH)))), (4, .sv (.one .nil)), (3, .sv (.one (.bx (B.map encU)))), (0, .sv (.one (.sl (H.map encH))))]) H.length _ ⟨0, by simp, rfl⟩ (by simp [go_sem, cutK]) ?_
 rintro n e ⟨k, hk, rfl⟩
 by_cases hlt : k < H.length
 ·obtain ⟨l, hl1⟩ : ∃ l, H[k] = l := ⟨_, rfl⟩
  have hll : l.length <= 1000000 := hh l (hl1 ▸ List.getElem_mem hlt)
  have hk6 : k % 6 < B.length := by omega
  have hr6 : 0 <= (k : Int).tmod 6 /\ ((k : Int).tmod 6).toNat = k % 6 := by
   rw [Int.tmod_eq_emod_of_nonneg (by omega)]
   omega
  have hbe : B[((k : Int).tmod 6).toNat]? = some B[k % 6] := by rw [hr6.2, List.getElem?_eq_getElem hk6]
  have hby : byAt B k = B[k % 6] := by
   unfold byAt
   rw [List.getElem?_eq_getElem hk6]
   rfl
  have hbb := hb _ (List.getElem_mem hk6)
  generalize B[k % 6] = b at hbe hby hbb
  have hcs := cutK_succ H B hlt
  rw [hl1, hby] at hcs
  unfold cutL at hcs
  have hm0 : 0 <= b.tmod (l.length + 1) /\ b.tmod (l.length + 1) <= l.length := by
   rw [Int.tmod_eq_emod_of_nonneg (by omega)]
   have := Int.emod_lt_of_pos b (show (0 : Int) < l.length + 1 by omega)
   have := Int.emod_nonneg b (show (l.length + 1 : Int) ≠ 0 by omega)
   omega
  have hbw : IntKind.i64.wrap b = b := z_h (by omega) (by omega)
  have hlw : IntKind.i64.wrap (l.length + 1) = l.length + 1 := z_h (by omega) (by omega)
  have hln : ¬ (l.length + 1 : Int) = 0 := by omega
  generalize hm : b.tmod (l.length + 1) = m at hm0 hcs
  have hr0 := hr6.1
  obtain ⟨hm0, hm1⟩ := hm0
  have hel : ∀ a : Ev, (encE a).length = 5 := fun _ => rfl
  have hap := appendOk_h1 (C := cutK H B k) (x := l.take ((l.length : Int) - m).toNat) (by rw [cutK_len]; omega)
  simp only [encH, List.map_take] at hap
  refine wX (aN hlt <| aN hl1 <| aN encH.eq_1 <| aN hbe <| aN hbw <| aN hlw <| aN hln <| aN hm <| aN hr0 <| aN encU.eq_1 <| aN hm0 <| aN hm1 <| aN hel hap) (H1.k ?_); intro h
  refine z_j (n - 1) _ (by omega) ⟨k + 1, by omega, rfl⟩ ?_
  simp [go_sem, hcs, encH]
 ·have hke : k = H.length := by omega
  refine wX hlt (H1.k ?_); intro h
  simp [go_sem, hke]
end Go.Av
namespace Go.Proofs.YticeobjphcmggaaDoor
open Go.ChangeShapes Go.WideShapes Go.ChangeAt Go.RowKit Go.Av
set_option maxRecDepth 100000
theorem six_ofB {n : Nat} {l : List DV} (h : TyLB Tryd.prog (n + 2) 29 l) : ∃ B : List Int, l = B.map encU /\ B.length = 6 /\ ∀ b ∈ B, 0 <= b /\ b < 256 := by
 have hu : Tryd.prog.underlying 29 = some (.array 6 5) := by kernel_rfl
 have h5 : Tryd.prog.underlying 5 = some (.int .u8) := by kernel_rfl
 unfold TyLB at h
 rw [hu] at h
 obtain ⟨els, rfl, hl, hel⟩ := h
 obtain ⟨B, hB, hb⟩ : ∃ B : List Int, els = B.map (fun b => [encU b]) /\ ∀ b ∈ B, 0 <= b /\ b < 256 := by
  clear hl
  induction els with
  | nil => exact ⟨[], rfl, by simp⟩
  | cons e els ih =>
    obtain ⟨B, rfl, hb⟩ := ih fun x hx => hel x (List.mem_cons_of_mem _ hx)
    have he := hel e List.mem_cons_self
    unfold TyLB at he
    rw [h5] at he
    obtain ⟨m, rfl, hw⟩ := he
    refine ⟨m :: B, rfl, fun b hb' => ?_⟩
    rcases List.mem_cons.1 hb' with rfl | hb'
    ·simp only [Lit.wf, decide_eq_true_eq, Bool.and_eq_true] at hw
     have h1 : IntKind.u8.min = 0 := rfl
     have h2 : IntKind.u8.max = 255 := rfl
     omega
    ·exact hb b hb'
 subst hB
 refine ⟨B, ?_, by simpa using hl, hb⟩
 clear hl hb hel
 induction B with
 | nil => rfl
 | cons b B ih => simp only [List.map_cons, List.flatten_cons, ih]; rfl
end Go.Proofs.YticeobjphcmggaaDoor
namespace Go.Av
open Go Go.RowKit Go.Proofs
set_option maxHeartbeats 64000000
theorem mask_all : ∀ n : Fin 201, IntKind.u64.wrap ((BitVec.ofInt IntKind.u64.bits (n.val : Int) &&& BitVec.ofInt IntKind.u64.bits 4294967295).toNat : Int) = (n.val : Int) := by decide +kernel
theorem shift_all : ∀ n : Fin 201, (n.val : Int).fdiv 4294967296 = 0 := by decide +kernel
theorem wrap_all : ∀ n : Fin 201, IntKind.u64.wrap (n.val : Int) = (n.val : Int) := by decide +kernel
theorem f82 (n : Nat) (h : n <= 200) : Impl Tryd.prog 82 [.one (.int .u64 1), .one (.int .u64 n)] (.tup [.one (.int .u64 0), .one (.int .u64 n)]) := by
 have m1 : IntKind.u64.wrap ((BitVec.ofInt IntKind.u64.bits (n : Int) &&& BitVec.ofInt IntKind.u64.bits 4294967295).toNat : Int) = (n : Int) := mask_all ⟨n, by omega⟩
 have m0 : IntKind.u64.wrap ((BitVec.ofInt IntKind.u64.bits (0 : Int) &&& BitVec.ofInt IntKind.u64.bits 4294967295).toNat : Int) = (0 : Int) := mask_all ⟨0, by omega⟩
 simp [go_sem] at m1
 have s1 : (n : Int).fdiv 4294967296 = 0 := shift_all ⟨n, by omega⟩
 have w1 : IntKind.u64.wrap (n : Int) = (n : Int) := wrap_all ⟨n, by omega⟩
 have w2 : IntKind.u64.wrap 0 = 0 := wrap_all ⟨0, by omega⟩
 have w3 : IntKind.u64.wrap 1 = 1 := wrap_all ⟨1, by omega⟩
 refine impl_v ?_
 refine wX (aN m1 <| aN s1 <| aN w1 <| aN w2 w3) ?_
 simp [go_sem, m1, s1, w1, w2, w3]
theorem f71 (n : Nat) (h : n <= 200) : Impl Tryd.prog 71 [.one (.int .u64 1), .one (.int .u64 n)] (.tup [.one (.int .u64 0), .one (.int .u64 n)]) := by
 have k1 := f82 n h
 refine impl_v ?_
 refine wC k1 ?_
 simp [go_sem]
set_option maxHeartbeats 64000000
def half (k n : Nat) : List (List DV) := (List.replicate k (-1 : Int) ++ List.replicate (n - k) 0).map encN
theorem half_len {k n : Nat} (h : k <= n) : (half k n).length = n := by simp [half]; omega
theorem half_flat (k n : Nat) : z_g (half k n) := by
 unfold half
 rw [flatEls_map]
 intro x hx
 rfl
theorem half_one (k n : Nat) : ∀ e ∈ half k n, e.length = 1 := by
 intro e he
 obtain ⟨x, _, rfl⟩ := List.mem_map.1 he
 rfl
theorem flat_take {els : List (List DV)} (h : z_g els) (k : Nat) : z_g (els.take k) := fun e he => h e (List.mem_of_mem_take he)
theorem half_start (n : Nat) : List.take n [[DV.int .i64 (-1)]] ++ List.replicate (n - min 1 n) [DV.int .i64 0] = half (min 1 n) n := by
 cases n with
 | zero => simp [half]
 | succ n =>
   have : min 1 (n + 1) = 1 := by omega
   rw [this]
   simp [half, encN]
theorem half_done (n : Nat) : half n n = (List.replicate n (-1 : Int)).map encN := by simp [half]
theorem half_step {k n : Nat} (h : k <= n) : (half k n).take k ++ (((half k n).take k).take (n - k) ++ (half k n).drop (k + min k (n - k))) = half (k + min k (n - k)) n := by
 have e1 : (half k n).take k = (List.replicate k (-1 : Int)).map encN := by
  unfold half
  rw [<- List.map_take, List.take_left' (by simp)]
 have e2 : (half k n).drop (k + min k (n - k)) = (List.replicate (n - (k + min k (n - k))) (0 : Int)).map encN := by
  unfold half
  rw [<- List.map_drop, <- List.drop_drop, List.drop_left' (by simp)]
  rw [List.drop_replicate]
  congr 2
  omega
 rw [e1, e2]
 unfold half
 rw [<- List.map_take, List.take_replicate, <- List.map_append, <- List.map_append, <- List.append_assoc, List.replicate_append_replicate]
 congr 2
 congr 1
 omega
theorem f56 (n : Nat) (hn : n <= 200) : Impl Tryd.prog 56 [.one (.sl [[.int .i64 (-1)]]), .one (.int .i64 n)] (.one (.one (.ow 1 ((List.replicate n (-1)).map encN)))) := by
 have k1 := f71 n hn
 have w1 : IntKind.u64.wrap (n : Int) = (n : Int) := wrap_all ⟨n, by omega⟩
 have w3 : IntKind.u64.wrap 1 = 1 := wrap_all ⟨1, by omega⟩
 have fr : z_g (List.replicate n [DV.int .i64 0]) := by
  intro e he
  rw [(List.mem_replicate.1 he).2]
  rfl
 have f1 : z_g [[DV.int .i64 (-1)]] := by
  intro e he
  rw [List.mem_singleton.1 he]
  rfl
 have hm : min 1 n <= n := by omega
 have hst := half_start n
 refine impl_z Tryd.func56 z56 Tryd.ntmps56 (by simp) ?_
 simp only [c56, slotsOf]
 repeat' first | refine St.go ?_ | ((with_reducible refine cn ?_ ?_) <;> intro h <;> (try simp at h) <;> try omega) | (refine Ru.go ?_; intro K hK; simp [go_sem, w1, w3]; (try simp (disch := omega) only [wx, z_i]); (first | apply hK | ((first | ((try refine .inl ?_); refine ⟨_, by (try intro hc); (repeat' first | exact k1 | exact hc | refine And.intro ?_ ?_ | simp [go_sem, w1, w3]); first | done | omega, ?_⟩) | refine .inr (.inl ⟨_, by (try intro hc); (repeat' first | exact k1 | exact hc | refine And.intro ?_ ?_ | simp [go_sem, w1, w3]); first | done | omega, ?_⟩) | refine .inr (.inr ⟨_, by (try intro hc); (repeat' first | exact k1 | exact hc | refine And.intro ?_ ?_ | simp [go_sem, w1, w3]); first | done | omega, ?_⟩)); first | apply hK | (refine ⟨by simp [go_sem, w1, w3], ?_⟩; first | apply hK | refine ⟨by simp [go_sem, w1, w3], hK _ _ ?_⟩)) | refine ⟨.one (.one (.bool false)), by simp [go_sem, w1, w3], hK _ _ ?_⟩ | refine ⟨by first | omega | (simp [z_f, z_g, w1, w3, fr, f1]; first | done | omega), ?_⟩ | refine ⟨hK _ ?_, fun h => ?_⟩ | refine ⟨?_, ?_⟩); all_goals ((try apply hK); clear hK K))
 ·exact ⟨fr, f1⟩
 rw [hst]
 refine z_k (fun q e => ∃ k : Nat, k + q = n /\ (n = 0 \/ 1 <= k) /\ e = [(8, .sv (.one (.int .i64 k))), (7, .sv (.one (.ow 1 (half k n))))]) (n - min 1 n) _ ⟨min 1 n, by omega, by omega, rfl⟩ (by simp [go_sem]) ?_
 rintro q e ⟨k, hk, hk1, rfl⟩
 have hl := half_len (show k <= n by omega)
 have hf := half_flat k n
 have hft := flat_take hf k
 have ho := half_one k n
 by_cases hlt : k < n
 ·have hst := half_step (show k <= n by omega)
  repeat' first | refine St.go ?_ | ((with_reducible refine cn ?_ ?_) <;> intro h <;> (try simp at h) <;> try omega) | (refine Ru.go ?_; intro K hK; simp [go_sem, hlt, hl]; (try simp (disch := omega) only [wx, z_i]); (first | apply hK | refine ⟨by first | omega | (simp [z_f, z_g, hlt, hl, hf, hft, ho, hl]; first | done | omega), ?_⟩ | refine ⟨hK _ ?_, fun h => ?_⟩ | refine ⟨?_, ?_⟩); all_goals ((try apply hK); clear hK K))
  ·exact ⟨by omega, ho⟩
  ·exact ⟨by omega, ho⟩
  ·exact ⟨hf, hft, fun e he => ho e (List.mem_of_mem_take he)⟩
  refine z_j (n - (k + min k (n - k))) _ (by omega) ⟨k + min k (n - k), by omega, by omega, rfl⟩ ?_
  simp [go_sem, hst]
 ·have hkn : k = n := by omega
  subst hkn
  rw [half_done] at hl ⊢
  repeat' first | refine St.go ?_ | ((with_reducible refine cn ?_ ?_) <;> intro h <;> (try simp at h) <;> try omega) | (refine Ru.go ?_; intro K hK; simp [go_sem, hl]; (try simp (disch := omega) only [wx, z_i]); (first | apply hK | refine ⟨by first | omega | (simp [z_f, z_g, hl]; first | done | omega), ?_⟩ | refine ⟨hK _ ?_, fun h => ?_⟩ | refine ⟨?_, ?_⟩); all_goals ((try apply hK); clear hK K))
  simp [go_sem]
set_option maxHeartbeats 64000000
def exD : List Dcl := [⟨⟨#[120]⟩, [], 0, [], []⟩, ⟨⟨#[121]⟩, [], 0, [], []⟩]
theorem exD_valid : validD exD = true := by kernel_rfl
theorem exD_all : allF exD = [] := rfl
theorem exD_enc : exD.map encD = [[.str ⟨#[120]⟩, .sl [], .int .i64 0, .sl [], .sl []], [.str ⟨#[121]⟩, .sl [], .int .i64 0, .sl [], .sl []]] := rfl
structure Vl where
 kind : Int
 num : Int
 txt : ByteArray
def encVl (v : Vl) : List DV := [.int .i64 v.kind, .int .i64 v.num, .str v.txt]
@[go_sem ↓ high] theorem frz_encVl (v : Vl) : frzL (encVl v) = encVl v := rfl
theorem appendOk_v {l m : List Vl} (h : l.length + m.length <= 100000000) : z_f 3 32 (l.map encVl) (m.map encVl) := by
 refine ⟨?_, ?_, by omega, ?_, ?_⟩
 ·intro e he
  obtain ⟨z, _, rfl⟩ := List.mem_map.1 he
  rfl
 ·intro e he
  obtain ⟨z, _, rfl⟩ := List.mem_map.1 he
  rfl
 ·simp only [List.length_map, maxLen]; omega
 ·simp only [List.length_map]; omega
theorem f50 (l : List Vl) (hl : l.length <= 1000000) : Impl Tryd.prog 50 [.one (.sl (l.map encVl))] (.one (.one (.ow 3 (l.map encVl)))) := by
 refine impl_v ?_
 have hap := appendOk_v (l := []) (m := l) (by simp; omega)
 simp only [List.map_nil] at hap
 repeat' first | refine St.go ?_ | ((with_reducible refine cn ?_ ?_) <;> intro h <;> (try simp at h) <;> try omega) | (refine Ru.go ?_; intro K hK; simp [go_sem, hap]; (try simp (disch := omega) only [wx, z_i]); (first | apply hK | refine ⟨by first | omega | (simp [z_f, z_g, hap]; first | done | omega), ?_⟩ | refine ⟨hK _ ?_, fun h => ?_⟩ | refine ⟨?_, ?_⟩); all_goals ((try apply hK); clear hK K))
 all_goals simp_all [go_sem]
theorem f115n : Impl Tryd.prog 50 [.one (.sl [])] (.one (.one (.ow 3 []))) := f50 [] (by simp)
theorem f91n (nm : ByteArray) : Impl Tryd.prog 36 [.ag [.str nm, .sl [], .int .i64 0, .sl [], .sl []], .one (.sl []), .one (.sl [])] (.one (.one (.ow 3 []))) := by
 have k115 := f115n
 refine impl_v ?_
 refine wC k115 ?_
 simp [go_sem]
theorem f90n : Impl Tryd.prog 35 [.one (.sl []), .one (.sl [])] (.one (.one (.bool true))) := by
 refine impl_v ?_
 refine wN ?_
 refine z_k (fun n e => n = 0 /\ e = [(14, .sv (.one (.int .i64 0))), (13, .sv (.one (.int .i64 0)))]) 0 _ ⟨rfl, rfl⟩ (by simp [go_sem]) ?_
 rintro n e ⟨_, rfl⟩
 refine wN ?_
 simp [go_sem]
theorem f89n (k : Int) (hk : k = 0 \/ k = 1) : Impl Tryd.prog 34 [.one (.sl (exD.map encD)), .one (.int .i64 k), .one (.sl [])] (.one (.one (.bool true))) := by
 have k112 := f47 exD (by decide) (by simp [exD])
 have k113 := f48 exD (by decide) (by simp [exD])
 rw [exD_valid] at k112
 rw [exD_all] at k113
 simp only [List.map_nil] at k113
 rw [exD_enc] at k112 k113 ⊢
 have h1 : ¬ k < 0 := by omega
 have h2 : ¬ 2 <= k := by omega
 refine impl_v ?_
 refine wV (aN h1 h2) (aN k112 k113) ?_
 refine z_k (fun n e => n = 0 /\ e = [(32, .sv (.one (.int .i64 0))), (31, .sv (.one (.int .i64 0)))]) 0 _ ⟨rfl, rfl⟩ (by simp [go_sem]) ?_
 rintro n e ⟨_, rfl⟩
 refine wN ?_
 simp [go_sem]
theorem f57n (k : Int) (hk : k = 0 \/ k = 1) : Impl Tryd.prog 25 [.one (.sl (exD.map encD)), .one (.int .i64 k), .one (.sl []), .one (.sl [])] (.tup [.one (.ow 3 []), .one (.int .i64 0)]) := by
 have k89 := f89n k hk
 have k90 := f90n
 have k91 := f91n
 rw [exD_enc] at k89 ⊢
 refine impl_v ?_
 rcases hk with rfl | rfl
 ·refine wC (aN k89 <| aN k90 (fun {x0_} => k91 x0_)) ?_
  simp [go_sem]
 ·refine wC (aN k89 <| aN k90 (fun {x0_} => k91 x0_)) ?_
  simp [go_sem]
theorem f92n : Impl Tryd.prog 37 [.ag [.sl [], .sl []], .one (.sl [])] (.one (.one (.bool true))) := by
 refine impl_v ?_
 refine wN ?_
 refine z_k (fun n e => n = 0 /\ e = [(15, .sv (.one (.int .i64 0))), (14, .sv (.one (.int .i64 0))), (2, .sv (.one (.bx [.sl [], .sl []])))]) 0 _ ⟨rfl, rfl⟩ (by simp [go_sem]) ?_
 rintro n e ⟨_, rfl⟩
 refine wN ?_
 refine z_k (fun n e => n = 0 /\ e = [(57, .sv (.one (.int .i64 0))), (56, .sv (.one (.int .i64 0)))]) 0 _ ⟨rfl, rfl⟩ (by simp [go_sem]) ?_
 rintro n e ⟨_, rfl⟩
 refine wN ?_
 simp [go_sem]
theorem f60n (k : Int) (hk : k = 0 \/ k = 1) : Impl Tryd.prog 28 [.one (.sl (exD.map encD)), .one (.int .i64 k), .one (.sl []), .one (.sl [])] (.one (.one (.bool true))) := by
 have k89 := f89n k hk
 have k90 := f90n
 have k91 := f91n
 have k92 := f92n
 rw [exD_enc] at k89 ⊢
 refine impl_v ?_
 rcases hk with rfl | rfl
 ·refine wC (aN k89 <| aN k90 <| aN (fun {x0_} => k91 x0_) k92) ?_
  simp [go_sem]
 ·refine wC (aN k89 <| aN k90 <| aN (fun {x0_} => k91 x0_) k92) ?_
  simp [go_sem]
theorem f58n (x : Ev) (p : Int) (hp : x.peer ≠ p) : Impl Tryd.prog 26 [.one (.sl [encE x]), .one (.int .i64 p), .one (.int .i64 0)] (.tup [.one .nil, .one (.bool false)]) := by
 refine impl_v ?_
 refine wN ?_
 refine z_k (fun n e => ∃ k : Nat, k + n = 1 /\ e = [(12, .sv (.one (.int .i64 k))), (11, .sv (.one (.int .i64 1))), (10, .sv (.one (.sl [encE x]))), (1, .sv (.one (.int .i64 p)))]) 1 _ ⟨0, by simp, rfl⟩ (by simp [go_sem]) ?_
 rintro n e ⟨k, hk, rfl⟩
 have hpb : (x.peer == p) = false := by simpa using hp
 by_cases hlt : k < 1
 ·have hk0 : k = 0 := by omega
  subst hk0
  cases hsd : x.send with
  | true =>
    refine wX (aN hsd <| aN hp <| aN hpb encE.eq_1) ?_
    refine z_j (n - 1) _ (by omega) ⟨1, by omega, rfl⟩ ?_
    simp [go_sem, encE, hsd]
  | false =>
    refine wX (aN hsd <| aN hp <| aN hpb encE.eq_1) ?_
    refine z_j (n - 1) _ (by omega) ⟨1, by omega, rfl⟩ ?_
    simp [go_sem, encE, hsd]
 ·have hk1 : k = 1 := by omega
  subst hk1
  refine wN ?_
  simp [go_sem]
set_option maxHeartbeats 64000000
def less (a b : Inter) : Bool := if a.from_ ≠ b.from_ then decide (a.from_ < b.from_) else if a.to ≠ b.to then decide (a.to < b.to) else decide (a.label < b.label)
def ev1 (role : Int) (x : Inter) : List Ev := (if x.from_ = role then [⟨role, true, x.to, x.label, none⟩] else []) ++ (if x.to = role then [⟨role, false, x.from_, x.label, none⟩] else [])
def project (l : List Inter) (role : Int) : List Ev := l.flatMap (ev1 role)
theorem project_succ {l : List Inter} {k : Nat} (h : k < l.length) (role : Int) : project (l.take (k + 1)) role = project (l.take k) role ++ ev1 role l[k] := by
 unfold project
 rw [List.take_succ_eq_append_getElem h, List.flatMap_append]
 simp only [List.flatMap_cons, List.flatMap_nil, List.append_nil]
theorem ev1_len (role : Int) (x : Inter) : (ev1 role x).length <= 2 := by
 unfold ev1; split <;> split <;> simp
theorem project_len (role : Int) : ∀ (l : List Inter), (project l role).length <= 2 * l.length
 | [] => by simp [project]
 | x :: l => by
   have h1 := ev1_len role x
   have h2 := project_len role l
   simp only [project, List.flatMap_cons, List.length_append, List.length_cons] at *
   omega
theorem project_vals (l : List Inter) (role : Int) : ∀ x ∈ project l role, x.vals = none := by
 intro x hx
 unfold project at hx
 obtain ⟨y, _, hy⟩ := List.mem_flatMap.1 hx
 unfold ev1 at hy
 rcases List.mem_append.1 hy with hy | hy
 ·split at hy
  ·simp only [List.mem_singleton] at hy; rw [hy]
  ·cases hy
 ·split at hy
  ·simp only [List.mem_singleton] at hy; rw [hy]
  ·cases hy
@[go_sem] theorem clo_project (l : List Inter) (role : Int) : clo ((project l role).map encE) ↔ True := by
 simp only [iff_true]
 exact clo_encE (project_vals l role)
theorem f17 (l : List Inter) (role : Int) (hl : l.length <= 1000000) : Impl Tryd.prog 17 [.one (.sl (l.map encI)), .one (.int .i64 role)] (.one (.one (.ow 5 ((project l role).map encE)))) := by
 refine impl_v ?_
 refine wN ?_
 refine z_k (fun n e => ∃ k, k + n = l.length /\ e = [(10, .sv (.one (.int .i64 (k : Nat)))), (9, .sv (.one (.int .i64 l.length))), (8, .sv (.one (.sl (l.map encI)))), (5, .sv (.one (.ow 5 ((project (l.take k) role).map encE)))), (1, .sv (.one (.int .i64 role)))]) l.length _ ⟨0, by simp, rfl⟩ (by simp [go_sem, project]) ?_
 rintro n e ⟨k, hk, rfl⟩
 have hlen := project_len role (l.take k)
 have hlk : (l.take k).length <= k := List.length_take_le _ _
 by_cases hlt : k < l.length
 ·skip
  repeat' first | refine St.go ?_ | ((with_reducible refine cn ?_ ?_) <;> intro h <;> (try simp at h) <;> try omega) | (refine Ru.go ?_; intro K hK; simp [go_sem, hlt, encI]; (try simp (disch := omega) only [wx, z_i]); (first | apply hK | refine ⟨by first | omega | (simp [z_f, z_g, hlt, encI, maxLen, DV.flat]; first | done | omega), ?_⟩ | refine ⟨hK _ ?_, fun h => ?_⟩ | refine ⟨?_, ?_⟩); all_goals ((try apply hK); clear hK K))
  all_goals refine z_j (n - 1) _ (by omega) ⟨k + 1, by omega, rfl⟩ ?_
  all_goals simp [go_sem, project_succ hlt, ev1, encE, valsDV, *]
 ·have hkl : l.take k = l := List.take_of_length_le (by omega)
  refine wX hlt ?_
  simp [go_sem, hkl]
end Go.Av

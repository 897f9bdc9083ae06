/- Part of a proof. -/
import Derived.Test.YtbfebdbdoclagaaGreatDoorAvR
import Derived.Test.YtbfebdbdoclagaaGreatDoorB00
import Derived.Test.YtbfebdbdoclagaaGreatDoorB11
import Derived.Test.YtbfebdbdoclagaaGreatDoorB12
set_option linter.unusedVariables false
set_option linter.unusedSimpArgs false
set_option maxHeartbeats 64000000
set_option maxRecDepth 8000
namespace Go.Av
open Go Go.RowKit Go.Proofs
set_option maxHeartbeats 64000000
theorem mask_all : ∀ n : Fin 201, IntKind.u64.wrap ((BitVec.ofInt IntKind.u64.bits (n.val : Int) &&& BitVec.ofInt IntKind.u64.bits 4294967295).toNat : Int) = (n.val : Int) := by decide +kernel
theorem shift_all : ∀ n : Fin 201, (n.val : Int).fdiv 4294967296 = 0 := by decide +kernel
theorem wrap_all : ∀ n : Fin 201, IntKind.u64.wrap (n.val : Int) = (n.val : Int) := by decide +kernel
theorem f148 (n : Nat) (h : n <= 200) : Impl Tryz.prog 148 [.one (.int .u64 1), .one (.int .u64 n)] (.tup [.one (.int .u64 0), .one (.int .u64 n)]) := by
 have m1 : IntKind.u64.wrap ((BitVec.ofInt IntKind.u64.bits (n : Int) &&& BitVec.ofInt IntKind.u64.bits 4294967295).toNat : Int) = (n : Int) := mask_all ⟨n, by omega⟩
 have m0 : IntKind.u64.wrap ((BitVec.ofInt IntKind.u64.bits (0 : Int) &&& BitVec.ofInt IntKind.u64.bits 4294967295).toNat : Int) = (0 : Int) := mask_all ⟨0, by omega⟩
 simp [go_sem] at m1
 have s1 : (n : Int).fdiv 4294967296 = 0 := shift_all ⟨n, by omega⟩
 have w1 : IntKind.u64.wrap (n : Int) = (n : Int) := wrap_all ⟨n, by omega⟩
 have w2 : IntKind.u64.wrap 0 = 0 := wrap_all ⟨0, by omega⟩
 have w3 : IntKind.u64.wrap 1 = 1 := wrap_all ⟨1, by omega⟩
 refine impl_v ?_
 refine wX (aN m1 <| aN s1 <| aN w1 <| aN w2 w3) ?_
 simp [go_sem, m1, s1, w1, w2, w3]
theorem f127 (n : Nat) (h : n <= 200) : Impl Tryz.prog 127 [.one (.int .u64 1), .one (.int .u64 n)] (.tup [.one (.int .u64 0), .one (.int .u64 n)]) := by
 have k1 := f148 n h
 refine impl_v ?_
 refine wC k1 ?_
 simp [go_sem]
set_option maxHeartbeats 64000000
def half (k n : Nat) : List (List DV) := (List.replicate k (-1 : Int) ++ List.replicate (n - k) 0).map encN
theorem half_len {k n : Nat} (h : k <= n) : (half k n).length = n := by simp [half]; omega
theorem half_flat (k n : Nat) : z_g (half k n) := by
 unfold half
 rw [flatEls_map]
 intro x hx
 rfl
theorem half_one (k n : Nat) : ∀ e ∈ half k n, e.length = 1 := by
 intro e he
 obtain ⟨x, _, rfl⟩ := List.mem_map.1 he
 rfl
theorem flat_take {els : List (List DV)} (h : z_g els) (k : Nat) : z_g (els.take k) := fun e he => h e (List.mem_of_mem_take he)
theorem half_start (n : Nat) : List.take n [[DV.int .i64 (-1)]] ++ List.replicate (n - min 1 n) [DV.int .i64 0] = half (min 1 n) n := by
 cases n with
 | zero => simp [half]
 | succ n =>
   have : min 1 (n + 1) = 1 := by omega
   rw [this]
   simp [half, encN]
theorem half_done (n : Nat) : half n n = (List.replicate n (-1 : Int)).map encN := by simp [half]
theorem half_step {k n : Nat} (h : k <= n) : (half k n).take k ++ (((half k n).take k).take (n - k) ++ (half k n).drop (k + min k (n - k))) = half (k + min k (n - k)) n := by
 have e1 : (half k n).take k = (List.replicate k (-1 : Int)).map encN := by
  unfold half
  rw [<- List.map_take, List.take_left' (by simp)]
 have e2 : (half k n).drop (k + min k (n - k)) = (List.replicate (n - (k + min k (n - k))) (0 : Int)).map encN := by
  unfold half
  rw [<- List.map_drop, <- List.drop_drop, List.drop_left' (by simp)]
  rw [List.drop_replicate]
  congr 2
  omega
 rw [e1, e2]
 unfold half
 rw [<- List.map_take, List.take_replicate, <- List.map_append, <- List.map_append, <- List.append_assoc, List.replicate_append_replicate]
 congr 2
 congr 1
 omega
theorem f98 (n : Nat) (hn : n <= 200) : Impl Tryz.prog 98 [.one (.sl [[.int .i64 (-1)]]), .one (.int .i64 n)] (.one (.one (.ow 1 ((List.replicate n (-1)).map encN)))) := by
 have k1 := f127 n hn
 have w1 : IntKind.u64.wrap (n : Int) = (n : Int) := wrap_all ⟨n, by omega⟩
 have w3 : IntKind.u64.wrap 1 = 1 := wrap_all ⟨1, by omega⟩
 have fr : z_g (List.replicate n [DV.int .i64 0]) := by
  intro e he
  rw [(List.mem_replicate.1 he).2]
  rfl
 have f1 : z_g [[DV.int .i64 (-1)]] := by
  intro e he
  rw [List.mem_singleton.1 he]
  rfl
 have hm : min 1 n <= n := by omega
 have hst := half_start n
 refine impl_z Tryz.func98 z98 Tryz.ntmps98 (by simp) ?_
 simp only [c98, slotsOf]
 repeat' first | refine St.go ?_ | ((with_reducible refine cn ?_ ?_) <;> intro h <;> (try simp at h) <;> try omega) | (refine Ru.go ?_; intro K hK; simp [go_sem, w1, w3]; (try simp (disch := omega) only [wx, z_i]); (first | apply hK | ((first | ((try refine .inl ?_); refine ⟨_, by (try intro hc); (repeat' first | exact k1 | exact hc | refine And.intro ?_ ?_ | simp [go_sem, w1, w3]); first | done | omega, ?_⟩) | refine .inr (.inl ⟨_, by (try intro hc); (repeat' first | exact k1 | exact hc | refine And.intro ?_ ?_ | simp [go_sem, w1, w3]); first | done | omega, ?_⟩) | refine .inr (.inr ⟨_, by (try intro hc); (repeat' first | exact k1 | exact hc | refine And.intro ?_ ?_ | simp [go_sem, w1, w3]); first | done | omega, ?_⟩)); first | apply hK | (refine ⟨by simp [go_sem, w1, w3], ?_⟩; first | apply hK | refine ⟨by simp [go_sem, w1, w3], hK _ _ ?_⟩)) | refine ⟨.one (.one (.bool false)), by simp [go_sem, w1, w3], hK _ _ ?_⟩ | refine ⟨by first | omega | (simp [z_f, z_g, w1, w3, fr, f1]; first | done | omega), ?_⟩ | refine ⟨hK _ ?_, fun h => ?_⟩ | refine ⟨?_, ?_⟩); all_goals ((try apply hK); clear hK K))
 ·exact ⟨fr, f1⟩
 rw [hst]
 refine z_k (fun q e => ∃ k : Nat, k + q = n /\ (n = 0 \/ 1 <= k) /\ e = [(8, .sv (.one (.int .i64 k))), (7, .sv (.one (.ow 1 (half k n))))]) (n - min 1 n) _ ⟨min 1 n, by omega, by omega, rfl⟩ (by simp [go_sem]) ?_
 rintro q e ⟨k, hk, hk1, rfl⟩
 have hl := half_len (show k <= n by omega)
 have hf := half_flat k n
 have hft := flat_take hf k
 have ho := half_one k n
 by_cases hlt : k < n
 ·have hst := half_step (show k <= n by omega)
  repeat' first | refine St.go ?_ | ((with_reducible refine cn ?_ ?_) <;> intro h <;> (try simp at h) <;> try omega) | (refine Ru.go ?_; intro K hK; simp [go_sem, hlt, hl]; (try simp (disch := omega) only [wx, z_i]); (first | apply hK | refine ⟨by first | omega | (simp [z_f, z_g, hlt, hl, hf, hft, ho, hl]; first | done | omega), ?_⟩ | refine ⟨hK _ ?_, fun h => ?_⟩ | refine ⟨?_, ?_⟩); all_goals ((try apply hK); clear hK K))
  ·exact ⟨by omega, ho⟩
  ·exact ⟨by omega, ho⟩
  ·exact ⟨hf, hft, fun e he => ho e (List.mem_of_mem_take he)⟩
  refine z_j (n - (k + min k (n - k))) _ (by omega) ⟨k + min k (n - k), by omega, by omega, rfl⟩ ?_
  simp [go_sem, hst]
 ·have hkn : k = n := by omega
  subst hkn
  rw [half_done] at hl ⊢
  repeat' first | refine St.go ?_ | ((with_reducible refine cn ?_ ?_) <;> intro h <;> (try simp at h) <;> try omega) | (refine Ru.go ?_; intro K hK; simp [go_sem, hl]; (try simp (disch := omega) only [wx, z_i]); (first | apply hK | refine ⟨by first | omega | (simp [z_f, z_g, hl]; first | done | omega), ?_⟩ | refine ⟨hK _ ?_, fun h => ?_⟩ | refine ⟨?_, ?_⟩); all_goals ((try apply hK); clear hK K))
  simp [go_sem]
set_option maxHeartbeats 64000000
theorem f25x (g : Glob) (k : Int) (hs : Small g) (hfp : ∀ d ∈ g.decls, d.fields.length <= 2000000) : Impl Tryz.prog 25 [.ag (encG g), .one (.int .i64 k)] (.tup [.one (resF (srchR g k).1), .one (.int .i64 (srchR g k).2)]) :=
 f25 g k hs (f42 f98 g hs hfp) (fun l hl hT => f43 l (by omega) hT) f43n fun hv => ⟨edB_of hv, (valid_parts hv).2.2, (valid_parts hv).2.1⟩
theorem found_len (g : Glob) (k : Int) (hs : Small g) : (foundL (srchR g k).1).length <= 819200000 := by
 cases h : (srchR g k).1 with
 | none => simp [foundL]
 | some L => exact (f39r g k hs h).choose_spec.2.1
theorem f11x (g : Glob) (k : Int) (hs : Small g) (hfp : ∀ d ∈ g.decls, d.fields.length <= 2000000) : Impl Tryz.prog 11 [.ag (encG g), .one (.int .i64 k)] (.tup [.one (.ow 2 ((earlyL g k).map encMs)), .one (.int .i64 (srchR g k).2)]) :=
 f11 g k (f25x g k hs hfp) (by have := found_len g k hs; omega)
theorem f19x (g : Glob) (k : Int) (m : Msg) (hs : Small g) (hfp : ∀ d ∈ g.decls, d.fields.length <= 2000000) : Impl Tryz.prog 19 [.ag (encG g), .one (.int .i64 k), .ag (encMs m)] (.tup [.one (resP (pathR g k m).1), .one (.int .i64 (pathR g k m).2)]) :=
 f19 g k m (f25x g k hs hfp) (by have := found_len g k hs; omega) (srch_err g k)
def lineE (w : List Inter) : List Edg := (List.range w.length).map fun (i : Nat) => (⟨(i : Int), w.getD i default, (i : Int) + 1, false⟩ : Edg)
def lineG (w : List Inter) : Glob := ⟨⟨#[108]⟩, [⟨#[112]⟩, ⟨#[113]⟩, ⟨#[114]⟩], [⟨⟨#[97]⟩, [], 0, [], []⟩, ⟨⟨#[98]⟩, [], 0, [], []⟩, ⟨⟨#[99]⟩, [], 0, [], []⟩], w.length + 1, 0, w.length, lineE w, []⟩
def rawD (d : Dcl) : List DV := [.str d.name, .nil, .int .i64 d.first, .nil, .nil]
def rawG (g : Glob) : List DV := [.str g.name, .sl (g.roles.map encS), .sl (g.decls.map rawD), .int .i64 g.states, .int .i64 g.start, .int .i64 g.end_, .sl (g.edges.map encEd), .nil]
theorem sl_toward {w : World} {S : Nat -> Prop} {v : Value} {els els' : List (List DV)} {r : List Nat} (hl : els.map List.length = els'.map List.length) (ht : towardD els.flatten els'.flatten) (h : Cz w S v (.sl els) r) : Cz w S v (.sl els') r := by
 have hlen : els.length = els'.length := by simpa using congrArg List.length hl
 cases h with
 | shNil a c =>
   have : els' = [] := List.eq_nil_of_length_eq_zero (by simpa using hlen.symm)
   subst this
   exact .shNil _ _
 | sh ad n c z _ vs hS hn hc hm hz hcell hcl =>
   refine .sh ad n c z els' vs hS (by omega) hc hm ?_ hcell (towardD_ok hcl ht)
   intro e he
   have : e.length ∈ els'.map List.length := List.mem_map.2 ⟨e, he, rfl⟩
   rw [<- hl] at this
   obtain ⟨e', he', h'⟩ := List.mem_map.1 this
   rw [<- h']; exact hz e' he'
theorem raw_enc (l : List Inter) {w : World} {S : Nat -> Prop} {v : Value} {r : List Nat} (h : CzS w S v (.ag (rawG (lineG l))) r) : CzS w S v (.ag (encG (lineG l))) r := by
 cases h with
 | ag vs l' r hl =>
   refine .ag _ _ _ ?_
   unfold rawG at hl
   generalize vs.toList = vl at hl
   cases hl with
   | cons _ _ _ _ _ _ h1 hl =>
     cases hl with
     | cons _ _ _ _ _ _ h2 hl =>
       cases hl with
       | cons _ _ _ _ _ _ h3 hl =>
         refine .cons _ _ _ _ _ _ h1 (.cons _ _ _ _ _ _ h2 (.cons _ _ _ _ _ _ (sl_toward (by rfl) ?_ h3) (towardD_ok hl ?_)))
         ·simp [lineG, rawD, encD, towardD, DV.toward]
         ·simp [towardD, DV.toward, lineG]
theorem raw_one {f : FuncId} {l : List Inter} {xs : List SV} {r : RV} (h : Impl Tryz.prog f (.ag (encG (lineG l)) :: xs) r) : Impl Tryz.prog f (.ag (rawG (lineG l)) :: xs) r := by
 refine ⟨h.1, fun w S vs hS hcz => h.2 w S vs hS ?_⟩
 generalize hz : ([] : List Nat) = z at hcz
 cases hcz with
 | cons v x r vs xs rs h1 hs => exact CzSL.cons _ _ _ _ _ _ (raw_enc l h1) hs
theorem lineE_len (w : List Inter) : (lineE w).length = w.length := by simp [lineE]
def lineK (w : List Inter) (k : Nat) : List Edg := (List.range k).map fun (i : Nat) => (⟨(i : Int), w.getD i default, (i : Int) + 1, false⟩ : Edg)
theorem lineK_succ {w : List Inter} {k : Nat} (h : k < w.length) {x : Inter} (hx : w[k] = x) : lineK w (k + 1) = lineK w k ++ [⟨k, x, k + 1, false⟩] := by
 unfold lineK
 rw [List.range_succ, List.map_append]
 congr 1
 simp [List.getD_eq_getElem?_getD, List.getElem?_eq_getElem h, hx]
theorem lineK_len (w : List Inter) (k : Nat) : (lineK w k).length = k := by simp [lineK]
theorem f24 (w : List Inter) (hw : w ≠ []) (hl : w.length <= 100) : Impl Tryz.prog 24 [.one (.sl (w.map encI))] (.one (.ag (rawG (lineG w)))) := by
 have hpos : 0 < w.length := List.length_pos_iff.2 hw
 refine impl_z Tryz.func24 z24 Tryz.ntmps24 (by simp) ?_
 simp only [c24, slotsOf]
 refine z_l [(2, .sv (.one (.bx ([.str ⟨#[]⟩, .nil, .nil, .int .i64 0, .int .i64 0, .int .i64 0, .nil, .nil])))), (0, .sv (.one (.sl (w.map encI))))] ?_ ?_
 ·refine wN ?_
  refine z_m ?_
  simp [go_sem]
 refine z_l [(3, .sv (.one (.bx ([.str ⟨#[108]⟩, .sl [[.str ⟨#[112]⟩], [.str ⟨#[113]⟩], [.str ⟨#[114]⟩]], .sl [[.str ⟨#[97]⟩, .nil, .int .i64 0, .nil, .nil], [.str ⟨#[98]⟩, .nil, .int .i64 0, .nil, .nil], [.str ⟨#[99]⟩, .nil, .int .i64 0, .nil, .nil]], .int .i64 (w.length + 1), .int .i64 0, .int .i64 w.length, .nil, .nil])))), (2, .sv (.one (.bx ([.str ⟨#[]⟩, .nil, .nil, .int .i64 0, .int .i64 0, .int .i64 0, .nil, .nil])))), (0, .sv (.one (.sl (w.map encI))))] ?_ ?_
 ·refine wN ?_
  refine z_m ?_
  simp [go_sem]
 refine z_l [(3, .sv (.one (.bx ([.str ⟨#[108]⟩, .sl [[.str ⟨#[112]⟩], [.str ⟨#[113]⟩], [.str ⟨#[114]⟩]], .sl [[.str ⟨#[97]⟩, .nil, .int .i64 0, .nil, .nil], [.str ⟨#[98]⟩, .nil, .int .i64 0, .nil, .nil], [.str ⟨#[99]⟩, .nil, .int .i64 0, .nil, .nil]], .int .i64 (w.length + 1), .int .i64 0, .int .i64 w.length, .ow 6 ((lineK w w.length).map encEd), .nil])))), (2, .sv (.one (.bx ([.str ⟨#[]⟩, .nil, .nil, .int .i64 0, .int .i64 0, .int .i64 0, .nil, .nil]))))] ?_ ?_
 ·refine wN ?_
  refine z_k (fun n e => ∃ k : Nat, k + n = w.length /\ e = [(19, .sv (.one (.int .i64 k))), (18, .sv (.one (.int .i64 w.length))), (17, .sv (.one (.sl (w.map encI)))), (3, .sv (.one (.bx ([.str ⟨#[108]⟩, .sl [[.str ⟨#[112]⟩], [.str ⟨#[113]⟩], [.str ⟨#[114]⟩]], .sl [[.str ⟨#[97]⟩, .nil, .int .i64 0, .nil, .nil], [.str ⟨#[98]⟩, .nil, .int .i64 0, .nil, .nil], [.str ⟨#[99]⟩, .nil, .int .i64 0, .nil, .nil]], .int .i64 (w.length + 1), .int .i64 0, .int .i64 w.length, if k = 0 then .nil else .ow 6 ((lineK w k).map encEd), .nil])))), (2, .sv (.one (.bx ([.str ⟨#[]⟩, .nil, .nil, .int .i64 0, .int .i64 0, .int .i64 0, .nil, .nil])))), (0, .sv (.one (.sl (w.map encI))))]) w.length _ ⟨0, by simp, rfl⟩ (by simp [go_sem]) ?_
  rintro n e ⟨k, hk, rfl⟩
  by_cases hlt : k < w.length
  ·obtain ⟨x, hx⟩ : ∃ x, w[k] = x := ⟨_, rfl⟩
   have hsu := lineK_succ hlt hx
   have hap := appendOk_ed (l := lineK w k) (x := ⟨k, x, k + 1, false⟩) (by rw [lineK_len]; omega)
   simp only [encEd] at hap
   have hk1 : ¬ k + 1 = 0 := by omega
   by_cases h0 : k = 0
   ·subst h0
    have hz : lineK w 0 = [] := rfl
    rw [hz] at hap hsu
    have hap : z_f 6 48 [] [[.int .i64 0, .int .i64 x.from_, .int .i64 x.to, .int .i64 x.label, .int .i64 1, .bool false]] := hap
    refine wX (aN hlt <| aN hx <| aN encI.eq_1 hap) ?_
    refine z_j (n - 1) _ (by omega) ⟨0 + 1, by omega, rfl⟩ ?_
    simp [go_sem, hsu, encEd]
   ·refine wX (aN hlt <| aN hx <| aN encI.eq_1 <| aN hap h0) ?_
    refine z_j (n - 1) _ (by omega) ⟨k + 1, by omega, rfl⟩ ?_
    simp [go_sem, hsu, encEd]
  ·have hke : k = w.length := by omega
   subst hke
   have h0 : ¬ w.length = 0 := by omega
   refine wX (aN hlt h0) ?_
   refine z_m ?_
   simp [go_sem, h0]
 have hfe : ∀ x : Edg, frzL (encEd x) = encEd x := fun _ => rfl
 refine wX hfe ?_
 simp [go_sem, rawG, lineG, lineE, lineK, rawD, encS, hfe]
set_option maxHeartbeats 64000000
def exW1 : List Inter := [⟨0, 1, 0⟩, ⟨2, 1, 1⟩]
def exW2 : List Inter := [⟨0, 1, 0⟩, ⟨1, 2, 0⟩, ⟨2, 1, 1⟩]
theorem ex1_early : earlyL (lineG exW1) 0 = [⟨2, 1⟩] := by kernel_rfl
theorem ex2_early : earlyL (lineG exW2) 0 = [] := by kernel_rfl
theorem ex1_err : (srchR (lineG exW1) 0).2 = 0 := by kernel_rfl
theorem ex2_err : (srchR (lineG exW2) 0).2 = 0 := by kernel_rfl
theorem small_line (w : List Inter) (hw : w.length <= 100) : Small (lineG w) := ⟨by simp [lineG], by simp [lineG], by simp [lineG], by simp [lineG]; decide, by simp only [lineG, lineE_len]; omega, by simp [lineG]⟩
theorem fp_line (w : List Inter) : ∀ d ∈ (lineG w).decls, d.fields.length <= 2000000 := by simp [lineG]
theorem f9 : Impl Tryz.prog 9 [] (.one (.one (.bool true))) := by
 have k1 := raw_one (f11x (lineG exW1) 0 (small_line _ (by decide)) (fp_line _))
 have k2 := raw_one (f11x (lineG exW2) 0 (small_line _ (by decide)) (fp_line _))
 rw [ex1_early, ex1_err] at k1
 rw [ex2_early, ex2_err] at k2
 have j1 := f24 exW1 (by decide) (by decide)
 have j2 := f24 exW2 (by decide) (by decide)
 obtain ⟨D1, hD1⟩ : ∃ D, rawG (lineG exW1) = D := ⟨_, rfl⟩
 obtain ⟨D2, hD2⟩ : ∃ D, rawG (lineG exW2) = D := ⟨_, rfl⟩
 rw [hD1] at k1 j1
 rw [hD2] at k2 j2
 have e1 : exW1.map encI = [[.int .i64 0, .int .i64 1, .int .i64 0], [.int .i64 2, .int .i64 1, .int .i64 1]] := rfl
 have e2 : exW2.map encI = [[.int .i64 0, .int .i64 1, .int .i64 0], [.int .i64 1, .int .i64 2, .int .i64 0], [.int .i64 2, .int .i64 1, .int .i64 1]] := rfl
 have hf1 : D1.all DV.flat = true := by rw [<- hD1]; decide
 have hf2 : D2.all DV.flat = true := by rw [<- hD2]; decide
 rw [e1] at j1
 rw [e2] at j2
 simp only [List.map_cons, List.map_nil, encMs] at k1 k2
 refine impl_v ?_
 refine z_l [(0, .sv (.one (.bool false)))] ?_ ?_
 ·refine wN ?_
  refine z_m ?_
  simp [go_sem]
 refine z_l [(1, .sv (.one (.ow 2 ([[.int .i64 2, .int .i64 1]])))), (2, .sv (.one (.int .i64 0)))] ?_ ?_
 ·refine awp_regF 3 8 ?_
  refine wV hf1 (aN j1 k1) ?_
  refine z_m ?_
  simp [go_sem]
 refine z_l [(3, .sv (.one (.ow 2 ([])))), (4, .sv (.one (.int .i64 0))), (1, .sv (.one (.ow 2 ([[.int .i64 2, .int .i64 1]])))), (2, .sv (.one (.int .i64 0)))] ?_ ?_
 ·refine awp_regF 4 17 ?_
  refine wV hf2 (aN j2 k2) ?_
  refine z_m ?_
  simp [go_sem]
 refine wN ?_
 simp [go_sem]
def smallE (g : Glob) : Bool := fewE g && (valid29 g && decide (0 < g.edges.length))
theorem f13 (g : Glob) (hs : fewE g = true -> Small g) : Impl Tryz.prog 13 [.ag (encG g)] (.one (.one (.bool (smallE g)))) := by
 have k10 := f10 g
 have k32 := fun h => f32 g (hs h)
 have hl : decide (0 < (g.edges.length : Int)) = decide (0 < g.edges.length) := by rw [decide_eq_decide]; omega
 unfold smallE
 simp only [encG] at k10 k32
 simp only [<- valid_eq] at k32
 refine impl_v ?_
 cases hf : fewE g with
 | false =>
   rw [hf] at k10
   refine wV encG.eq_1 k10 ?_
   simp [go_sem]
 | true =>
   rw [hf] at k10
   have k32 := k32 hf
   cases hv : valid29 g with
   | false =>
     rw [hv] at k32
     refine wV encG.eq_1 (aN k10 k32) ?_
     simp [go_sem]
   | true =>
     rw [hv] at k32
     refine wV encG.eq_1 (aN k10 k32) ?_
     simp [go_sem, hl]
def walkO : Option Int -> List SV
 | some t => [.one (.int .i64 t), .one (.bool true)]
 | none => [.one (.int .i64 0), .one (.bool false)]
theorem walkF_at (es : List Edg) {p : List Inter} {i : Nat} (h : i < p.length) {x : Inter} (hx : p[i] = x) (s : Int) : walkF es (p.drop i) s = if stepW es s x < 0 then none else walkF es (p.drop (i + 1)) (stepW es s x) := by
 rw [List.drop_eq_getElem_cons h, hx]
 rfl
def stepK (es : List Edg) (s : Int) (a : Inter) (k : Nat) : Int := (es.take k).foldl (fun t y => if y.from_ = s /\ y.act = a then y.to else t) (-1)
theorem stepK_succ {es : List Edg} {k : Nat} (h : k < es.length) {y : Edg} (hy : es[k] = y) (s : Int) (a : Inter) : stepK es s a (k + 1) = if y.from_ = s /\ y.act = a then y.to else stepK es s a k := by
 unfold stepK
 rw [List.take_succ_eq_append_getElem h, List.foldl_append, hy]
 rfl
theorem f40 (g : Glob) (s : Int) (p : List Inter) (hel : g.edges.length <= 1000) (hp : p.length <= 1000000) : Impl Tryz.prog 40 [.ag (encG g), .one (.int .i64 s), .one (.sl (p.map encI))] (.tup (walkO (walkF g.edges p s))) := by
 obtain ⟨R, hR⟩ : ∃ R, walkF g.edges p s = R := ⟨_, rfl⟩
 rw [hR]
 refine impl_v ?_
 refine z_l [(7, .sv (.one (.bool false))), (6, .sv (.one (.int .i64 0))), (3, .sv (.one (.bx (encG g)))), (2, .sv (.one (.sl (p.map encI)))), (1, .sv (.one (.int .i64 s)))] ?_ ?_
 ·refine wX encG.eq_1 ?_
  refine z_m ?_
  simp [go_sem, encG]
 refine wN ?_
 refine z_k (fun n e => ∃ (i : Nat) (t : Int), i + n = p.length /\ walkF g.edges (p.drop i) t = R /\ e = [(15, .sv (.one (.int .i64 i))), (14, .sv (.one (.int .i64 p.length))), (13, .sv (.one (.sl (p.map encI)))), (7, .sv (.one (.bool false))), (6, .sv (.one (.int .i64 0))), (3, .sv (.one (.bx (encG g)))), (1, .sv (.one (.int .i64 t)))]) p.length _ ⟨0, s, by simp, by simpa using hR, rfl⟩ (by simp [go_sem]) ?_
 rintro n e ⟨i, t, hi, hW, rfl⟩
 by_cases hlt : i < p.length
 rotate_left
 ·have hd : p.drop i = [] := List.drop_eq_nil_of_le (by omega)
  rw [hd] at hW
  have hR2 : R = some t := by rw [<- hW]; rfl
  subst hR2
  refine wX hlt ?_
  simp [go_sem, walkO]
 obtain ⟨x, hx⟩ : ∃ x, p[i] = x := ⟨_, rfl⟩
 rw [walkF_at _ hlt hx] at hW
 have hSK : stepK g.edges t x g.edges.length = stepW g.edges t x := by unfold stepK stepW; rw [List.take_length]
 obtain ⟨u, hu⟩ : ∃ u, stepW g.edges t x = u := ⟨_, rfl⟩
 rw [hu] at hW hSK
 refine wX (aN hlt <| aN hx <| aN encI.eq_1 encG.eq_1) ?_
 refine z_k (fun n e => ∃ k : Nat, k + n = g.edges.length /\ e = [(22, .sv (.one (.int .i64 k))), (21, .sv (.one (.int .i64 g.edges.length))), (20, .sv (.one (.sl (g.edges.map encEd)))), (10, .sv (.one (.int .i64 (stepK g.edges t x k)))), (9, .sv (.one (.bx (encI x)))), (15, .sv (.one (.int .i64 i))), (14, .sv (.one (.int .i64 p.length))), (13, .sv (.one (.sl (p.map encI)))), (7, .sv (.one (.bool false))), (6, .sv (.one (.int .i64 0))), (3, .sv (.one (.bx (encG g)))), (1, .sv (.one (.int .i64 t)))]) g.edges.length _ ⟨0, by simp, rfl⟩ (by simp [go_sem, encG, encI, stepK]) ?_
 rintro m e ⟨k, hk, rfl⟩
 by_cases hlk : k < g.edges.length
 ·obtain ⟨y, hy⟩ : ∃ y, g.edges[k] = y := ⟨_, rfl⟩
  have hsu := stepK_succ hlk hy t x
  obtain ⟨q, hq⟩ : ∃ q, stepK g.edges t x k = q := ⟨_, rfl⟩
  rw [hq] at hsu ⊢
  by_cases h1 : y.from_ = t
  ·by_cases h2 : y.act = x
   ·rw [if_pos ⟨h1, h2⟩] at hsu
    subst h2
    refine wX (aN hlk <| aN hy <| aN encEd.eq_1 <| aN encI.eq_1 h1) ?_
    refine z_j (m - 1) _ (by omega) ⟨k + 1, by omega, rfl⟩ ?_
    simp [go_sem, hsu, encI]
   ·rw [if_neg (fun h => h2 h.2)] at hsu
    have hb : (y.act.from_ == x.from_ && (y.act.to == x.to && y.act.label == x.label)) = false := by
     rw [Bool.eq_false_iff]
     intro h
     simp only [Bool.and_eq_true, beq_iff_eq] at h
     apply h2
     obtain ⟨a, b, c⟩ := x
     cases hya : y.act
     rw [hya] at h
     simp_all
    refine wX (aN hlk <| aN hy <| aN encEd.eq_1 <| aN encI.eq_1 <| aN h1 hb) ?_
    refine z_j (m - 1) _ (by omega) ⟨k + 1, by omega, rfl⟩ ?_
    simp [go_sem, hsu, encI]
  ·rw [if_neg (fun h => h1 h.1)] at hsu
   refine wX (aN hlk <| aN hy <| aN encEd.eq_1 <| aN encI.eq_1 h1) ?_
   refine z_j (m - 1) _ (by omega) ⟨k + 1, by omega, rfl⟩ ?_
   simp [go_sem, hsu, encI]
 ·have hke : k = g.edges.length := by omega
  subst hke
  rw [hSK]
  by_cases h0 : u < 0
  ·rw [if_pos h0] at hW
   subst hW
   refine wX (aN hlk h0) ?_
   simp [go_sem, walkO]
  ·rw [if_neg h0] at hW
   refine wX (aN hlk h0) ?_
   refine z_j (n - 1) _ (by omega) ⟨i + 1, u, by omega, hW, rfl⟩ ?_
   simp [go_sem]
set_option maxHeartbeats 64000000
theorem walkO_cases (o : Option Int) : (∃ t, o = some t) \/ o = none := by
 cases o
 ·exact .inr rfl
 ·exact .inl ⟨_, rfl⟩
theorem f22 (g : Glob) (kn : Nat) (m : Msg) (path : List Inter) (hel : g.edges.length <= 1000) (hk : kn < g.edges.length) {e0 : Edg} (he0 : g.edges[kn] = e0) (hp : path.length <= 900000) :
  Impl Tryz.prog 22 [.ag (encG g), .one (.int .i64 kn), .ag (encMs m), .one (.sl (path.map encI))] (.one (.one (.bool (rightB g.edges e0 m.peer m.label path)))) := by
 have k40 := f40 g e0.to path hel (by omega)
 have k14 := fun i => f14 e0.act.to (path.take i) (by rw [List.length_take]; omega)
 have k17 := fun i => f17 (blockV e0.act.to (path.take i)) m.peer (by
  rw [block_len]
  have := blk_len e0.act.to (path.take i)
  rw [List.length_take] at this
  omega)
 obtain ⟨R, hR⟩ : ∃ R, rightB g.edges e0 m.peer m.label path = R := ⟨_, rfl⟩
 rw [hR]
 unfold rightB at hR
 simp only [encG] at k40
 refine impl_v ?_
 refine z_l [(8, .sv (.one (.bool false))), (6, .sv (.one (.bx (encMs m)))), (4, .sv (.one (.bx (encG g)))), (3, .sv (.one (.sl (path.map encI)))), (1, .sv (.one (.int .i64 kn)))] ?_ ?_
 ·refine wX (aN encG.eq_1 encMs.eq_1) ?_
  refine z_m ?_
  simp [go_sem, encG, encMs]
 refine z_l [(9, .sv (.one (.int .i64 ((path.length : Int) - 1)))), (8, .sv (.one (.bool false))), (6, .sv (.one (.bx (encMs m)))), (4, .sv (.one (.bx (encG g)))), (3, .sv (.one (.sl (path.map encI)))), (1, .sv (.one (.int .i64 kn)))] ?_ ?_
 ·refine wN ?_
  refine z_m ?_
  simp [go_sem]
 refine z_l [(10, .sv (.one (.int .i64 e0.act.to))), (9, .sv (.one (.int .i64 ((path.length : Int) - 1)))), (8, .sv (.one (.bool false))), (6, .sv (.one (.bx (encMs m)))), (4, .sv (.one (.bx (encG g)))), (3, .sv (.one (.sl (path.map encI)))), (1, .sv (.one (.int .i64 kn)))] ?_ ?_
 ·refine wX (aN hk <| aN he0 <| aN encG.eq_1 encEd.eq_1) ?_
  refine z_m ?_
  simp [go_sem, encG]
 by_cases hn : path.length = 0
 ·have hp0 : path = [] := List.length_eq_zero_iff.1 hn
  subst hp0
  simp only [List.getLast?_nil, Bool.false_and] at hR
  subst hR
  refine wX encMs.eq_1 ?_
  simp [go_sem]
 obtain ⟨n, hnl⟩ : ∃ n, path.length = n + 1 := ⟨path.length - 1, by omega⟩
 have hn1 : (path.length : Int) - 1 = n := by omega
 rw [hn1]
 have hnlt : n < path.length := by omega
 obtain ⟨xl, hxl⟩ : ∃ x, path[n] = x := ⟨_, rfl⟩
 have hlast : path.getLast? = some xl := by
  rw [List.getLast?_eq_getElem?, show path.length - 1 = n by omega, List.getElem?_eq_getElem hnlt, hxl]
 rw [hlast] at hR
 dsimp only at hR
 have hnn : ¬ (n : Int) < 0 := by omega
 by_cases hx : xl = ⟨m.peer, e0.act.to, m.label⟩
 rotate_left
 ·rw [decide_eq_false hx, Bool.false_and] at hR
  subst hR
  have hb : (xl.from_ == m.peer && (xl.to == e0.act.to && xl.label == m.label)) = false := by
   rw [Bool.eq_false_iff]
   intro h
   simp only [Bool.and_eq_true, beq_iff_eq] at h
   apply hx
   cases xl
   simp_all
  refine wX (aN hnn <| aN hnlt <| aN hxl <| aN encI.eq_1 <| aN encMs.eq_1 hb) ?_
  simp [go_sem]
 rw [decide_eq_true hx, Bool.true_and] at hR
 refine z_l [(10, .sv (.one (.int .i64 e0.act.to))), (9, .sv (.one (.int .i64 n))), (8, .sv (.one (.bool false))), (6, .sv (.one (.bx (encMs m)))), (4, .sv (.one (.bx (encG g)))), (3, .sv (.one (.sl (path.map encI)))), (1, .sv (.one (.int .i64 kn)))] ?_ ?_
 ·subst hx
  refine wX (aN hnn <| aN hnlt <| aN hxl <| aN encI.eq_1 encMs.eq_1) ?_
  refine z_m ?_
  simp [go_sem, encMs]
 clear hx hlast
 have hokn : ∀ i, i < path.length -> ∀ x, path[i]? = some x -> okAt e0.act.to m.peer path i = !(x.from_ == m.peer && (x.to == e0.act.to && ((!((blockV e0.act.to (path.take i)).contains m.peer)) != decide (i = n)))) := by
  intro i hi x hx
  unfold okAt openB
  rw [hx]
  dsimp only
  have : decide (i + 1 = path.length) = decide (i = n) := by rw [decide_eq_decide]; omega
  rw [this]
 simp only [List.map_take] at k14
 refine wN ?_
 refine z_k (fun w e => ∃ i : Nat, i + w = path.length /\ (List.range i).all (okAt e0.act.to m.peer path) = true /\ e = [(43, .sv (.one (.int .i64 i))), (42, .sv (.one (.int .i64 path.length))), (41, .sv (.one (.sl (path.map encI)))), (10, .sv (.one (.int .i64 e0.act.to))), (9, .sv (.one (.int .i64 n))), (8, .sv (.one (.bool false))), (6, .sv (.one (.bx (encMs m)))), (4, .sv (.one (.bx (encG g)))), (3, .sv (.one (.sl (path.map encI)))), (1, .sv (.one (.int .i64 kn)))]) path.length _ ⟨0, by simp, by simp, rfl⟩ (by simp [go_sem, encMs]) ?_
 rintro w e ⟨i, hi, hall, rfl⟩
 by_cases hlt : i < path.length
 rotate_left
 ·have hie : i = path.length := by omega
  rw [hie] at hall
  rw [hall, Bool.true_and] at hR
  rcases walkO_cases (walkF g.edges path e0.to) with ⟨t, ht⟩ | ht
  ·rw [ht] at k40 hR
   simp only [walkO] at k40
   subst hR
   refine wV (aN hlt <| aN hk <| aN he0 <| aN encG.eq_1 encEd.eq_1) k40 ?_
   simp [go_sem]
  ·rw [ht] at k40 hR
   simp only [walkO] at k40
   subst hR
   refine wV (aN hlt <| aN hk <| aN he0 <| aN encG.eq_1 encEd.eq_1) k40 ?_
   simp [go_sem]
 obtain ⟨x, hx⟩ : ∃ x, path[i] = x := ⟨_, rfl⟩
 have hok := hokn i hlt x (by rw [List.getElem?_eq_getElem hlt, hx])
 have k14i := k14 i
 have k17i := k17 i
 obtain ⟨B, hB⟩ : ∃ B, blockV e0.act.to (path.take i) = B := ⟨_, rfl⟩
 rw [hB] at hok k14i k17i
 obtain ⟨cb, hcb⟩ : ∃ c, B.contains m.peer = c := ⟨_, rfl⟩
 rw [hcb] at hok k17i
 have hstop : okAt e0.act.to m.peer path i = false -> R = false := by
  intro h
  have : (List.range path.length).all (okAt e0.act.to m.peer path) = false := by
   rw [Bool.eq_false_iff]
   intro ha
   rw [List.all_eq_true] at ha
   rw [ha i (List.mem_range.2 hlt)] at h
   cases h
  rw [<- hR, this]
  rfl
 have hgo : okAt e0.act.to m.peer path i = true -> (List.range (i + 1)).all (okAt e0.act.to m.peer path) = true := by
  intro h
  rw [List.range_succ, List.all_append, hall]
  simp [h]
 refine z_l [(44, .sv (.one (.bool true))), (43, .sv (.one (.int .i64 i))), (42, .sv (.one (.int .i64 path.length))), (41, .sv (.one (.sl (path.map encI)))), (10, .sv (.one (.int .i64 e0.act.to))), (9, .sv (.one (.int .i64 n))), (8, .sv (.one (.bool false))), (6, .sv (.one (.bx (encMs m)))), (4, .sv (.one (.bx (encG g)))), (3, .sv (.one (.sl (path.map encI)))), (1, .sv (.one (.int .i64 kn)))] ?_ ?_
 ·refine wX hlt ?_
  refine z_m ?_
  simp [go_sem]
 refine z_l [(43, .sv (.one (.int .i64 i))), (42, .sv (.one (.int .i64 path.length))), (41, .sv (.one (.sl (path.map encI)))), (10, .sv (.one (.int .i64 e0.act.to))), (9, .sv (.one (.int .i64 n))), (8, .sv (.one (.bool false))), (6, .sv (.one (.bx (encMs m)))), (4, .sv (.one (.bx (encG g)))), (3, .sv (.one (.sl (path.map encI)))), (1, .sv (.one (.int .i64 kn)))] ?_ ?_
 ·refine wX hlt ?_
  refine z_m ?_
  simp [go_sem]
 refine z_A ?_
 refine z_C ?_
 refine z_l [(12, .sv (.one (.bx (encI x)))), (11, .sv (.one (.int .i64 i))), (43, .sv (.one (.int .i64 i))), (42, .sv (.one (.int .i64 path.length))), (41, .sv (.one (.sl (path.map encI)))), (10, .sv (.one (.int .i64 e0.act.to))), (9, .sv (.one (.int .i64 n))), (8, .sv (.one (.bool false))), (6, .sv (.one (.bx (encMs m)))), (4, .sv (.one (.bx (encG g)))), (3, .sv (.one (.sl (path.map encI)))), (1, .sv (.one (.int .i64 kn)))] ?_ ?_
 ·refine wX (aN hlt <| aN hx encI.eq_1) ?_
  refine z_m ?_
  simp [go_sem, encI]
 refine z_l [(13, .sv (.one (.bool (!cb)))), (12, .sv (.one (.bx (encI x)))), (11, .sv (.one (.int .i64 i))), (43, .sv (.one (.int .i64 i))), (42, .sv (.one (.int .i64 path.length))), (41, .sv (.one (.sl (path.map encI)))), (10, .sv (.one (.int .i64 e0.act.to))), (9, .sv (.one (.int .i64 n))), (8, .sv (.one (.bool false))), (6, .sv (.one (.bx (encMs m)))), (4, .sv (.one (.bx (encG g)))), (3, .sv (.one (.sl (path.map encI)))), (1, .sv (.one (.int .i64 kn)))] ?_ ?_
 ·have hil : i <= path.length := by omega
  have hl3 : ∀ a : Inter, (encI a).length = 3 := fun _ => rfl
  refine wV (aN encMs.eq_1 <| aN hil hl3) (aN k14i k17i) ?_
  refine z_m ?_
  simp [go_sem, encMs]
 by_cases h1 : x.from_ = m.peer
 ·by_cases h2 : x.to = e0.act.to
  ·by_cases h3 : i = n
   ·subst h3
    rw [h1, h2] at hok
    simp only [beq_self_eq_true, Bool.true_and, decide_true] at hok
    cases cb with
    | true =>
      have hR2 := hstop (by rw [hok]; rfl)
      subst hR2
      refine wX (aN encI.eq_1 <| aN encMs.eq_1 <| aN h1 h2) ?_
      simp [go_sem]
    | false =>
      have hgo2 := hgo (by rw [hok]; rfl)
      refine wX (aN encI.eq_1 <| aN encMs.eq_1 <| aN h1 h2) ?_
      refine z_j (w - 1) _ (by omega) ⟨i + 1, by omega, hgo2, rfl⟩ ?_
      simp [go_sem, encMs]
   ·have h4 : ¬ (i : Int) = n := by omega
    have h4b : ((i : Int) == (n : Int)) = false := by simpa using h4
    rw [h1, h2] at hok
    simp only [beq_self_eq_true, Bool.true_and, decide_eq_false h3] at hok
    cases cb with
    | true =>
      have hgo2 := hgo (by rw [hok]; rfl)
      refine wX (aN encI.eq_1 <| aN encMs.eq_1 <| aN h1 <| aN h2 h4b) ?_
      refine z_j (w - 1) _ (by omega) ⟨i + 1, by omega, hgo2, rfl⟩ ?_
      simp [go_sem, encMs]
    | false =>
      have hR2 := hstop (by rw [hok]; rfl)
      subst hR2
      refine wX (aN encI.eq_1 <| aN encMs.eq_1 <| aN h1 <| aN h2 h4b) ?_
      simp [go_sem]
  ·have h2b : (x.to == e0.act.to) = false := by simpa using h2
   have hgo2 := hgo (by rw [hok, h2b]; simp)
   refine wX (aN encI.eq_1 <| aN encMs.eq_1 <| aN h1 h2) ?_
   refine z_j (w - 1) _ (by omega) ⟨i + 1, by omega, hgo2, rfl⟩ ?_
   simp [go_sem, encMs]
 ·have h1b : (x.from_ == m.peer) = false := by simpa using h1
  have hgo2 := hgo (by rw [hok, h1b]; simp)
  refine wX (aN encI.eq_1 <| aN encMs.eq_1 h1) ?_
  refine z_j (w - 1) _ (by omega) ⟨i + 1, by omega, hgo2, rfl⟩ ?_
  simp [go_sem, encMs]
end Go.Av

/- Part of a proof. -/
import Derived.Test.YticeobjphcmggaaGreatDoorB01
import Derived.Test.YticeobjphcmggaaGreatDoorAvRX
import Derived.Test.YticeobjphcmggaaGreatDoorRows
import Derived.ProofKit
import Derived.Test.YticeobjphcmggaaGreatDoorB00
set_option linter.unusedVariables false
set_option linter.unusedSimpArgs false
set_option maxHeartbeats 64000000
set_option maxRecDepth 8000
namespace Go.Proofs.YticeobjphcmggaaGreatDoor
open Go.ChangeShapes Go.WideShapes Go.ChangeAt Go.RowKit Go.Av
set_option maxRecDepth 100000
theorem Tryz.own : ownKnob Tryz.prog.godebug = none := by kernel_rfl
theorem Tryz.laidOut : laidOutB Tryz.prog = true := by kernel_rfl
theorem int_ofB {n : Nat} {t : TypeId} {k : IntKind} {l : List DV} (hu : Tryz.prog.underlying t = some (.int k)) (h : TyLB Tryz.prog (n + 1) t l) : ∃ m, l = [.int k m] /\ (Lit.int k m).wf = true := by
 unfold TyLB at h
 rw [hu] at h
 obtain ⟨m, hm, hw⟩ := h
 exact ⟨m, hm, hw⟩
theorem bool_ofB {n : Nat} {t : TypeId} {l : List DV} (hu : Tryz.prog.underlying t = some .bool) (h : TyLB Tryz.prog (n + 1) t l) : ∃ m, l = [.bool m] := by
 unfold TyLB at h
 rw [hu] at h
 exact h
theorem str_ofB {n : Nat} {t : TypeId} {l : List DV} (hu : Tryz.prog.underlying t = some .string) (h : TyLB Tryz.prog (n + 1) t l) : ∃ m, l = [.str m] /\ m.size <= reachBytes := by
 unfold TyLB at h
 rw [hu] at h
 exact h
theorem slice_ofB {n : Nat} {t e : TypeId} {l : List DV} (hu : Tryz.prog.underlying t = some (.slice e)) (h : TyLB Tryz.prog (n + 1) t l) : ∃ els : List (List DV), l = [.sl els] /\ els.length <= reachBytes /\ ∀ el ∈ els, TyLB Tryz.prog n e el := by
 unfold TyLB at h
 rw [hu] at h
 exact h
theorem list_ofB {α : Type} {enc : α -> List DV} {p : α -> Prop} : ∀ (els : List (List DV)), (∀ el ∈ els, ∃ x, el = enc x /\ p x) -> ∃ L : List α, els = L.map enc /\ ∀ x ∈ L, p x
 | [], _ => ⟨[], rfl, by simp⟩
 | e :: els, h => by
   obtain ⟨x, rfl, hx⟩ := h e (by simp)
   obtain ⟨L, rfl, hL⟩ := list_ofB els fun el hel => h el (by simp [hel])
   exact ⟨x :: L, rfl, by simpa using ⟨hx, hL⟩⟩
theorem slist_ofB {α : Type} {n : Nat} {t e : TypeId} {l : List DV} {enc : α -> List DV} {p : α -> Prop} (hu : Tryz.prog.underlying t = some (.slice e)) (h : TyLB Tryz.prog (n + 1) t l) (he : ∀ el, TyLB Tryz.prog n e el -> ∃ x, el = enc x /\ p x) :
  ∃ L : List α, l = [.sl (L.map enc)] /\ L.length <= reachBytes /\ ∀ x ∈ L, p x := by
 obtain ⟨els, rfl, hl, hel⟩ := slice_ofB hu h
 obtain ⟨L, rfl, hL⟩ := list_ofB (enc := enc) (p := p) els fun el h => he el (hel el h)
 exact ⟨L, rfl, by simpa using hl, hL⟩
theorem inter_ofB {n : Nat} {l : List DV} (h : TyLB Tryz.prog (n + 2) 47 l) : ∃ x : Inter, l = encI x := by
 unfold TyLB at h
 rw [Tryz.underlying47] at h
 simp only [TyFB] at h
 obtain ⟨l1, l2, rfl, h1, l3, l4, rfl, h2, l5, l6, rfl, h3, rfl⟩ := h
 obtain ⟨a, rfl, _⟩ := int_ofB Tryz.underlying3 h1
 obtain ⟨b, rfl, _⟩ := int_ofB Tryz.underlying3 h2
 obtain ⟨c, rfl, _⟩ := int_ofB Tryz.underlying3 h3
 exact ⟨⟨a, b, c⟩, rfl⟩
theorem role_ofB {n : Nat} {l : List DV} (h : TyLB Tryz.prog (n + 1) 9 l) : ∃ x : ByteArray, l = encS x := by
 obtain ⟨s, rfl, _⟩ := str_ofB Tryz.underlying9 h
 exact ⟨s, rfl⟩
theorem fld_ofB {n : Nat} {l : List DV} (h : TyLB Tryz.prog (n + 3) 134 l) : ∃ x : Fld, l = encF x := by
 unfold TyLB at h
 rw [Tryz.underlying134] at h
 simp only [TyFB] at h
 obtain ⟨l1, l2, rfl, h1, l3, l4, rfl, h2, rfl⟩ := h
 obtain ⟨a, rfl, _⟩ := str_ofB Tryz.underlying9 h1
 unfold TyLB at h2
 rw [Tryz.underlying132] at h2
 simp only [TyFB] at h2
 obtain ⟨l5, l6, rfl, h3, l7, l8, rfl, h4, l9, l10, rfl, h5, rfl⟩ := h2
 obtain ⟨b, rfl, _⟩ := int_ofB Tryz.underlying3 h3
 obtain ⟨c, rfl, _⟩ := int_ofB Tryz.underlying3 h4
 obtain ⟨d, rfl, _⟩ := int_ofB Tryz.underlying3 h5
 exact ⟨⟨a, b, c, d⟩, rfl⟩
theorem dff_ofB {n : Nat} {l : List DV} (h : TyLB Tryz.prog (n + 2) 154 l) : ∃ x : Dff, l = encDf x := by
 unfold TyLB at h
 rw [Tryz.underlying154] at h
 simp only [TyFB] at h
 obtain ⟨l1, l2, rfl, h1, l3, l4, rfl, h2, l5, l6, rfl, h3, rfl⟩ := h
 obtain ⟨a, rfl, _⟩ := int_ofB Tryz.underlying3 h1
 obtain ⟨b, rfl, _⟩ := int_ofB Tryz.underlying3 h2
 obtain ⟨c, rfl, _⟩ := int_ofB Tryz.underlying3 h3
 exact ⟨⟨a, b, c⟩, rfl⟩
theorem eq_ofB {n : Nat} {l : List DV} (h : TyLB Tryz.prog (n + 2) 155 l) : ∃ x : Int × Int, l = encEq x := by
 unfold TyLB at h
 rw [Tryz.underlying155] at h
 obtain ⟨els, rfl, hl, hel⟩ := h
 match els, hl, hel with
 | [x, y], _, hel =>
   obtain ⟨a, rfl, _⟩ := int_ofB Tryz.underlying3 (hel x (by simp))
   obtain ⟨b, rfl, _⟩ := int_ofB Tryz.underlying3 (hel y (by simp))
   exact ⟨(a, b), rfl⟩
def DclB (d : Dcl) : Prop := d.name.size <= 1000000000000000 /\ d.fields.length <= 1000000000000000 /\ d.diffs.length <= 1000000000000000 /\ d.equals.length <= 1000000000000000
theorem reach_small {n : Nat} (h : n <= reachBytes) : n <= 1000000000000000 := Nat.le_trans h (by decide)
theorem dcl_ofB {n : Nat} {l : List DV} (h : TyLB Tryz.prog (n + 5) 61 l) : ∃ x : Dcl, l = encD x /\ DclB x := by
 unfold TyLB at h
 rw [Tryz.underlying61] at h
 simp only [TyFB] at h
 obtain ⟨l1, l2, rfl, h1, l3, l4, rfl, h2, l5, l6, rfl, h3, l7, l8, rfl, h4, rfl⟩ := h
 obtain ⟨a, rfl, ha⟩ := str_ofB Tryz.underlying9 h1
 obtain ⟨F, rfl, hF, _⟩ := slist_ofB (enc := encF) (p := fun _ => True) Tryz.underlying55 h2 fun el h => (fld_ofB h).imp fun x hx => ⟨hx, trivial⟩
 obtain ⟨b, rfl, _⟩ := int_ofB Tryz.underlying3 h3
 unfold TyLB at h4
 rw [Tryz.underlying59] at h4
 simp only [TyFB] at h4
 obtain ⟨l9, l10, rfl, h5, l11, l12, rfl, h6, rfl⟩ := h4
 obtain ⟨D, rfl, hD, _⟩ := slist_ofB (enc := encDf) (p := fun _ => True) Tryz.underlying56 h5 fun el h => (dff_ofB h).imp fun x hx => ⟨hx, trivial⟩
 obtain ⟨E, rfl, hE, _⟩ := slist_ofB (enc := encEq) (p := fun _ => True) Tryz.underlying57 h6 fun el h => (eq_ofB h).imp fun x hx => ⟨hx, trivial⟩
 exact ⟨⟨a, F, b, D, E⟩, rfl, reach_small ha, reach_small hF, reach_small hD, reach_small hE⟩
theorem edg_ofB {n : Nat} {l : List DV} (h : TyLB Tryz.prog (n + 3) 49 l) : ∃ x : Edg, l = encEd x := by
 unfold TyLB at h
 rw [Tryz.underlying49] at h
 simp only [TyFB] at h
 obtain ⟨l1, l2, rfl, h1, l3, l4, rfl, h2, l5, l6, rfl, h3, l7, l8, rfl, h4, rfl⟩ := h
 obtain ⟨a, rfl, _⟩ := int_ofB Tryz.underlying3 h1
 obtain ⟨x, rfl⟩ := inter_ofB h2
 obtain ⟨b, rfl, _⟩ := int_ofB Tryz.underlying3 h3
 obtain ⟨c, rfl⟩ := bool_ofB Tryz.underlying4 h4
 exact ⟨⟨a, x, b, c⟩, rfl⟩
theorem tmo_ofB {n : Nat} {l : List DV} (h : TyLB Tryz.prog (n + 2) 142 l) : ∃ x : Tmo, l = encT x := by
 unfold TyLB at h
 rw [Tryz.underlying142] at h
 simp only [TyFB] at h
 obtain ⟨l1, l2, rfl, h1, l3, l4, rfl, h2, l5, l6, rfl, h3, rfl⟩ := h
 obtain ⟨a, rfl, _⟩ := int_ofB Tryz.underlying3 h1
 obtain ⟨b, rfl, _⟩ := int_ofB Tryz.underlying3 h2
 obtain ⟨c, rfl, _⟩ := int_ofB Tryz.underlying3 h3
 exact ⟨⟨a, b, c⟩, rfl⟩
structure GlobB (g : Glob) : Prop where
 decls : g.decls.length <= 1000000000000000
 decl : ∀ d ∈ g.decls, DclB d
 roles : g.roles.length <= 1000000000000000
 edges : g.edges.length <= 1000000000000000
 timeouts : g.timeouts.length <= 1000000000000000
theorem glob_ofB {n : Nat} {l : List DV} (h : TyLB Tryz.prog (n + 7) 27 l) : ∃ x : Glob, l = encG x /\ GlobB x := by
 unfold TyLB at h
 rw [Tryz.underlying27] at h
 simp only [TyFB] at h
 obtain ⟨l1, l2, rfl, h1, l3, l4, rfl, h2, l5, l6, rfl, h3, l7, l8, rfl, h4, l9, l10, rfl, h5, l11, l12, rfl, h6, l13, l14, rfl, h7, l15, l16, rfl, h8, rfl⟩ := h
 obtain ⟨a, rfl, _⟩ := str_ofB Tryz.underlying9 h1
 obtain ⟨R, rfl, hR, _⟩ := slist_ofB (enc := encS) (p := fun _ => True) Tryz.underlying22 h2 fun el h => (role_ofB h).imp fun x hx => ⟨hx, trivial⟩
 obtain ⟨D, rfl, hD, hD'⟩ := slist_ofB (enc := encD) (p := DclB) Tryz.underlying23 h3 fun el h => dcl_ofB h
 obtain ⟨b, rfl, _⟩ := int_ofB Tryz.underlying3 h4
 obtain ⟨c, rfl, _⟩ := int_ofB Tryz.underlying3 h5
 obtain ⟨d, rfl, _⟩ := int_ofB Tryz.underlying3 h6
 obtain ⟨E, rfl, hE, _⟩ := slist_ofB (enc := encEd) (p := fun _ => True) Tryz.underlying24 h7 fun el h => (edg_ofB h).imp fun x hx => ⟨hx, trivial⟩
 obtain ⟨T, rfl, hT, _⟩ := slist_ofB (enc := encT) (p := fun _ => True) Tryz.underlying25 h8 fun el h => (tmo_ofB h).imp fun x hx => ⟨hx, trivial⟩
 exact ⟨⟨a, R, D, b, c, d, E, T⟩, rfl, reach_small hD, hD', reach_small hR, reach_small hE, reach_small hT⟩
theorem ev_ofB {n : Nat} {l : List DV} (h : TyLB Tryz.prog (n + 2) 64 l) : ∃ x : Ev, l = encE x := by
 unfold TyLB at h
 rw [Tryz.underlying64] at h
 simp only [TyFB] at h
 obtain ⟨l1, l2, rfl, h1, l3, l4, rfl, h2, l5, l6, rfl, h3, l7, l8, rfl, h4, l9, l10, rfl, h5, rfl⟩ := h
 obtain ⟨a, rfl, _⟩ := int_ofB Tryz.underlying3 h1
 obtain ⟨b, rfl⟩ := bool_ofB Tryz.underlying4 h2
 obtain ⟨c, rfl, _⟩ := int_ofB Tryz.underlying3 h3
 obtain ⟨d, rfl, _⟩ := int_ofB Tryz.underlying3 h4
 obtain ⟨els, rfl, _⟩ := slice_ofB Tryz.underlying62 h5
 exact ⟨⟨a, b, c, d, some els⟩, rfl⟩
theorem evs_ofB {n : Nat} {l : List DV} (h : TyLB Tryz.prog (n + 3) 37 l) : ∃ L : List Ev, l = encH L /\ L.length <= reachBytes := by
 obtain ⟨els, rfl, hl, hel⟩ := slice_ofB Tryz.underlying37 h
 obtain ⟨L, rfl, _⟩ := list_ofB (enc := encE) (p := fun _ => True) els fun el h => by
  obtain ⟨x, hx⟩ := ev_ofB (hel el h)
  exact ⟨x, hx, trivial⟩
 exact ⟨L, rfl, by simpa using hl⟩
theorem hists_ofB {n : Nat} {l : List DV} (h : TyLB Tryz.prog (n + 4) 28 l) : ∃ H : List (List Ev), l = [.sl (H.map encH)] /\ H.length <= 1000000000000000 /\ ∀ x ∈ H, x.length <= 1000000000000000 := by
 obtain ⟨els, rfl, hl, hel⟩ := slice_ofB Tryz.underlying28 h
 obtain ⟨L, rfl, hL⟩ := list_ofB (enc := encH) (p := fun x => x.length <= reachBytes) els fun el h => evs_ofB (hel el h)
 exact ⟨L, rfl, reach_small (by simpa using hl), fun x hx => reach_small (hL x hx)⟩
end Go.Proofs.YticeobjphcmggaaGreatDoor
namespace Go.Av
open Go Go.RowKit Go.Proofs
theorem mask_all : ∀ n : Fin 201, IntKind.u64.wrap ((BitVec.ofInt IntKind.u64.bits (n.val : Int) &&& BitVec.ofInt IntKind.u64.bits 4294967295).toNat : Int) = (n.val : Int) := by decide +kernel
theorem shift_all : ∀ n : Fin 201, (n.val : Int).fdiv 4294967296 = 0 := by decide +kernel
theorem wrap_all : ∀ n : Fin 201, IntKind.u64.wrap (n.val : Int) = (n.val : Int) := by decide +kernel
theorem f143 (n : Nat) (h : n <= 200) : Impl Tryz.prog 143 [.one (.int .u64 1), .one (.int .u64 n)] (.tup [.one (.int .u64 0), .one (.int .u64 n)]) := by
 have m1 : IntKind.u64.wrap ((BitVec.ofInt IntKind.u64.bits (n : Int) &&& BitVec.ofInt IntKind.u64.bits 4294967295).toNat : Int) = (n : Int) := mask_all ⟨n, by omega⟩
 have m0 : IntKind.u64.wrap ((BitVec.ofInt IntKind.u64.bits (0 : Int) &&& BitVec.ofInt IntKind.u64.bits 4294967295).toNat : Int) = (0 : Int) := mask_all ⟨0, by omega⟩
 simp [go_sem] at m1
 have s1 : (n : Int).fdiv 4294967296 = 0 := shift_all ⟨n, by omega⟩
 have w1 : IntKind.u64.wrap (n : Int) = (n : Int) := wrap_all ⟨n, by omega⟩
 have w2 : IntKind.u64.wrap 0 = 0 := wrap_all ⟨0, by omega⟩
 have w3 : IntKind.u64.wrap 1 = 1 := wrap_all ⟨1, by omega⟩
 refine impl_w Tryz.func143 z143 Tryz.ntmps143 (by simp) ?_
 simp only [slotsOf]
 conv => arg 2; reduce
 have q_ := aN m1 <| aN s1 <| aN w1 <| aN w2 <| w3
 repeat' first | refine St.go ?_ | (refine Ru.go ?_; intro K hK; simp [go_sem, q_]; (try simp (disch := omega) only [wx, z_i]); (first | apply hK | refine ⟨ob, ?_⟩ | refine ⟨hK _ ?_, fun h => ?_⟩ | refine ⟨?_, ?_⟩); all_goals ((try apply hK); clear hK K))
 all_goals try clear q_
 simp [go_sem, m1, s1, w1, w2, w3]
theorem f122 (n : Nat) (h : n <= 200) : Impl Tryz.prog 122 [.one (.int .u64 1), .one (.int .u64 n)] (.tup [.one (.int .u64 0), .one (.int .u64 n)]) := by
 have k1 := f143 n h
 refine impl_w Tryz.func122 z122 Tryz.ntmps122 (by simp) ?_
 simp only [slotsOf]
 conv => arg 2; reduce
 repeat' first | refine St.go ?_ | ((with_reducible refine cn ?_ ?_) <;> intro h <;> (try simp at h) <;> try omega) | (refine Ru.go ?_; intro K hK; simp [go_sem]; (try simp (disch := omega) only [wx, z_i]); (first | apply hK | ((try refine .inl ?_); refine ⟨_, by (repeat' first | exact k1 | refine And.intro ?_ ?_ | simp [go_sem]); first | done | omega, ?_⟩; first | apply hK | (refine ⟨by simp [go_sem], ?_⟩; apply hK)) | refine ⟨ob, ?_⟩ | refine ⟨hK _ ?_, fun h => ?_⟩ | refine ⟨?_, ?_⟩); all_goals ((try apply hK); clear hK K))
 simp [go_sem]
def half (k n : Nat) : List (List DV) := (List.replicate k (-1 : Int) ++ List.replicate (n - k) 0).map encN
theorem half_len {k n : Nat} (h : k <= n) : (half k n).length = n := by simp [half]; omega
theorem half_flat (k n : Nat) : z_g (half k n) := by
 unfold half
 rw [flatEls_map]
 intro x hx
 rfl
theorem half_one (k n : Nat) : ∀ e ∈ half k n, e.length = 1 := by
 intro e he
 obtain ⟨x, _, rfl⟩ := List.mem_map.1 he
 rfl
theorem flat_take {els : List (List DV)} (h : z_g els) (k : Nat) : z_g (els.take k) := fun e he => h e (List.mem_of_mem_take he)
theorem half_start (n : Nat) : List.take n [[DV.int .i64 (-1)]] ++ List.replicate (n - min 1 n) [DV.int .i64 0] = half (min 1 n) n := by
 cases n with
 | zero => simp [half]
 | succ n =>
   have : min 1 (n + 1) = 1 := by omega
   rw [this]
   simp [half, encN]
theorem half_done (n : Nat) : half n n = (List.replicate n (-1 : Int)).map encN := by simp [half]
theorem half_step {k n : Nat} (h : k <= n) : (half k n).take k ++ (((half k n).take k).take (n - k) ++ (half k n).drop (k + min k (n - k))) = half (k + min k (n - k)) n := by
 have e1 : (half k n).take k = (List.replicate k (-1 : Int)).map encN := by
  unfold half
  rw [<- List.map_take, List.take_left' (by simp)]
 have e2 : (half k n).drop (k + min k (n - k)) = (List.replicate (n - (k + min k (n - k))) (0 : Int)).map encN := by
  unfold half
  rw [<- List.map_drop, <- List.drop_drop, List.drop_left' (by simp)]
  rw [List.drop_replicate]
  congr 2
  omega
 rw [e1, e2]
 unfold half
 rw [<- List.map_take, List.take_replicate, <- List.map_append, <- List.map_append, <- List.append_assoc, List.replicate_append_replicate]
 congr 2
 congr 1
 omega
theorem f104 (n : Nat) (hn : n <= 200) : Impl Tryz.prog 104 [.one (.sl [[.int .i64 (-1)]]), .one (.int .i64 n)] (.one (.one (.ow 1 ((List.replicate n (-1)).map encN)))) := by
 have k1 := f122 n hn
 have w1 : IntKind.u64.wrap (n : Int) = (n : Int) := wrap_all ⟨n, by omega⟩
 have w3 : IntKind.u64.wrap 1 = 1 := wrap_all ⟨1, by omega⟩
 have fr : z_g (List.replicate n [DV.int .i64 0]) := by
  intro e he
  rw [(List.mem_replicate.1 he).2]
  rfl
 have f1 : z_g [[DV.int .i64 (-1)]] := by
  intro e he
  rw [List.mem_singleton.1 he]
  rfl
 have hm : min 1 n <= n := by omega
 have hst := half_start n
 refine impl_z Tryz.func104 z104 Tryz.ntmps104 (by simp) ?_
 simp only [c104, slotsOf]
 repeat' first | refine St.go ?_ | ((with_reducible refine cn ?_ ?_) <;> intro h <;> (try simp [w1, w3] at h) <;> try omega) | (refine Ru.go ?_; intro K hK; simp [go_sem, w1, w3]; (try simp (disch := omega) only [wx, z_i]); (first | apply hK | ((try refine .inl ?_); refine ⟨_, by (repeat' first | exact k1 | refine And.intro ?_ ?_ | simp [go_sem, w1, w3]); first | done | omega, ?_⟩; first | apply hK | (refine ⟨by simp [go_sem, w1, w3], ?_⟩; first | apply hK | refine ⟨by simp [go_sem, w1, w3], hK _ _ ?_⟩)) | refine ⟨by first | omega | (simp [z_f, z_g, w1, w3, fr, f1]; first | done | omega), ?_⟩ | refine ⟨hK _ ?_, fun h => ?_⟩ | refine ⟨?_, ?_⟩); all_goals ((try apply hK); clear hK K))
 ·exact ⟨fr, f1⟩
 rw [hst]
 refine z_k (fun q e => ∃ k : Nat, k + q = n /\ (n = 0 \/ 1 <= k) /\ e = [(8, .sv (.one (.int .i64 k))), (7, .sv (.one (.ow 1 (half k n))))]) (n - min 1 n) _ ⟨min 1 n, by omega, by omega, rfl⟩ (by simp [go_sem]) ?_
 rintro q e ⟨k, hk, hk1, rfl⟩
 have hl := half_len (show k <= n by omega)
 have hf := half_flat k n
 have hft := flat_take hf k
 have ho := half_one k n
 by_cases hlt : k < n
 ·have hst := half_step (show k <= n by omega)
  repeat' first | refine St.go ?_ | ((with_reducible refine cn ?_ ?_) <;> intro h <;> (try simp [hlt, hl] at h) <;> try omega) | (refine Ru.go ?_; intro K hK; simp [go_sem, hlt, hl]; (try simp (disch := omega) only [wx, z_i]); (first | apply hK | refine ⟨by first | omega | (simp [z_f, z_g, hlt, hl, hf, hft, ho, hl]; first | done | omega), ?_⟩ | refine ⟨hK _ ?_, fun h => ?_⟩ | refine ⟨?_, ?_⟩); all_goals ((try apply hK); clear hK K))
  ·exact ⟨by omega, ho⟩
  ·exact ⟨by omega, ho⟩
  ·exact ⟨hf, hft, fun e he => ho e (List.mem_of_mem_take he)⟩
  refine z_j (n - (k + min k (n - k))) _ (by omega) ⟨k + min k (n - k), by omega, by omega, rfl⟩ ?_
  simp [go_sem, hst]
 ·have hkn : k = n := by omega
  subst hkn
  rw [half_done] at hl ⊢
  repeat' first | refine St.go ?_ | ((with_reducible refine cn ?_ ?_) <;> intro h <;> (try simp [hl] at h) <;> try omega) | (refine Ru.go ?_; intro K hK; simp [go_sem, hl]; (try simp (disch := omega) only [wx, z_i]); (first | apply hK | refine ⟨by first | omega | (simp [z_f, z_g, hl]; first | done | omega), ?_⟩ | refine ⟨hK _ ?_, fun h => ?_⟩ | refine ⟨?_, ?_⟩); all_goals ((try apply hK); clear hK K))
  simp [go_sem]
theorem f137 (all : List Fld) (d : Dcl) (hl : all.length <= 1000000000) : Impl Tryz.prog 137 [.ag [.sl (d.diffs.map encDf), .sl (d.equals.map encEq)], .one (.sl (all.map encF))] (.one (.one (.bool (okGuard all d)))) := by
 refine impl_w Tryz.func137 z137 Tryz.ntmps137 (by simp) ?_
 simp only [slotsOf]
 conv => arg 2; reduce
 by_cases hd : d.diffs.length <= 20
 ·have hd' : ¬ (20 : Int) < (d.diffs.length : Int) := by omega
  by_cases he : d.equals.length <= 20
  ·have he' : ¬ (20 : Int) < (d.equals.length : Int) := by omega
   repeat' first | refine St.go ?_ | ((with_reducible refine cn ?_ ?_) <;> intro h <;> (try simp [hd', he'] at h) <;> try omega) | (refine Ru.go ?_; intro K hK; simp [go_sem, hd', he']; (try simp (disch := omega) only [wx, z_i]); (first | apply hK | refine ⟨ob, ?_⟩ | refine ⟨hK _ ?_, fun h => ?_⟩ | refine ⟨?_, ?_⟩); all_goals ((try apply hK); clear hK K))
   refine z_k (fun n e => ∃ k : Nat, k + n = d.diffs.length /\ (d.diffs.take k).all (okDff all.length) = true /\ e = [(24, .sv (.one (.int .i64 k))), (23, .sv (.one (.int .i64 d.diffs.length))), (22, .sv (.one (.sl (d.diffs.map encDf)))), (2, .sv (.one (.bx [.sl (d.diffs.map encDf), .sl (d.equals.map encEq)]))), (1, .sv (.one (.sl (all.map encF))))]) d.diffs.length _ ⟨0, by simp, by simp, rfl⟩ (by simp [go_sem]) ?_
   rintro n e ⟨k, hk, hall, rfl⟩
   by_cases hlt : k < d.diffs.length
   ·skip
    repeat' first | refine St.go ?_ | ((with_reducible refine cn ?_ ?_) <;> intro h <;> (try simp [hlt] at h) <;> try omega) | (refine Ru.go ?_; intro K hK; simp [go_sem, hlt, encDf]; (try simp (disch := omega) only [wx, z_i]); (first | apply hK | refine ⟨ob, ?_⟩ | refine ⟨hK _ ?_, fun h => ?_⟩ | refine ⟨?_, ?_⟩); all_goals ((try apply hK); clear hK K))
    ·have hb : okDff all.length d.diffs[k] = false := by
      cases hb : okDff all.length d.diffs[k] with
      | false => rfl
      | true =>
        simp only [okDff, Bool.and_eq_true, decide_eq_true_eq] at hb
        omega
     have hf : okGuard all d = false := by simp [okGuard, all_no hlt hb]
     simp [go_sem, hf]
    ·have hb : okDff all.length d.diffs[k] = true := by
      simp only [okDff, Bool.and_eq_true, decide_eq_true_eq]
      omega
     refine z_j (n - 1) _ (by omega) ⟨k + 1, by omega, ?_, rfl⟩ ?_
     ·rw [all_succ hlt, hall, hb]; rfl
     ·simp [go_sem]
   ·have hkl : d.diffs.take k = d.diffs := List.take_of_length_le (by omega)
    rw [hkl] at hall
    repeat' first | refine St.go ?_ | ((with_reducible refine cn ?_ ?_) <;> intro h <;> (try simp [hlt] at h) <;> try omega) | (refine Ru.go ?_; intro K hK; simp [go_sem, hlt]; (try simp (disch := omega) only [wx, z_i]); (first | apply hK | refine ⟨ob, ?_⟩ | refine ⟨hK _ ?_, fun h => ?_⟩ | refine ⟨?_, ?_⟩); all_goals ((try apply hK); clear hK K))
    refine z_k (fun n e => ∃ k : Nat, k + n = d.equals.length /\ (d.equals.take k).all (fun e => isText all e.1 && isText all e.2) = true /\ e = [(58, .sv (.one (.int .i64 k))), (57, .sv (.one (.int .i64 d.equals.length))), (56, .sv (.one (.sl (d.equals.map encEq)))), (1, .sv (.one (.sl (all.map encF))))]) d.equals.length _ ⟨0, by simp, by simp, rfl⟩ (by simp [go_sem]) ?_
    rintro n e ⟨k, hk, hall2, rfl⟩
    by_cases hlt2 : k < d.equals.length
    ·have hbad : (isText all d.equals[k].1 && isText all d.equals[k].2) = false -> okGuard all d = false := by
      intro h
      have := all_no (p := fun e => isText all e.1 && isText all e.2) hlt2 h
      simp [okGuard, this]
     obtain ⟨y, hy⟩ : ∃ y, y = d.equals[k] := ⟨_, rfl⟩
     rw [<- hy] at hbad
     have hy' : d.equals[k] = y := hy.symm
     repeat' first | refine St.go ?_ | ((with_reducible refine cn ?_ ?_) <;> intro h <;> (try simp [hlt2, hy'] at h) <;> try omega) | (refine Ru.go ?_; intro K hK; simp [go_sem, hlt2, hy', encEq]; (try simp (disch := omega) only [wx, z_i]); (first | apply hK | refine ⟨ob, ?_⟩ | refine ⟨hK _ ?_, fun h => ?_⟩ | refine ⟨?_, ?_⟩); all_goals ((try apply hK); clear hK K))
     refine z_k (fun q e => ∃ j : Nat, j + q = 2 /\ ((j = 0 \/ isText all y.1 = true) /\ (j <= 1 \/ isText all y.2 = true)) /\ e = [(63, .sv (.one (.int .i64 j))), (62, .sv (.ag (encEq y))), (58, .sv (.one (.int .i64 k))), (57, .sv (.one (.int .i64 d.equals.length))), (56, .sv (.one (.sl (d.equals.map encEq)))), (1, .sv (.one (.sl (all.map encF))))]) 2 _ ⟨0, rfl, by simp, rfl⟩ (by simp [go_sem, encEq]) ?_
     rintro q e ⟨j, hj, htx, rfl⟩
     have hj3 : j = 0 \/ j = 1 \/ j = 2 := by omega
     rcases hj3 with rfl | rfl | rfl
     ·by_cases hx0 : y.1 < 0
      ·have hit : isText all (y.1) = false := by simp [isText, show ¬ 0 <= y.1 by omega]
       have hf : okGuard all d = false := hbad (by simp [hit])
       cases hq : all[(y.1).toNat]? with
       | none =>
         repeat' first | refine St.go ?_ | ((with_reducible refine cn ?_ ?_) <;> intro h <;> (try simp [hx0, hq] at h) <;> try omega) | (refine Ru.go ?_; intro K hK; simp [go_sem, hx0, hq, encEq]; (try simp (disch := omega) only [wx, z_i]); (first | apply hK | refine ⟨ob, ?_⟩ | refine ⟨hK _ ?_, fun h => ?_⟩ | refine ⟨?_, ?_⟩); all_goals ((try apply hK); clear hK K))
         simp [go_sem, hf]
       | some f =>
         repeat' first | refine St.go ?_ | ((with_reducible refine cn ?_ ?_) <;> intro h <;> (try simp [hx0, hq] at h) <;> try omega) | (refine Ru.go ?_; intro K hK; simp [go_sem, hx0, hq, encEq, encF]; (try simp (disch := omega) only [wx, z_i]); (first | apply hK | refine ⟨ob, ?_⟩ | refine ⟨hK _ ?_, fun h => ?_⟩ | refine ⟨?_, ?_⟩); all_goals ((try apply hK); clear hK K))
         simp [go_sem, hf]
      ·by_cases hxn : y.1 < all.length
       ·have hlt3 : (y.1).toNat < all.length := by omega
        have hq : all[(y.1).toNat]? = some all[(y.1).toNat] := List.getElem?_eq_getElem hlt3
        by_cases hk2 : all[(y.1).toNat].kind = 2
        ·have hit : isText all (y.1) = true := by simp [isText, show 0 <= y.1 by omega, hxn, hlt3, hk2]
         have hxn' : ¬ (all.length : Int) <= y.1 := by omega
         have q_ := aN hx0 <| aN hxn' <| aN hlt3 <| hk2
         repeat' first | refine St.go ?_ | ((with_reducible refine cn ?_ ?_) <;> intro h <;> (try simp [q_] at h) <;> try omega) | (refine Ru.go ?_; intro K hK; simp [go_sem, encEq, encF, q_]; (try simp (disch := omega) only [wx, z_i]); (first | apply hK | refine ⟨ob, ?_⟩ | refine ⟨hK _ ?_, fun h => ?_⟩ | refine ⟨?_, ?_⟩); all_goals ((try apply hK); clear hK K))
         all_goals try clear q_
         refine z_j (q - 1) _ (by omega) ⟨0 + 1, by omega, by simp [hit], rfl⟩ ?_
         simp [go_sem, encEq]
        ·have hit : isText all (y.1) = false := by simp [isText, hlt3, hk2]
         have hf : okGuard all d = false := hbad (by simp [hit])
         have hxn' : ¬ (all.length : Int) <= y.1 := by omega
         have q_ := aN hx0 <| aN hxn' <| aN hlt3 <| hk2
         repeat' first | refine St.go ?_ | ((with_reducible refine cn ?_ ?_) <;> intro h <;> (try simp [q_] at h) <;> try omega) | (refine Ru.go ?_; intro K hK; simp [go_sem, encEq, encF, q_]; (try simp (disch := omega) only [wx, z_i]); (first | apply hK | refine ⟨ob, ?_⟩ | refine ⟨hK _ ?_, fun h => ?_⟩ | refine ⟨?_, ?_⟩); all_goals ((try apply hK); clear hK K))
         all_goals try clear q_
         simp [go_sem, hf]
       ·have hit : isText all (y.1) = false := by simp [isText, hxn]
        have hf : okGuard all d = false := hbad (by simp [hit])
        have hxn' : (all.length : Int) <= y.1 := by omega
        have hq : all[(y.1).toNat]? = none := List.getElem?_eq_none (by omega)
        repeat' first | refine St.go ?_ | ((with_reducible refine cn ?_ ?_) <;> intro h <;> (try simp [hx0, hxn', hq] at h) <;> try omega) | (refine Ru.go ?_; intro K hK; simp [go_sem, hx0, hxn', hq, encEq]; (try simp (disch := omega) only [wx, z_i]); (first | apply hK | refine ⟨ob, ?_⟩ | refine ⟨hK _ ?_, fun h => ?_⟩ | refine ⟨?_, ?_⟩); all_goals ((try apply hK); clear hK K))
        simp [go_sem, hf]
     ·by_cases hx0 : y.2 < 0
      ·have hit : isText all (y.2) = false := by simp [isText, show ¬ 0 <= y.2 by omega]
       have hf : okGuard all d = false := hbad (by simp [hit])
       cases hq : all[(y.2).toNat]? with
       | none =>
         repeat' first | refine St.go ?_ | ((with_reducible refine cn ?_ ?_) <;> intro h <;> (try simp [hx0, hq] at h) <;> try omega) | (refine Ru.go ?_; intro K hK; simp [go_sem, hx0, hq, encEq]; (try simp (disch := omega) only [wx, z_i]); (first | apply hK | refine ⟨ob, ?_⟩ | refine ⟨hK _ ?_, fun h => ?_⟩ | refine ⟨?_, ?_⟩); all_goals ((try apply hK); clear hK K))
         simp [go_sem, hf]
       | some f =>
         repeat' first | refine St.go ?_ | ((with_reducible refine cn ?_ ?_) <;> intro h <;> (try simp [hx0, hq] at h) <;> try omega) | (refine Ru.go ?_; intro K hK; simp [go_sem, hx0, hq, encEq, encF]; (try simp (disch := omega) only [wx, z_i]); (first | apply hK | refine ⟨ob, ?_⟩ | refine ⟨hK _ ?_, fun h => ?_⟩ | refine ⟨?_, ?_⟩); all_goals ((try apply hK); clear hK K))
         simp [go_sem, hf]
      ·by_cases hxn : y.2 < all.length
       ·have hlt3 : (y.2).toNat < all.length := by omega
        have hq : all[(y.2).toNat]? = some all[(y.2).toNat] := List.getElem?_eq_getElem hlt3
        by_cases hk2 : all[(y.2).toNat].kind = 2
        ·have hit : isText all (y.2) = true := by simp [isText, show 0 <= y.2 by omega, hxn, hlt3, hk2]
         have hxn' : ¬ (all.length : Int) <= y.2 := by omega
         have q_ := aN hx0 <| aN hxn' <| aN hlt3 <| hk2
         repeat' first | refine St.go ?_ | ((with_reducible refine cn ?_ ?_) <;> intro h <;> (try simp [q_] at h) <;> try omega) | (refine Ru.go ?_; intro K hK; simp [go_sem, encEq, encF, q_]; (try simp (disch := omega) only [wx, z_i]); (first | apply hK | refine ⟨ob, ?_⟩ | refine ⟨hK _ ?_, fun h => ?_⟩ | refine ⟨?_, ?_⟩); all_goals ((try apply hK); clear hK K))
         all_goals try clear q_
         refine z_j (q - 1) _ (by omega) ⟨1 + 1, by omega, by simp only [hit, Bool.and_true] at htx ⊢; simpa using htx, rfl⟩ ?_
         simp [go_sem, encEq]
        ·have hit : isText all (y.2) = false := by simp [isText, hlt3, hk2]
         have hf : okGuard all d = false := hbad (by simp [hit])
         have hxn' : ¬ (all.length : Int) <= y.2 := by omega
         have q_ := aN hx0 <| aN hxn' <| aN hlt3 <| hk2
         repeat' first | refine St.go ?_ | ((with_reducible refine cn ?_ ?_) <;> intro h <;> (try simp [q_] at h) <;> try omega) | (refine Ru.go ?_; intro K hK; simp [go_sem, encEq, encF, q_]; (try simp (disch := omega) only [wx, z_i]); (first | apply hK | refine ⟨ob, ?_⟩ | refine ⟨hK _ ?_, fun h => ?_⟩ | refine ⟨?_, ?_⟩); all_goals ((try apply hK); clear hK K))
         all_goals try clear q_
         simp [go_sem, hf]
       ·have hit : isText all (y.2) = false := by simp [isText, hxn]
        have hf : okGuard all d = false := hbad (by simp [hit])
        have hxn' : (all.length : Int) <= y.2 := by omega
        have hq : all[(y.2).toNat]? = none := List.getElem?_eq_none (by omega)
        repeat' first | refine St.go ?_ | ((with_reducible refine cn ?_ ?_) <;> intro h <;> (try simp [hx0, hxn', hq] at h) <;> try omega) | (refine Ru.go ?_; intro K hK; simp [go_sem, hx0, hxn', hq, encEq]; (try simp (disch := omega) only [wx, z_i]); (first | apply hK | refine ⟨ob, ?_⟩ | refine ⟨hK _ ?_, fun h => ?_⟩ | refine ⟨?_, ?_⟩); all_goals ((try apply hK); clear hK K))
        simp [go_sem, hf]
     ·have ht1 : isText all y.1 = true := by simpa using htx.1
      have ht2 : isText all y.2 = true := by simpa using htx.2
      repeat' first | refine St.go ?_ | ((with_reducible refine cn ?_ ?_) <;> intro h <;> (try simp at h) <;> try omega) | (refine Ru.go ?_; intro K hK; simp [go_sem]; (try simp (disch := omega) only [wx, z_i]); (first | apply hK | refine ⟨ob, ?_⟩ | refine ⟨hK _ ?_, fun h => ?_⟩ | refine ⟨?_, ?_⟩); all_goals ((try apply hK); clear hK K))
      refine z_j (n - 1) _ (by omega) ⟨k + 1, by omega, ?_, rfl⟩ ?_
      ·rw [all_succ hlt2, hall2, <- hy, ht1, ht2]; rfl
      ·simp [go_sem]
    ·have hkl2 : d.equals.take k = d.equals := List.take_of_length_le (by omega)
     rw [hkl2] at hall2
     repeat' first | refine St.go ?_ | ((with_reducible refine cn ?_ ?_) <;> intro h <;> (try simp [hlt2] at h) <;> try omega) | (refine Ru.go ?_; intro K hK; simp [go_sem, hlt2]; (try simp (disch := omega) only [wx, z_i]); (first | apply hK | refine ⟨ob, ?_⟩ | refine ⟨hK _ ?_, fun h => ?_⟩ | refine ⟨?_, ?_⟩); all_goals ((try apply hK); clear hK K))
     simp [go_sem, okGuard, hd, he, hall, hall2]
  ·have he' : (20 : Int) < (d.equals.length : Int) := by omega
   repeat' first | refine St.go ?_ | ((with_reducible refine cn ?_ ?_) <;> intro h <;> (try simp [hd', he'] at h) <;> try omega) | (refine Ru.go ?_; intro K hK; simp [go_sem, hd', he']; (try simp (disch := omega) only [wx, z_i]); (first | apply hK | refine ⟨ob, ?_⟩ | refine ⟨hK _ ?_, fun h => ?_⟩ | refine ⟨?_, ?_⟩); all_goals ((try apply hK); clear hK K))
   simp [go_sem, okGuard, he]
 ·have hd' : (20 : Int) < (d.diffs.length : Int) := by omega
  repeat' first | refine St.go ?_ | ((with_reducible refine cn ?_ ?_) <;> intro h <;> (try simp [hd'] at h) <;> try omega) | (refine Ru.go ?_; intro K hK; simp [go_sem, hd']; (try simp (disch := omega) only [wx, z_i]); (first | apply hK | refine ⟨ob, ?_⟩ | refine ⟨hK _ ?_, fun h => ?_⟩ | refine ⟨?_, ?_⟩); all_goals ((try apply hK); clear hK K))
  simp [go_sem, okGuard, hd]
theorem allF_le {B : Nat} : ∀ (m : List Dcl), (∀ d ∈ m, d.fields.length <= B) -> (allF m).length <= m.length * B
 | [], _ => by simp [allF]
 | d :: m, h => by
   have h1 := allF_le m fun x hx => h x (by simp [hx])
   have h2 := h d (by simp)
   simp only [allF, List.flatMap_cons, List.length_append, List.length_cons, Nat.succ_mul] at h1 ⊢
   omega
theorem allF_take_le {B k : Nat} {l : List Dcl} (hf : ∀ d ∈ l, d.fields.length <= B) : (allF (l.take k)).length <= k * B :=
 Nat.le_trans (allF_le _ fun d hd => hf d (List.mem_of_mem_take hd)) (Nat.mul_le_mul_right _ (List.length_take_le _ _))
theorem allF_succ {l : List Dcl} {k : Nat} (hlt : k < l.length) : allF (l.take (k + 1)) = allF (l.take k) ++ l[k].fields := by
 unfold allF
 rw [List.take_succ_eq_append_getElem hlt, List.flatMap_append]
 simp
theorem allF_split (l : List Dcl) (k : Nat) : allF l = allF (l.take k) ++ allF (l.drop k) := by
 unfold allF
 rw [<- List.flatMap_append, List.take_append_drop]
theorem allF_at {l : List Dcl} {k y : Nat} (hlt : k < l.length) (hy : y < l[k].fields.length) : (allF l)[(allF (l.take k)).length + y]? = some l[k].fields[y] := by
 rw [allF_split l (k + 1), allF_succ hlt, List.append_assoc, List.getElem?_append_right (by omega)]
 rw [List.getElem?_append_left (by omega)]
 have : (allF (l.take k)).length + y - (allF (l.take k)).length = y := by omega
 rw [this, List.getElem?_eq_getElem hy]
theorem f128 (k lo hi : Int) (nm : ByteArray) : Impl Tryz.prog 128 [.ag [.int .i64 k, .int .i64 lo, .int .i64 hi]] (.one (.one (.bool (goodSort ⟨nm, k, lo, hi⟩)))) := by
 refine impl_w Tryz.func128 z128 Tryz.ntmps128 (by simp) ?_
 simp only [slotsOf]
 conv => arg 2; reduce
 by_cases h1 : k = 1
 ·skip
  repeat' first | refine St.go ?_ | ((with_reducible refine cn ?_ ?_) <;> intro h <;> (try simp [h1] at h) <;> try omega) | (refine Ru.go ?_; intro K hK; simp [go_sem, h1]; (first | apply hK | refine ⟨ob, ?_⟩ | refine ⟨hK _ ?_, fun h => ?_⟩ | refine ⟨?_, ?_⟩); all_goals ((try apply hK); clear hK K))
  simp [go_sem, goodSort, h1]
  rw [Bool.eq_iff_iff]
  simp
  omega
 ·by_cases h2 : k = 2
  ·skip
   repeat' first | refine St.go ?_ | ((with_reducible refine cn ?_ ?_) <;> intro h <;> (try simp [h1, h2] at h) <;> try omega) | (refine Ru.go ?_; intro K hK; simp [go_sem, h1, h2]; (first | apply hK | refine ⟨ob, ?_⟩ | refine ⟨hK _ ?_, fun h => ?_⟩ | refine ⟨?_, ?_⟩); all_goals ((try apply hK); clear hK K))
   simp [go_sem, goodSort, h1, h2]
   rw [Bool.eq_iff_iff]
   simp
   omega
  ·skip
   repeat' first | refine St.go ?_ | ((with_reducible refine cn ?_ ?_) <;> intro h <;> (try simp [h1, h2] at h) <;> try omega) | (refine Ru.go ?_; intro K hK; simp [go_sem, h1, h2]; (first | apply hK | refine ⟨ob, ?_⟩ | refine ⟨hK _ ?_, fun h => ?_⟩ | refine ⟨?_, ?_⟩); all_goals ((try apply hK); clear hK K))
   simp [go_sem, goodSort, h1, h2]
theorem f93 (l : List Dcl) (hl : l.length <= 1000) (hf : ∀ d ∈ l, d.fields.length <= 100000) : Impl Tryz.prog 93 [.one (.sl (l.map encD))] (.one (.one (.int .i64 ((allF l).length : Nat)))) := by
 refine impl_w Tryz.func93 z93 Tryz.ntmps93 (by simp) ?_
 simp only [slotsOf]
 conv => arg 2; reduce
 repeat' first | refine St.go ?_ | ((with_reducible refine cn ?_ ?_) <;> intro h <;> (try simp at h) <;> try omega) | (refine Ru.go ?_; intro K hK; simp [go_sem]; (try simp (disch := omega) only [wx, z_i]); (first | apply hK | refine ⟨ob, ?_⟩ | refine ⟨hK _ ?_, fun h => ?_⟩ | refine ⟨?_, ?_⟩); all_goals ((try apply hK); clear hK K))
 refine z_k (fun n e => ∃ k : Nat, k + n = l.length /\ e = [(4, .sv (.one (.int .i64 k))), (3, .sv (.one (.int .i64 ((allF (l.take k)).length : Nat)))), (0, .sv (.one (.sl (l.map encD))))]) l.length _ ⟨0, by simp, rfl⟩ (by simp [go_sem, allF]) ?_
 rintro n e ⟨k, hk, rfl⟩
 by_cases hlt : k < l.length
 ·have hfk := hf l[k] (List.getElem_mem hlt)
  have hall := allF_take_le (k := k) hf
  repeat' first | refine St.go ?_ | ((with_reducible refine cn ?_ ?_) <;> intro h <;> (try simp [hlt] at h) <;> try omega) | (refine Ru.go ?_; intro K hK; simp [go_sem, hlt, encD]; (try simp (disch := omega) only [wx, z_i]); (first | apply hK | refine ⟨ob, ?_⟩ | refine ⟨hK _ ?_, fun h => ?_⟩ | refine ⟨?_, ?_⟩); all_goals ((try apply hK); clear hK K))
  refine z_j (n - 1) _ (by omega) ⟨k + 1, by omega, rfl⟩ ?_
  simp [go_sem, allF_succ hlt]
 ·have hkl : l.take k = l := List.take_of_length_le (by omega)
  repeat' first | refine St.go ?_ | ((with_reducible refine cn ?_ ?_) <;> intro h <;> (try simp [hlt, hkl] at h) <;> try omega) | (refine Ru.go ?_; intro K hK; simp [go_sem, hlt, hkl]; (try simp (disch := omega) only [wx, z_i]); (first | apply hK | refine ⟨ob, ?_⟩ | refine ⟨hK _ ?_, fun h => ?_⟩ | refine ⟨?_, ?_⟩); all_goals ((try apply hK); clear hK K))
  simp [go_sem]
theorem f118 (l : List Dcl) (x : Nat) (hl : l.length <= 1000) (hf : ∀ d ∈ l, d.fields.length <= 100000) (hx : x < (allF l).length) : Impl Tryz.prog 118 [.one (.sl (l.map encD)), .one (.int .i64 x)] (.one (.ag (encF (allF l)[x]))) := by
 refine impl_w Tryz.func118 z118 Tryz.ntmps118 (by simp) ?_
 simp only [slotsOf]
 conv => arg 2; reduce
 have hxl := allF_le l hf
 repeat' first | refine St.go ?_ | ((with_reducible refine cn ?_ ?_) <;> intro h <;> (try simp at h) <;> try omega) | (refine Ru.go ?_; intro K hK; simp [go_sem]; (try simp (disch := omega) only [wx, z_i]); (first | apply hK | refine ⟨ob, ?_⟩ | refine ⟨hK _ ?_, fun h => ?_⟩ | refine ⟨?_, ?_⟩); all_goals ((try apply hK); clear hK K))
 refine z_k (fun n e => ∃ k y : Nat, k + n = l.length /\ (allF (l.take k)).length + y = x /\ e = [(5, .sv (.one (.int .i64 k))), (1, .sv (.one (.int .i64 y))), (4, .sv (.one (.bx [.str ⟨#[]⟩, .int .i64 0, .int .i64 0, .int .i64 0]))), (0, .sv (.one (.sl (l.map encD))))]) l.length _ ⟨0, x, by simp, by simp [allF], rfl⟩ (by simp [go_sem]) ?_
 rintro n e ⟨k, y, hk, hy, rfl⟩
 by_cases hlt : k < l.length
 ·have hfk := hf l[k] (List.getElem_mem hlt)
  by_cases hyl : y < l[k].fields.length
  ·have hat := allF_at hlt hyl
   rw [hy, List.getElem?_eq_getElem hx] at hat
   injection hat with hat
   repeat' first | refine St.go ?_ | ((with_reducible refine cn ?_ ?_) <;> intro h <;> (try simp [hlt, hyl] at h) <;> try omega) | (refine Ru.go ?_; intro K hK; simp [go_sem, hlt, hyl, encD, encF]; (try simp (disch := omega) only [wx, z_i]); (first | apply hK | refine ⟨ob, ?_⟩ | refine ⟨hK _ ?_, fun h => ?_⟩ | refine ⟨?_, ?_⟩); all_goals ((try apply hK); clear hK K))
   simp [go_sem, hat, encF]
  ·have hs := congrArg List.length (allF_succ hlt)
   rw [List.length_append] at hs
   repeat' first | refine St.go ?_ | ((with_reducible refine cn ?_ ?_) <;> intro h <;> (try simp [hlt, hyl] at h) <;> try omega) | (refine Ru.go ?_; intro K hK; simp [go_sem, hlt, hyl, encD]; (try simp (disch := omega) only [wx, z_i]); (first | apply hK | refine ⟨ob, ?_⟩ | refine ⟨hK _ ?_, fun h => ?_⟩ | refine ⟨?_, ?_⟩); all_goals ((try apply hK); clear hK K))
   refine z_j (n - 1) _ (by omega) ⟨k + 1, y - l[k].fields.length, by omega, by omega, rfl⟩ ?_
   simp [go_sem]
   omega
 ·have hkl : l.take k = l := List.take_of_length_le (by omega)
  rw [hkl] at hy
  omega
theorem f148 (l : List Dcl) (x : Int) (hl : l.length <= 1000) (hf : ∀ d ∈ l, d.fields.length <= 100000) : Impl Tryz.prog 148 [.one (.sl (l.map encD)), .one (.int .i64 x)] (.one (.one (.bool (isText (allF l) x)))) := by
 refine impl_w Tryz.func148 z148 Tryz.ntmps148 (by simp) ?_
 simp only [slotsOf]
 conv => arg 2; reduce
 have f93s := f93 l hl hf
 by_cases h0 : 0 <= x
 ·by_cases hxn : x < (allF l).length
  ·have hlt : x.toNat < (allF l).length := by omega
   have f118s := f118 l x.toNat hl hf hlt
   have e0 : ((x.toNat : Nat) : Int) = x := by omega
   rw [e0] at f118s
   obtain ⟨F, hF⟩ : ∃ F, (allF l)[x.toNat] = F := ⟨_, rfl⟩
   rw [hF] at f118s
   simp only [encF] at f118s
   have hit : isText (allF l) x = (F.kind == 2) := by
    simp only [isText, h0, hxn, List.getElem?_eq_getElem hlt, hF, decide_true, Bool.true_and]
    rw [Bool.eq_iff_iff]
    simp
   repeat' first | refine St.go ?_ | (refine Ru.go ?_; intro K hK; simp [go_sem, h0, hxn]; (first | apply hK | ((try refine .inl ?_); refine ⟨_, by (try intro hc); (repeat' first | exact f93s | exact f118s | exact hc | refine And.intro ?_ ?_ | simp [go_sem, h0, hxn]); first | done | omega, ?_⟩; first | apply hK | (refine ⟨by simp [go_sem, h0, hxn], ?_⟩; apply hK)) | refine ⟨.one (.one (.bool false)), by simp [go_sem, h0, hxn], hK _ _ ?_⟩ | refine ⟨ob, ?_⟩ | refine ⟨hK _ ?_, fun h => ?_⟩ | refine ⟨?_, ?_⟩); all_goals ((try apply hK); clear hK K))
   simp [go_sem, hit]
  ·skip
   repeat' first | refine St.go ?_ | (refine Ru.go ?_; intro K hK; simp [go_sem, h0, hxn]; (first | apply hK | ((try refine .inl ?_); refine ⟨_, by (try intro hc); (repeat' first | exact f93s | exact hc | refine And.intro ?_ ?_ | simp [go_sem, h0, hxn]); first | done | omega, ?_⟩; first | apply hK | (refine ⟨by simp [go_sem, h0, hxn], ?_⟩; apply hK)) | refine ⟨.one (.one (.bool false)), by simp [go_sem, h0, hxn], hK _ _ ?_⟩ | refine ⟨ob, ?_⟩ | refine ⟨hK _ ?_, fun h => ?_⟩ | refine ⟨?_, ?_⟩); all_goals ((try apply hK); clear hK K))
   simp [go_sem, isText, hxn]
 ·skip
  repeat' first | refine St.go ?_ | (refine Ru.go ?_; intro K hK; simp [go_sem, h0]; (first | apply hK | refine ⟨ob, ?_⟩ | refine ⟨hK _ ?_, fun h => ?_⟩ | refine ⟨?_, ?_⟩); all_goals ((try apply hK); clear hK K))
  simp [go_sem, isText, h0]
theorem f130 (l : List Dcl) (d : Dcl) (hl : l.length <= 1000) (hf : ∀ d ∈ l, d.fields.length <= 100000) (hdl : d.diffs.length <= 1000000) (hel : d.equals.length <= 1000000) : Impl Tryz.prog 130 [.one (.sl (l.map encD)), .ag [.sl (d.diffs.map encDf), .sl (d.equals.map encEq)]] (.one (.one (.bool (okGuard (allF l) d)))) := by
 refine impl_w Tryz.func130 z130 Tryz.ntmps130 (by simp) ?_
 simp only [slotsOf]
 conv => arg 2; reduce
 have f93s := f93 l hl hf
 obtain ⟨all, hA⟩ : ∃ all, all = allF l := ⟨_, rfl⟩
 have hal : all.length <= 1000000000 := by
  have := allF_le l hf
  rw [hA]
  have h2 : l.length * 100000 <= 1000 * 100000 := Nat.mul_le_mul_right _ hl
  omega
 have f148s : ∀ x : Int, Impl Tryz.prog 148 [.one (.sl (l.map encD)), .one (.int .i64 x)] (.one (.one (.bool (isText all x)))) := fun x => by rw [hA]; exact f148 l x hl hf
 rw [<- hA] at f93s ⊢
 repeat' first | refine St.go ?_ | ((with_reducible refine cn ?_ ?_) <;> intro h <;> (try simp at h) <;> try omega) | (refine Ru.go ?_; intro K hK; simp [go_sem]; (try simp (disch := omega) only [wx, z_i]); (first | apply hK | ((try refine .inl ?_); refine ⟨_, by (try intro hc); (repeat' first | exact f93s | exact hc | refine And.intro ?_ ?_ | simp [go_sem]); first | done | omega, ?_⟩; first | apply hK | (refine ⟨by simp [go_sem], ?_⟩; apply hK)) | refine ⟨.one (.one (.bool false)), by simp [go_sem], hK _ _ ?_⟩ | refine ⟨ob, ?_⟩ | refine ⟨hK _ ?_, fun h => ?_⟩ | refine ⟨?_, ?_⟩); all_goals ((try apply hK); clear hK K))
 refine z_k (fun n e => ∃ k : Nat, k + n = d.diffs.length /\ (d.diffs.take k).all (okDff all.length) = true /\ e = [(6, .sv (.one (.int .i64 k))), (5, .sv (.one (.int .i64 all.length))), (3, .sv (.one (.bx [.sl (d.diffs.map encDf), .sl (d.equals.map encEq)]))), (0, .sv (.one (.sl (l.map encD))))]) d.diffs.length _ ⟨0, by simp, by simp, rfl⟩ (by simp [go_sem]) ?_
 rintro n e ⟨k, hk, hall, rfl⟩
 by_cases hlt : k < d.diffs.length
 ·skip
  repeat' first | refine St.go ?_ | ((with_reducible refine cn ?_ ?_) <;> intro h <;> (try simp [hlt] at h) <;> try omega) | (refine Ru.go ?_; intro K hK; simp [go_sem, hlt, encDf]; (try simp (disch := omega) only [wx, z_i]); (first | apply hK | refine ⟨ob, ?_⟩ | refine ⟨hK _ ?_, fun h => ?_⟩ | refine ⟨?_, ?_⟩); all_goals ((try apply hK); clear hK K))
  ·have hb : okDff all.length d.diffs[k] = false := by
    cases hb : okDff all.length d.diffs[k] with
    | false => rfl
    | true =>
      simp only [okDff, Bool.and_eq_true, decide_eq_true_eq] at hb
      omega
   have hg : okGuard all d = false := by simp [okGuard, all_no hlt hb]
   simp [go_sem, hg]
  ·have hb : okDff all.length d.diffs[k] = true := by
    simp only [okDff, Bool.and_eq_true, decide_eq_true_eq]
    omega
   refine z_j (n - 1) _ (by omega) ⟨k + 1, by omega, ?_, rfl⟩ ?_
   ·rw [all_succ hlt, hall, hb]; rfl
   ·simp [go_sem]
 ·have hkl : d.diffs.take k = d.diffs := List.take_of_length_le (by omega)
  rw [hkl] at hall
  repeat' first | refine St.go ?_ | ((with_reducible refine cn ?_ ?_) <;> intro h <;> (try simp [hlt] at h) <;> try omega) | (refine Ru.go ?_; intro K hK; simp [go_sem, hlt]; (try simp (disch := omega) only [wx, z_i]); (first | apply hK | refine ⟨ob, ?_⟩ | refine ⟨hK _ ?_, fun h => ?_⟩ | refine ⟨?_, ?_⟩); all_goals ((try apply hK); clear hK K))
  refine z_k (fun n e => ∃ k : Nat, k + n = d.equals.length /\ (d.equals.take k).all (fun e => isText all e.1 && isText all e.2) = true /\ e = [(8, .sv (.one (.int .i64 k))), (3, .sv (.one (.bx [.sl (d.diffs.map encDf), .sl (d.equals.map encEq)]))), (0, .sv (.one (.sl (l.map encD))))]) d.equals.length _ ⟨0, by simp, by simp, rfl⟩ (by simp [go_sem]) ?_
  rintro n e ⟨k, hk, hall2, rfl⟩
  by_cases hlt2 : k < d.equals.length
  ·have hbad : (isText all d.equals[k].1 && isText all d.equals[k].2) = false -> okGuard all d = false := by
    intro h
    have := all_no (p := fun e => isText all e.1 && isText all e.2) hlt2 h
    simp [okGuard, this]
   have c1 := f148s d.equals[k].1
   have c2 := f148s d.equals[k].2
   cases ht1 : isText all d.equals[k].1 with
   | false =>
     have hg := hbad (by simp [ht1])
     rw [ht1] at c1
     repeat' first | refine St.go ?_ | ((with_reducible refine cn ?_ ?_) <;> intro h <;> (try simp [hlt2] at h) <;> try omega) | (refine Ru.go ?_; intro K hK; simp [go_sem, hlt2, encEq]; (try simp (disch := omega) only [wx, z_i]); (first | apply hK | ((try refine .inl ?_); refine ⟨_, by (try intro hc); (repeat' first | exact c1 | exact hc | refine And.intro ?_ ?_ | simp [go_sem, hlt2, encEq]); first | done | omega, ?_⟩; first | apply hK | (refine ⟨by simp [go_sem, hlt2, encEq], ?_⟩; apply hK)) | refine ⟨.one (.one (.bool false)), by simp [go_sem, hlt2, encEq], hK _ _ ?_⟩ | refine ⟨ob, ?_⟩ | refine ⟨hK _ ?_, fun h => ?_⟩ | refine ⟨?_, ?_⟩); all_goals ((try apply hK); clear hK K))
     simp [go_sem, hg]
   | true =>
     cases ht2 : isText all d.equals[k].2 with
     | false =>
       have hg := hbad (by simp [ht2])
       rw [ht1] at c1
       rw [ht2] at c2
       repeat' first | refine St.go ?_ | ((with_reducible refine cn ?_ ?_) <;> intro h <;> (try simp [hlt2] at h) <;> try omega) | (refine Ru.go ?_; intro K hK; simp [go_sem, hlt2, encEq]; (try simp (disch := omega) only [wx, z_i]); (first | apply hK | ((try refine .inl ?_); refine ⟨_, by (try intro hc); (repeat' first | exact c1 | exact c2 | exact hc | refine And.intro ?_ ?_ | simp [go_sem, hlt2, encEq]); first | done | omega, ?_⟩; first | apply hK | (refine ⟨by simp [go_sem, hlt2, encEq], ?_⟩; apply hK)) | refine ⟨.one (.one (.bool false)), by simp [go_sem, hlt2, encEq], hK _ _ ?_⟩ | refine ⟨ob, ?_⟩ | refine ⟨hK _ ?_, fun h => ?_⟩ | refine ⟨?_, ?_⟩); all_goals ((try apply hK); clear hK K))
       simp [go_sem, hg]
     | true =>
       rw [ht1] at c1
       rw [ht2] at c2
       repeat' first | refine St.go ?_ | ((with_reducible refine cn ?_ ?_) <;> intro h <;> (try simp [hlt2] at h) <;> try omega) | (refine Ru.go ?_; intro K hK; simp [go_sem, hlt2, encEq]; (try simp (disch := omega) only [wx, z_i]); (first | apply hK | ((try refine .inl ?_); refine ⟨_, by (try intro hc); (repeat' first | exact c1 | exact c2 | exact hc | refine And.intro ?_ ?_ | simp [go_sem, hlt2, encEq]); first | done | omega, ?_⟩; first | apply hK | (refine ⟨by simp [go_sem, hlt2, encEq], ?_⟩; apply hK)) | refine ⟨.one (.one (.bool false)), by simp [go_sem, hlt2, encEq], hK _ _ ?_⟩ | refine ⟨ob, ?_⟩ | refine ⟨hK _ ?_, fun h => ?_⟩ | refine ⟨?_, ?_⟩); all_goals ((try apply hK); clear hK K))
       refine z_j (n - 1) _ (by omega) ⟨k + 1, by omega, ?_, rfl⟩ ?_
       ·rw [all_succ hlt2, hall2, ht1, ht2]; rfl
       ·simp [go_sem]
  ·have hkl2 : d.equals.take k = d.equals := List.take_of_length_le (by omega)
   rw [hkl2] at hall2
   repeat' first | refine St.go ?_ | ((with_reducible refine cn ?_ ?_) <;> intro h <;> (try simp [hlt2] at h) <;> try omega) | (refine Ru.go ?_; intro K hK; simp [go_sem, hlt2]; (try simp (disch := omega) only [wx, z_i]); (first | apply hK | refine ⟨ob, ?_⟩ | refine ⟨hK _ ?_, fun h => ?_⟩ | refine ⟨?_, ?_⟩); all_goals ((try apply hK); clear hK K))
   simp [go_sem, okGuard, hall, hall2]
   rw [Bool.eq_iff_iff]
   simp
   omega
theorem f152 (l : List Dcl) (g : FuncId) (caps : List DV) (p : Dcl -> Bool) (hl : l.length <= 1000000) (hg : ∀ x ∈ l, Impl Tryz.prog g (.ag (encD x) :: caps.map .one) (.one (.one (.bool (p x))))) :
  Impl Tryz.prog 152 [.one (.sl (l.map encD)), .one (.fn g caps)] (.one (.one (.int .i64 (firstB p l)))) := by
 refine impl_w Tryz.func152 z152 Tryz.ntmps152 (by simp) ?_
 simp only [slotsOf]
 conv => arg 2; reduce
 repeat' first | refine St.go ?_ | ((with_reducible refine cn ?_ ?_) <;> intro h <;> (try simp at h) <;> try omega) | (refine Ru.go ?_; intro K hK; simp [go_sem]; (try simp (disch := omega) only [wx, z_i]); (first | apply hK | refine ⟨ob, ?_⟩ | refine ⟨hK _ ?_, fun h => ?_⟩ | refine ⟨?_, ?_⟩); all_goals ((try apply hK); clear hK K))
 refine z_k (fun n e => ∃ k : Nat, k + n = l.length /\ (l.take k).any p = false /\ e = [(8, .sv (.one (.int .i64 k))), (7, .sv (.one (.int .i64 l.length))), (1, .sv (.one (.fn g caps))), (0, .sv (.one (.sl (l.map encD))))]) l.length _ ⟨0, by simp, by simp, rfl⟩ (by simp [go_sem]) ?_
 rintro n e ⟨k, hk, h0, rfl⟩
 by_cases hlt : k < l.length
 ·have hgs := hg l[k] (List.getElem_mem hlt)
  simp only [encD] at hgs
  cases hx : p l[k] with
  | true =>
    have hf := firstB_at hlt h0 hx
    rw [hx] at hgs
    repeat' first | refine St.go ?_ | ((with_reducible refine cn ?_ ?_) <;> intro h <;> (try simp [hlt] at h) <;> try omega) | (refine Ru.go ?_; intro K hK; simp [go_sem, hlt, encD]; (try simp (disch := omega) only [wx, z_i]); (first | apply hK | ((try refine .inl ?_); refine ⟨_, by (repeat' first | exact hgs | refine And.intro ?_ ?_ | simp [go_sem, hlt, encD]); first | done | omega, ?_⟩; first | apply hK | (refine ⟨by simp [go_sem, hlt, encD], ?_⟩; apply hK)) | refine ⟨ob, ?_⟩ | refine ⟨hK _ ?_, fun h => ?_⟩ | refine ⟨?_, ?_⟩); all_goals ((try apply hK); clear hK K))
    simp [go_sem, hf]
  | false =>
    rw [hx] at hgs
    repeat' first | refine St.go ?_ | ((with_reducible refine cn ?_ ?_) <;> intro h <;> (try simp [hlt] at h) <;> try omega) | (refine Ru.go ?_; intro K hK; simp [go_sem, hlt, encD]; (try simp (disch := omega) only [wx, z_i]); (first | apply hK | ((try refine .inl ?_); refine ⟨_, by (repeat' first | exact hgs | refine And.intro ?_ ?_ | simp [go_sem, hlt, encD]); first | done | omega, ?_⟩; first | apply hK | (refine ⟨by simp [go_sem, hlt, encD], ?_⟩; apply hK)) | refine ⟨ob, ?_⟩ | refine ⟨hK _ ?_, fun h => ?_⟩ | refine ⟨?_, ?_⟩); all_goals ((try apply hK); clear hK K))
    refine z_j (n - 1) _ (by omega) ⟨k + 1, by omega, ?_, rfl⟩ ?_
    ·rw [any_succ hlt, h0, hx]; rfl
    ·simp [go_sem]
 ·have hkl : l.take k = l := List.take_of_length_le (by omega)
  rw [hkl] at h0
  have hf := firstB_none h0
  repeat' first | refine St.go ?_ | ((with_reducible refine cn ?_ ?_) <;> intro h <;> (try simp [hlt] at h) <;> try omega) | (refine Ru.go ?_; intro K hK; simp [go_sem, hlt]; (try simp (disch := omega) only [wx, z_i]); (first | apply hK | refine ⟨ob, ?_⟩ | refine ⟨hK _ ?_, fun h => ?_⟩ | refine ⟨?_, ?_⟩); all_goals ((try apply hK); clear hK K))
  simp [go_sem, hf]
theorem f132 (l : List Dcl) (g : FuncId) (caps : List DV) (p : Dcl -> Bool) (hl : l.length <= 1000000) (hg : ∀ x ∈ l, Impl Tryz.prog g (.ag (encD x) :: caps.map .one) (.one (.one (.bool (p x))))) :
  Impl Tryz.prog 132 [.one (.sl (l.map encD)), .one (.fn g caps)] (.one (.one (.bool (l.any p)))) := by
 refine impl_w Tryz.func132 z132 Tryz.ntmps132 (by simp) ?_
 simp only [slotsOf]
 conv => arg 2; reduce
 have hf := firstB_any p l
 repeat' first | refine St.go ?_ | (refine Ru.go ?_; intro K hK; simp [go_sem]; (first | apply hK | ((try refine .inl ?_); refine ⟨_, by (repeat' first | exact f152 l g caps p hl hg | refine And.intro ?_ ?_ | simp [go_sem]); first | done | omega, ?_⟩; first | apply hK | (refine ⟨by simp [go_sem], ?_⟩; apply hK)) | refine ⟨ob, ?_⟩ | refine ⟨hK _ ?_, fun h => ?_⟩ | refine ⟨?_, ?_⟩); all_goals ((try apply hK); clear hK K))
 simp [go_sem, hf]
theorem f133 (x d : Dcl) : Impl Tryz.prog 133 [.ag (encD x), .one (.rf (encD d))] (.one (.one (.bool (x.name == d.name)))) := by
 refine impl_w Tryz.func133 z133 Tryz.ntmps133 (by simp) ?_
 simp only [slotsOf]
 conv => arg 2; reduce
 repeat' first | refine St.go ?_ | (refine Ru.go ?_; intro K hK; simp [go_sem, encD]; (first | apply hK | refine ⟨ob, ?_⟩ | refine ⟨hK _ ?_, fun h => ?_⟩ | refine ⟨?_, ?_⟩); all_goals ((try apply hK); clear hK K))
 simp [go_sem]
theorem f153 (l : List Fld) (g : FuncId) (caps : List DV) (p : Fld -> Bool) (hl : l.length <= 1000000) (hg : ∀ x ∈ l, Impl Tryz.prog g (.ag (encF x) :: caps.map .one) (.one (.one (.bool (p x))))) :
  Impl Tryz.prog 153 [.one (.sl (l.map encF)), .one (.fn g caps)] (.one (.one (.int .i64 (firstB p l)))) := by
 refine impl_w Tryz.func153 z153 Tryz.ntmps153 (by simp) ?_
 simp only [slotsOf]
 conv => arg 2; reduce
 repeat' first | refine St.go ?_ | ((with_reducible refine cn ?_ ?_) <;> intro h <;> (try simp at h) <;> try omega) | (refine Ru.go ?_; intro K hK; simp [go_sem]; (try simp (disch := omega) only [wx, z_i]); (first | apply hK | refine ⟨ob, ?_⟩ | refine ⟨hK _ ?_, fun h => ?_⟩ | refine ⟨?_, ?_⟩); all_goals ((try apply hK); clear hK K))
 refine z_k (fun n e => ∃ k : Nat, k + n = l.length /\ (l.take k).any p = false /\ e = [(8, .sv (.one (.int .i64 k))), (7, .sv (.one (.int .i64 l.length))), (1, .sv (.one (.fn g caps))), (0, .sv (.one (.sl (l.map encF))))]) l.length _ ⟨0, by simp, by simp, rfl⟩ (by simp [go_sem]) ?_
 rintro n e ⟨k, hk, h0, rfl⟩
 by_cases hlt : k < l.length
 ·have hgs := hg l[k] (List.getElem_mem hlt)
  simp only [encF] at hgs
  cases hx : p l[k] with
  | true =>
    have hf := firstB_at hlt h0 hx
    rw [hx] at hgs
    repeat' first | refine St.go ?_ | ((with_reducible refine cn ?_ ?_) <;> intro h <;> (try simp [hlt] at h) <;> try omega) | (refine Ru.go ?_; intro K hK; simp [go_sem, hlt, encF]; (try simp (disch := omega) only [wx, z_i]); (first | apply hK | ((try refine .inl ?_); refine ⟨_, by (repeat' first | exact hgs | refine And.intro ?_ ?_ | simp [go_sem, hlt, encF]); first | done | omega, ?_⟩; first | apply hK | (refine ⟨by simp [go_sem, hlt, encF], ?_⟩; apply hK)) | refine ⟨ob, ?_⟩ | refine ⟨hK _ ?_, fun h => ?_⟩ | refine ⟨?_, ?_⟩); all_goals ((try apply hK); clear hK K))
    simp [go_sem, hf]
  | false =>
    rw [hx] at hgs
    repeat' first | refine St.go ?_ | ((with_reducible refine cn ?_ ?_) <;> intro h <;> (try simp [hlt] at h) <;> try omega) | (refine Ru.go ?_; intro K hK; simp [go_sem, hlt, encF]; (try simp (disch := omega) only [wx, z_i]); (first | apply hK | ((try refine .inl ?_); refine ⟨_, by (repeat' first | exact hgs | refine And.intro ?_ ?_ | simp [go_sem, hlt, encF]); first | done | omega, ?_⟩; first | apply hK | (refine ⟨by simp [go_sem, hlt, encF], ?_⟩; apply hK)) | refine ⟨ob, ?_⟩ | refine ⟨hK _ ?_, fun h => ?_⟩ | refine ⟨?_, ?_⟩); all_goals ((try apply hK); clear hK K))
    refine z_j (n - 1) _ (by omega) ⟨k + 1, by omega, ?_, rfl⟩ ?_
    ·rw [any_succ hlt, h0, hx]; rfl
    ·simp [go_sem]
 ·have hkl : l.take k = l := List.take_of_length_le (by omega)
  rw [hkl] at h0
  have hf := firstB_none h0
  repeat' first | refine St.go ?_ | ((with_reducible refine cn ?_ ?_) <;> intro h <;> (try simp [hlt] at h) <;> try omega) | (refine Ru.go ?_; intro K hK; simp [go_sem, hlt]; (try simp (disch := omega) only [wx, z_i]); (first | apply hK | refine ⟨ob, ?_⟩ | refine ⟨hK _ ?_, fun h => ?_⟩ | refine ⟨?_, ?_⟩); all_goals ((try apply hK); clear hK K))
  simp [go_sem, hf]
theorem f135 (l : List Fld) (g : FuncId) (caps : List DV) (p : Fld -> Bool) (hl : l.length <= 1000000) (hg : ∀ x ∈ l, Impl Tryz.prog g (.ag (encF x) :: caps.map .one) (.one (.one (.bool (p x))))) :
  Impl Tryz.prog 135 [.one (.sl (l.map encF)), .one (.fn g caps)] (.one (.one (.bool (l.any p)))) := by
 refine impl_w Tryz.func135 z135 Tryz.ntmps135 (by simp) ?_
 simp only [slotsOf]
 conv => arg 2; reduce
 have hf := firstB_any p l
 repeat' first | refine St.go ?_ | (refine Ru.go ?_; intro K hK; simp [go_sem]; (first | apply hK | ((try refine .inl ?_); refine ⟨_, by (repeat' first | exact f153 l g caps p hl hg | refine And.intro ?_ ?_ | simp [go_sem]); first | done | omega, ?_⟩; first | apply hK | (refine ⟨by simp [go_sem], ?_⟩; apply hK)) | refine ⟨ob, ?_⟩ | refine ⟨hK _ ?_, fun h => ?_⟩ | refine ⟨?_, ?_⟩); all_goals ((try apply hK); clear hK K))
 simp [go_sem, hf]
theorem f136 (x d : Fld) : Impl Tryz.prog 136 [.ag (encF x), .one (.rf (encF d))] (.one (.one (.bool (x.name == d.name)))) := by
 refine impl_w Tryz.func136 z136 Tryz.ntmps136 (by simp) ?_
 simp only [slotsOf]
 conv => arg 2; reduce
 repeat' first | refine St.go ?_ | (refine Ru.go ?_; intro K hK; simp [go_sem, encF]; (first | apply hK | refine ⟨ob, ?_⟩ | refine ⟨hK _ ?_, fun h => ?_⟩ | refine ⟨?_, ?_⟩); all_goals ((try apply hK); clear hK K))
 simp [go_sem]
end Go.Av

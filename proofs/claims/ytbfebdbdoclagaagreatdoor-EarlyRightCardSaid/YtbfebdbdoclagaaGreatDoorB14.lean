/- The laws EarlyFinds, EarlyPaths, EarlyBlocks, EarlyTwo. -/
import Derived.Test.YtbfebdbdoclagaaGreatDoorAvR
import Derived.Test.YtbfebdbdoclagaaGreatDoorB13
set_option linter.unusedVariables false
set_option linter.unusedSimpArgs false
set_option maxHeartbeats 64000000
set_option maxRecDepth 8000
namespace Go.Av
open Go Go.RowKit Go.Proofs
set_option maxHeartbeats 64000000
theorem allF_mem {l : List Dcl} {d : Dcl} (h : d ∈ l) : d.fields.length <= (allF l).length := by
 unfold allF
 induction l with
 | nil => cases h
 | cons e l ih =>
   simp only [List.flatMap_cons, List.length_append]
   rcases List.mem_cons.1 h with rfl | h
   ·omega
   ·have := ih h
    omega
theorem valid_fp {g : Glob} (h : valid29 g = true) : ∀ d ∈ g.decls, d.fields.length <= 2000000 := by
 intro d hd
 unfold valid29 at h
 simp only [Bool.and_eq_true] at h
 have h3 := h.1.1.1.1.2
 unfold validD at h3
 simp only [Bool.and_eq_true, decide_eq_true_eq] at h3
 have := allF_mem hd
 omega
theorem early_len (g : Glob) (k : Int) (hs : Small g) : (earlyL g k).length <= 819200000 := by
 unfold earlyL
 rw [(insL_perm ordM _).length_eq, List.length_map]
 exact found_len g k hs
theorem path_short (g : Glob) (k : Int) (m : Msg) (hs : Small g) {p : List Inter} (h : (pathR g k m).1 = some p) : p.length <= 819200 := by
 unfold pathR at h
 cases hr : srchR g k with
 | mk r e =>
   rw [hr] at h
   cases r with
   | none => cases h
   | some L =>
     dsimp only at h
     have hv : valid29 g = true := by
      cases hv : valid29 g with
      | true => rfl
      | false =>
        unfold srchR at hr
        rw [hv] at hr
        cases hr
     cases hf : L.find? (fun f => msgF f == m) with
     | none => rw [hf] at h; cases h
     | some f =>
       rw [hf] at h
       have hp : f.path = p := Option.some.inj h
       have hm := List.mem_of_find?_eq_some hf
       unfold srchR at hr
       rw [hv, if_pos rfl] at hr
       split at hr
       ·rename_i x hx
        have hL : searchV g x = L := Option.some.inj (Prod.mk.inj hr).1
        have hxm : x ∈ g.edges := by
         split at hx
         ·exact List.mem_of_getElem? hx
         ·cases hx
        rw [<- hp]
        exact (search_short (edB_of hv) hs.edges hxm).1 f (hL ▸ hm)
       ·cases hr
theorem f3 (g : Glob) (k : Int) (hs : fewE g = true -> Small g /\ ∀ d ∈ g.decls, d.fields.length <= 2000000) : Impl Tryz.prog 3 [.ag (encG g), .one (.int .i64 k)] (.one (.one (.bool true))) := by
 have k9 := f9
 have k10 := f10 g
 have k11 := fun h => f11x g k (hs h).1 (hs h).2
 have k12 := fun h => f12 g k (hs h).1
 have hEl := fun h => early_len g k (hs h).1
 simp only [encG] at k10 k11 k12
 refine impl_v ?_
 refine z_l [(4, .sv (.one (.bool false))), (2, .sv (.one (.bx (encG g)))), (1, .sv (.one (.int .i64 k)))] ?_ ?_
 ·refine wX encG.eq_1 ?_
  refine z_m ?_
  simp [go_sem, encG]
 refine z_l [(4, .sv (.one (.bool false))), (2, .sv (.one (.bx (encG g)))), (1, .sv (.one (.int .i64 k)))] ?_ ?_
 ·refine wC k9 ?_
  refine z_m ?_
  simp [go_sem]
 cases hf : fewE g with
 | false =>
   rw [hf] at k10
   refine wV encG.eq_1 k10 ?_
   simp [go_sem]
 | true =>
 rw [hf] at k10
 have k11 := k11 hf
 have k12 := k12 hf
 obtain ⟨L, hL⟩ : ∃ L, earlyL g k = L := ⟨_, rfl⟩
 obtain ⟨er, her⟩ : ∃ e, (srchR g k).2 = e := ⟨_, rfl⟩
 rw [hL, her] at k11 k12
 have hLl := hEl hf
 rw [hL] at hLl
 refine z_l [(4, .sv (.one (.bool false))), (2, .sv (.one (.bx (encG g)))), (1, .sv (.one (.int .i64 k)))] ?_ ?_
 ·refine wV encG.eq_1 k10 ?_
  refine z_m ?_
  simp [go_sem, encG]
 refine z_l [(5, .sv (.one (.ow 2 (L.map encMs)))), (6, .sv (.one (.int .i64 er))), (4, .sv (.one (.bool false))), (2, .sv (.one (.bx (encG g)))), (1, .sv (.one (.int .i64 k)))] ?_ ?_
 ·refine wV encG.eq_1 k11 ?_
  refine z_m ?_
  simp [go_sem, encG]
 refine z_l [(7, .sv (.one (.ow 2 (L.map encMs)))), (8, .sv (.one (.int .i64 er))), (5, .sv (.one (.ow 2 (L.map encMs)))), (6, .sv (.one (.int .i64 er))), (4, .sv (.one (.bool false)))] ?_ ?_
 ·refine wV encG.eq_1 k12 ?_
  refine z_m ?_
  simp [go_sem]
 refine z_l [(7, .sv (.one (.ow 2 (L.map encMs)))), (5, .sv (.one (.ow 2 (L.map encMs)))), (4, .sv (.one (.bool false)))] ?_ ?_
 ·refine wN ?_
  refine z_m ?_
  simp [go_sem]
 refine wN ?_
 refine z_k (fun n e => ∃ j : Nat, j + n = L.length /\ e = [(39, .sv (.one (.int .i64 j))), (38, .sv (.one (.int .i64 L.length))), (7, .sv (.one (.ow 2 (L.map encMs)))), (5, .sv (.one (.ow 2 (L.map encMs)))), (4, .sv (.one (.bool false)))]) L.length _ ⟨0, by simp, rfl⟩ (by simp [go_sem]) ?_
 rintro n e ⟨j, hj, rfl⟩
 by_cases hlt : j < L.length
 ·obtain ⟨x, hx⟩ : ∃ x, L[j] = x := ⟨_, rfl⟩
  refine wX (aN hlt <| aN hx encMs.eq_1) ?_
  refine z_j (n - 1) _ (by omega) ⟨j + 1, by omega, rfl⟩ ?_
  simp [go_sem]
 ·refine wX hlt ?_
  simp [go_sem]
theorem f6 (g : Glob) (k : Int) (m : Msg) (hs : fewE g = true -> Small g /\ ∀ d ∈ g.decls, d.fields.length <= 2000000) : Impl Tryz.prog 6 [.ag (encG g), .one (.int .i64 k), .ag (encMs m)] (.one (.one (.bool true))) := by
 have k9 := f9
 have k10 := f10 g
 have k19 := fun h => f19x g k m (hs h).1 (hs h).2
 have k20 := fun h => f20 g k m (hs h).1
 have hpl := fun h p => path_short g k m (hs h).1 (p := p)
 simp only [encG, encMs] at k10 k19 k20
 refine impl_v ?_
 refine z_l [(6, .sv (.one (.bool false))), (5, .sv (.one (.bx (encMs m)))), (3, .sv (.one (.bx (encG g)))), (1, .sv (.one (.int .i64 k)))] ?_ ?_
 ·refine wX (aN encG.eq_1 encMs.eq_1) ?_
  refine z_m ?_
  simp [go_sem, encG, encMs]
 refine z_l [(6, .sv (.one (.bool false))), (5, .sv (.one (.bx (encMs m)))), (3, .sv (.one (.bx (encG g)))), (1, .sv (.one (.int .i64 k)))] ?_ ?_
 ·refine wC k9 ?_
  refine z_m ?_
  simp [go_sem]
 cases hf : fewE g with
 | false =>
   rw [hf] at k10
   refine wV encG.eq_1 k10 ?_
   simp [go_sem]
 | true =>
 rw [hf] at k10
 have k19 := k19 hf
 have k20 := k20 hf
 have hpl := fun p => hpl hf p
 obtain ⟨⟨po, er⟩, hpr⟩ : ∃ r, pathR g k m = r := ⟨_, rfl⟩
 rw [hpr] at k19 k20 hpl
 dsimp only at k19 k20 hpl
 refine z_l [(6, .sv (.one (.bool false))), (5, .sv (.one (.bx (encMs m)))), (3, .sv (.one (.bx (encG g)))), (1, .sv (.one (.int .i64 k)))] ?_ ?_
 ·refine wV encG.eq_1 k10 ?_
  refine z_m ?_
  simp [go_sem, encG]
 cases po with
 | none =>
   simp only [resP] at k19 k20
   have k21 := f21 [] [] (by simp) (by simp)
   have k14 := f14 m.peer [] (by simp)
   have k16 := f16 m.peer [] (by simp)
   have k15 := f15 (blockV m.peer []) (blockV m.peer []) (by rw [block_len]; have := blk_len m.peer []; simp at this; omega) (by rw [block_len]; have := blk_len m.peer []; simp at this; omega)
   rw [decide_eq_true rfl] at k15 k21
   simp only [List.map_nil] at k21 k14 k16
   refine z_l [(7, .sv (.one .nil)), (8, .sv (.one (.int .i64 er))), (6, .sv (.one (.bool false))), (5, .sv (.one (.bx (encMs m)))), (3, .sv (.one (.bx (encG g)))), (1, .sv (.one (.int .i64 k)))] ?_ ?_
   ·refine wV (aN encG.eq_1 encMs.eq_1) k19 ?_
    refine z_m ?_
    simp [go_sem, encG, encMs]
   refine z_l [(9, .sv (.one .nil)), (10, .sv (.one (.int .i64 er))), (7, .sv (.one .nil)), (8, .sv (.one (.int .i64 er))), (6, .sv (.one (.bool false))), (5, .sv (.one (.bx (encMs m)))), (3, .sv (.one (.bx (encG g)))), (1, .sv (.one (.int .i64 k)))] ?_ ?_
   ·refine wV (aN encG.eq_1 encMs.eq_1) k20 ?_
    refine z_m ?_
    simp [go_sem, encG, encMs]
   refine wV encMs.eq_1 (aN k21 <| aN k14 <| aN k16 k15) ?_
   simp [go_sem]
 | some p =>
   have hp := hpl p rfl
   simp only [resP] at k19 k20
   have k21 := f21 p p (by omega) (by omega)
   have k14 := f14 m.peer p (by omega)
   have k16 := f16 m.peer p (by omega)
   have k15 := f15 (blockV m.peer p) (blockV m.peer p) (by rw [block_len]; have := blk_len m.peer p; omega) (by rw [block_len]; have := blk_len m.peer p; omega)
   rw [decide_eq_true rfl] at k15 k21
   refine z_l [(7, .sv (.one (.sl (p.map encI)))), (8, .sv (.one (.int .i64 er))), (6, .sv (.one (.bool false))), (5, .sv (.one (.bx (encMs m)))), (3, .sv (.one (.bx (encG g)))), (1, .sv (.one (.int .i64 k)))] ?_ ?_
   ·refine wV (aN encG.eq_1 encMs.eq_1) k19 ?_
    refine z_m ?_
    simp [go_sem, encG, encMs]
   refine z_l [(9, .sv (.one (.sl (p.map encI)))), (10, .sv (.one (.int .i64 er))), (7, .sv (.one (.sl (p.map encI)))), (8, .sv (.one (.int .i64 er))), (6, .sv (.one (.bool false))), (5, .sv (.one (.bx (encMs m)))), (3, .sv (.one (.bx (encG g)))), (1, .sv (.one (.int .i64 k)))] ?_ ?_
   ·refine wV (aN encG.eq_1 encMs.eq_1) k20 ?_
    refine z_m ?_
    simp [go_sem, encG, encMs]
   refine wV encMs.eq_1 (aN k21 <| aN k14 <| aN k16 k15) ?_
   simp [go_sem]
theorem blockV_nil (r : Int) : blockV r [] = [r] := rfl
theorem f5 (r : Int) (w : List Inter) : Impl Tryz.prog 5 [.one (.int .i64 r), .one (.sl (w.map encI))] (.one (.one (.bool true))) := by
 have k9 := f9
 refine impl_v ?_
 refine z_l [(4, .sv (.one (.bool false))), (1, .sv (.one (.sl (w.map encI)))), (0, .sv (.one (.int .i64 r)))] ?_ ?_
 ·refine wN ?_
  refine z_m ?_
  simp [go_sem]
 refine z_l [(4, .sv (.one (.bool false))), (1, .sv (.one (.sl (w.map encI)))), (0, .sv (.one (.int .i64 r)))] ?_ ?_
 ·refine wC k9 ?_
  refine z_m ?_
  simp [go_sem]
 by_cases hl : w.length <= 60
 rotate_left
 ·have hl2 : (60 : Int) < w.length := by omega
  refine wX hl2 ?_
  simp [go_sem]
 have hl2 : ¬ (60 : Int) < w.length := by omega
 have hBl : ∀ i, (blockV r (w.take i)).length <= 61 := fun i => by
  rw [block_len]
  have := blk_len r (w.take i)
  rw [List.length_take] at this
  omega
 have hBw : blockV r w = blockV r (w.take w.length) := by rw [List.take_length]
 have k14n := f14 r [] (by simp)
 have k14w := f14 r w (by omega)
 have k16w := f16 r w (by omega)
 have k15n := f15 [r] [r] (by simp) (by simp)
 have k15w := f15 (blockV r w) (blockV r w) (by rw [hBw]; have := hBl w.length; omega) (by rw [hBw]; have := hBl w.length; omega)
 rw [decide_eq_true rfl] at k15n k15w
 rw [blockV_nil] at k14n
 simp only [List.map_cons, List.map_nil, encN] at k14n k15n
 have k14s := fun i => f14 r (w.take i) (by rw [List.length_take]; omega)
 simp only [List.map_take] at k14s
 have h17 := fun i x => f17 (blockV r (w.take i)) x (by have := hBl i; omega)
 have h17w := fun x => f17 (blockV r w) x (by rw [hBw]; have := hBl w.length; omega)
 have h18 := fun i => f18 (blockV r (w.take i)) (blockV r (w.take (i + 1))) (by have := hBl i; omega) (by have := hBl (i + 1); omega)
 refine z_l [(4, .sv (.one (.bool false))), (1, .sv (.one (.sl (w.map encI)))), (0, .sv (.one (.int .i64 r)))] ?_ ?_
 ·refine wX hl2 ?_
  refine z_m ?_
  simp [go_sem]
 refine z_l [(5, .sv (.one (.ow 1 ([[.int .i64 r]])))), (4, .sv (.one (.bool false))), (1, .sv (.one (.sl (w.map encI)))), (0, .sv (.one (.int .i64 r)))] ?_ ?_
 ·refine wC k14n ?_
  refine z_m ?_
  simp [go_sem]
 have hfn : ∀ x : Int, frzL (encN x) = encN x := fun _ => rfl
 refine z_l [(5, .sv (.one (.sl ((blockV r (w.take 0)).map encN)))), (4, .sv (.one (.bool false))), (1, .sv (.one (.sl (w.map encI)))), (0, .sv (.one (.int .i64 r)))] ?_ ?_
 ·refine wC (aN k15n <| aN k14w <| aN k16w k15w) ?_
  refine cutQ_all 5 ?_
  simp [go_sem, blockV_nil, encN]
 refine z_l [(6, .sv (.one (.ow 1 ((blockV r w).map encN)))), (5, .sv (.one (.sl ((blockV r (w.take 0)).map encN)))), (4, .sv (.one (.bool false))), (1, .sv (.one (.sl (w.map encI)))), (0, .sv (.one (.int .i64 r)))] ?_ ?_
 ·refine wC k14w ?_
  refine z_m ?_
  simp [go_sem]
 refine wN ?_
 refine z_k (fun n e => ∃ i : Nat, i + n = w.length /\ e = [(37, .sv (.one (.int .i64 i))), (36, .sv (.one (.int .i64 w.length))), (35, .sv (.one (.sl (w.map encI)))), (6, .sv (.one (.ow 1 ((blockV r w).map encN)))), (5, .sv (.one (.sl ((blockV r (w.take i)).map encN)))), (4, .sv (.one (.bool false))), (1, .sv (.one (.sl (w.map encI)))), (0, .sv (.one (.int .i64 r)))]) w.length _ ⟨0, by simp, rfl⟩ (by simp [go_sem]) ?_
 rintro n e ⟨i, hi, rfl⟩
 by_cases hlt : i < w.length
 rotate_left
 ·have hie : w.take i = w := List.take_of_length_le (by omega)
  rw [hie]
  refine wV hlt k15w ?_
  simp [go_sem]
 obtain ⟨x, hx⟩ : ∃ x, w[i] = x := ⟨_, rfl⟩
 obtain ⟨g1, g2, g3⟩ := block_step r w hlt
 have g4 := block_free r w hlt
 rw [hx] at g3 g4
 have j1 := h17w x.to
 have j2 := h17 i x.from_
 have j3 := h18 i
 have j4 := h17 (i + 1) x.to
 have j5 := h17 i x.to
 have j6 := k14s (i + 1)
 have hsub : subL (blockV r (w.take i)) (blockV r (w.take (i + 1))) = true := by
  unfold subL minusL
  rw [decide_eq_true_eq, List.length_eq_zero_iff, List.filter_eq_nil_iff]
  intro q hq
  simp [g1 q hq]
 rw [hsub] at j3
 obtain ⟨B, hB⟩ : ∃ B, blockV r (w.take i) = B := ⟨_, rfl⟩
 obtain ⟨B2, hB2⟩ : ∃ B, blockV r (w.take (i + 1)) = B := ⟨_, rfl⟩
 obtain ⟨BW, hBW⟩ : ∃ B, blockV r w = B := ⟨_, rfl⟩
 rw [hB] at j2 j3 j5 g2 g3 g4
 rw [hB2] at j3 j4 j6 g2 g3
 rw [hBW] at j1 g4
 rw [hB, hBW]
 obtain ⟨c1, hc1⟩ : ∃ c, BW.contains x.to = c := ⟨_, rfl⟩
 obtain ⟨c2, hc2⟩ : ∃ c, B.contains x.from_ = c := ⟨_, rfl⟩
 obtain ⟨c5, hc5⟩ : ∃ c, B.contains x.to = c := ⟨_, rfl⟩
 rw [hc1] at j1
 rw [hc2] at j2 g3
 rw [hc5] at j5 g3
 rw [g3] at j4
 have h12 : c1 = false -> c2 = false := by
  intro h
  subst h
  rw [<- hc2, Bool.eq_false_iff]
  intro hcc
  refine g4 ?_ (List.contains_iff_mem.1 hcc)
  intro hm
  rw [List.contains_iff_mem.2 hm] at hc1
  cases hc1
 have hil : i + 1 <= w.length := by omega
 have hi0 : (0 : Int) <= (i : Int) + 1 := by omega
 have hBL : B.length <= 61 := by rw [<- hB]; exact hBl i
 have hl3 : ∀ a : Inter, (encI a).length = 3 := fun _ => rfl
 have hg2 : ¬ ((B.length : Int) + 1 < B2.length) := by omega
 refine z_l [(38, .sv (.one (.bool true))), (37, .sv (.one (.int .i64 i))), (36, .sv (.one (.int .i64 w.length))), (35, .sv (.one (.sl (w.map encI)))), (6, .sv (.one (.ow 1 (BW.map encN)))), (5, .sv (.one (.sl (B.map encN)))), (4, .sv (.one (.bool false))), (1, .sv (.one (.sl (w.map encI)))), (0, .sv (.one (.int .i64 r)))] ?_ ?_
 ·refine wX hlt ?_
  refine z_m ?_
  simp [go_sem]
 refine z_l [(37, .sv (.one (.int .i64 i))), (36, .sv (.one (.int .i64 w.length))), (35, .sv (.one (.sl (w.map encI)))), (6, .sv (.one (.ow 1 (BW.map encN)))), (5, .sv (.one (.sl (B.map encN)))), (4, .sv (.one (.bool false))), (1, .sv (.one (.sl (w.map encI)))), (0, .sv (.one (.int .i64 r)))] ?_ ?_
 ·refine wX hlt ?_
  refine z_m ?_
  simp [go_sem]
 refine z_A ?_
 refine z_C ?_
 refine z_l [(8, .sv (.one (.bx (encI x)))), (7, .sv (.one (.int .i64 i))), (37, .sv (.one (.int .i64 i))), (36, .sv (.one (.int .i64 w.length))), (35, .sv (.one (.sl (w.map encI)))), (6, .sv (.one (.ow 1 (BW.map encN)))), (5, .sv (.one (.sl (B.map encN)))), (4, .sv (.one (.bool false))), (1, .sv (.one (.sl (w.map encI)))), (0, .sv (.one (.int .i64 r)))] ?_ ?_
 ·refine wX (aN hlt <| aN hx encI.eq_1) ?_
  refine z_m ?_
  simp [go_sem, encI]
 refine z_l [(8, .sv (.one (.bx (encI x)))), (7, .sv (.one (.int .i64 i))), (37, .sv (.one (.int .i64 i))), (36, .sv (.one (.int .i64 w.length))), (35, .sv (.one (.sl (w.map encI)))), (6, .sv (.one (.ow 1 (BW.map encN)))), (5, .sv (.one (.sl (B.map encN)))), (4, .sv (.one (.bool false))), (1, .sv (.one (.sl (w.map encI)))), (0, .sv (.one (.int .i64 r)))] ?_ ?_
 ·cases c1 with
  | true =>
    refine wV encI.eq_1 j1 ?_
    refine z_m ?_
    simp [go_sem, encI]
  | false =>
    have h2 := h12 rfl
    subst h2
    refine wV encI.eq_1 (aN j1 j2) ?_
    refine z_m ?_
    simp [go_sem, encI]
 refine z_l [(9, .sv (.one (.sl (B2.map encN)))), (8, .sv (.one (.bx (encI x)))), (7, .sv (.one (.int .i64 i))), (37, .sv (.one (.int .i64 i))), (36, .sv (.one (.int .i64 w.length))), (35, .sv (.one (.sl (w.map encI)))), (6, .sv (.one (.ow 1 (BW.map encN)))), (5, .sv (.one (.sl (B.map encN)))), (4, .sv (.one (.bool false))), (1, .sv (.one (.sl (w.map encI)))), (0, .sv (.one (.int .i64 r)))] ?_ ?_
 ·refine wV (aN hlt <| aN hi0 <| aN hil hl3) j6 ?_
  refine cutQ_all 9 ?_
  simp [go_sem, encI, hfn]
 refine z_l [(9, .sv (.one (.sl (B2.map encN)))), (8, .sv (.one (.bx (encI x)))), (7, .sv (.one (.int .i64 i))), (37, .sv (.one (.int .i64 i))), (36, .sv (.one (.int .i64 w.length))), (35, .sv (.one (.sl (w.map encI)))), (6, .sv (.one (.ow 1 (BW.map encN)))), (5, .sv (.one (.sl (B.map encN)))), (4, .sv (.one (.bool false))), (1, .sv (.one (.sl (w.map encI)))), (0, .sv (.one (.int .i64 r)))] ?_ ?_
 ·cases c5 with
  | true =>
    refine wV (aN encI.eq_1 hg2) (aN j3 <| aN j4 j5) ?_
    refine z_m ?_
    simp [go_sem, encI]
  | false =>
    cases c2 with
    | true =>
      refine wV (aN encI.eq_1 hg2) (aN j3 <| aN j4 <| aN j5 j2) ?_
      refine z_m ?_
      simp [go_sem, encI]
    | false =>
      refine wV (aN encI.eq_1 hg2) (aN j3 <| aN j4 <| aN j5 j2) ?_
      refine z_m ?_
      simp [go_sem, encI]
 refine wN ?_
 refine z_j (n - 1) _ (by omega) ⟨i + 1, by omega, rfl⟩ ?_
 simp [go_sem, hB2]
theorem f4 (g : Glob) (e : Int) (he : 0 <= e /\ e < 256) (hs : fewE g = true -> Small g) : Impl Tryz.prog 4 [.ag (encG g), .one (.int .u8 e)] (.one (.one (.bool true))) := by
 have k9 := f9
 have k13 := f13 g hs
 simp only [encG] at k13
 refine impl_v ?_
 refine z_l [(4, .sv (.one (.bool false))), (2, .sv (.one (.bx (encG g)))), (1, .sv (.one (.int .u8 e)))] ?_ ?_
 ·refine wX encG.eq_1 ?_
  refine z_m ?_
  simp [go_sem, encG]
 refine z_l [(4, .sv (.one (.bool false))), (2, .sv (.one (.bx (encG g)))), (1, .sv (.one (.int .u8 e)))] ?_ ?_
 ·refine wC k9 ?_
  refine z_m ?_
  simp [go_sem]
 cases hsm : smallE g with
 | false =>
   rw [hsm] at k13
   refine wV encG.eq_1 k13 ?_
   simp [go_sem]
 | true =>
 rw [hsm] at k13
 unfold smallE at hsm
 simp only [Bool.and_eq_true, decide_eq_true_eq] at hsm
 obtain ⟨hfew, hv, hne⟩ := hsm
 have hsg := hs hfew
 by_cases hr2 : g.roles.length = 2
 rotate_left
 ·have hr3 : ¬ (g.roles.length : Int) = 2 := by omega
  have hr4 : ((g.roles.length : Int) == 2) = false := by simpa using hr3
  refine wV (aN encG.eq_1 <| aN hr3 hr4) k13 ?_
  simp [go_sem]
 have hr3 : (g.roles.length : Int) = 2 := by omega
 refine z_l [(4, .sv (.one (.bool false))), (2, .sv (.one (.bx (encG g)))), (1, .sv (.one (.int .u8 e)))] ?_ ?_
 ·refine wV (aN encG.eq_1 hr3) k13 ?_
  refine z_m ?_
  simp [go_sem, encG]
 have hel := hsg.edges
 have hB := edB_of hv
 obtain ⟨kk, hkk⟩ : ∃ kk : Nat, e.tmod (g.edges.length : Int) = kk := ⟨(e.tmod (g.edges.length : Int)).toNat, by have := Int.tmod_nonneg (g.edges.length : Int) he.1; omega⟩
 have hkl : kk < g.edges.length := by
  have := Int.tmod_lt_of_pos e (show (0 : Int) < g.edges.length by omega)
  omega
 obtain ⟨e0, he0⟩ : ∃ x, g.edges[kk] = x := ⟨_, rfl⟩
 have he0m : e0 ∈ g.edges := he0 ▸ List.getElem_mem hkl
 have hwr : IntKind.i64.wrap e = e := z_h (by omega) (by omega)
 have hnz : ¬ (g.edges.length : Int) = 0 := by omega
 have hge : ¬ g.edges = [] := fun h => by rw [h] at hne; simp at hne
 refine z_l [(5, .sv (.one (.int .i64 kk))), (4, .sv (.one (.bool false))), (2, .sv (.one (.bx (encG g))))] ?_ ?_
 ·refine wX (aN encG.eq_1 <| aN hwr <| aN hkk <| aN hnz hge) ?_
  refine z_m ?_
  simp [go_sem, encG]
 have k11 := f11x g kk hsg (valid_fp hv)
 have hsr : srchR g kk = (some (searchV g e0), 0) := by
  unfold srchR
  rw [hv, if_pos rfl, if_pos (by omega), Int.toNat_natCast, List.getElem?_eq_getElem hkl, he0]
 have hEL : earlyL g kk = earlyV g e0 := by
  unfold earlyL earlyV
  rw [hsr]
  rfl
 rw [hEL, hsr] at k11
 dsimp only at k11
 have hed : ∀ x ∈ g.edges, x.act.from_ < 2 /\ x.act.to < 2 := by
  obtain ⟨_, hn, _⟩ := valid_parts hv
  obtain ⟨n1, n2, n3, n4, n5, n6, n7⟩ := numbered_facts hn
  intro x hx
  have h7 := n7 x hx
  simp only [okEdge, Bool.and_eq_true, decide_eq_true_eq] at h7
  omega
 have hpeer : ∀ x ∈ earlyV g e0, x.peer = e0.act.from_ := by
  intro x hx
  obtain ⟨f, hf, rfl⟩ := early_mem.1 hx
  exact found_two hB hed he0m hf
 obtain ⟨L, hL⟩ : ∃ L, earlyV g e0 = L := ⟨_, rfl⟩
 have hLl := early_len g kk hsg
 rw [hEL] at hLl
 rw [hL] at k11 hpeer hLl
 simp only [encG] at k11
 refine z_l [(6, .sv (.one (.ow 2 (L.map encMs)))), (7, .sv (.one (.int .i64 0))), (5, .sv (.one (.int .i64 kk))), (4, .sv (.one (.bool false))), (2, .sv (.one (.bx (encG g))))] ?_ ?_
 ·refine wV encG.eq_1 k11 ?_
  refine z_m ?_
  simp [go_sem, encG]
 refine wN ?_
 refine z_k (fun n e => ∃ j : Nat, j + n = L.length /\ e = [(34, .sv (.one (.int .i64 j))), (33, .sv (.one (.int .i64 L.length))), (6, .sv (.one (.ow 2 (L.map encMs)))), (7, .sv (.one (.int .i64 0))), (5, .sv (.one (.int .i64 kk))), (4, .sv (.one (.bool false))), (2, .sv (.one (.bx (encG g))))]) L.length _ ⟨0, by simp, rfl⟩ (by simp [go_sem]) ?_
 rintro n e' ⟨j, hj, rfl⟩
 by_cases hlt : j < L.length
 ·obtain ⟨x, hx⟩ : ∃ x, L[j] = x := ⟨_, rfl⟩
  have hp := hpeer x (hx ▸ List.getElem_mem hlt)
  refine wX (aN hlt <| aN hx <| aN encMs.eq_1 <| aN encG.eq_1 <| aN hkl <| aN he0 <| aN encEd.eq_1 hp) ?_
  refine z_j (n - 1) _ (by omega) ⟨j + 1, by omega, rfl⟩ ?_
  simp [go_sem, encG]
 ·refine wX hlt ?_
  simp [go_sem]
end Go.Av

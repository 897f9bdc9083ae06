/- The reference's step of the search. -/
import Derived.Test.YticeobjphcmggaaGreatDoorAvR
import Derived.Test.YticeobjphcmggaaGreatDoorB15
import Derived.Test.YticeobjphcmggaaGreatDoorB07
set_option linter.unusedVariables false
set_option linter.unusedSimpArgs false
set_option maxHeartbeats 64000000
set_option maxRecDepth 8000
namespace Go.Av
open Go Go.RowKit Go.Proofs
set_option maxHeartbeats 64000000
@[go_sem ↓ high] theorem frz_encK (k : Nat) : frzL (encK k) = encK k := rfl
def resN : Option Nd -> RV
 | none => .tup [.ag [.int .i64 0, .nil, .int .i64 0, .int .i64 0], .one (.bool false)]
 | some q => .tup [.ag (encRP q), .one (.bool true)]
theorem passV_min {h : List Ev} {n : Nat} (hn : n <= h.length) (s : Bool) (p l : Int) (na : Nat) (ok : Bool) (e : passV h n s p l = (na, ok)) : min ((n : Int) + 1) (h.length : Int) = (na : Nat) := by
 by_cases hlt : n < h.length
 ·rw [passV_at hlt rfl] at e
  injection e with e1 e2
  omega
 ·rw [passV_end (by omega)] at e
  injection e with e1 e2
  omega
theorem f54 (g : Glob) (H : List (List Ev)) (p : Nd) (k : Int) (i : Nat) (hl : H.length <= 1000) (hh : ∀ l ∈ H, l.length <= 1000000) (hed : EdOk g H) (hlen : p.ps.length = H.length)
  (hle : ∀ r : Int, 0 <= r -> r < H.length -> psAt p.ps r <= (histAt H r).length) (hk0 : 0 <= k) (hk1 : k.toNat < g.edges.length) :
  Impl Tryz.prog 54 [.ag (encG g), .one (.sl (H.map encH)), .ag (encRP p), .one (.int .i64 k), .one (.int .i64 i)] (resN (stepN g H i p k)) := by
 obtain ⟨x, hkx⟩ : ∃ x, g.edges[k.toNat] = x := ⟨_, rfl⟩
 have hxm : x ∈ g.edges := hkx ▸ List.getElem_mem hk1
 obtain ⟨e1, e2, e3, e4, e5, e6⟩ := hed x hxm
 obtain ⟨fa, hfa⟩ : ∃ n : Nat, x.act.from_ = n := ⟨_, (Int.toNat_of_nonneg e3).symm⟩
 obtain ⟨ta, hta⟩ : ∃ n : Nat, x.act.to = n := ⟨_, (Int.toNat_of_nonneg e5).symm⟩
 have hfl : fa < H.length := by omega
 have htl : ta < H.length := by omega
 have hfp : fa < p.ps.length := by omega
 have htp : ta < p.ps.length := by omega
 obtain ⟨h1, hh1⟩ : ∃ h, H[fa] = h := ⟨_, rfl⟩
 obtain ⟨h2, hh2⟩ : ∃ h, H[ta] = h := ⟨_, rfl⟩
 obtain ⟨a, ha⟩ : ∃ a, p.ps[fa] = a := ⟨_, rfl⟩
 obtain ⟨b, hb⟩ : ∃ b, p.ps[ta] = b := ⟨_, rfl⟩
 have eh1 : histAt H x.act.from_ = h1 := by simp [histAt, hfa, hfl, hh1]
 have eh2 : histAt H x.act.to = h2 := by simp [histAt, hta, htl, hh2]
 have ea : psAt p.ps x.act.from_ = a := by simp [psAt, hfa, hfp, ha]
 have eb : psAt p.ps x.act.to = b := by simp [psAt, hta, htp, hb]
 have ha1 : a <= h1.length := by
  have := hle x.act.from_ e3 e4
  rwa [ea, eh1] at this
 have hb1 : b <= h2.length := by
  have := hle x.act.to e5 e6
  rwa [eb, eh2] at this
 have hl1 : h1.length <= 1000000 := hh _ (hh1 ▸ List.getElem_mem hfl)
 have hl2 : h2.length <= 1000000 := hh _ (hh2 ▸ List.getElem_mem htl)
 obtain ⟨⟨na, oa⟩, hpa⟩ : ∃ v, passV h1 a true x.act.to x.act.label = v := ⟨_, rfl⟩
 obtain ⟨⟨nb, ob⟩, hpb⟩ : ∃ v, passV h2 b false x.act.from_ x.act.label = v := ⟨_, rfl⟩
 have j88a := f88 h1 a true x.act.to x.act.label ha1 hl1
 have j88b := f88 h2 b false x.act.from_ x.act.label hb1 hl2
 have hm1 := passV_min ha1 _ _ _ _ _ hpa
 have hm2 := passV_min hb1 _ _ _ _ _ hpb
 rw [hpa, hta] at j88a
 rw [hpb, hfa] at j88b
 dsimp only at j88a j88b
 obtain ⟨nq, hnq⟩ : ∃ nq, nq = (⟨x.to, (p.ps.set fa na).set ta nb, i, k⟩ : Nd) := ⟨_, rfl⟩
 have hstep : stepN g H i p k = if oa && ob then some nq else none := by
  have c1 : x.act.from_.toNat = fa := by omega
  have c2 : x.act.to.toNat = ta := by omega
  unfold stepN
  rw [List.getElem?_eq_getElem hk1, hkx]
  simp only
  rw [eh1, eh2, ea, eb, hpa, hpb, c1, c2, hnq]
 rw [hstep]
 refine impl_v ?_
 refine z_l [(11, .sv (.one (.bool false))), (10, .sv (.one (.bx [.int .i64 0, .nil, .int .i64 0, .int .i64 0]))), (7, .sv (.one (.bx (encRP p)))), (5, .sv (.one (.bx (encG g)))), (4, .sv (.one (.int .i64 i))), (3, .sv (.one (.int .i64 k))), (1, .sv (.one (.sl (H.map encH))))] ?_ ?_
 ·refine wX (aN encG.eq_1 encRP.eq_1) ?_
  refine z_m ?_
  simp [go_sem, encG, encRP]
 refine z_l [(12, .sv (.one (.bx (encI x.act)))), (11, .sv (.one (.bool false))), (10, .sv (.one (.bx [.int .i64 0, .nil, .int .i64 0, .int .i64 0]))), (7, .sv (.one (.bx (encRP p)))), (5, .sv (.one (.bx (encG g)))), (4, .sv (.one (.int .i64 i))), (3, .sv (.one (.int .i64 k))), (1, .sv (.one (.sl (H.map encH))))] ?_ ?_
 ·refine wX (aN hk0 <| aN hk1 <| aN hkx <| aN encEd.eq_1 <| aN encG.eq_1 encI.eq_1) ?_
  refine z_m ?_
  simp [go_sem, encG, encI]
 refine z_l [(14, .sv (.one (.int .i64 (b : Nat)))), (13, .sv (.one (.int .i64 (a : Nat)))), (12, .sv (.one (.bx (encI x.act)))), (11, .sv (.one (.bool false))), (10, .sv (.one (.bx [.int .i64 0, .nil, .int .i64 0, .int .i64 0]))), (7, .sv (.one (.bx (encRP p)))), (5, .sv (.one (.bx (encG g)))), (4, .sv (.one (.int .i64 i))), (3, .sv (.one (.int .i64 k))), (1, .sv (.one (.sl (H.map encH))))] ?_ ?_
 ·refine wX (aN hfa <| aN hta <| aN hfp <| aN htp <| aN ha <| aN hb <| aN encI.eq_1 <| aN encRP.eq_1 encK.eq_1) ?_
  refine z_m ?_
  simp [go_sem, encRP, encI, encK, hfa, hta]
 cases oa with
 | false =>
   refine wV (aN hfa <| aN hta <| aN hfl <| aN htl <| aN hh1 <| aN hh2 <| aN encI.eq_1 encH.eq_1) (aN j88a j88b) ?_
   simp [go_sem, resN]
 | true =>
   cases ob with
   | false =>
     refine wV (aN hfa <| aN hta <| aN hfl <| aN htl <| aN hh1 <| aN hh2 <| aN encI.eq_1 encH.eq_1) (aN j88a j88b) ?_
     simp [go_sem, resN]
   | true =>
     refine z_l [(14, .sv (.one (.int .i64 (b : Nat)))), (13, .sv (.one (.int .i64 (a : Nat)))), (12, .sv (.one (.bx (encI x.act)))), (11, .sv (.one (.bool false))), (10, .sv (.one (.bx [.int .i64 0, .nil, .int .i64 0, .int .i64 0]))), (7, .sv (.one (.bx (encRP p)))), (5, .sv (.one (.bx (encG g)))), (4, .sv (.one (.int .i64 i))), (3, .sv (.one (.int .i64 k))), (1, .sv (.one (.sl (H.map encH))))] ?_ ?_
     ·refine wV (aN hfa <| aN hta <| aN hfl <| aN htl <| aN hh1 <| aN hh2 <| aN encI.eq_1 encH.eq_1) (aN j88a j88b) ?_
      refine z_m ?_
      simp [go_sem, encI, hfa, hta]
     have hap : z_f 1 8 [] (p.ps.map encK) := by
      refine ⟨?_, ?_, by omega, ?_, ?_⟩
      ·intro e he
       obtain ⟨z, _, rfl⟩ := List.mem_map.1 he
       rfl
      ·intro e he
       obtain ⟨z, _, rfl⟩ := List.mem_map.1 he
       rfl
      ·simp [maxLen]; omega
      ·simp; omega
     refine z_l [(15, .sv (.one (.bx [.int .i64 x.to, .ow 1 (p.ps.map encK), .int .i64 i, .int .i64 k]))), (14, .sv (.one (.int .i64 (b : Nat)))), (13, .sv (.one (.int .i64 (a : Nat)))), (12, .sv (.one (.bx (encI x.act)))), (11, .sv (.one (.bool false))), (10, .sv (.one (.bx [.int .i64 0, .nil, .int .i64 0, .int .i64 0]))), (7, .sv (.one (.bx (encRP p)))), (5, .sv (.one (.bx (encG g)))), (4, .sv (.one (.int .i64 i))), (3, .sv (.one (.int .i64 k))), (1, .sv (.one (.sl (H.map encH))))] ?_ ?_
     ·refine wX (aN hk0 <| aN hk1 <| aN hkx <| aN encEd.eq_1 <| aN encG.eq_1 <| aN encRP.eq_1 hap) ?_
      refine z_m ?_
      simp [go_sem, encG, encRP]
     have hs1 : (p.ps.map encK).set fa [.int .i64 (na : Nat)] = (p.ps.set fa na).map encK := by
      rw [show [DV.int .i64 (na : Nat)] = encK na from rfl, <- List.map_set]
     have hs2 : ((p.ps.set fa na).map encK).set ta [.int .i64 (nb : Nat)] = ((p.ps.set fa na).set ta nb).map encK := by
      rw [show [DV.int .i64 (nb : Nat)] = encK nb from rfl, <- List.map_set]
     obtain ⟨p1, hp1⟩ : ∃ p1, p.ps.set fa na = p1 := ⟨_, rfl⟩
     obtain ⟨p2, hp2⟩ : ∃ p2, p1.set ta nb = p2 := ⟨_, rfl⟩
     have hp1l : ta < p1.length := by rw [<- hp1, List.length_set]; exact htp
     rw [hp1] at hs1 hs2
     rw [hp2] at hs2
     refine z_l [(15, .sv (.one (.bx [.int .i64 x.to, .ow 1 (p1.map encK), .int .i64 i, .int .i64 k]))), (14, .sv (.one (.int .i64 (b : Nat)))), (13, .sv (.one (.int .i64 (a : Nat)))), (12, .sv (.one (.bx (encI x.act)))), (11, .sv (.one (.bool false))), (10, .sv (.one (.bx [.int .i64 0, .nil, .int .i64 0, .int .i64 0]))), (7, .sv (.one (.bx (encRP p)))), (5, .sv (.one (.bx (encG g)))), (4, .sv (.one (.int .i64 i))), (3, .sv (.one (.int .i64 k))), (1, .sv (.one (.sl (H.map encH))))] ?_ ?_
     ·refine wX (aN hfa <| aN hta <| aN hfl <| aN hfp <| aN hh1 <| aN ha <| aN hm1 <| aN hs1 <| aN encI.eq_1 <| aN encH.eq_1 encK.eq_1) ?_
      refine z_m ?_
      simp [go_sem, encI, hfa, hta, hs1, encK]
     refine z_l [(15, .sv (.one (.bx [.int .i64 x.to, .ow 1 (p2.map encK), .int .i64 i, .int .i64 k]))), (14, .sv (.one (.int .i64 (b : Nat)))), (13, .sv (.one (.int .i64 (a : Nat)))), (12, .sv (.one (.bx (encI x.act)))), (11, .sv (.one (.bool false))), (10, .sv (.one (.bx [.int .i64 0, .nil, .int .i64 0, .int .i64 0]))), (7, .sv (.one (.bx (encRP p)))), (5, .sv (.one (.bx (encG g)))), (4, .sv (.one (.int .i64 i))), (3, .sv (.one (.int .i64 k))), (1, .sv (.one (.sl (H.map encH))))] ?_ ?_
     ·refine wX (aN hfa <| aN hta <| aN htl <| aN htp <| aN hp1l <| aN hh2 <| aN hb <| aN hm2 <| aN hs2 <| aN encI.eq_1 <| aN encH.eq_1 encK.eq_1) ?_
      refine z_m ?_
      simp [go_sem, encI, hfa, hta, hs2, encK]
     refine wN ?_
     simp [go_sem, resN, hnq, encRP, hp1, hp2]
end Go.Av

/- The history of a role: the reference. -/
import Derived.Test.YticeobjphcmggaaGreatDoorAvR
import Derived.Test.YticeobjphcmggaaGreatDoorB05
set_option linter.unusedVariables false
set_option linter.unusedSimpArgs false
set_option maxHeartbeats 64000000
set_option maxRecDepth 8000
namespace Go.Av
open Go Go.RowKit Go.Proofs
set_option maxHeartbeats 64000000
theorem awp_cutS {P : Program} {a b : AC} {Q : Exit -> Env -> Prop} {e : Env} (T : Env -> Prop) (hT : ∀ e2, T e2 -> awp P b Q e2) (h : (∃ e2, T e2 /\ awp P a (cutQ e2 Q) e) \/ awp P (.seq a b) Q e) : awp P (.seq a b) Q e := by
 rcases h with ⟨e2, h1, h2⟩ | h
 ·exact z_l e2 h2 (hT e2 h1)
 ·exact h
theorem f35 (g : Glob) (H : List (List Ev)) (h : List Ev) (r : Nat) (ag : List Bool) (hr : r < H.length) (hh : H[r] = h) (hl : H.length <= 1000) (hlen : ∀ l ∈ H, l.length <= 100000) (hag : h.length <= ag.length) (ha0 : ag[0]? ≠ some true)
  (hev : ∀ l ∈ H, ∀ x ∈ l, EvOk x /\ TxtOk (evV x)) (hpe : ∀ x ∈ h, 0 <= x.peer /\ x.peer < H.length) (hlb : ∀ x ∈ h, 0 <= x.label /\ x.label < g.decls.length) (hdb : DeclsB g.decls) (hval : validD g.decls = true) :
  Impl Tryz.prog 35 [.ag (encG g), .one (.sl (H.map encH)), .one (.int .i64 r), .one (.sl (ag.map encBo2))] (.one (.one (.int .i64 (hist0 g.decls H h r ag)))) := by
 have hhm : h ∈ H := hh ▸ List.getElem_mem hr
 have hhl := hlen h hhm
 obtain ⟨V, hV⟩ : ∃ V, hist0 g.decls H h r ag = V := ⟨_, rfl⟩
 rw [hV]
 have k61 := f61 g.decls hdb.len hdb.fields
 have hfa : (allF g.decls).length <= 24 := by
  have := hval
  unfold validD at this
  simp only [Bool.and_eq_true, decide_eq_true_eq] at this
  omega
 have hrk : List.replicate H.length [DV.int .i64 0] = (List.replicate H.length 0).map encK := by
  rw [List.map_replicate]
  rfl
 refine impl_v ?_
 refine z_l [(8, .sv (.one (.int .i64 0))), (4, .sv (.one (.bx (encG g)))), (3, .sv (.one (.sl (ag.map encBo2)))), (2, .sv (.one (.int .i64 r))), (1, .sv (.one (.sl (H.map encH))))] ?_ ?_
 ·refine wX encG.eq_1 ?_
  refine z_m ?_
  simp [go_sem, encG]
 refine z_l [(9, .sv (.one (.sl ((List.replicate (allF g.decls).length zV).map encVl)))), (8, .sv (.one (.int .i64 0))), (4, .sv (.one (.bx (encG g)))), (3, .sv (.one (.sl (ag.map encBo2)))), (2, .sv (.one (.int .i64 r))), (1, .sv (.one (.sl (H.map encH))))] ?_ ?_
 ·refine wV encG.eq_1 k61 ?_
  refine cutQ_all 9 ?_
  simp [go_sem, encG, frz_rep]
 refine z_l [(10, .sv (.one (.ow 1 ((List.replicate H.length 0).map encK)))), (9, .sv (.one (.sl ((List.replicate (allF g.decls).length zV).map encVl)))), (8, .sv (.one (.int .i64 0))), (4, .sv (.one (.bx (encG g)))), (3, .sv (.one (.sl (ag.map encBo2)))), (2, .sv (.one (.int .i64 r))), (1, .sv (.one (.sl (H.map encH))))] ?_ ?_
 ·refine wN ?_
  refine z_m ?_
  simp [go_sem, hrk]
 refine wN ?_
 refine z_k (fun n e => ∃ (k : Nat) (kn : List Vl) (got : List Nat), k + n = h.length /\ kn.length <= 1000000 /\ got.length = H.length /\ (∀ v ∈ got, v <= k) /\ histV g.decls H h r ag (h.drop k) k kn got = V /\ knownV (allF g.decls) kn = true /\ TxtOk kn /\ e = [(11, .sv (.one (.int .i64 k))), (10, .sv (.one (.ow 1 (got.map encK)))), (9, .sv (.one (.sl (kn.map encVl)))), (8, .sv (.one (.int .i64 0))), (4, .sv (.one (.bx (encG g)))), (3, .sv (.one (.sl (ag.map encBo2)))), (2, .sv (.one (.int .i64 r))), (1, .sv (.one (.sl (H.map encH))))]) h.length _ ⟨0, _, _, by simp, by simp; omega, by simp, by simp, hV, known_zero _, fun v hv => by rw [List.eq_of_mem_replicate hv]; decide, rfl⟩ (by simp [go_sem]) ?_
 rintro n e ⟨k, kn, got, hk, hkn, hgl, hgk, hVk, hkk, hkt, rfl⟩
 by_cases hlt : k < h.length
 rotate_left
 ·have hke : k = h.length := by omega
  subst hke
  rw [hist_end] at hVk
  subst hVk
  refine wX (aN hr <| aN hh encH.eq_1) ?_
  simp [go_sem]
 obtain ⟨x, hx⟩ : ∃ x, h[k] = x := ⟨_, rfl⟩
 have hxm : x ∈ h := hx ▸ List.getElem_mem hlt
 obtain ⟨⟨hxv, hxl⟩, hxt⟩ := hev h hhm x hxm
 obtain ⟨hp0, hp1⟩ := hpe x hxm
 obtain ⟨hl0, hl1⟩ := hlb x hxm
 obtain ⟨p, hpp⟩ : ∃ p : Nat, x.peer = p := ⟨x.peer.toNat, by omega⟩
 obtain ⟨lb, hlp⟩ : ∃ p : Nat, x.label = p := ⟨x.label.toNat, by omega⟩
 have hpl : p < H.length := by omega
 have hll : lb < g.decls.length := by omega
 obtain ⟨vs, hvs⟩ : ∃ vs, evV x = vs := ⟨_, rfl⟩
 rw [hvs] at hxv hxl hxt
 have k66 := f66 g.decls lb vs kn hll hval hdb hxt hkt hxl hkn
 have k64 := f64 g.decls lb vs kn hll hval hdb hxt hkt hxl hkn
 have hxe : encE x = [.int .i64 x.role, .bool x.send, .int .i64 p, .int .i64 lb, .sl (vs.map encVl)] := by
  simp [encE, hpp, hlp, hxv, valsDV]
 refine z_l [(11, .sv (.one (.int .i64 k))), (10, .sv (.one (.ow 1 (got.map encK)))), (9, .sv (.one (.sl (kn.map encVl)))), (8, .sv (.one (.int .i64 0))), (4, .sv (.one (.bx (encG g)))), (3, .sv (.one (.sl (ag.map encBo2)))), (2, .sv (.one (.int .i64 r))), (1, .sv (.one (.sl (H.map encH))))] ?_ ?_
 ·refine wX (aN hlt <| aN hr <| aN hh encH.eq_1) ?_
  refine z_m ?_
  simp [go_sem]
 refine z_A ?_
 refine z_C ?_
 refine z_l [(12, .sv (.one (.bx [.int .i64 x.role, .bool x.send, .int .i64 p, .int .i64 lb, .sl (vs.map encVl)]))), (11, .sv (.one (.int .i64 k))), (10, .sv (.one (.ow 1 (got.map encK)))), (9, .sv (.one (.sl (kn.map encVl)))), (8, .sv (.one (.int .i64 0))), (4, .sv (.one (.bx (encG g)))), (3, .sv (.one (.sl (ag.map encBo2)))), (2, .sv (.one (.int .i64 r))), (1, .sv (.one (.sl (H.map encH))))] ?_ ?_
 ·refine wX (aN hlt <| aN hx <| aN hxe <| aN hr <| aN hh encH.eq_1) ?_
  refine z_m ?_
  simp [go_sem]
 obtain ⟨d, hd⟩ : ∃ d, g.decls[lb] = d := ⟨_, rfl⟩
 have hdm : d ∈ g.decls := hd ▸ List.getElem_mem hll
 have hdf := hdb.fields d hdm
 have k62 := f62 d vs (fields_good (decl_fields hval d hdm)) hxt (by omega) hxl
 have hlv : learnV g.decls (lb : Int) vs kn = if fitV d.fields vs then (some (behindV d.first.toNat vs kn), 0) else (none, 11) := by
  have hpv : properV g.decls lb kn = true := by simp [properV, hval, hll, hkk]
  unfold learnV
  rw [hpv, Int.toNat_natCast, List.getElem?_eq_getElem hll, hd]
  rfl
 obtain ⟨⟨o, e⟩, hq⟩ : ∃ q, learnV g.decls (lb : Int) vs kn = q := ⟨_, rfl⟩
 rw [hq] at k66 hlv
 have hlc := learn_cases (ds := g.decls) (lb := lb) (vs := vs) (kn := kn)
 rw [hq] at hlc
 refine awp_cutS (fun e2 => ∃ g1 : List Nat, g1.length = H.length /\ (∀ v ∈ g1, v <= k + 1) /\ histV g.decls H h r ag (h.drop (k + 1)) (k + 1) (o.getD kn) g1 = V /\ e2 = [(12, .sv (.one (.bx [.int .i64 x.role, .bool x.send, .int .i64 p, .int .i64 lb, .sl (vs.map encVl)]))), (11, .sv (.one (.int .i64 k))), (10, .sv (.one (.ow 1 (g1.map encK)))), (9, .sv (.one (.sl (kn.map encVl)))), (8, .sv (.one (.int .i64 0))), (4, .sv (.one (.bx (encG g)))), (3, .sv (.one (.sl (ag.map encBo2)))), (2, .sv (.one (.int .i64 r))), (1, .sv (.one (.sl (H.map encH))))]) ?_ ?_
 ·rintro e2 ⟨g1, hg1, hg2, hg3, rfl⟩
  cases o with
  | none =>
    have he : e ≠ 0 := by
     rcases hlc with ⟨e', h1, h2⟩ | ⟨kn', h1, _⟩
     ·injection h1 with _ h1
      rw [h1]
      exact h2
     ·injection h1 with h1 _
      cases h1
    simp only [resV] at k66
    refine wV (aN encG.eq_1 he) k66 ?_
    refine z_j (n - 1) _ (by omega) ⟨k + 1, kn, g1, by omega, hkn, hg1, hg2, hg3, hkk, hkt, rfl⟩ ?_
    simp [go_sem, encG]
  | some z =>
    obtain ⟨hzl, he⟩ : z.length = kn.length /\ e = 0 := by
     rcases hlc with ⟨e', h1, h2⟩ | ⟨kn', h1, h3⟩
     ·injection h1 with h1 _
      cases h1
     ·injection h1 with h1 h2
      injection h1 with h1
      subst h1
      exact ⟨h3, h2⟩
    subst he
    have hzk := learn_known hq
    have hzt := txt_learn hq hxt hkt
    simp only [resV] at k66
    refine z_l [(16, .sv (.one (.int .i64 0))), (15, .sv (.one (.sl (z.map encVl)))), (11, .sv (.one (.int .i64 k))), (10, .sv (.one (.ow 1 (g1.map encK)))), (9, .sv (.one (.sl (kn.map encVl)))), (8, .sv (.one (.int .i64 0))), (4, .sv (.one (.bx (encG g)))), (3, .sv (.one (.sl (ag.map encBo2)))), (2, .sv (.one (.int .i64 r))), (1, .sv (.one (.sl (H.map encH))))] ?_ ?_
    ·refine wV encG.eq_1 k66 ?_
     refine cutQ_all 15 ?_
     simp [go_sem, encG]
    refine wN ?_
    refine z_j (n - 1) _ (by omega) ⟨k + 1, z, g1, by omega, by omega, hg1, hg2, hg3, hzk, hzt, rfl⟩ ?_
    simp [go_sem, encG]
 cases hsd : x.send with
 | true =>
   simp only [encD] at k62
   cases hfv : fitV d.fields vs with
   | false =>
     rw [hfv] at k62
     rw [hfv] at hlv
     simp only [Bool.false_eq_true, if_false] at hlv
     have hev1 : evtV g.decls H h r ag k x kn got = (11, kn, got) := by
      unfold evtV
      rw [hvs, hlp, hq, hlv, hsd]
      rfl
     have hq1 := hist_at hlt hx hev1
     rw [hVk] at hq1
     simp only [show ¬ (11 : Int) = 0 by decide, if_false] at hq1
     rw [hq1]
     refine .inr ?_
     refine wV (aN hsd <| aN hll <| aN hd <| aN encD.eq_1 encG.eq_1) k62 ?_
     simp [go_sem]
   | true =>
     rw [hfv] at k62
     rw [hfv] at hlv
     simp only [if_true] at hlv
     obtain ⟨z, hz⟩ : ∃ z, behindV d.first.toNat vs kn = z := ⟨_, rfl⟩
     rw [hz] at hlv
     have hka : k < ag.length := by omega
     obtain ⟨a, hA⟩ : ∃ a, ag[k] = a := ⟨_, rfl⟩
     have hA2 : ag[k]?.getD false = a := by rw [List.getElem?_eq_getElem hka, hA]; rfl
     have hjl : k - 1 < h.length := by omega
     obtain ⟨y, hy⟩ : ∃ y, h[k - 1] = y := ⟨_, rfl⟩
     obtain ⟨⟨hyv, hyl⟩, hyt⟩ := hev h hhm y (hy ▸ List.getElem_mem hjl)
     have hpv : prevV h k = evV y := by
      unfold prevV
      rw [List.getElem?_eq_getElem hjl, hy]
     obtain ⟨ws, hws⟩ : ∃ ws, evV y = ws := ⟨_, rfl⟩
     rw [hws] at hyv hyl hpv
     have hye : encE y = [.int .i64 y.role, .bool y.send, .int .i64 y.peer, .int .i64 y.label, .sl (ws.map encVl)] := by
      simp [encE, hyv, valsDV]
     have k63 := f63 vs ws hxl hyl
     have hgg : ∀ v ∈ got, v <= k + 1 := fun v hv => by have := hgk v hv; omega
     cases a with
     | false =>
       cases hck : checkV g.decls lb vs kn with
       | false =>
         rw [hck] at k64
         have hev1 : evtV g.decls H h r ag k x kn got = (17, kn, got) := by
          unfold evtV
          rw [hvs, hlp, hq, hlv, hsd, hck]
          simp [hA2]
         have hq1 := hist_at hlt hx hev1
         rw [hVk] at hq1
         simp only [show ¬ (17 : Int) = 0 by decide, if_false] at hq1
         rw [hq1]
         refine .inr ?_
         refine wV (aN hsd <| aN hll <| aN hd <| aN encD.eq_1 <| aN hka <| aN hA <| aN encBo2.eq_1 <| aN hr <| aN hh <| aN encH.eq_1 <| aN hjl <| aN hy <| aN hye encG.eq_1) (aN k62 <| aN k63 k64) ?_
         simp [go_sem]
       | true =>
         rw [hck] at k64
         have hev1 : evtV g.decls H h r ag k x kn got = (0, z, got) := by
          unfold evtV
          rw [hvs, hlp, hq, hlv, hsd, hck]
          simp [hA2]
         have hq1 := hist_at hlt hx hev1
         rw [hVk] at hq1
         simp only [if_true] at hq1
         refine .inl ⟨_, ⟨got, hgl, hgg, by rw [hq1]; injection hlv with h1; rw [h1]; rfl, rfl⟩, ?_⟩
         refine wV (aN hsd <| aN hll <| aN hd <| aN encD.eq_1 <| aN hka <| aN hA <| aN encBo2.eq_1 <| aN hr <| aN hh <| aN encH.eq_1 <| aN hjl <| aN hy <| aN hye encG.eq_1) (aN k62 <| aN k63 k64) ?_
         refine z_m ?_
         simp [go_sem, hsd, encG]
     | true =>
       have hk1 : 1 <= k := by
        cases k with
        | zero => exact absurd (by rw [List.getElem?_eq_getElem hka, hA]) ha0
        | succ j => omega
       have hk0 : ((k : Int) == 0) = false := by simp; omega
       cases hsm : sameV vs ws with
       | false =>
         rw [hsm] at k63
         have hev1 : evtV g.decls H h r ag k x kn got = (23, kn, got) := by
          unfold evtV
          rw [hvs, hlp, hq, hlv, hsd, hpv, hsm, hA2]
          rfl
         have hq1 := hist_at hlt hx hev1
         rw [hVk] at hq1
         simp only [show ¬ (23 : Int) = 0 by decide, if_false] at hq1
         rw [hq1]
         refine .inr ?_
         refine wV (aN hsd <| aN hll <| aN hd <| aN encD.eq_1 <| aN hka <| aN hA <| aN encBo2.eq_1 <| aN hr <| aN hh <| aN encH.eq_1 <| aN hjl <| aN hy <| aN hye <| aN hk1 <| aN hk0 encG.eq_1) (aN k62 k63) ?_
         simp [go_sem]
       | true =>
         rw [hsm] at k63
         cases hck : checkV g.decls lb vs kn with
         | false =>
           rw [hck] at k64
           have hev1 : evtV g.decls H h r ag k x kn got = (17, kn, got) := by
            unfold evtV
            rw [hvs, hlp, hq, hlv, hsd, hck]
            simp [hpv, hsm, hA2]
           have hq1 := hist_at hlt hx hev1
           rw [hVk] at hq1
           simp only [show ¬ (17 : Int) = 0 by decide, if_false] at hq1
           rw [hq1]
           refine .inr ?_
           refine wV (aN hsd <| aN hll <| aN hd <| aN encD.eq_1 <| aN hka <| aN hA <| aN encBo2.eq_1 <| aN hr <| aN hh <| aN encH.eq_1 <| aN hjl <| aN hy <| aN hye <| aN hk1 <| aN hk0 encG.eq_1) (aN k62 <| aN k63 k64) ?_
           simp [go_sem]
         | true =>
           rw [hck] at k64
           have hev1 : evtV g.decls H h r ag k x kn got = (0, z, got) := by
            unfold evtV
            rw [hvs, hlp, hq, hlv, hsd, hck]
            simp [hpv, hsm, hA2]
           have hq1 := hist_at hlt hx hev1
           rw [hVk] at hq1
           simp only [if_true] at hq1
           refine .inl ⟨_, ⟨got, hgl, hgg, by rw [hq1]; injection hlv with h1; rw [h1]; rfl, rfl⟩, ?_⟩
           refine wV (aN hsd <| aN hll <| aN hd <| aN encD.eq_1 <| aN hka <| aN hA <| aN encBo2.eq_1 <| aN hr <| aN hh <| aN encH.eq_1 <| aN hjl <| aN hy <| aN hye <| aN hk1 <| aN hk0 encG.eq_1) (aN k62 <| aN k63 k64) ?_
           refine z_m ?_
           simp [go_sem, hsd, encG]
 | false =>
   obtain ⟨q, hqe⟩ : ∃ q, H[p] = q := ⟨_, rfl⟩
   have hqm : q ∈ H := hqe ▸ List.getElem_mem hpl
   have hgp : p < got.length := by omega
   obtain ⟨m, hm⟩ : ∃ m, got[p] = m := ⟨_, rfl⟩
   have hmk : m <= k := hgk m (hm ▸ List.getElem_mem hgp)
   have k65 := f65 q r m (by have := hlen q hqm; omega) (by omega)
   have hgn : getN got x.peer = m := by rw [hpp, getN_at hgp, hm]
   have hHq : H[x.peer.toNat]?.getD [] = q := by
    rw [hpp, Int.toNat_natCast, List.getElem?_eq_getElem hpl, hqe]
    rfl
   have hpt : x.peer.toNat = p := by rw [hpp, Int.toNat_natCast]
   have hs1 : (got.map encK).set p [.int .i64 ((m : Int) + 1)] = (got.set p (m + 1)).map encK := by
    rw [show [DV.int .i64 ((m : Int) + 1)] = encK (m + 1) from rfl, <- List.map_set]
   cases hny : nthE q r m with
   | none =>
     rw [hny] at k65
     simp only [nthD] at k65
     have hev1 : evtV g.decls H h r ag k x kn got = (23, kn, got) := by
      unfold evtV
      rw [hsd, hgn, hHq, hny]
      rfl
     have hq1 := hist_at hlt hx hev1
     rw [hVk] at hq1
     simp only [show ¬ (23 : Int) = 0 by decide, if_false] at hq1
     rw [hq1]
     refine .inr ?_
     refine wV (aN hsd <| aN hpl <| aN hqe <| aN hgp <| aN hm <| aN encH.eq_1 encK.eq_1) k65 ?_
     simp [go_sem]
   | some y =>
     obtain ⟨⟨hyv, hyl⟩, hyt⟩ := hev q hqm y (nth_mem hny)
     obtain ⟨ws, hws⟩ : ∃ ws, evV y = ws := ⟨_, rfl⟩
     rw [hws] at hyv hyl
     rw [hny] at k65
     simp only [nthD, hyv, valsDV] at k65
     have k63 := f63 ws vs hyl hxl
     cases hsm : sameV ws vs with
     | false =>
       rw [hsm] at k63
       have hev1 : evtV g.decls H h r ag k x kn got = (23, kn, got) := by
        unfold evtV
        rw [hsd, hgn, hHq, hny, hvs]
        simp [hws, hsm]
       have hq1 := hist_at hlt hx hev1
       rw [hVk] at hq1
       simp only [show ¬ (23 : Int) = 0 by decide, if_false] at hq1
       rw [hq1]
       refine .inr ?_
       refine wV (aN hsd <| aN hpl <| aN hqe <| aN hgp <| aN hm <| aN encH.eq_1 encK.eq_1) (aN k65 k63) ?_
       simp [go_sem]
     | true =>
       rw [hsm] at k63
       have hev1 : evtV g.decls H h r ag k x kn got = (0, o.getD kn, got.set p (m + 1)) := by
        unfold evtV
        rw [hsd, hgn, hHq, hny, hvs, hlp, hq, hpt]
        simp [hws, hsm]
       have hq1 := hist_at hlt hx hev1
       rw [hVk] at hq1
       simp only [if_true] at hq1
       have hgsl : (got.set p (m + 1)).length = H.length := by rw [List.length_set]; exact hgl
       have hgs : ∀ v ∈ got.set p (m + 1), v <= k + 1 := fun v hv => by
        rcases List.mem_or_eq_of_mem_set hv with h | h
        ·have := hgk v h
         omega
        ·omega
       obtain ⟨g1, hg1⟩ : ∃ g1, got.set p (m + 1) = g1 := ⟨_, rfl⟩
       rw [hg1] at hs1 hgsl hgs hq1 hev1
       refine .inl ⟨_, ⟨g1, hgsl, hgs, hq1.symm, rfl⟩, ?_⟩
       refine wV (aN hsd <| aN hpl <| aN hqe <| aN hgp <| aN hm <| aN encH.eq_1 <| aN encK.eq_1 hs1) (aN k65 k63) ?_
       refine z_m ?_
       simp [go_sem, hsd, hs1]
end Go.Av

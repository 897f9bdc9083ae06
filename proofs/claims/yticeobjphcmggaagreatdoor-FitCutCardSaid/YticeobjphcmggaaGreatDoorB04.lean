/- The history of a role: the program. -/
import Derived.Test.YticeobjphcmggaaGreatDoorAvR
import Derived.Test.YticeobjphcmggaaGreatDoorB03
set_option linter.unusedVariables false
set_option linter.unusedSimpArgs false
set_option maxHeartbeats 64000000
set_option maxRecDepth 8000
namespace Go.Av
open Go Go.RowKit Go.Proofs
set_option maxHeartbeats 64000000
def decVl : List DV -> Vl
 | [.int _ k, .int _ n, .str t] => ⟨k, n, t⟩
 | _ => ⟨0, 0, ⟨#[]⟩⟩
theorem dec_enc (v : Vl) : decVl (encVl v) = v := rfl
def evV (x : Ev) : List Vl := match x.vals with
 | none => []
 | some l => l.map decVl
def EvOk (x : Ev) : Prop := x.vals = some ((evV x).map encVl) /\ (evV x).length <= 1000000000000000
def zV : Vl := ⟨0, 0, ⟨#[]⟩⟩
def encBo2 (b : Bool) : List DV := [.bool b]
@[go_sem ↓ high] theorem frz_encBo2 (b : Bool) : frzL (encBo2 b) = encBo2 b := rfl
def prevV (h : List Ev) (k : Nat) : List Vl := match h[k - 1]? with
 | some y => evV y
 | none => []
def getN (l : List Nat) (i : Int) : Nat := l[i.toNat]?.getD 0
def evtV (ds : List Dcl) (H : List (List Ev)) (h : List Ev) (r : Nat) (ag : List Bool) (k : Nat) (x : Ev) (kn : List Vl) (got : List Nat) : Int × List Vl × List Nat :=
 if x.send then
  match (learnV ds x.label (evV x) kn).1 with
  | none => (11, kn, got)
  | some kn' => if (ag[k]?.getD false) && !sameV (evV x) (prevV h k) then (23, kn, got) else if checkV ds x.label (evV x) kn then (0, kn', got) else (17, kn, got)
 else match nthE (H[x.peer.toNat]?.getD []) r (getN got x.peer) with
  | none => (23, kn, got)
  | some y => if sameV (evV y) (evV x) then (0, ((learnV ds x.label (evV x) kn).1).getD kn, got.set x.peer.toNat (getN got x.peer + 1)) else (23, kn, got)
def histV (ds : List Dcl) (H : List (List Ev)) (h : List Ev) (r : Nat) (ag : List Bool) : List Ev -> Nat -> List Vl -> List Nat -> Int
 | [], _, _, _ => 0
 | x :: l, k, kn, got => if (evtV ds H h r ag k x kn got).1 = 0 then histV ds H h r ag l (k + 1) (evtV ds H h r ag k x kn got).2.1 (evtV ds H h r ag k x kn got).2.2 else (evtV ds H h r ag k x kn got).1
def hist0 (ds : List Dcl) (H : List (List Ev)) (h : List Ev) (r : Nat) (ag : List Bool) : Int := histV ds H h r ag h 0 (List.replicate (allF ds).length zV) (List.replicate H.length 0)
@[go_sem] theorem clo_encVl (l : List Vl) : clo (l.map encVl) ↔ True := by
 simp only [iff_true]
 intro e he d hd
 obtain ⟨x, _, rfl⟩ := List.mem_map.1 he
 simp only [encVl, List.mem_cons, List.not_mem_nil, or_false] at hd
 rcases hd with rfl | rfl | rfl <;> first | exact .int _ _ | exact .str _
def resVs : Option (List Vl) -> DV
 | none => .nil
 | some l => .sl (l.map encVl)
theorem frz_rep (v : Vl) : ∀ n : Nat, frzLL (List.replicate n (encVl v)) = List.replicate n (encVl v)
 | 0 => rfl
 | n + 1 => by
   rw [List.replicate_succ, frzLL, frz_rep v n]
   rfl
theorem learn_cases {ds : List Dcl} {lb : Int} {vs kn : List Vl} : (∃ e, learnV ds lb vs kn = (none, e) /\ e ≠ 0) \/ ∃ kn', learnV ds lb vs kn = (some kn', 0) /\ kn'.length = kn.length := by
 unfold learnV
 cases hd : ds[lb.toNat]? with
 | none => exact .inl ⟨1, rfl, by decide⟩
 | some d =>
   simp only
   cases hp : properV ds lb kn with
   | false => exact .inl ⟨1, rfl, by decide⟩
   | true =>
     cases hf : fitV d.fields vs with
     | false => exact .inl ⟨11, rfl, by decide⟩
     | true =>
       refine .inr ⟨_, rfl, ?_⟩
       obtain ⟨h0, h1, h2, h3⟩ := proper_facts hp
       have hi : lb.toNat < ds.length := by omega
       obtain ⟨fi, hfi, hfl⟩ := first_in h2 hi
       rw [List.getElem?_eq_getElem hi] at hd
       injection hd with hd
       rw [hd] at hfi hfl
       rw [hfi]
       refine behind_len ?_
       unfold knownV at h3
       unfold fitV at hf
       simp only [Bool.and_eq_true, decide_eq_true_eq] at h3 hf
       rw [Int.toNat_natCast]
       omega
theorem hist_at {ds : List Dcl} {H : List (List Ev)} {h : List Ev} {r : Nat} {ag : List Bool} {k : Nat} {x : Ev} {kn : List Vl} {got : List Nat} (hl : k < h.length) (hx : h[k] = x) {e : Int} {kn' : List Vl} {got' : List Nat} (hs : evtV ds H h r ag k x kn got = (e, kn', got')) :
  histV ds H h r ag (h.drop k) k kn got = if e = 0 then histV ds H h r ag (h.drop (k + 1)) (k + 1) kn' got' else e := by
 rw [List.drop_eq_getElem_cons hl, hx, histV, hs]
theorem hist_end {ds : List Dcl} {H : List (List Ev)} {h : List Ev} {r : Nat} {ag : List Bool} {k : Nat} {kn : List Vl} {got : List Nat} : histV ds H h r ag (h.drop h.length) k kn got = 0 := by
 rw [List.drop_length]
 rfl
theorem nth_mem {h : List Ev} {p : Int} {n : Nat} {y : Ev} (hy : nthE h p n = some y) : y ∈ h := by
 unfold nthE at hy
 exact (List.mem_filter.1 (List.mem_of_getElem? hy)).1
theorem getN_at {l : List Nat} {i : Nat} (h : i < l.length) : getN l (i : Int) = l[i] := by
 simp [getN, h]
theorem f34 (h138 : H138) (g : Glob) (H : List (List Ev)) (h : List Ev) (r : Nat) (ag : List Bool) (hr : r < H.length) (hh : H[r] = h) (hl : H.length <= 1000) (hlen : ∀ l ∈ H, l.length <= 100000) (hag : h.length <= ag.length) (ha0 : ag[0]? ≠ some true)
  (hev : ∀ l ∈ H, ∀ x ∈ l, EvOk x) (hpe : ∀ x ∈ h, 0 <= x.peer /\ x.peer < H.length) (hds : g.decls.length <= 1000) (hp : ∀ d ∈ g.decls, d.fields.length <= 1000) :
  Impl Tryz.prog 34 [.ag (encG g), .one (.sl (H.map encH)), .one (.int .i64 r), .one (.sl (ag.map encBo2))] (.one (.one (.int .i64 (hist0 g.decls H h r ag)))) := by
 have hhm : h ∈ H := hh ▸ List.getElem_mem hr
 have hhl := hlen h hhm
 obtain ⟨V, hV⟩ : ∃ V, hist0 g.decls H h r ag = V := ⟨_, rfl⟩
 rw [hV]
 have hfl : ∀ k, (allF (g.decls.take k)).length <= k * 1000 := fun k => by
  induction k with
  | zero => simp [allF]
  | succ k ih =>
    by_cases hk : k < g.decls.length
    ·rw [allF_succ hk, List.length_append]
     have := hp _ (List.getElem_mem hk)
     omega
    ·rw [List.take_of_length_le (by omega)]
     rw [List.take_of_length_le (by omega)] at ih
     omega
 refine impl_v ?_
 refine z_l [(8, .sv (.one (.int .i64 0))), (4, .sv (.one (.bx (encG g)))), (3, .sv (.one (.sl (ag.map encBo2)))), (2, .sv (.one (.int .i64 r))), (1, .sv (.one (.sl (H.map encH))))] ?_ ?_
 ·refine wX encG.eq_1 ?_
  refine z_m ?_
  simp [go_sem, encG]
 refine z_l [(9, .sv (.one (.int .i64 0))), (8, .sv (.one (.int .i64 0))), (4, .sv (.one (.bx (encG g)))), (3, .sv (.one (.sl (ag.map encBo2)))), (2, .sv (.one (.int .i64 r))), (1, .sv (.one (.sl (H.map encH))))] ?_ ?_
 ·refine wX encG.eq_1 ?_
  refine z_m ?_
  simp [go_sem, encG]
 refine z_l [(9, .sv (.one (.int .i64 ((allF g.decls).length : Nat)))), (8, .sv (.one (.int .i64 0))), (4, .sv (.one (.bx (encG g)))), (3, .sv (.one (.sl (ag.map encBo2)))), (2, .sv (.one (.int .i64 r))), (1, .sv (.one (.sl (H.map encH))))] ?_ ?_
 ·refine wX encG.eq_1 ?_
  refine z_k (fun n e => ∃ k : Nat, k + n = g.decls.length /\ e = [(23, .sv (.one (.int .i64 k))), (22, .sv (.one (.int .i64 g.decls.length))), (21, .sv (.one (.sl (g.decls.map encD)))), (9, .sv (.one (.int .i64 ((allF (g.decls.take k)).length : Nat)))), (8, .sv (.one (.int .i64 0))), (4, .sv (.one (.bx (encG g)))), (3, .sv (.one (.sl (ag.map encBo2)))), (2, .sv (.one (.int .i64 r))), (1, .sv (.one (.sl (H.map encH))))]) g.decls.length _ ⟨0, by simp, rfl⟩ (by simp [go_sem, allF, encG]) ?_
  rintro n e ⟨k, hk, rfl⟩
  by_cases hlt : k < g.decls.length
  ·obtain ⟨d, hd⟩ : ∃ d, g.decls[k] = d := ⟨_, rfl⟩
   have hfk := hfl k
   have hdp := hp d (hd ▸ List.getElem_mem hlt)
   have hsc := congrArg List.length (allF_succ hlt)
   rw [List.length_append, hd] at hsc
   refine wX (aN hlt <| aN hd encD.eq_1) ?_
   refine z_j (n - 1) _ (by omega) ⟨k + 1, by omega, rfl⟩ ?_
   simp [go_sem, hsc, encG]
  ·have hke : k = g.decls.length := by omega
   subst hke
   rw [List.take_length]
   refine wN ?_
   refine z_m ?_
   simp [go_sem, encG]
 have hfa : (allF g.decls).length <= 1000000 := by
  have := hfl g.decls.length
  rw [List.take_length] at this
  omega
 have hrz : List.replicate (allF g.decls).length [DV.int .i64 0, .int .i64 0, .str ⟨#[]⟩] = (List.replicate (allF g.decls).length zV).map encVl := by
  rw [List.map_replicate]
  rfl
 have hrk : List.replicate H.length [DV.int .i64 0] = (List.replicate H.length 0).map encK := by
  rw [List.map_replicate]
  rfl
 refine z_l [(12, .sv (.one (.sl ((List.replicate (allF g.decls).length zV).map encVl)))), (8, .sv (.one (.int .i64 0))), (4, .sv (.one (.bx (encG g)))), (3, .sv (.one (.sl (ag.map encBo2)))), (2, .sv (.one (.int .i64 r))), (1, .sv (.one (.sl (H.map encH))))] ?_ ?_
 ·refine wN ?_
  refine cutQ_all 12 ?_
  simp [go_sem, hrz, frz_rep]
 refine z_l [(13, .sv (.one (.ow 1 ((List.replicate H.length 0).map encK)))), (12, .sv (.one (.sl ((List.replicate (allF g.decls).length zV).map encVl)))), (8, .sv (.one (.int .i64 0))), (4, .sv (.one (.bx (encG g)))), (3, .sv (.one (.sl (ag.map encBo2)))), (2, .sv (.one (.int .i64 r))), (1, .sv (.one (.sl (H.map encH))))] ?_ ?_
 ·refine wN ?_
  refine z_m ?_
  simp [go_sem, hrk]
 refine wX (aN hr <| aN hh encH.eq_1) ?_
 refine z_k (fun n e => ∃ (k : Nat) (kn : List Vl) (got : List Nat), k + n = h.length /\ kn.length <= 1000000 /\ got.length = H.length /\ (∀ v ∈ got, v <= k) /\ histV g.decls H h r ag (h.drop k) k kn got = V /\ e = [(43, .sv (.one (.int .i64 k))), (42, .sv (.one (.int .i64 h.length))), (41, .sv (.one (.sl (h.map encE)))), (13, .sv (.one (.ow 1 (got.map encK)))), (12, .sv (.one (.sl (kn.map encVl)))), (8, .sv (.one (.int .i64 0))), (4, .sv (.one (.bx (encG g)))), (3, .sv (.one (.sl (ag.map encBo2)))), (2, .sv (.one (.int .i64 r))), (1, .sv (.one (.sl (H.map encH))))]) h.length _ ⟨0, _, _, by simp, by simp; exact hfa, by simp, by simp, hV, rfl⟩ (by simp [go_sem]) ?_
 rintro n e ⟨k, kn, got, hk, hkn, hgl, hgk, hVk, rfl⟩
 by_cases hlt : k < h.length
 rotate_left
 ·have hke : k = h.length := by omega
  subst hke
  rw [hist_end] at hVk
  subst hVk
  refine wN ?_
  simp [go_sem]
 obtain ⟨x, hx⟩ : ∃ x, h[k] = x := ⟨_, rfl⟩
 have hxm : x ∈ h := hx ▸ List.getElem_mem hlt
 obtain ⟨hxv, hxl⟩ := hev h hhm x hxm
 obtain ⟨hp0, hp1⟩ := hpe x hxm
 obtain ⟨p, hpp⟩ : ∃ p : Nat, x.peer = p := ⟨x.peer.toNat, by omega⟩
 have hpl : p < H.length := by omega
 obtain ⟨vs, hvs⟩ : ∃ vs, evV x = vs := ⟨_, rfl⟩
 rw [hvs] at hxv hxl
 have k57 := f57 h138 g.decls x.label vs kn hds (fun d hd => by have := hp d hd; omega) hxl hkn
 refine z_l [(44, .sv (.one (.bool true))), (43, .sv (.one (.int .i64 k))), (42, .sv (.one (.int .i64 h.length))), (41, .sv (.one (.sl (h.map encE)))), (13, .sv (.one (.ow 1 (got.map encK)))), (12, .sv (.one (.sl (kn.map encVl)))), (8, .sv (.one (.int .i64 0))), (4, .sv (.one (.bx (encG g)))), (3, .sv (.one (.sl (ag.map encBo2)))), (2, .sv (.one (.int .i64 r))), (1, .sv (.one (.sl (H.map encH))))] ?_ ?_
 ·refine wX hlt ?_
  refine z_m ?_
  simp [go_sem]
 refine z_l [(43, .sv (.one (.int .i64 k))), (42, .sv (.one (.int .i64 h.length))), (41, .sv (.one (.sl (h.map encE)))), (13, .sv (.one (.ow 1 (got.map encK)))), (12, .sv (.one (.sl (kn.map encVl)))), (8, .sv (.one (.int .i64 0))), (4, .sv (.one (.bx (encG g)))), (3, .sv (.one (.sl (ag.map encBo2)))), (2, .sv (.one (.int .i64 r))), (1, .sv (.one (.sl (H.map encH))))] ?_ ?_
 ·refine wN ?_
  refine z_m ?_
  simp [go_sem]
 have hxe : encE x = [.int .i64 x.role, .bool x.send, .int .i64 p, .int .i64 x.label, .sl (vs.map encVl)] := by
  simp [encE, hpp, hxv, valsDV]
 refine z_A ?_
 refine z_C ?_
 refine z_l [(15, .sv (.one (.bx [.int .i64 x.role, .bool x.send, .int .i64 p, .int .i64 x.label, .sl (vs.map encVl)]))), (14, .sv (.one (.int .i64 k))), (43, .sv (.one (.int .i64 k))), (42, .sv (.one (.int .i64 h.length))), (41, .sv (.one (.sl (h.map encE)))), (13, .sv (.one (.ow 1 (got.map encK)))), (12, .sv (.one (.sl (kn.map encVl)))), (8, .sv (.one (.int .i64 0))), (4, .sv (.one (.bx (encG g)))), (3, .sv (.one (.sl (ag.map encBo2)))), (2, .sv (.one (.int .i64 r))), (1, .sv (.one (.sl (H.map encH))))] ?_ ?_
 ·refine wX (aN hlt <| aN hx hxe) ?_
  refine z_m ?_
  simp [go_sem]
 obtain ⟨⟨o, e⟩, hlv⟩ : ∃ q, learnV g.decls x.label vs kn = q := ⟨_, rfl⟩
 rw [hlv] at k57
 refine z_l [(17, .sv (.one (.int .i64 e))), (16, .sv (.one (resVs o))), (15, .sv (.one (.bx [.int .i64 x.role, .bool x.send, .int .i64 p, .int .i64 x.label, .sl (vs.map encVl)]))), (14, .sv (.one (.int .i64 k))), (43, .sv (.one (.int .i64 k))), (42, .sv (.one (.int .i64 h.length))), (41, .sv (.one (.sl (h.map encE)))), (13, .sv (.one (.ow 1 (got.map encK)))), (12, .sv (.one (.sl (kn.map encVl)))), (8, .sv (.one (.int .i64 0))), (4, .sv (.one (.bx (encG g)))), (3, .sv (.one (.sl (ag.map encBo2)))), (2, .sv (.one (.int .i64 r))), (1, .sv (.one (.sl (H.map encH))))] ?_ ?_
 ·cases o with
  | none =>
    simp only [resV] at k57
    refine wV encG.eq_1 k57 ?_
    refine z_m ?_
    simp [go_sem, encG, resVs]
  | some z =>
    simp only [resV] at k57
    refine wV encG.eq_1 k57 ?_
    refine cutQ_all 16 ?_
    simp [go_sem, encG, resVs]
 have hlc := learn_cases (ds := g.decls) (lb := x.label) (vs := vs) (kn := kn)
 rw [hlv] at hlc
 cases hsd : x.send with
 | true =>
   cases o with
   | none =>
     have he : e ≠ 0 := by
      rcases hlc with ⟨e', h1, h2⟩ | ⟨kn', h1, _⟩
      ·injection h1 with _ h1
       rw [h1]
       exact h2
      ·injection h1 with h1 _
       cases h1
     have hev1 : evtV g.decls H h r ag k x kn got = (11, kn, got) := by
      unfold evtV
      rw [hvs, hlv, hsd]
      rfl
     have hq := hist_at hlt hx hev1
     rw [hVk] at hq
     simp only [show ¬ (11 : Int) = 0 by decide, if_false] at hq
     rw [hq]
     refine wX (aN he <| aN hsd <| aN resVs.eq_1 resVs.eq_2) ?_
     simp [go_sem]
   | some z =>
     obtain ⟨hzl, he⟩ : z.length = kn.length /\ e = 0 := by
      rcases hlc with ⟨e', h1, h2⟩ | ⟨kn', h1, h3⟩
      ·injection h1 with h1 _
       cases h1
      ·injection h1 with h1 h2
       injection h1 with h1
       subst h1
       exact ⟨h3, h2⟩
     subst he
     have k60 := f60 h138 g.decls x.label vs kn hds (fun d hd => by have := hp d hd; omega) hxl hkn
     have hka : k < ag.length := by omega
     obtain ⟨a, hA⟩ : ∃ a, ag[k] = a := ⟨_, rfl⟩
     have hA2 : ag[k]?.getD false = a := by rw [List.getElem?_eq_getElem hka, hA]; rfl
     have hjl : k - 1 < h.length := by omega
     obtain ⟨y, hy⟩ : ∃ y, h[k - 1] = y := ⟨_, rfl⟩
     obtain ⟨hyv, hyl⟩ := hev h hhm y (hy ▸ List.getElem_mem hjl)
     have hpv : prevV h k = evV y := by
      unfold prevV
      rw [List.getElem?_eq_getElem hjl, hy]
     obtain ⟨ws, hws⟩ : ∃ ws, evV y = ws := ⟨_, rfl⟩
     rw [hws] at hyv hyl hpv
     have hye : encE y = [.int .i64 y.role, .bool y.send, .int .i64 y.peer, .int .i64 y.label, .sl (ws.map encVl)] := by
      simp [encE, hyv, valsDV]
     have k59 := f59 vs ws hxl hyl
     cases a with
     | false =>
       cases hck : checkV g.decls x.label vs kn with
       | false =>
         rw [hck] at k60
         have hev1 : evtV g.decls H h r ag k x kn got = (17, kn, got) := by
          unfold evtV
          rw [hvs, hlv, hsd, hck]
          simp [hA2]
         have hq := hist_at hlt hx hev1
         rw [hVk] at hq
         simp only [show ¬ (17 : Int) = 0 by decide, if_false] at hq
         rw [hq]
         refine wV (aN hsd <| aN resVs.eq_1 <| aN resVs.eq_2 <| aN hka <| aN hA <| aN encBo2.eq_1 <| aN hr <| aN hh <| aN encH.eq_1 <| aN hjl <| aN hy <| aN hye encG.eq_1) (aN k59 k60) ?_
         simp [go_sem]
       | true =>
         rw [hck] at k60
         have hev1 : evtV g.decls H h r ag k x kn got = (0, z, got) := by
          unfold evtV
          rw [hvs, hlv, hsd, hck]
          simp [hA2]
         have hq := hist_at hlt hx hev1
         rw [hVk] at hq
         simp only [if_true] at hq
         refine wV (aN hsd <| aN resVs.eq_1 <| aN resVs.eq_2 <| aN hka <| aN hA <| aN encBo2.eq_1 <| aN hr <| aN hh <| aN encH.eq_1 <| aN hjl <| aN hy <| aN hye encG.eq_1) (aN k59 k60) ?_
         refine z_j (n - 1) _ (by omega) ⟨k + 1, z, got, by omega, by omega, hgl, fun v hv => by have := hgk v hv; omega, hq.symm, rfl⟩ ?_
         simp [go_sem, encG]
     | true =>
       have hk1 : 1 <= k := by
        cases k with
        | zero => exact absurd (by rw [List.getElem?_eq_getElem hka, hA]) ha0
        | succ j => omega
       cases hsm : sameV vs ws with
       | false =>
         rw [hsm] at k59
         have hev1 : evtV g.decls H h r ag k x kn got = (23, kn, got) := by
          unfold evtV
          rw [hvs, hlv, hsd, hpv, hsm, hA2]
          rfl
         have hq := hist_at hlt hx hev1
         rw [hVk] at hq
         simp only [show ¬ (23 : Int) = 0 by decide, if_false] at hq
         rw [hq]
         refine wV (aN hsd <| aN resVs.eq_1 <| aN resVs.eq_2 <| aN hka <| aN hA <| aN encBo2.eq_1 <| aN hr <| aN hh <| aN encH.eq_1 <| aN hjl <| aN hy <| aN hye hk1) k59 ?_
         simp [go_sem]
       | true =>
         rw [hsm] at k59
         cases hck : checkV g.decls x.label vs kn with
         | false =>
           rw [hck] at k60
           have hev1 : evtV g.decls H h r ag k x kn got = (17, kn, got) := by
            unfold evtV
            rw [hvs, hlv, hsd, hck]
            simp [hpv, hsm, hA2]
           have hq := hist_at hlt hx hev1
           rw [hVk] at hq
           simp only [show ¬ (17 : Int) = 0 by decide, if_false] at hq
           rw [hq]
           refine wV (aN hsd <| aN resVs.eq_1 <| aN resVs.eq_2 <| aN hka <| aN hA <| aN encBo2.eq_1 <| aN hr <| aN hh <| aN encH.eq_1 <| aN hjl <| aN hy <| aN hye <| aN hk1 encG.eq_1) (aN k59 k60) ?_
           simp [go_sem]
         | true =>
           rw [hck] at k60
           have hev1 : evtV g.decls H h r ag k x kn got = (0, z, got) := by
            unfold evtV
            rw [hvs, hlv, hsd, hck]
            simp [hpv, hsm, hA2]
           have hq := hist_at hlt hx hev1
           rw [hVk] at hq
           simp only [if_true] at hq
           refine wV (aN hsd <| aN resVs.eq_1 <| aN resVs.eq_2 <| aN hka <| aN hA <| aN encBo2.eq_1 <| aN hr <| aN hh <| aN encH.eq_1 <| aN hjl <| aN hy <| aN hye <| aN hk1 encG.eq_1) (aN k59 k60) ?_
           refine z_j (n - 1) _ (by omega) ⟨k + 1, z, got, by omega, by omega, hgl, fun v hv => by have := hgk v hv; omega, hq.symm, rfl⟩ ?_
           simp [go_sem, encG]
 | false =>
   obtain ⟨q, hqe⟩ : ∃ q, H[p] = q := ⟨_, rfl⟩
   have hqm : q ∈ H := hqe ▸ List.getElem_mem hpl
   have hgp : p < got.length := by omega
   obtain ⟨m, hm⟩ : ∃ m, got[p] = m := ⟨_, rfl⟩
   have hmk : m <= k := hgk m (hm ▸ List.getElem_mem hgp)
   have k58 := f58 q r m (by have := hlen q hqm; omega) (by omega)
   have hgn : getN got x.peer = m := by rw [hpp, getN_at hgp, hm]
   have hHq : H[x.peer.toNat]?.getD [] = q := by
    rw [hpp, Int.toNat_natCast, List.getElem?_eq_getElem hpl, hqe]
    rfl
   have hpt : x.peer.toNat = p := by rw [hpp, Int.toNat_natCast]
   cases hny : nthE q r m with
   | none =>
     rw [hny] at k58
     simp only [nthD] at k58
     have hev1 : evtV g.decls H h r ag k x kn got = (23, kn, got) := by
      unfold evtV
      rw [hsd, hgn, hHq, hny]
      rfl
     have hq := hist_at hlt hx hev1
     rw [hVk] at hq
     simp only [show ¬ (23 : Int) = 0 by decide, if_false] at hq
     rw [hq]
     refine wV (aN hsd <| aN hpl <| aN hqe <| aN hgp <| aN hm <| aN encH.eq_1 encK.eq_1) k58 ?_
     simp [go_sem]
   | some y =>
     obtain ⟨hyv, hyl⟩ := hev q hqm y (nth_mem hny)
     obtain ⟨ws, hws⟩ : ∃ ws, evV y = ws := ⟨_, rfl⟩
     rw [hws] at hyv hyl
     rw [hny] at k58
     simp only [nthD, hyv, valsDV] at k58
     have k59 := f59 ws vs hyl hxl
     cases hsm : sameV ws vs with
     | false =>
       rw [hsm] at k59
       have hev1 : evtV g.decls H h r ag k x kn got = (23, kn, got) := by
        unfold evtV
        rw [hsd, hgn, hHq, hny, hvs]
        simp [hws, hsm]
       have hq := hist_at hlt hx hev1
       rw [hVk] at hq
       simp only [show ¬ (23 : Int) = 0 by decide, if_false] at hq
       rw [hq]
       refine wV (aN hsd <| aN hpl <| aN hqe <| aN hgp <| aN hm <| aN encH.eq_1 encK.eq_1) (aN k58 k59) ?_
       simp [go_sem]
     | true =>
       rw [hsm] at k59
       have hev1 : evtV g.decls H h r ag k x kn got = (0, o.getD kn, got.set p (m + 1)) := by
        unfold evtV
        rw [hsd, hgn, hHq, hny, hvs, hlv, hpt]
        simp [hws, hsm]
       have hq := hist_at hlt hx hev1
       rw [hVk] at hq
       simp only [if_true] at hq
       have hs1 : (got.map encK).set p [.int .i64 ((m : Int) + 1)] = (got.set p (m + 1)).map encK := by
        rw [show [DV.int .i64 ((m : Int) + 1)] = encK (m + 1) from rfl, <- List.map_set]
       have hgsl : (got.set p (m + 1)).length = H.length := by rw [List.length_set]; exact hgl
       have hgs : ∀ v ∈ got.set p (m + 1), v <= k + 1 := fun v hv => by
        rcases List.mem_or_eq_of_mem_set hv with h | h
        ·have := hgk v h
         omega
        ·omega
       obtain ⟨g1, hg1⟩ : ∃ g1, got.set p (m + 1) = g1 := ⟨_, rfl⟩
       rw [hg1] at hs1 hgsl hgs hq hev1
       cases o with
       | none =>
         have he : e ≠ 0 := by
          rcases hlc with ⟨e', h1, h2⟩ | ⟨kn', h1, _⟩
          ·injection h1 with _ h1
           rw [h1]
           exact h2
          ·injection h1 with h1 _
           cases h1
         refine wV (aN hsd <| aN hpl <| aN hqe <| aN hgp <| aN hm <| aN encH.eq_1 <| aN encK.eq_1 <| aN he <| aN hs1 <| aN resVs.eq_1 resVs.eq_2) (aN k58 k59) ?_
         refine z_j (n - 1) _ (by omega) ⟨k + 1, kn, g1, by omega, hkn, hgsl, hgs, hq.symm, rfl⟩ ?_
         simp [go_sem, encG, hs1]
       | some z =>
         obtain ⟨hzl, he⟩ : z.length = kn.length /\ e = 0 := by
          rcases hlc with ⟨e', h1, h2⟩ | ⟨kn', h1, h3⟩
          ·injection h1 with h1 _
           cases h1
          ·injection h1 with h1 h2
           injection h1 with h1
           subst h1
           exact ⟨h3, h2⟩
         subst he
         refine wV (aN hsd <| aN hpl <| aN hqe <| aN hgp <| aN hm <| aN encH.eq_1 <| aN encK.eq_1 <| aN hs1 <| aN resVs.eq_1 resVs.eq_2) (aN k58 k59) ?_
         refine z_j (n - 1) _ (by omega) ⟨k + 1, z, g1, by omega, by omega, hgsl, hgs, hq.symm, rfl⟩ ?_
         simp [go_sem, encG, hs1]
end Go.Av

/- Part of a proof. -/
import Derived.Test.YticeobjphcmggaaGreatDoorAvR
import Derived.Test.YticeobjphcmggaaGreatDoorB04
import Derived.Test.YticeobjphcmggaaGreatDoorB03
set_option linter.unusedVariables false
set_option linter.unusedSimpArgs false
set_option maxHeartbeats 64000000
set_option maxRecDepth 8000
namespace Go.Av
open Go Go.RowKit Go.Proofs
set_option maxHeartbeats 64000000
theorem f117 (v : Vl) : Impl Tryz.prog 117 [.ag (encVl v)] (.one (.one (.int .i64 (numV v)))) := by
 refine impl_intro z117.f z117.b rfl z117.r z117.n z117.t z117.d (by simp) fun hs => ?_
 clear hs
 simp only [slotsOf, encVl]
 conv => arg 2; reduce
 by_cases hk : v.kind = 2
 ·refine wX hk ?_
  simp [go_sem, numV, hk]
 ·refine wX hk ?_
  simp [go_sem, numV, hk]
def badB (b : Int) : Bool := decide (b < 32) || decide (126 < b)
theorem fits_bad {k lo hi : Int} {v : Vl} (h : badS v.txt = true) : fitsV k lo hi v = false := by
 have hz : v.txt ≠ ⟨#[]⟩ := by
  intro e
  rw [e] at h
  exact absurd h (by decide)
 unfold fitsV
 rw [h]
 by_cases h1 : v.kind = 1
 ·simp [h1, hz, bytes_eq]
 ·simp [h1]
theorem fits_ref {k lo hi : Int} {v : Vl} (hk : k = 1 \/ k = 2) (h : badS v.txt = false) (h2 : v.kind = 2 -> v.num = 0) (h1 : v.kind = 1 -> v.txt = ⟨#[]⟩) :
  fitsV k lo hi v = (decide (v.kind = k) && (decide (lo <= numV v) && decide (numV v <= hi))) := by
 unfold fitsV
 by_cases c : v.kind = k
 ·rcases hk with rfl | rfl
  ·simp [c, h1 c, bytes_eq]
  ·simp [c, h2 c, h]
 ·simp [c]
theorem fits_no {k lo hi : Int} {v : Vl} (h : (v.kind = 2 /\ v.num ≠ 0) \/ (v.kind = 1 /\ v.txt ≠ ⟨#[]⟩)) : fitsV k lo hi v = false := by
 unfold fitsV
 rcases h with ⟨h1, h2⟩ | ⟨h1, h2⟩
 ·simp [h1, h2]
 ·simp [h1, h2, bytes_eq]
theorem f94 (k lo hi : Int) (v : Vl) (hk : k = 1 \/ k = 2) (hsz : v.txt.size <= 1000000000000000) : Impl Tryz.prog 94 [.ag [.int .i64 k, .int .i64 lo, .int .i64 hi], .ag (encVl v)] (.one (.one (.bool (fitsV k lo hi v)))) := by
 have k117 := f117 v
 obtain ⟨s, hs⟩ : ∃ s, v.txt = s := ⟨_, rfl⟩
 obtain ⟨F, hF⟩ : ∃ F, fitsV k lo hi v = F := ⟨_, rfl⟩
 have hB := fits_bad (k := k) (lo := lo) (hi := hi) (v := v)
 have hR := fits_ref (k := k) (lo := lo) (hi := hi) (v := v) hk
 have hN := fits_no (k := k) (lo := lo) (hi := hi) (v := v)
 obtain ⟨m, hm⟩ : ∃ m, numV v = m := ⟨_, rfl⟩
 rw [hm] at k117 hR
 rw [hF] at hB hR hN ⊢
 rw [hs] at hB hR hN hsz
 simp only [encVl, hs] at k117
 refine impl_z Tryz.func94 z94 Tryz.ntmps94 (by simp) ?_
 simp only [c94, slotsOf, encVl, hs]
 refine z_l [(4, .sv (.one (.bool false))), (3, .sv (.one (.bx [.int .i64 v.kind, .int .i64 v.num, .str s]))), (2, .sv (.one (.bx [.int .i64 k, .int .i64 lo, .int .i64 hi])))] ?_ ?_
 ·refine wN ?_
  refine z_m ?_
  simp [go_sem]
 by_cases hbs : badS s = true
 ·have hF0 := hB hbs
  subst hF0
  refine wN ?_
  refine z_k (fun n e => ∃ i : Nat, i + n = s.size /\ ((strL s).take i).any badB = false /\ e = [(5, .sv (.one (.int .i64 i))), (3, .sv (.one (.bx [.int .i64 v.kind, .int .i64 v.num, .str s]))), (2, .sv (.one (.bx [.int .i64 k, .int .i64 lo, .int .i64 hi])))]) s.size _ ⟨0, by simp, by simp, rfl⟩ (by simp [go_sem]) ?_
  rintro n e ⟨i, hi', hany, rfl⟩
  by_cases hlt : i < s.size
  ·have hbn := strL_at hlt
   have hlt' : i < (strL s).length := by rw [strL_len]; exact hlt
   by_cases h1 : ((s[i]).toNat : Int) < 32
   ·refine wX (aN hlt h1) ?_
    simp [go_sem]
   ·by_cases h2 : 126 < ((s[i]).toNat : Int)
    ·refine wX (aN hlt <| aN h1 h2) ?_
     simp [go_sem]
    ·refine wX (aN hlt <| aN h1 h2) ?_
     refine z_j (n - 1) _ (by omega) ⟨i + 1, by omega, ?_, rfl⟩ ?_
     ·rw [List.take_succ_eq_append_getElem hlt', List.any_append, hany, <- hbn]
      simp [badB, h1, h2]
     ·simp [go_sem]
  ·exfalso
   rw [List.take_of_length_le (by rw [strL_len]; omega)] at hany
   have : badS s = false := hany
   rw [this] at hbs
   cases hbs
 have hbs : badS s = false := by simpa using hbs
 refine z_l [(3, .sv (.one (.bx [.int .i64 v.kind, .int .i64 v.num, .str s]))), (2, .sv (.one (.bx [.int .i64 k, .int .i64 lo, .int .i64 hi])))] ?_ ?_
 ·refine wN ?_
  refine z_k (fun n e => ∃ i : Nat, i + n = s.size /\ e = [(5, .sv (.one (.int .i64 i))), (3, .sv (.one (.bx [.int .i64 v.kind, .int .i64 v.num, .str s]))), (2, .sv (.one (.bx [.int .i64 k, .int .i64 lo, .int .i64 hi])))]) s.size _ ⟨0, by simp, rfl⟩ (by simp [go_sem]) ?_
  rintro n e ⟨i, hi', rfl⟩
  by_cases hlt : i < s.size
  ·have hbn := strL_at hlt
   have hlt' : i < (strL s).length := by rw [strL_len]; exact hlt
   have hno : badB (((s[i]).toNat : Int)) = false := by
    have := hbs
    unfold badS at this
    rw [List.any_eq_false] at this
    have := this _ (List.getElem_mem hlt')
    rw [<- hbn] at this
    simpa [badB] using this
   simp only [badB, Bool.or_eq_false_iff, decide_eq_false_iff_not] at hno
   obtain ⟨h1, h2⟩ := hno
   refine wX (aN hlt <| aN h1 h2) ?_
   refine z_j (n - 1) _ (by omega) ⟨i + 1, by omega, rfl⟩ ?_
   simp [go_sem]
  ·refine wX hlt ?_
   refine z_m ?_
   simp [go_sem]
 by_cases c2 : v.kind = 2 /\ v.num ≠ 0
 ·have hF0 := hN (.inl c2)
  subst hF0
  have c21 := c2.1
  have c22 : (v.num != 0) = true := by simpa using c2.2
  refine wX (aN c21 c22) ?_
  simp [go_sem]
 by_cases c1 : v.kind = 1 /\ s ≠ ⟨#[]⟩
 ·have hF0 := hN (.inr c1)
  subst hF0
  have c11 := c1.1
  have c12 : (s == ⟨#[]⟩) = false := by
   rw [bytes_eq]
   simp [c1.2]
  refine wX (aN c11 c12) ?_
  simp [go_sem]
 have e2 : v.kind = 2 -> v.num = 0 := fun h => Classical.byContradiction fun h2 => c2 ⟨h, h2⟩
 have e1 : v.kind = 1 -> s = ⟨#[]⟩ := fun h => Classical.byContradiction fun h2 => c1 ⟨h, h2⟩
 have hF1 := hR hbs e2 e1
 rw [hF1]
 refine z_l [(3, .sv (.one (.bx [.int .i64 v.kind, .int .i64 v.num, .str s]))), (2, .sv (.one (.bx [.int .i64 k, .int .i64 lo, .int .i64 hi])))] ?_ ?_
 ·by_cases d2 : v.kind = 2
  ·have d3 := e2 d2
   refine wX (aN d2 d3) ?_
   refine z_m ?_
   simp [go_sem, d2, d3]
  ·by_cases d1 : v.kind = 1
   ·have d3 : (s == ⟨#[]⟩) = true := by
     rw [bytes_eq]
     simp [e1 d1]
    refine wX (aN d1 d3) ?_
    refine z_m ?_
    simp [go_sem, d1]
   ·have d2b : (v.kind == 2) = false := by simpa using d2
    have d1b : (v.kind == 1) = false := by simpa using d1
    refine wX (aN d2b d1b) ?_
    refine z_m ?_
    simp [go_sem]
 by_cases hkk : v.kind = k
 rotate_left
 ·have hkb : (v.kind == k) = false := by simpa using hkk
  refine wV hkb k117 ?_
  simp [go_sem, hkk]
 have hkb : (v.kind == k) = true := by simpa using hkk
 by_cases hlo : lo <= m
 rotate_left
 ·refine wV (aN hkb hlo) k117 ?_
  simp [go_sem, hlo]
 refine wV (aN hkb hlo) k117 ?_
 simp [go_sem, hlo, hkk]
set_option maxHeartbeats 64000000
theorem good_kind {f : Fld} (h : goodSort f = true) : f.kind = 1 \/ f.kind = 2 := by
 unfold goodSort at h
 split at h
 ·rename_i h1
  exact .inl (by simpa using h1)
 ·split at h
  ·rename_i h2
   exact .inr (by simpa using h2)
  ·cases h
theorem f62 (d : Dcl) (vs : List Vl) (hg : ∀ f ∈ d.fields, goodSort f = true) (ht : ∀ v ∈ vs, v.txt.size <= 1000000000000000) (hf : d.fields.length <= 1000000) (hv : vs.length <= 1000000000000000) : Impl Tryz.prog 62 [.ag (encD d), .one (.sl (vs.map encVl))] (.one (.one (.bool (fitV d.fields vs)))) := by
 obtain ⟨nm, fs, fi, ds, es⟩ := d
 simp only at hg hf ⊢
 refine impl_intro z62.f z62.b rfl z62.r z62.n z62.t z62.d (by simp) fun hs => ?_
 clear hs
 simp only [slotsOf, encD]
 conv => arg 2; reduce
 refine wN ?_
 refine z_k (fun n e => ∃ k : Nat, k + n = min fs.length vs.length /\ (List.range k).all (fitAt fs vs) = true /\ e = [(5, .sv (.one (.int .i64 k))), (2, .sv (.one (.bx [.str nm, .sl (fs.map encF), .int .i64 fi, .sl (ds.map encDf), .sl (es.map encEq)]))), (1, .sv (.one (.sl (vs.map encVl))))]) (min fs.length vs.length) _ ⟨0, by simp, by simp, rfl⟩ (by simp [go_sem]) ?_
 rintro n e ⟨k, hk, hall, rfl⟩
 by_cases hlt2 : k < vs.length
 ·by_cases hlt : k < fs.length
  ·have hat := fitAt_get hlt hlt2
   have hgk := good_kind (hg _ (List.getElem_mem hlt))
   have htk := ht _ (List.getElem_mem hlt2)
   obtain ⟨f, hfe⟩ : ∃ f, fs[k] = f := ⟨_, rfl⟩
   obtain ⟨v, hve⟩ : ∃ v, vs[k] = v := ⟨_, rfl⟩
   rw [hfe] at hgk
   rw [hve] at htk
   rw [hfe, hve] at hat
   have k94 := f94 f.kind f.lo f.hi v hgk htk
   rw [<- hat] at k94
   simp only [encVl] at k94
   cases hb : fitAt fs vs k with
   | false =>
     have hfv : fitV fs vs = false := by simp [fitV, range_all_no hlt hb]
     rw [hb] at k94
     refine wV (aN hlt <| aN hlt2 <| aN hfe <| aN hve <| aN encF.eq_1 encVl.eq_1) k94 ?_
     simp [go_sem, hfv]
   | true =>
     rw [hb] at k94
     refine wV (aN hlt <| aN hlt2 <| aN hfe <| aN hve <| aN encF.eq_1 encVl.eq_1) k94 ?_
     refine z_j (n - 1) _ (by omega) ⟨k + 1, by omega, ?_, rfl⟩ ?_
     ·rw [range_succ_all, hall, hb]; rfl
     ·simp [go_sem]
  ·have hne : ((vs.length : Int) == (fs.length : Int)) = false := by simp; omega
   have hfv : fitV fs vs = false := by
    unfold fitV
    simp only [Bool.and_eq_false_iff, decide_eq_false_iff_not]
    exact .inl (by omega)
   refine wX (aN hlt2 <| aN hlt hne) ?_
   simp [go_sem, hfv]
 ·by_cases hle : fs.length = vs.length
  ·have hne : ((vs.length : Int) == (fs.length : Int)) = true := by simp; omega
   have hke : k = fs.length := by omega
   rw [hke] at hall
   have hfv : fitV fs vs = true := by
    unfold fitV
    rw [hall]
    simp [hle]
   refine wX (aN hlt2 hne) ?_
   simp [go_sem, hfv]
  ·have hne : ((vs.length : Int) == (fs.length : Int)) = false := by simp; omega
   have hfv : fitV fs vs = false := by simp [fitV, hle]
   refine wX (aN hlt2 hne) ?_
   simp [go_sem, hfv]
theorem f97 (d : Dcl) (vs : List Vl) (hg : ∀ f ∈ d.fields, goodSort f = true) (ht : ∀ v ∈ vs, v.txt.size <= 1000000000000000) (hf : d.fields.length <= 1000000) (hv : vs.length <= 1000000000000000) : Impl Tryz.prog 97 [.ag (encD d), .one (.sl (vs.map encVl))] (.one (.one (.bool (fitV d.fields vs)))) := by
 obtain ⟨nm, fs, fi, ds, es⟩ := d
 simp only at hg hf ⊢
 refine impl_intro z97.f z97.b rfl z97.r z97.n z97.t z97.d (by simp) fun hs => ?_
 clear hs
 simp only [slotsOf, encD]
 conv => arg 2; reduce
 refine wN ?_
 refine z_k (fun n e => ∃ k : Nat, k + n = min fs.length vs.length /\ (List.range k).all (fitAt fs vs) = true /\ e = [(5, .sv (.one (.int .i64 k))), (2, .sv (.one (.bx [.str nm, .sl (fs.map encF), .int .i64 fi, .sl (ds.map encDf), .sl (es.map encEq)]))), (1, .sv (.one (.sl (vs.map encVl))))]) (min fs.length vs.length) _ ⟨0, by simp, by simp, rfl⟩ (by simp [go_sem]) ?_
 rintro n e ⟨k, hk, hall, rfl⟩
 by_cases hlt2 : k < vs.length
 ·by_cases hlt : k < fs.length
  ·have hat := fitAt_get hlt hlt2
   have hgk := good_kind (hg _ (List.getElem_mem hlt))
   have htk := ht _ (List.getElem_mem hlt2)
   obtain ⟨f, hfe⟩ : ∃ f, fs[k] = f := ⟨_, rfl⟩
   obtain ⟨v, hve⟩ : ∃ v, vs[k] = v := ⟨_, rfl⟩
   rw [hfe] at hgk
   rw [hve] at htk
   rw [hfe, hve] at hat
   have k94 := f94 f.kind f.lo f.hi v hgk htk
   rw [<- hat] at k94
   simp only [encVl] at k94
   cases hb : fitAt fs vs k with
   | false =>
     have hfv : fitV fs vs = false := by simp [fitV, range_all_no hlt hb]
     rw [hb] at k94
     refine wV (aN hlt <| aN hlt2 <| aN hfe <| aN hve <| aN encF.eq_1 encVl.eq_1) k94 ?_
     simp [go_sem, hfv]
   | true =>
     rw [hb] at k94
     refine wV (aN hlt <| aN hlt2 <| aN hfe <| aN hve <| aN encF.eq_1 encVl.eq_1) k94 ?_
     refine z_j (n - 1) _ (by omega) ⟨k + 1, by omega, ?_, rfl⟩ ?_
     ·rw [range_succ_all, hall, hb]; rfl
     ·simp [go_sem]
  ·have hne : ((vs.length : Int) == (fs.length : Int)) = false := by simp; omega
   have hfv : fitV fs vs = false := by
    unfold fitV
    simp only [Bool.and_eq_false_iff, decide_eq_false_iff_not]
    exact .inl (by omega)
   refine wX (aN hlt2 <| aN hlt hne) ?_
   simp [go_sem, hfv]
 ·by_cases hle : fs.length = vs.length
  ·have hne : ((vs.length : Int) == (fs.length : Int)) = true := by simp; omega
   have hke : k = fs.length := by omega
   rw [hke] at hall
   have hfv : fitV fs vs = true := by
    unfold fitV
    rw [hall]
    simp [hle]
   refine wX (aN hlt2 hne) ?_
   simp [go_sem, hfv]
  ·have hne : ((vs.length : Int) == (fs.length : Int)) = false := by simp; omega
   have hfv : fitV fs vs = false := by simp [fitV, hle]
   refine wX (aN hlt2 hne) ?_
   simp [go_sem, hfv]
theorem f63 (a b : List Vl) (ha : a.length <= 1000000000000000) (hb : b.length <= 1000000000000000) : Impl Tryz.prog 63 [.one (.sl (a.map encVl)), .one (.sl (b.map encVl))] (.one (.one (.bool (sameV a b)))) := by
 refine impl_v ?_
 by_cases hl : a.length = b.length
 rotate_left
 ·have hl' : ((a.length : Int) != (b.length : Int)) = true := by simp; omega
  have hf : sameV a b = false := by simp [sameV, hl]
  refine wX hl' ?_
  simp [go_sem, hf]
 have hl' : ((a.length : Int) != (b.length : Int)) = false := by simp [hl]
 refine wX hl' ?_
 refine z_k (fun n e => ∃ k : Nat, k + n = a.length /\ (List.range k).all (sameAt a b) = true /\ e = [(5, .sv (.one (.int .i64 k))), (0, .sv (.one (.sl (a.map encVl)))), (1, .sv (.one (.sl (b.map encVl))))]) a.length _ ⟨0, by simp, by simp, rfl⟩ (by simp [go_sem]) ?_
 rintro n e ⟨k, hk, hall, rfl⟩
 by_cases hlt : k < a.length
 ·have hlt2 : k < b.length := by omega
  have hat := sameAt_get hlt hlt2
  obtain ⟨u, hue⟩ : ∃ u, a[k] = u := ⟨_, rfl⟩
  obtain ⟨v, hve⟩ : ∃ v, b[k] = v := ⟨_, rfl⟩
  rw [hue, hve] at hat
  have hq : (!u.kind == v.kind || (!u.num == v.num || !u.txt == v.txt)) = !sameAt a b k := by
   rw [hat]
   unfold sameVl
   cases u.kind == v.kind <;> cases u.num == v.num <;> simp
  cases hb : sameAt a b k with
  | false =>
    rw [hb] at hq
    have hf : sameV a b = false := by simp [sameV, range_all_no hlt hb]
    refine wX (aN hlt <| aN hlt2 <| aN hue <| aN hve <| aN encVl.eq_1 hq) ?_
    all_goals simp [go_sem, hf]
  | true =>
    rw [hb] at hq
    refine wX (aN hlt <| aN hlt2 <| aN hue <| aN hve <| aN encVl.eq_1 hq) ?_
    refine z_j (n - 1) _ (by omega) ⟨k + 1, by omega, ?_, rfl⟩ ?_
    ·rw [range_succ_all, hall, hb]; rfl
    ·simp [go_sem]
 ·have hke : k = a.length := by omega
  rw [hke] at hall
  have hf : sameV a b = true := by
   unfold sameV
   rw [hall]
   simp [hl]
  refine wX hlt ?_
  simp [go_sem, hf]
set_option maxHeartbeats 64000000
theorem f61 (l : List Dcl) (hl : l.length <= 1000) (hf : ∀ d ∈ l, d.fields.length <= 100000) : Impl Tryz.prog 61 [.one (.sl (l.map encD))] (.one (.one (.ow 3 ((List.replicate (allF l).length zV).map encVl)))) := by
 have k93 := f93 l hl hf
 have hal := allF_le l hf
 have hrz : List.replicate (allF l).length [DV.int .i64 0, .int .i64 0, .str ⟨#[]⟩] = (List.replicate (allF l).length zV).map encVl := by
  rw [List.map_replicate]
  rfl
 refine impl_v ?_
 refine wC k93 ?_
 simp [go_sem, hrz]
def existsV (l : List Dcl) (lb : Int) : Bool := validD l && (decide (0 <= lb) && decide (lb < l.length))
theorem f95 (l : List Dcl) (lb : Int) (hl : l.length <= 1000) (hf : ∀ d ∈ l, d.fields.length <= 100000) (hdl : ∀ d ∈ l, d.diffs.length <= 1000000 /\ d.equals.length <= 1000000 /\ d.name.size <= 1000000000000000) : Impl Tryz.prog 95 [.one (.sl (l.map encD)), .one (.int .i64 lb)] (.one (.one (.bool (existsV l lb)))) := by
 have k109 := f109 l hl hf hdl
 unfold existsV
 obtain ⟨b, hb⟩ : ∃ b, validD l = b := ⟨_, rfl⟩
 rw [hb] at k109 ⊢
 refine impl_v ?_
 cases b with
 | false =>
   refine wC k109 ?_
   simp [go_sem]
 | true =>
   by_cases h0 : 0 <= lb
   ·refine wV h0 k109 ?_
    simp [go_sem, h0]
   ·refine wV h0 k109 ?_
    simp [go_sem, h0]
theorem f96 (l : List Dcl) (kn : List Vl) (hl : l.length <= 1000) (hf : ∀ d ∈ l, d.fields.length <= 100000) (hg : ∀ f ∈ allF l, goodSort f = true) (ht : ∀ v ∈ kn, v.txt.size <= 1000000000000000) (hk : kn.length <= 1000000) : Impl Tryz.prog 96 [.one (.sl (l.map encD)), .one (.sl (kn.map encVl))] (.one (.one (.bool (knownV (allF l) kn)))) := by
 have k93 := f93 l hl hf
 have k118 := f118 l
 have hal := allF_le l hf
 obtain ⟨all, hA⟩ : ∃ a, allF l = a := ⟨_, rfl⟩
 rw [hA] at hg hal k93 ⊢
 refine impl_v ?_
 by_cases hle : all.length = kn.length
 rotate_left
 ·have hl' : ((kn.length : Int) != (all.length : Int)) = true := by simp; omega
  have hkv : knownV all kn = false := by simp [knownV, hle]
  refine wV hl' k93 ?_
  simp [go_sem, hkv]
 have hl' : ((kn.length : Int) != (all.length : Int)) = false := by simp [hle]
 refine wV hl' k93 ?_
 refine z_k (fun n e => ∃ k : Nat, k + n = kn.length /\ (List.range k).all (knownAt all kn) = true /\ e = [(5, .sv (.one (.int .i64 k))), (1, .sv (.one (.sl (kn.map encVl)))), (0, .sv (.one (.sl (l.map encD))))]) kn.length _ ⟨0, by simp, by simp, rfl⟩ (by simp [go_sem]) ?_
 rintro n e ⟨k, hk2, hall, rfl⟩
 by_cases hlt : k < kn.length
 ·have hlt2 : k < all.length := by omega
  have hat := knownAt_get hlt2 hlt
  have hgk := good_kind (hg _ (List.getElem_mem hlt2))
  have htk := ht _ (List.getElem_mem hlt)
  have k118s := f118 l k hl hf (by rw [hA]; exact hlt2)
  have hel : (allF l)[k]'(by rw [hA]; exact hlt2) = all[k] := by subst hA; rfl
  rw [hel] at k118s
  obtain ⟨f, hfe⟩ : ∃ f, all[k] = f := ⟨_, rfl⟩
  obtain ⟨v, hve⟩ : ∃ v, kn[k] = v := ⟨_, rfl⟩
  rw [hfe] at hgk k118s
  rw [hve] at htk
  rw [hfe, hve] at hat
  have k94 := f94 f.kind f.lo f.hi v hgk htk
  simp only [encVl] at k94
  simp only [encF] at k118s
  have hq : ((!v.kind == 0 || (!v.num == 0 || !v.txt == (⟨#[]⟩ : ByteArray))) && !fitsV f.kind f.lo f.hi v) = !knownAt all kn k := by
   rw [hat]
   unfold isZ
   cases v.kind == 0 <;> cases v.num == 0 <;> cases v.txt == (⟨#[]⟩ : ByteArray) <;> simp
  cases hb : knownAt all kn k with
  | false =>
    rw [hb] at hq
    have hkv : knownV all kn = false := by simp [knownV, range_all_no hlt hb]
    refine wV (aN hlt <| aN hlt2 <| aN hve <| aN encVl.eq_1 hq) (aN k118s k94) ?_
    simp [go_sem, hkv]
  | true =>
    rw [hb] at hq
    refine wV (aN hlt <| aN hlt2 <| aN hve <| aN encVl.eq_1 hq) (aN k118s k94) ?_
    refine z_j (n - 1) _ (by omega) ⟨k + 1, by omega, ?_, rfl⟩ ?_
    ·rw [range_succ_all, hall, hb]; rfl
    ·simp [go_sem]
 ·have hke : k = kn.length := by omega
  rw [hke] at hall
  have hkv : knownV all kn = true := by
   unfold knownV
   rw [hall]
   simp [hle]
  refine wX hlt ?_
  simp [go_sem, hkv]
set_option maxHeartbeats 64000000
theorem behind_step {fi k : Nat} {vs kn : List Vl} (hk : k < vs.length) (hl : fi + vs.length <= kn.length) : (behindV fi (vs.take k) kn).set (fi + k) vs[k] = behindV fi (vs.take (k + 1)) kn := by
 have h1 : (vs.take k).length = k := by rw [List.length_take]; omega
 have h2 : (vs.take (k + 1)).length = k + 1 := by rw [List.length_take]; omega
 have h3 : (kn.take fi).length = fi := by rw [List.length_take]; omega
 have h4 : fi + k < kn.length := by omega
 unfold behindV
 rw [List.set_append_right _ _ (by omega), h3, Nat.add_sub_cancel_left, List.set_append_right _ _ (by omega), h1, Nat.sub_self, h2, List.drop_eq_getElem_cons h4, List.set_cons_zero, List.take_succ_eq_append_getElem hk, List.append_assoc]
 rfl
theorem f99 (d : Dcl) (fi : Nat) (vs kn : List Vl) (hf : d.first = fi) (hl : fi + vs.length <= kn.length) (hk : kn.length <= 1000000) : Impl Tryz.prog 99 [.ag (encD d), .one (.sl (vs.map encVl)), .one (.sl (kn.map encVl))] (.one (.one (.ow 3 ((behindV fi vs kn).map encVl)))) := by
 have hap := appendOk_v (l := []) (m := kn) (by simp; omega)
 simp only [List.map_nil] at hap
 refine impl_intro z99.f z99.b rfl z99.r z99.n z99.t z99.d (by simp) fun hs => ?_
 clear hs
 simp only [slotsOf, encD, hf]
 conv => arg 2; reduce
 refine z_l [(6, .sv (.one .nil)), (3, .sv (.one (.bx [.str d.name, .sl (d.fields.map encF), .int .i64 fi, .sl (d.diffs.map encDf), .sl (d.equals.map encEq)]))), (2, .sv (.one (.sl (kn.map encVl)))), (1, .sv (.one (.sl (vs.map encVl))))] ?_ ?_
 ·refine wN ?_
  refine z_m ?_
  simp [go_sem]
 refine z_l [(7, .sv (.one (.ow 3 (kn.map encVl)))), (6, .sv (.one .nil)), (3, .sv (.one (.bx [.str d.name, .sl (d.fields.map encF), .int .i64 fi, .sl (d.diffs.map encDf), .sl (d.equals.map encEq)]))), (1, .sv (.one (.sl (vs.map encVl))))] ?_ ?_
 ·refine wX hap ?_
  refine z_m ?_
  simp [go_sem]
 have hb0 : behindV fi (vs.take 0) kn = kn := by simp [behindV]
 refine wN ?_
 refine z_k (fun n e => ∃ (k : Nat) (B : List Vl), k + n = vs.length /\ behindV fi (vs.take k) kn = B /\ e = [(8, .sv (.one (.int .i64 k))), (7, .sv (.one (.ow 3 (B.map encVl)))), (3, .sv (.one (.bx [.str d.name, .sl (d.fields.map encF), .int .i64 fi, .sl (d.diffs.map encDf), .sl (d.equals.map encEq)]))), (1, .sv (.one (.sl (vs.map encVl))))]) vs.length _ ⟨0, kn, by simp, hb0, rfl⟩ (by simp [go_sem]) ?_
 rintro n e ⟨k, B, hkn, hB, rfl⟩
 by_cases hlt : k < vs.length
 ·have hst := behind_step hlt hl
  have hBl : B.length = kn.length := by
   rw [<- hB]
   exact behind_len (by rw [List.length_take]; omega)
  have hix : (fi : Int) + (k : Int) = ((fi + k : Nat) : Int) := by omega
  have hix2 : ((fi : Int) + (k : Int)).toNat = fi + k := by omega
  have hbl : fi + k < B.length := by omega
  obtain ⟨v, hve⟩ : ∃ v, vs[k] = v := ⟨_, rfl⟩
  obtain ⟨B2, hB2⟩ : ∃ B2, behindV fi (vs.take (k + 1)) kn = B2 := ⟨_, rfl⟩
  rw [hB, hve, hB2] at hst
  have hs1 : (B.map encVl).set (fi + k) [.int .i64 v.kind, .int .i64 v.num, .str v.txt] = B2.map encVl := by
   rw [show [DV.int .i64 v.kind, .int .i64 v.num, .str v.txt] = encVl v from rfl, <- List.map_set, hst]
  refine wX (aN hlt <| aN hve <| aN hix2 <| aN hbl <| aN hs1 encVl.eq_1) ?_
  refine z_j (n - 1) _ (by omega) ⟨k + 1, B2, by omega, hB2, rfl⟩ ?_
  simp [go_sem, hs1]
 ·have hke : k = vs.length := by omega
  subst hke
  rw [List.take_length] at hB
  refine wX hlt ?_
  simp [go_sem, hB]
set_option maxHeartbeats 64000000
theorem f98 (ds : List Dff) (es : List (Int × Int)) (vs : List Vl) (hin : InV vs ds es) (hb : ∀ v ∈ vs, -1000000 <= numV v /\ numV v <= 1000000) (hd : ds.length <= 1000000) (he : es.length <= 1000000) (hv : vs.length <= 1000000) :
  Impl Tryz.prog 98 [.ag [.sl (ds.map encDf), .sl (es.map encEq)], .one (.sl (vs.map encVl))] (.one (.one (.bool (fulfilsV ds es vs)))) := by
 have k117 := f117
 simp only [encVl] at k117
 refine impl_v ?_
 refine wN ?_
 refine z_k (fun n e => ∃ k : Nat, k + n = ds.length /\ (ds.take k).all (diffOk vs) = true /\ e = [(5, .sv (.one (.int .i64 k))), (2, .sv (.one (.bx [.sl (ds.map encDf), .sl (es.map encEq)]))), (1, .sv (.one (.sl (vs.map encVl))))]) ds.length _ ⟨0, by simp, by simp, rfl⟩ (by simp [go_sem]) ?_
 rintro n e ⟨k, hk, hall, rfl⟩
 by_cases hlt : k < ds.length
 ·obtain ⟨d, hde⟩ : ∃ d, ds[k] = d := ⟨_, rfl⟩
  have hdm := hin.1 d (hde ▸ List.getElem_mem hlt)
  have hsc := all_succ2 (p := diffOk vs) hlt
  rw [hde, hall, Bool.true_and] at hsc
  have hno : diffOk vs d = false -> fulfilsV ds es vs = false := fun h => by
   have := all_not (p := diffOk vs) hlt (by rw [hde]; exact h)
   simp [fulfilsV, this]
  have hnb : ∀ x : Int, x < vs.length -> -1000000 <= nOf vs x /\ nOf vs x <= 1000000 := fun x hx => by
   unfold nOf
   split
   ·omega
   ·rw [vAt_get (by omega) (by omega)]
    exact hb _ (List.getElem_mem _)
  have hba := hnb d.x hdm.1
  have hbb := hnb d.y hdm.2
  obtain ⟨a, hax⟩ : ∃ a, nOf vs d.x = a := ⟨_, rfl⟩
  obtain ⟨b, hby⟩ : ∃ b, nOf vs d.y = b := ⟨_, rfl⟩
  rw [hax] at hba
  rw [hby] at hbb
  have hw : IntKind.i64.wrap (a - b) = a - b := z_h (by omega) (by omega)
  refine z_l [(16, .sv (.one (.bool true))), (5, .sv (.one (.int .i64 k))), (2, .sv (.one (.bx [.sl (ds.map encDf), .sl (es.map encEq)]))), (1, .sv (.one (.sl (vs.map encVl))))] ?_ ?_
  ·refine wX hlt ?_
   refine z_m ?_
   simp [go_sem]
  refine z_A ?_
  refine z_C ?_
  refine z_l [(6, .sv (.one (.bx [.int .i64 d.x, .int .i64 d.y, .int .i64 d.c]))), (5, .sv (.one (.int .i64 k))), (2, .sv (.one (.bx [.sl (ds.map encDf), .sl (es.map encEq)]))), (1, .sv (.one (.sl (vs.map encVl))))] ?_ ?_
  ·refine wX (aN hlt <| aN hde encDf.eq_1) ?_
   refine z_m ?_
   simp [go_sem]
  refine z_l [(8, .sv (.one (.int .i64 0))), (7, .sv (.one (.int .i64 0))), (6, .sv (.one (.bx [.int .i64 d.x, .int .i64 d.y, .int .i64 d.c]))), (5, .sv (.one (.int .i64 k))), (2, .sv (.one (.bx [.sl (ds.map encDf), .sl (es.map encEq)]))), (1, .sv (.one (.sl (vs.map encVl))))] ?_ ?_
  ·refine wN ?_
   refine z_m ?_
   simp [go_sem]
  refine z_l [(8, .sv (.one (.int .i64 0))), (7, .sv (.one (.int .i64 a))), (6, .sv (.one (.bx [.int .i64 d.x, .int .i64 d.y, .int .i64 d.c]))), (5, .sv (.one (.int .i64 k))), (2, .sv (.one (.bx [.sl (ds.map encDf), .sl (es.map encEq)]))), (1, .sv (.one (.sl (vs.map encVl))))] ?_ ?_
  ·by_cases hx : d.x < 0
   ·have hx1 : ¬ 0 <= d.x := by omega
    have hz : a = 0 := by rw [<- hax]; simp [nOf, hx]
    refine wX hx1 ?_
    refine z_m ?_
    simp [go_sem, hz]
   ·have hx0 : 0 <= d.x := by omega
    have hxl : (d.x).toNat < vs.length := by omega
    have hva := vAt_get hx0 hxl
    obtain ⟨v, hve⟩ : ∃ v, vs[(d.x).toNat] = v := ⟨_, rfl⟩
    rw [hve] at hva
    have hz : numV v = a := by rw [<- hax]; simp [nOf, hx, hva]
    have k117s := k117 v
    rw [hz] at k117s
    refine wV (aN hx0 <| aN hxl <| aN hve encVl.eq_1) k117s ?_
    refine z_m ?_
    simp [go_sem]
  refine z_l [(8, .sv (.one (.int .i64 b))), (7, .sv (.one (.int .i64 a))), (6, .sv (.one (.bx [.int .i64 d.x, .int .i64 d.y, .int .i64 d.c]))), (5, .sv (.one (.int .i64 k))), (2, .sv (.one (.bx [.sl (ds.map encDf), .sl (es.map encEq)]))), (1, .sv (.one (.sl (vs.map encVl))))] ?_ ?_
  ·by_cases hx : d.y < 0
   ·have hx1 : ¬ 0 <= d.y := by omega
    have hz : b = 0 := by rw [<- hby]; simp [nOf, hx]
    refine wX hx1 ?_
    refine z_m ?_
    simp [go_sem, hz]
   ·have hx0 : 0 <= d.y := by omega
    have hxl : (d.y).toNat < vs.length := by omega
    have hva := vAt_get hx0 hxl
    obtain ⟨v, hve⟩ : ∃ v, vs[(d.y).toNat] = v := ⟨_, rfl⟩
    rw [hve] at hva
    have hz : numV v = b := by rw [<- hby]; simp [nOf, hx, hva]
    have k117s := k117 v
    rw [hz] at k117s
    refine wV (aN hx0 <| aN hxl <| aN hve encVl.eq_1) k117s ?_
    refine z_m ?_
    simp [go_sem]
  by_cases hvn : vs.length = 0
  ·have hx : d.x < 0 := by omega
   have hy : d.y < 0 := by omega
   have hx1 : ¬ 0 <= d.x := by omega
   have hy1 : ¬ 0 <= d.y := by omega
   have hxz : d.x.toNat = 0 := by omega
   have hyz : d.y.toNat = 0 := by omega
   have hv0 : vs = [] := List.eq_nil_of_length_eq_zero hvn
   subst hv0
   by_cases hc : a - b <= d.c
   ·have hc' : ¬ d.c < a - b := by omega
    have hdo : diffOk [] d = true := by simp [diffOk, kOk, hx, hy, hax, hby, hc]
    rw [hdo] at hsc
    refine wX (aN hx1 <| aN hy1 <| aN hxz <| aN hyz <| aN hw hc') ?_
    refine z_j (n - 1) _ (by omega) ⟨k + 1, by omega, hsc, rfl⟩ ?_
    simp [go_sem]
   ·have hc' : d.c < a - b := by omega
    have hf := hno (by simp [diffOk, hax, hby, hc])
    refine wX (aN hx1 <| aN hy1 <| aN hxz <| aN hyz <| aN hw hc') ?_
    simp [go_sem, hf]
  ·have hxl : d.x.toNat < vs.length := by omega
   have hyl : d.y.toNat < vs.length := by omega
   obtain ⟨u, hue⟩ : ∃ v, vs[d.x.toNat] = v := ⟨_, rfl⟩
   obtain ⟨v, hve⟩ : ∃ v, vs[d.y.toNat] = v := ⟨_, rfl⟩
   have hkx : kOk vs d.x = !(decide (0 <= d.x) && u.kind == 0) := by
    unfold kOk
    split
    ·have : ¬ 0 <= d.x := by omega
     simp [this]
    ·have h0 : 0 <= d.x := by omega
     rw [vAt_get h0 hxl, hue]
     simp [h0]
   have hky : kOk vs d.y = !(decide (0 <= d.y) && v.kind == 0) := by
    unfold kOk
    split
    ·have : ¬ 0 <= d.y := by omega
     simp [this]
    ·have h0 : 0 <= d.y := by omega
     rw [vAt_get h0 hyl, hve]
     simp [h0]
   have hq : (decide (0 <= d.x) && u.kind == 0 || decide (0 <= d.y) && v.kind == 0 || decide (d.c < a - b)) = !diffOk vs d := by
    have hdc : decide (a - b <= d.c) = !decide (d.c < a - b) := by
     by_cases hc : a - b <= d.c
     ·have hc' : ¬ d.c < a - b := by omega
      simp [hc, hc']
     ·have hc' : d.c < a - b := by omega
      simp [hc, hc']
    unfold diffOk
    rw [hkx, hky, hax, hby, hdc]
    cases (decide (0 <= d.x) && u.kind == 0) <;> cases (decide (0 <= d.y) && v.kind == 0) <;> cases decide (d.c < a - b) <;> rfl
   cases hbd : diffOk vs d with
   | false =>
     have hf := hno hbd
     rw [hbd] at hq
     refine wX (aN hxl <| aN hyl <| aN hue <| aN hve <| aN encVl.eq_1 <| aN hw hq) ?_
     simp [go_sem, hf]
   | true =>
     rw [hbd] at hq hsc
     refine wX (aN hxl <| aN hyl <| aN hue <| aN hve <| aN encVl.eq_1 <| aN hw hq) ?_
     refine z_j (n - 1) _ (by omega) ⟨k + 1, by omega, hsc, rfl⟩ ?_
     simp [go_sem]
 ·have hkl : ds.take k = ds := List.take_of_length_le (by omega)
  rw [hkl] at hall
  refine wX hlt ?_
  refine z_k (fun n e => ∃ j : Nat, j + n = es.length /\ (es.take j).all (eqOk vs) = true /\ e = [(9, .sv (.one (.int .i64 j))), (2, .sv (.one (.bx [.sl (ds.map encDf), .sl (es.map encEq)]))), (1, .sv (.one (.sl (vs.map encVl))))]) es.length _ ⟨0, by simp, by simp, rfl⟩ (by simp [go_sem]) ?_
  rintro n e ⟨j, hj, hal2, rfl⟩
  by_cases hlj : j < es.length
  ·obtain ⟨q, hqe⟩ : ∃ q, es[j] = q := ⟨_, rfl⟩
   have hsc := all_succ2 (p := eqOk vs) hlj
   rw [hqe, hal2, Bool.true_and] at hsc
   obtain ⟨q1, q2, q3, q4⟩ := hin.2 q (hqe ▸ List.getElem_mem hlj)
   have q2' : q.1.toNat < vs.length := by omega
   have q4' : q.2.toNat < vs.length := by omega
   have hv1 := vAt_get q1 q2'
   have hv2 := vAt_get q3 q4'
   obtain ⟨u, hue⟩ : ∃ v, vs[q.1.toNat] = v := ⟨_, rfl⟩
   obtain ⟨v, hve⟩ : ∃ v, vs[q.2.toNat] = v := ⟨_, rfl⟩
   rw [hue] at hv1
   rw [hve] at hv2
   have heo : eqOk vs q = (!(u.kind == 0) && (!(v.kind == 0) && u.txt == v.txt)) := by unfold eqOk; rw [hv1, hv2]
   have hq : (u.kind == 0 || v.kind == 0 || !u.txt == v.txt) = !eqOk vs q := by
    rw [heo]
    cases u.kind == 0 <;> cases v.kind == 0 <;> simp
   cases hbq : eqOk vs q with
   | false =>
     rw [hbq] at hq
     have hf : fulfilsV ds es vs = false := by
      have := all_not (p := eqOk vs) hlj (by rw [hqe]; exact hbq)
      simp [fulfilsV, this]
     refine wX (aN hlj <| aN hqe <| aN encEq.eq_1 <| aN encVl.eq_1 <| aN q1 <| aN q2' <| aN q3 <| aN q4' <| aN hue <| aN hve hq) ?_
     simp [go_sem, hf]
   | true =>
     rw [hbq] at hq hsc
     refine wX (aN hlj <| aN hqe <| aN encEq.eq_1 <| aN encVl.eq_1 <| aN q1 <| aN q2' <| aN q3 <| aN q4' <| aN hue <| aN hve hq) ?_
     refine z_j (n - 1) _ (by omega) ⟨j + 1, by omega, hsc, rfl⟩ ?_
     simp [go_sem]
  ·have hjl : es.take j = es := List.take_of_length_le (by omega)
   rw [hjl] at hal2
   have hf : fulfilsV ds es vs = true := by simp only [fulfilsV, hall, hal2, Bool.and_self]
   refine wX hlj ?_
   simp [go_sem, hf]
set_option maxHeartbeats 64000000
structure DeclsB (l : List Dcl) : Prop where
 len : l.length <= 1000
 fields : ∀ d ∈ l, d.fields.length <= 100000
 rest : ∀ d ∈ l, d.diffs.length <= 1000000 /\ d.equals.length <= 1000000 /\ d.name.size <= 1000000000000000
def TxtOk (vs : List Vl) : Prop := ∀ v ∈ vs, v.txt.size <= 1000000000000000
theorem f64 (l : List Dcl) (i : Nat) (vs kn : List Vl) (hi : i < l.length) (hv : validD l = true) (hb : DeclsB l) (hvt : TxtOk vs) (hkt : TxtOk kn) (hvl : vs.length <= 1000000000000000) (hkl : kn.length <= 1000000) :
  Impl Tryz.prog 64 [.one (.sl (l.map encD)), .one (.int .i64 i), .one (.sl (vs.map encVl)), .one (.sl (kn.map encVl))] (.one (.one (.bool (checkV l i vs kn)))) := by
 have k95 := f95 l i hb.len hb.fields hb.rest
 have he : existsV l i = true := by simp [existsV, hv, hi]
 rw [he] at k95
 have k96 := f96 l kn hb.len hb.fields (all_good hv) hkt hkl
 have hpv : properV l i kn = knownV (allF l) kn := by simp [properV, hv, hi]
 obtain ⟨fi, hfi, hfl⟩ := first_in hv hi
 have hdl : l[i] ∈ l := List.getElem_mem hi
 obtain ⟨d, hd⟩ : ∃ d, l[i] = d := ⟨_, rfl⟩
 rw [hd] at hdl hfi hfl
 have hdm := hb.fields d hdl
 have hck : checkV l (i : Int) vs kn = (knownV (allF l) kn && (fitV d.fields vs && fulfilsV d.diffs d.equals (behindV fi vs kn))) := by
  unfold checkV
  rw [hpv, Int.toNat_natCast, List.getElem?_eq_getElem hi, hd]
  simp only [hfi, Int.toNat_natCast]
 have k97 := f97 d vs (fields_good (decl_fields hv d hdl)) hvt (by omega) hvl
 rw [hck]
 refine impl_v ?_
 cases hkv : knownV (allF l) kn with
 | false =>
   rw [hkv] at k96
   refine wV (aN hi <| aN hd encD.eq_1) (aN k95 k96) ?_
   simp [go_sem]
 | true =>
   rw [hkv] at k96
   cases hfv : fitV d.fields vs with
   | false =>
     rw [hfv] at k97
     simp only [encD] at k97
     refine wV (aN hi <| aN hd encD.eq_1) (aN k95 <| aN k96 k97) ?_
     simp [go_sem]
   | true =>
     rw [hfv] at k97
     have hvl2 : vs.length = d.fields.length := by
      unfold fitV at hfv
      simp only [Bool.and_eq_true, decide_eq_true_eq] at hfv
      omega
     have hkl2 : (allF l).length = kn.length := by
      have h3 := hkv
      unfold knownV at h3
      simp only [Bool.and_eq_true, decide_eq_true_eq] at h3
      exact h3.1
     have hbl := behind_len (fi := fi) (vs := vs) (kn := kn) (by omega)
     obtain ⟨g1, g2, g3⟩ := guard_vars hv hdl (vs := behindV fi vs kn) (by omega)
     have hnum : ∀ v ∈ behindV fi vs kn, -1000000 <= numV v /\ numV v <= 1000000 := fun v hv' => by
      rcases behind_mem hv' with h | h
      ·exact fit_num (fields_good (decl_fields hv d hdl)) hfv v h
      ·exact known_num (all_good hv) hkv v h
     have k99 := f99 d fi vs kn hfi (by omega) hkl
     have k98 := f98 d.diffs d.equals (behindV fi vs kn) g1 hnum (by omega) (by omega) (by omega)
     simp only [encD] at k97 k99
     refine wV (aN hi <| aN hd encD.eq_1) (aN k95 <| aN k96 <| aN k97 <| aN k98 k99) ?_
     simp [go_sem]
theorem f66 (l : List Dcl) (i : Nat) (vs kn : List Vl) (hi : i < l.length) (hv : validD l = true) (hb : DeclsB l) (hvt : TxtOk vs) (hkt : TxtOk kn) (hvl : vs.length <= 1000000000000000) (hkl : kn.length <= 1000000) :
  Impl Tryz.prog 66 [.one (.sl (l.map encD)), .one (.int .i64 i), .one (.sl (vs.map encVl)), .one (.sl (kn.map encVl))] (.tup [.one (resV (learnV l i vs kn).1), .one (.int .i64 (learnV l i vs kn).2)]) := by
 have k95 := f95 l i hb.len hb.fields hb.rest
 have he : existsV l i = true := by simp [existsV, hv, hi]
 rw [he] at k95
 have k96 := f96 l kn hb.len hb.fields (all_good hv) hkt hkl
 have hpv : properV l i kn = knownV (allF l) kn := by simp [properV, hv, hi]
 obtain ⟨fi, hfi, hfl⟩ := first_in hv hi
 have hdl : l[i] ∈ l := List.getElem_mem hi
 obtain ⟨d, hd⟩ : ∃ d, l[i] = d := ⟨_, rfl⟩
 rw [hd] at hdl hfi hfl
 have hdm := hb.fields d hdl
 have hlv : learnV l (i : Int) vs kn = if knownV (allF l) kn then (if fitV d.fields vs then (some (behindV fi vs kn), 0) else (none, 11)) else (none, 1) := by
  unfold learnV
  rw [hpv, Int.toNat_natCast, List.getElem?_eq_getElem hi, hd]
  simp only [hfi, Int.toNat_natCast]
 have k97 := f97 d vs (fields_good (decl_fields hv d hdl)) hvt (by omega) hvl
 rw [hlv]
 refine impl_v ?_
 cases hkv : knownV (allF l) kn with
 | false =>
   rw [hkv] at k96
   refine wV (aN hi <| aN hd encD.eq_1) (aN k95 k96) ?_
   simp [go_sem, resV]
 | true =>
   rw [hkv] at k96
   cases hfv : fitV d.fields vs with
   | false =>
     rw [hfv] at k97
     simp only [encD] at k97
     refine wV (aN hi <| aN hd encD.eq_1) (aN k95 <| aN k96 k97) ?_
     simp [go_sem, resV]
   | true =>
     rw [hfv] at k97
     have hvl2 : vs.length = d.fields.length := by
      unfold fitV at hfv
      simp only [Bool.and_eq_true, decide_eq_true_eq] at hfv
      omega
     have hkl2 : (allF l).length = kn.length := by
      have h3 := hkv
      unfold knownV at h3
      simp only [Bool.and_eq_true, decide_eq_true_eq] at h3
      exact h3.1
     have k99 := f99 d fi vs kn hfi (by omega) hkl
     simp only [encD] at k97 k99
     refine wV (aN hi <| aN hd encD.eq_1) (aN k95 <| aN k96 <| aN k97 k99) ?_
     simp [go_sem, resV]
set_option maxHeartbeats 64000000
def againE (g : Glob) (r : Nat) (k : Int) : List Bool := match g.edges[k.toNat]? with
 | some x => (if x.act.from_ == (r : Int) then [x.again] else []) ++ (if x.act.to == (r : Int) then [false] else [])
 | none => []
def againV (g : Glob) (l : List Int) (r : Nat) : List Bool := l.flatMap (againE g r)
theorem again_len (g : Glob) (r : Nat) : ∀ l : List Int, (againV g l r).length <= 2 * l.length
 | [] => by simp [againV]
 | k :: l => by
   have := again_len g r l
   have h : (againE g r k).length <= 2 := by
    unfold againE
    split
    ·split <;> split <;> simp
    ·simp
   simp only [againV, List.flatMap_cons, List.length_append, List.length_cons] at this ⊢
   omega
theorem appendOk_b (A : List Bool) (b : Bool) (h : A.length <= 100000000) : z_f 1 1 (A.map encBo2) [[.bool b]] := by
 refine ⟨?_, ?_, by omega, ?_, ?_⟩
 ·intro e he
  have h1 : e = [.bool b] := by simpa using he
  subst h1
  rfl
 ·intro e he
  have h1 : e = [.bool b] := by simpa using he
  subst h1
  rfl
 ·simp only [List.length_map, List.length_singleton, maxLen]; omega
 ·simp only [List.length_map, List.length_singleton]; omega
theorem again_step {g : Glob} {l : List Int} {r k : Nat} (h : k < l.length) : againV g (l.take (k + 1)) r = againV g (l.take k) r ++ againE g r l[k] := by
 unfold againV
 rw [List.take_succ_eq_append_getElem h, List.flatMap_append]
 simp
theorem f36 (g : Glob) (l : List Int) (r n : Nat) (hl : l.length <= 1000000) (hk : ∀ k ∈ l, 0 <= k /\ k.toNat < g.edges.length) (hft : ∀ x ∈ g.edges, x.act.from_ ≠ x.act.to) (hn : n <= (againV g l r).length) :
  Impl Tryz.prog 36 [.ag (encG g), .one (.sl (l.map encN)), .one (.int .i64 r), .one (.int .i64 n)] (.one (.one (.ow 1 (((againV g l r).take n).map encBo2)))) := by
 refine impl_v ?_
 refine z_l [(4, .sv (.one (.bx (encG g)))), (3, .sv (.one (.int .i64 n))), (2, .sv (.one (.int .i64 r))), (1, .sv (.one (.sl (l.map encN))))] ?_ ?_
 ·refine wX encG.eq_1 ?_
  refine z_m ?_
  simp [go_sem, encG]
 refine wN ?_
 refine z_k (fun m e => ∃ (k : Nat) (A : List Bool), k + m = l.length /\ againV g (l.take k) r = A /\ e = [(10, .sv (.one (.int .i64 k))), (9, .sv (.one (.ow 1 (A.map encBo2)))), (4, .sv (.one (.bx (encG g)))), (3, .sv (.one (.int .i64 n))), (2, .sv (.one (.int .i64 r))), (1, .sv (.one (.sl (l.map encN))))]) l.length _ ⟨0, [], by simp, by simp [againV], rfl⟩ (by simp [go_sem, encG]) ?_
 rintro m e ⟨k, A, hkm, hA, rfl⟩
 by_cases hlt : k < l.length
 ·obtain ⟨z, hz⟩ : ∃ z, l[k] = z := ⟨_, rfl⟩
  obtain ⟨hz0, hz1⟩ := hk z (hz ▸ List.getElem_mem hlt)
  obtain ⟨x, hx⟩ : ∃ x, g.edges[z.toNat] = x := ⟨_, rfl⟩
  have hne := hft x (hx ▸ List.getElem_mem hz1)
  have hst := again_step (g := g) (r := r) hlt
  rw [hA, hz] at hst
  have hae : againE g r z = (if x.act.from_ == (r : Int) then [x.again] else []) ++ (if x.act.to == (r : Int) then [false] else []) := by
   unfold againE
   rw [List.getElem?_eq_getElem hz1, hx]
  have hAl := again_len g r (l.take k)
  rw [hA, List.length_take] at hAl
  have hap := fun b => appendOk_b A b (by omega)
  rw [hae] at hst
  by_cases c1 : x.act.from_ = r
  ·have c2 : ¬ x.act.to = r := fun h => hne (c1.trans h.symm)
   have c2b : (x.act.to == (r : Int)) = false := by simpa using c2
   have c1b : (x.act.from_ == (r : Int)) = true := by simpa using c1
   rw [c1b, c2b] at hst
   simp only [if_true, Bool.false_eq_true, if_false, List.append_nil] at hst
   refine wX (aN hlt <| aN hz <| aN hz0 <| aN hz1 <| aN hx <| aN encN.eq_1 <| aN encEd.eq_1 <| aN encG.eq_1 <| aN hap <| aN c1b c2b) ?_
   refine z_j (m - 1) _ (by omega) ⟨k + 1, A ++ [x.again], by omega, hst, rfl⟩ ?_
   simp [go_sem, encG, encBo2]
  ·have c1b : (x.act.from_ == (r : Int)) = false := by simpa using c1
   by_cases c2 : x.act.to = r
   ·have c2b : (x.act.to == (r : Int)) = true := by simpa using c2
    rw [c1b, c2b] at hst
    simp only [if_true, Bool.false_eq_true, if_false, List.nil_append] at hst
    refine wX (aN hlt <| aN hz <| aN hz0 <| aN hz1 <| aN hx <| aN encN.eq_1 <| aN encEd.eq_1 <| aN encG.eq_1 <| aN hap <| aN c1b c2b) ?_
    refine z_j (m - 1) _ (by omega) ⟨k + 1, A ++ [false], by omega, hst, rfl⟩ ?_
    simp [go_sem, encG, encBo2]
   ·have c2b : (x.act.to == (r : Int)) = false := by simpa using c2
    rw [c1b, c2b] at hst
    simp only [Bool.false_eq_true, if_false, List.append_nil] at hst
    refine wX (aN hlt <| aN hz <| aN hz0 <| aN hz1 <| aN hx <| aN encN.eq_1 <| aN encEd.eq_1 <| aN encG.eq_1 <| aN hap <| aN c1b c2b) ?_
    refine z_j (m - 1) _ (by omega) ⟨k + 1, A, by omega, hst, rfl⟩ ?_
    simp [go_sem, encG, encBo2]
 ·have hke : k = l.length := by omega
  subst hke
  rw [List.take_length] at hA
  subst hA
  repeat' first | refine St.go ?_ | ((with_reducible refine cn ?_ ?_) <;> intro h <;> (try simp at h) <;> try omega) | (refine Ru.go ?_; intro K hK; simp [go_sem, hlt, hn]; (try simp (disch := omega) only [wx, z_i]); (first | apply hK | refine ⟨by first | omega | (simp [z_f, z_g, hlt, hn]; first | done | omega), ?_⟩ | refine ⟨hK _ ?_, fun h => ?_⟩ | refine ⟨?_, ?_⟩); all_goals ((try apply hK); clear hK K))
  all_goals first | (rintro e (⟨_, rfl⟩ | ⟨_, rfl⟩) <;> rfl) | simp [go_sem]
set_option maxHeartbeats 64000000
theorem behind_get {fi k : Nat} {vs kn : List Vl} (hl : fi + vs.length <= kn.length) : (behindV fi vs kn)[k]? = if fi <= k /\ k < fi + vs.length then vs[k - fi]? else kn[k]? := by
 have h3 : (kn.take fi).length = fi := by rw [List.length_take]; omega
 unfold behindV
 by_cases h1 : k < fi
 ·rw [List.getElem?_append_left (by omega), if_neg (by omega), List.getElem?_take_of_lt h1]
 ·rw [List.getElem?_append_right (by omega), h3]
  by_cases h2 : k < fi + vs.length
  ·rw [List.getElem?_append_left (by omega), if_pos ⟨by omega, h2⟩]
  ·rw [List.getElem?_append_right (by omega), if_neg (by omega), List.getElem?_drop]
   congr 1
   omega
theorem first_at {l : List Dcl} (hv : validD l = true) {i : Nat} (h : i < l.length) : l[i].first = ((allF (l.take i)).length : Nat) := by
 unfold validD at hv
 simp only [Bool.and_eq_true, decide_eq_true_eq, List.all_eq_true, List.mem_range] at hv
 have h1 := hv.2 i h
 rw [okDeclAt_get h] at h1
 simp only [Bool.and_eq_true, decide_eq_true_eq] at h1
 exact h1.1.1.1.2
theorem learn_known {l : List Dcl} {lb : Int} {vs kn kn' : List Vl} {e : Int} (h : learnV l lb vs kn = (some kn', e)) : knownV (allF l) kn' = true := by
 unfold learnV at h
 cases hd : l[lb.toNat]? with
 | none => rw [hd] at h; cases h
 | some d =>
   rw [hd] at h
   simp only at h
   cases hp : properV l lb kn with
   | false => rw [hp] at h; cases h
   | true =>
     rw [hp] at h
     cases hf : fitV d.fields vs with
     | false => rw [hf] at h; cases h
     | true =>
       rw [hf] at h
       simp only [if_true] at h
       injection h with h _
       injection h with h
       subst h
       obtain ⟨h0, h1, hv, hk⟩ := proper_facts hp
       have hi : lb.toNat < l.length := by omega
       have hfa := first_at hv hi
       obtain ⟨fi, hfi, hfl⟩ := first_in hv hi
       have hat : ∀ y, (hy : y < l[lb.toNat].fields.length) -> (allF l)[(allF (l.take lb.toNat)).length + y]? = some l[lb.toNat].fields[y] := fun y hy => allF_at hi hy
       rw [List.getElem?_eq_getElem hi] at hd
       injection hd with hd
       rw [hd] at hfa hfi hfl
       have hff : (allF (l.take lb.toNat)).length = fi := by omega
       rw [hff] at hat
       rw [hfi, Int.toNat_natCast]
       unfold fitV at hf
       unfold knownV at hk ⊢
       simp only [Bool.and_eq_true, decide_eq_true_eq, List.all_eq_true, List.mem_range] at hf hk ⊢
       have hbl : fi + vs.length <= kn.length := by omega
       rw [behind_len hbl]
       refine ⟨hk.1, fun k hkl => ?_⟩
       unfold knownAt
       rw [behind_get hbl]
       by_cases hr : fi <= k /\ k < fi + vs.length
       ·rw [if_pos hr]
        have hy : k - fi < d.fields.length := by omega
        have hy2 : k - fi < vs.length := by omega
        have h2 := hf.2 (k - fi) hy
        rw [fitAt_get hy hy2] at h2
        have h3 := hat (k - fi) (by rw [hd]; exact hy)
        have h4 : fi + (k - fi) = k := by omega
        rw [h4] at h3
        rw [h3, List.getElem?_eq_getElem hy2]
        simp only [hd, h2, Bool.or_true]
       ·rw [if_neg hr]
        exact hk.2 k hkl
theorem txt_learn {l : List Dcl} {lb : Int} {vs kn kn' : List Vl} {e : Int} (h : learnV l lb vs kn = (some kn', e)) (hv : TxtOk vs) (hk : TxtOk kn) : TxtOk kn' := by
 unfold learnV at h
 cases hd : l[lb.toNat]? with
 | none => rw [hd] at h; cases h
 | some d =>
   rw [hd] at h
   simp only at h
   split at h
   ·split at h
    ·injection h with h _
     injection h with h
     subst h
     intro v hvm
     rcases behind_mem hvm with h | h
     ·exact hv v h
     ·exact hk v h
    ·cases h
   ·cases h
theorem known_zero (fs : List Fld) : knownV fs (List.replicate fs.length zV) = true := by
 unfold knownV
 simp only [Bool.and_eq_true, decide_eq_true_eq, List.all_eq_true, List.mem_range, List.length_replicate, true_and]
 intro k hk
 have hk2 : k < (List.replicate fs.length zV).length := by simpa using hk
 have hz : (List.replicate fs.length zV)[k] = zV := List.eq_of_mem_replicate (List.getElem_mem hk2)
 rw [knownAt_get hk hk2, hz]
 have : isZ zV = true := by
  unfold isZ zV
  simp [bytes_eq]
 rw [this]
 rfl
end Go.Av

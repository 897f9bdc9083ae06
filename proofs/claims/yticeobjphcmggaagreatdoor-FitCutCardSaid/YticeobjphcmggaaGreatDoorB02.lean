/- Part of a proof. -/
import Derived.Test.YticeobjphcmggaaGreatDoorAvR
import Derived.Test.YticeobjphcmggaaGreatDoorB01
import Derived.Test.YticeobjphcmggaaGreatDoorB00
import Derived.Lib.OthersKept
import Derived.Lib.TrimU
import Derived.Deep.LoopGhost
set_option linter.unusedVariables false
set_option linter.unusedSimpArgs false
set_option maxHeartbeats 64000000
set_option maxRecDepth 8000
namespace Go.Av
open Go Go.RowKit Go.Proofs
set_option maxHeartbeats 64000000
theorem range_succ_all (p : Nat -> Bool) (k : Nat) : (List.range (k + 1)).all p = ((List.range k).all p && p k) := by simp [List.range_succ]
theorem range_all_no {p : Nat -> Bool} {n k : Nat} (h : k < n) (hb : p k = false) : (List.range n).all p = false := by
 rw [List.all_eq_false]
 exact ⟨k, by simp [h], by simp [hb]⟩
theorem frz_encF (x : Fld) : frzL (encF x) = encF x := by simp [encF, frzL, DV.frz]
def okFieldAt (fs : List Fld) (k : Nat) : Bool := match fs[k]? with
 | some f => isWord f.name && goodSort f && !(fs.take k).any (fun x => x.name == f.name)
 | none => true
def okFields (fs : List Fld) : Bool := (List.range fs.length).all (okFieldAt fs)
def okDeclAt (l : List Dcl) (i : Nat) : Bool := match l[i]? with
 | some d => isPath d.name && decide (d.fields.length <= 4) && decide (d.first = ((allF (l.take i)).length : Int)) && !(l.take i).any (fun x => x.name == d.name) && okFields d.fields && okGuard (allF l) d
 | none => true
def validD (l : List Dcl) : Bool := decide (l.length <= 40) && decide ((allF l).length <= 24) && (List.range l.length).all (okDeclAt l)
theorem okFieldAt_get {fs : List Fld} {k : Nat} (h : k < fs.length) : okFieldAt fs k = (isWord fs[k].name && goodSort fs[k] && !(fs.take k).any (fun x => x.name == fs[k].name)) := by
 unfold okFieldAt
 rw [List.getElem?_eq_getElem h]
theorem okDeclAt_get {l : List Dcl} {i : Nat} (h : i < l.length) : okDeclAt l i = (isPath l[i].name && decide (l[i].fields.length <= 4) && decide (l[i].first = ((allF (l.take i)).length : Int)) && !(l.take i).any (fun x => x.name == l[i].name) && okFields l[i].fields && okGuard (allF l) l[i]) := by
 unfold okDeclAt
 rw [List.getElem?_eq_getElem h]
theorem f112 (l : List Dcl) (hl : l.length <= 1000) (hf : ∀ d ∈ l, d.fields.length <= 100000) : Impl Tryz.prog 112 [.one (.sl (l.map encD))] (.one (.one (.bool (validD l)))) := by
 refine impl_v ?_
 by_cases h40 : l.length <= 40
 ·have h40' : ¬ (40 : Int) < (l.length : Int) := by omega
  have f113s := f113 l hl hf
  obtain ⟨all, hA⟩ : ∃ all, all = allF l := ⟨_, rfl⟩
  rw [<- hA] at f113s
  by_cases h24 : all.length <= 24
  ·have h24' : ¬ (24 : Int) < (all.length : Int) := by omega
   refine wV (aN h40' h24') f113s ?_
   refine z_k (fun n e => ∃ i : Nat, i + n = l.length /\ (List.range i).all (okDeclAt l) = true /\ e = [(19, .sv (.one (.int .i64 i))), (18, .sv (.one (.int .i64 l.length))), (17, .sv (.one (.sl (l.map encD)))), (4, .sv (.one (.int .i64 ((allF (l.take i)).length : Nat)))), (3, .sv (.one (.ow 4 (all.map encF)))), (0, .sv (.one (.sl (l.map encD))))]) l.length _ ⟨0, by simp, by simp, rfl⟩ (by simp [go_sem, allF]) ?_
   rintro n e ⟨i, hi, hall, rfl⟩
   by_cases hlt : i < l.length
   ·have hfi := hf l[i] (List.getElem_mem hlt)
    have hok := okDeclAt_get hlt
    have hbad : okDeclAt l i = false -> validD l = false := fun h => by simp [validD, range_all_no hlt h]
    have hat := allF_take_le (k := i) hf
    have hsc := congrArg List.length (allF_succ hlt)
    rw [List.length_append] at hsc
    obtain ⟨d, hd⟩ : ∃ d, l[i] = d := ⟨_, rfl⟩
    rw [hd] at hfi hok hsc
    have f131s := f131 d.name
    have hti : (l.take i).length <= 1000000 := Nat.le_trans (List.length_take_le _ _) (by omega)
    have f132s := f132 (l.take i) 133 [.rf (encD d)] (fun x => x.name == d.name) hti (fun x _ => f133 x d)
    rw [List.map_take] at f132s
    cases hp : isPath d.name with
    | false =>
      have hv := hbad (by rw [hok, hp]; rfl)
      rw [hp] at f131s
      refine wV (aN hlt <| aN hd encD.eq_1) f131s ?_
      simp [go_sem, hv]
    | true =>
      rw [hp] at f131s
      by_cases h4 : d.fields.length <= 4
      ·have h4' : ¬ (4 : Int) < (d.fields.length : Int) := by omega
       by_cases hfst : d.first = ((allF (l.take i)).length : Int)
       ·have hfst' : (d.first != ((allF (l.take i)).length : Int)) = false := by simp [hfst]
        cases hany : (l.take i).any (fun x => x.name == d.name) with
        | true =>
          have hv := hbad (by rw [hok, hany]; simp)
          rw [hany] at f132s
          refine wV (aN hlt <| aN hd <| aN encD.eq_1 <| aN h4' hfst') (aN f131s f132s) ?_
          simp [go_sem, hv]
        | false =>
          rw [hany] at f132s
          refine wV (aN hlt <| aN hd <| aN encD.eq_1 <| aN h4' hfst') (aN f131s f132s) ?_
          refine z_k (fun q e => ∃ k : Nat, k + q = d.fields.length /\ (List.range k).all (okFieldAt d.fields) = true /\ e = [(55, .sv (.one (.int .i64 k))), (54, .sv (.one (.int .i64 d.fields.length))), (53, .sv (.one (.sl (d.fields.map encF)))), (6, .sv (.one (.bx (encD d)))), (19, .sv (.one (.int .i64 i))), (18, .sv (.one (.int .i64 l.length))), (17, .sv (.one (.sl (l.map encD)))), (4, .sv (.one (.int .i64 ((allF (l.take (i + 1))).length : Nat)))), (3, .sv (.one (.ow 4 (all.map encF)))), (0, .sv (.one (.sl (l.map encD))))]) d.fields.length _ ⟨0, by simp, by simp, rfl⟩ (by simp [go_sem, encD, hsc]) ?_
          rintro q e ⟨k, hk, hfa, rfl⟩
          by_cases hkl : k < d.fields.length
          ·have hfo := okFieldAt_get hkl
           have hfbad : okFieldAt d.fields k = false -> validD l = false := fun h => hbad (by rw [hok]; simp [okFields, range_all_no hkl h])
           obtain ⟨f, hfe⟩ : ∃ f, d.fields[k] = f := ⟨_, rfl⟩
           rw [hfe] at hfo
           have f100s := f100 f.name
           have f134s := f134 f.kind f.lo f.hi f.name
           have hge : goodSort ⟨f.name, f.kind, f.lo, f.hi⟩ = goodSort f := rfl
           rw [hge] at f134s
           have htk : (d.fields.take k).length <= 1000000 := Nat.le_trans (List.length_take_le _ _) (by omega)
           have f135s := f135 (d.fields.take k) 136 [.rf (encF f)] (fun x => x.name == f.name) htk (fun x _ => f136 x f)
           rw [List.map_take] at f135s
           cases hw : isWord f.name with
           | false =>
             have hv := hfbad (by rw [hfo, hw]; rfl)
             rw [hw] at f100s
             refine wV (aN hkl <| aN hfe <| aN encD.eq_1 encF.eq_1) f100s ?_
             simp [go_sem, hv]
           | true =>
             rw [hw] at f100s
             cases hgs : goodSort f with
             | false =>
               have hv := hfbad (by rw [hfo, hgs]; simp)
               rw [hgs] at f134s
               refine wV (aN hkl <| aN hfe <| aN encD.eq_1 encF.eq_1) (aN f100s f134s) ?_
               simp [go_sem, hv]
             | true =>
               rw [hgs] at f134s
               cases hfy : (d.fields.take k).any (fun x => x.name == f.name) with
               | true =>
                 have hv := hfbad (by rw [hfo, hfy]; simp)
                 rw [hfy] at f135s
                 refine wV (aN hkl <| aN hfe <| aN encD.eq_1 encF.eq_1) (aN f100s <| aN f134s f135s) ?_
                 simp [go_sem, hv]
               | false =>
                 have hfo' : okFieldAt d.fields k = true := by rw [hfo, hw, hgs, hfy]; rfl
                 rw [hfy] at f135s
                 refine wV (aN hkl <| aN hfe <| aN encD.eq_1 encF.eq_1) (aN f100s <| aN f134s f135s) ?_
                 refine z_j (q - 1) _ (by omega) ⟨k + 1, by omega, ?_, rfl⟩ ?_
                 ·rw [range_succ_all, hfa, hfo']; rfl
                 ·simp [go_sem, encD]
          ·have hke : k = d.fields.length := by omega
           rw [hke] at hfa
           have hfs : okFields d.fields = true := hfa
           have f137s := f137 all d (by omega)
           cases hgd : okGuard all d with
           | false =>
             have hv := hbad (by rw [hok, <- hA, hgd]; simp)
             rw [hgd] at f137s
             refine wV (aN hkl <| aN encD.eq_1 @frz_encF) f137s ?_
             simp [go_sem, hv]
           | true =>
             have hoi : okDeclAt l i = true := by rw [hok, <- hA, hgd, hp, hany, hfs]; simp [h4, hfst]
             rw [hgd] at f137s
             refine wV (aN hkl <| aN encD.eq_1 frz_encF) f137s ?_
             refine z_j (n - 1) _ (by omega) ⟨i + 1, by omega, ?_, rfl⟩ ?_
             ·rw [range_succ_all, hall, hoi]; rfl
             ·simp [go_sem]
       ·have hv := hbad (by rw [hok]; simp [hfst])
        refine wV (aN hlt <| aN hd <| aN encD.eq_1 <| aN h4' hfst) f131s ?_
        simp [go_sem, hv]
      ·have h4' : (4 : Int) < (d.fields.length : Int) := by omega
       have hv := hbad (by rw [hok]; simp [h4])
       refine wV (aN hlt <| aN hd <| aN encD.eq_1 h4') f131s ?_
       simp [go_sem, hv]
   ·have hie : i = l.length := by omega
    rw [hie] at hall
    refine wX hlt ?_
    have hv : validD l = true := by simp only [validD, h40, decide_true, Bool.true_and, <- hA, h24, hall]
    simp [go_sem, hv]
  ·have h24' : (24 : Int) < (all.length : Int) := by omega
   refine wV (aN h40' h24') f113s ?_
   have hv : validD l = false := by simp [validD, <- hA, h24]
   simp [go_sem, hv]
 ·have h40' : (40 : Int) < (l.length : Int) := by omega
  refine wX h40' ?_
  have hv : validD l = false := by simp [validD, h40]
  simp [go_sem, hv]
set_option maxHeartbeats 64000000
def badR (r : Int) : Bool := decide (r < 32) || decide (126 < r)
def ixFrom (s : ByteArray) : Nat -> Nat -> Int
 | 0, _ => -1
 | f + 1, pos => if pos < s.size then (if badR ((Utf8.decode s pos).1 : Nat) = true then (pos : Int) else ixFrom s f (pos + (Utf8.decode s pos).2)) else -1
theorem ixFrom_end (s : ByteArray) (f pos : Nat) (h : ¬ pos < s.size) : ixFrom s f pos = -1 := by cases f <;> simp [ixFrom, h]
theorem f139 (r : Int) : Impl Tryz.prog 139 [.one (.int .i32 r)] (.one (.one (.bool (badR r)))) := by
 refine impl_v ?_
 by_cases h : r < 32
 ·refine wX h ?_
  simp [go_sem, badR, h]
 ·refine wX h ?_
  simp [go_sem, badR, h]
theorem c139s (r : Int) (W : World) : Calls Tryz.prog 139 #[.int .i32 r] W fun e w' => e = .returned (.bool (badR r)) /\ Below W.heap.size W w' := by
 refine ((f139 r).call W (fun _ => False) [.int .i32 r] (fun _ h => h.elim) (.cons _ _ [] _ _ [] (.one _ _ _ (.int _ _)) .nil)).mono ?_
 rintro e w' ⟨v, rs, rfl, hb, _, _, hr⟩
 cases hr with
 | one v x r h =>
   cases h with
   | one v x r h =>
     cases h
     exact ⟨rfl, hb⟩
set_option maxRecDepth 1000000 in
theorem c160s (s : ByteArray) (w : World) : Calls Tryz.prog 160 #[.string s, .func (.func 139) #[] #[], .bool true] w fun e w' => e = .returned (.int .i64 (ixFrom s s.size 0)) /\ Below w.heap.size w w' := by
 go_enter Tryz.func160, Tryz.ntmps160
 go_wp2
 go_loopg [] s.size (fun gf wx => ∃ pos : Nat, wx.heap[w.heap.size]? = some (.stringIter s pos) /\ Below w.heap.size w wx /\ ixFrom s gf pos = ixFrom s s.size 0 /\ s.size <= pos + gf)
 case atStart => exact ⟨0, World.iter_heap w s 0, (Below.refl _ w).alloc (Nat.le_refl _) _, rfl, by omega⟩
 case round =>
  obtain ⟨pos, hit, hbw, hleft, hfu⟩ := hrel
  by_cases hps : pos < s.size
  ·obtain ⟨g', rfl⟩ : ∃ g', gk = g' + 1 := ⟨gk - 1, by omega⟩
   have hnx : ∀ ty, (Instr.next (.pointer (some ⟨w.heap.size, 0, none⟩)) true ty).run Tryz.prog wr = _ := fun ty => Lib.run_next_any_at wr w.heap.size s pos ty hit hps
   have hwd := Lib.width_pos s pos
   obtain ⟨R, hR⟩ : ∃ R, (Utf8.decode s pos).1 = R := ⟨_, rfl⟩
   obtain ⟨K, hK⟩ : ∃ K, (Utf8.decode s pos).2 = K := ⟨_, rfl⟩
   simp only [ixFrom, hps, if_true, hR, hK] at hleft
   rw [hR, hK] at hnx
   rw [hK] at hwd
   have hit2 := Lib.iterAt_heap wr w.heap.size s pos (pos + K) hit
   have hbw2 : Below w.heap.size w (wr.iterAt w.heap.size s (pos + K)) := ⟨Lib.below_iterAt hbw.toBelow (k := w.heap.size) (Nat.le_refl _) s (pos + K), hbw.drawn⟩
   obtain ⟨W, hWd⟩ : ∃ W, wr.iterAt w.heap.size s (pos + K) = W := ⟨_, rfl⟩
   rw [hWd] at hnx hit2 hbw2
   have cS := c139s R W
   have hsz : w.heap.size < W.heap.size := by
    rcases Nat.lt_or_ge w.heap.size W.heap.size with h | h
    ·exact h
    ·rw [Array.getElem?_eq_none h] at hit2
     cases hit2
   cases hsp : badR (R : Int) <;> rw [hsp] at cS <;> simp only [hsp, if_true, Bool.false_eq_true, if_false] at hleft
   ·go_wp2_with (go_at_call 139; refine cS.mono ?_; rintro e W' ⟨rfl, hB⟩)
    go_roundg g'
    case measure => omega
    case rel => exact ⟨pos + K, (hB.block _ hsz).trans hit2, hbw2.trans (hB.mono (Nat.le_of_lt hsz)), hleft, by omega⟩
   ·go_wp2_with (go_at_call 139; refine cS.mono ?_; rintro e W' ⟨rfl, hB⟩)
    go_ret
    exact ⟨by rw [<- hleft] <;> rfl, hbw2.trans (hB.mono (Nat.le_of_lt hsz))⟩
  ·have hnx : ∀ ty, (Instr.next (.pointer (some ⟨w.heap.size, 0, none⟩)) true ty).run Tryz.prog wr = _ := fun ty => Lib.run_next_end_at wr w.heap.size s pos ty hit hps
   rw [ixFrom_end s gk pos hps] at hleft
   go_wp2
   go_ret
   exact ⟨by rw [<- hleft] <;> rfl, hbw⟩
theorem f160 (s : ByteArray) : Impl Tryz.prog 160 [.one (.str s), .one (.fn 139 []), .one (.bool true)] (.one (.one (.int .i64 (ixFrom s s.size 0)))) := by
 refine ⟨⟨_, Tryz.func160, by kernel_rfl, by decide⟩, fun w S vs hS hcz => ?_⟩
 generalize hz : ([] : List Nat) = z at hcz
 cases hcz with
 | cons v x r vs xs rs h1 hs =>
   cases hs with
   | cons v x r vs xs rs h2 hs =>
     cases hs with
     | cons v x r vs xs rs h3 hs =>
       cases hs
       have h1 := h1.one_inv
       have h2 := h2.one_inv
       have h3 := h3.one_inv
       cases h1
       cases h3
       cases h2 with
       | fn f cs caps hl =>
         have hc : cs = #[] := by
          generalize hcl : cs.toList = l at hl
          cases hl
          exact Array.toList_eq_nil_iff.1 hcl
         subst hc
         refine (c160s s w).mono ?_
         rintro e w' ⟨rfl, hb⟩
         exact ⟨_, [], rfl, hb, by simp, by simp, .one _ _ _ (.one _ _ _ (.int _ _))⟩
theorem f154s (s : ByteArray) : Impl Tryz.prog 154 [.one (.str s), .one (.fn 139 [])] (.one (.one (.int .i64 (ixFrom s s.size 0)))) := by
 refine impl_v ?_
 have k := f160 s
 refine wC k ?_
 simp [go_sem]
theorem decode_ascii {s : ByteArray} {i : Nat} (h : (s.get! i).toNat < 128) : Utf8.decode s i = ((s.get! i).toNat, 1) := by
 unfold Utf8.decode
 simp only [Nat.add_zero]
 rw [if_pos h]
theorem decode_high {s : ByteArray} {i : Nat} (h : ¬ (s.get! i).toNat < 128) : 127 <= (Utf8.decode s i).1 := by
 unfold Utf8.decode
 simp only [Nat.add_zero]
 rw [if_neg h]
 repeat' split
 all_goals simp only [Utf8.runeError]
 all_goals first | omega | (rename_i hh; simp only [Bool.and_eq_true, decide_eq_true_eq, ge_iff_le] at hh; omega)
def badS (s : ByteArray) : Bool := (strL s).any fun b => decide (b < 32) || decide (126 < b)
theorem strL_byte {s : ByteArray} {i : Nat} (h : i < s.size) : (strL s)[i]'(by rw [strL_len]; exact h) = ((s.get! i).toNat : Int) := by
 unfold strL
 rw [List.getElem_map]
 congr 2
 have h' : i < s.data.size := h
 simp only [ByteArray.get!]
 rw [getElem!_pos s.data i h', Array.getElem_toList]
theorem ix_bad (s : ByteArray) : ∀ (f pos : Nat), s.size <= pos + f -> decide (0 <= ixFrom s f pos) = ((strL s).drop pos).any fun b => decide (b < 32) || decide (126 < b)
 | 0, pos, h => by
   rw [List.drop_eq_nil_of_le (by rw [strL_len]; omega)]
   rfl
 | f + 1, pos, h => by
   unfold ixFrom
   by_cases hp : pos < s.size
   ·have hl : pos < (strL s).length := by rw [strL_len]; exact hp
    rw [if_pos hp, List.drop_eq_getElem_cons hl, List.any_cons, strL_byte hp]
    by_cases ha : (s.get! pos).toNat < 128
    ·rw [decode_ascii ha]
     simp only
     cases hb : badR ((s.get! pos).toNat : Nat) with
     | true =>
       unfold badR at hb
       rw [hb]
       simp
     | false =>
       unfold badR at hb
       rw [hb, Bool.false_or]
       simp only [Bool.false_eq_true, if_false]
       exact ix_bad s f (pos + 1) (by omega)
    ·have hd := decode_high ha
     have hb : badR ((Utf8.decode s pos).1 : Nat) = true := by
      simp only [badR, Bool.or_eq_true, decide_eq_true_eq]
      omega
     rw [if_pos hb]
     have h2 : decide (126 < ((s.get! pos).toNat : Int)) = true := by
      rw [decide_eq_true_eq]
      omega
     rw [h2]
     simp
   ·rw [if_neg hp, List.drop_eq_nil_of_le (by rw [strL_len]; omega)]
    rfl
theorem f138 (s : ByteArray) : Impl Tryz.prog 138 [.one (.str s), .one (.fn 139 [])] (.one (.one (.bool (badS s)))) := by
 have hb := ix_bad s s.size 0 (by omega)
 rw [List.drop_zero] at hb
 have k := f154s s
 obtain ⟨n, hn⟩ : ∃ n, ixFrom s s.size 0 = n := ⟨_, rfl⟩
 rw [hn] at k hb
 have hb' : decide (0 <= n) = badS s := hb
 refine impl_v ?_
 refine wC k ?_
 simp [go_sem, hb']
set_option maxHeartbeats 64000000
structure Vl where
 kind : Int
 num : Int
 txt : ByteArray
def encVl (v : Vl) : List DV := [.int .i64 v.kind, .int .i64 v.num, .str v.txt]
@[go_sem ↓ high] theorem frz_encVl (v : Vl) : frzL (encVl v) = encVl v := rfl
theorem appendOk_v {l m : List Vl} (h : l.length + m.length <= 100000000) : z_f 3 32 (l.map encVl) (m.map encVl) := by
 refine ⟨?_, ?_, by omega, ?_, ?_⟩
 ·intro e he
  obtain ⟨z, _, rfl⟩ := List.mem_map.1 he
  rfl
 ·intro e he
  obtain ⟨z, _, rfl⟩ := List.mem_map.1 he
  rfl
 ·simp only [List.length_map, maxLen]; omega
 ·simp only [List.length_map]; omega
theorem f115 (l : List Vl) (hl : l.length <= 1000000) : Impl Tryz.prog 115 [.one (.sl (l.map encVl))] (.one (.one (.ow 3 (l.map encVl)))) := by
 refine impl_v ?_
 have hap := appendOk_v (l := []) (m := l) (by simp; omega)
 simp only [List.map_nil] at hap
 repeat' first | refine St.go ?_ | ((with_reducible refine cn ?_ ?_) <;> intro h <;> (try simp at h) <;> try omega) | (refine Ru.go ?_; intro K hK; simp [go_sem, hap]; (try simp (disch := omega) only [wx, z_i]); (first | apply hK | refine ⟨by first | omega | (simp [z_f, z_g, hap]; first | done | omega), ?_⟩ | refine ⟨hK _ ?_, fun h => ?_⟩ | refine ⟨?_, ?_⟩); all_goals ((try apply hK); clear hK K))
 all_goals simp_all [go_sem]
def numV (v : Vl) : Int := if v.kind = 2 then v.txt.size else v.num
theorem f116 (v : Vl) : Impl Tryz.prog 116 [.ag (encVl v)] (.one (.one (.int .i64 (numV v)))) := by
 refine impl_intro z116.f z116.b rfl z116.r z116.n z116.t z116.d (by simp) fun hs => ?_
 clear hs
 simp only [slotsOf, encVl]
 conv => arg 2; reduce
 by_cases hk : v.kind = 2
 ·refine wX hk ?_
  simp [go_sem, numV, hk]
 ·refine wX hk ?_
  simp [go_sem, numV, hk]
def H138 : Prop := ∀ s : ByteArray, Impl Tryz.prog 138 [.one (.str s), .one (.fn 139 [])] (.one (.one (.bool (badS s))))
def fitsV (k lo hi : Int) (v : Vl) : Bool := decide (v.kind = k) && (decide (lo <= numV v) && (decide (numV v <= hi) && (if v.kind = 1 then (v.txt == ⟨#[]⟩) else decide (v.num = 0) && !badS v.txt)))
theorem f114 (h138 : H138) (k lo hi : Int) (v : Vl) : Impl Tryz.prog 114 [.ag [.int .i64 k, .int .i64 lo, .int .i64 hi], .ag (encVl v)] (.one (.one (.bool (fitsV k lo hi v)))) := by
 have k116 := f116 v
 have k138 := h138 v.txt
 obtain ⟨n, hn⟩ : ∃ n, numV v = n := ⟨_, rfl⟩
 unfold fitsV
 rw [hn] at k116 ⊢
 simp only [encVl] at k116
 refine impl_z Tryz.func114 z114 Tryz.ntmps114 (by simp) ?_
 simp only [c114, slotsOf, encVl]
 by_cases hk : v.kind = k
 rotate_left
 ·have hkb : (v.kind != k) = true := by simp [hk]
  refine wV hkb (aN k116 k138) ?_
  simp [go_sem, hk]
 have hkb : (v.kind != k) = false := by simp [hk]
 by_cases hlo : lo <= n
 rotate_left
 ·have hlo' : n < lo := by omega
  refine wV (aN hkb hlo') (aN k116 k138) ?_
  simp [go_sem, hk, hlo]
 have hlo' : ¬ n < lo := by omega
 by_cases hhi : n <= hi
 rotate_left
 ·have hhi' : hi < n := by omega
  refine wV (aN hkb <| aN hlo' hhi') (aN k116 k138) ?_
  simp [go_sem, hk, hlo, hhi]
 have hhi' : ¬ hi < n := by omega
 by_cases h1 : v.kind = 1
 ·have h1b : (v.kind == 1) = true := by simp [h1]
  have h1' : k = 1 := by rw [<- hk]; exact h1
  refine wV (aN hkb <| aN hlo' <| aN hhi' h1b) (aN k116 k138) ?_
  simp [go_sem, hk, hlo, hhi, h1']
 ·have h1b : (v.kind == 1) = false := by simp [h1]
  have h1' : ¬ k = 1 := by rw [<- hk]; exact h1
  by_cases h0 : v.num = 0
  ·have h0b : (v.num == 0) = true := by simp [h0]
   refine wV (aN hkb <| aN hlo' <| aN hhi' <| aN h1b h0b) (aN k116 k138) ?_
   simp [go_sem, hk, hlo, hhi, h1', h0]
  ·have h0b : (v.num == 0) = false := by simp [h0]
   refine wV (aN hkb <| aN hlo' <| aN hhi' <| aN h1b h0b) (aN k116 k138) ?_
   simp [go_sem, hk, hlo, hhi, h1', h0]
def fitAt (fs : List Fld) (vs : List Vl) (i : Nat) : Bool := match fs[i]?, vs[i]? with
 | some f, some v => fitsV f.kind f.lo f.hi v
 | _, _ => false
def fitV (fs : List Fld) (vs : List Vl) : Bool := decide (fs.length = vs.length) && (List.range fs.length).all (fitAt fs vs)
theorem fitAt_get {fs : List Fld} {vs : List Vl} {i : Nat} (h : i < fs.length) (h2 : i < vs.length) : fitAt fs vs i = fitsV fs[i].kind fs[i].lo fs[i].hi vs[i] := by
 unfold fitAt
 rw [List.getElem?_eq_getElem h, List.getElem?_eq_getElem h2]
theorem f90 (h138 : H138) (fs : List Fld) (vs : List Vl) (hf : fs.length <= 1000000) (hv : vs.length <= 1000000000000000) : Impl Tryz.prog 90 [.one (.sl (fs.map encF)), .one (.sl (vs.map encVl))] (.one (.one (.bool (fitV fs vs)))) := by
 refine impl_v ?_
 by_cases hl : fs.length = vs.length
 rotate_left
 ·have hl' : ((fs.length : Int) != (vs.length : Int)) = true := by simp; omega
  have hfv : fitV fs vs = false := by simp [fitV, hl]
  refine wX hl' ?_
  simp [go_sem, hfv]
 have hl' : ((fs.length : Int) != (vs.length : Int)) = false := by simp [hl]
 refine wX hl' ?_
 refine z_k (fun n e => ∃ k : Nat, k + n = fs.length /\ (List.range k).all (fitAt fs vs) = true /\ e = [(14, .sv (.one (.int .i64 k))), (13, .sv (.one (.int .i64 fs.length))), (12, .sv (.one (.sl (fs.map encF)))), (0, .sv (.one (.sl (fs.map encF)))), (1, .sv (.one (.sl (vs.map encVl))))]) fs.length _ ⟨0, by simp, by simp, rfl⟩ (by simp [go_sem]) ?_
 rintro n e ⟨k, hk, hall, rfl⟩
 by_cases hlt : k < fs.length
 ·have hlt2 : k < vs.length := by omega
  have hat := fitAt_get hlt hlt2
  obtain ⟨f, hfe⟩ : ∃ f, fs[k] = f := ⟨_, rfl⟩
  obtain ⟨v, hve⟩ : ∃ v, vs[k] = v := ⟨_, rfl⟩
  rw [hfe, hve] at hat
  have k114 := f114 h138 f.kind f.lo f.hi v
  rw [<- hat] at k114
  simp only [encVl] at k114
  cases hb : fitAt fs vs k with
  | false =>
    have hfv : fitV fs vs = false := by simp [fitV, range_all_no hlt hb]
    rw [hb] at k114
    refine wV (aN hlt <| aN hlt2 <| aN hfe <| aN hve <| aN encF.eq_1 encVl.eq_1) k114 ?_
    simp [go_sem, hfv]
  | true =>
    rw [hb] at k114
    refine wV (aN hlt <| aN hlt2 <| aN hfe <| aN hve <| aN encF.eq_1 encVl.eq_1) k114 ?_
    refine z_j (n - 1) _ (by omega) ⟨k + 1, by omega, ?_, rfl⟩ ?_
    ·rw [range_succ_all, hall, hb]; rfl
    ·simp [go_sem]
 ·have hke : k = fs.length := by omega
  rw [hke] at hall
  have hfv : fitV fs vs = true := by
   unfold fitV
   rw [hall]
   simp [hl]
  refine wX hlt ?_
  simp [go_sem, hfv]
set_option maxHeartbeats 64000000
def isZ (v : Vl) : Bool := v.kind == 0 && (v.num == 0 && v.txt == ⟨#[]⟩)
def knownAt (all : List Fld) (kn : List Vl) (i : Nat) : Bool := match all[i]?, kn[i]? with
 | some f, some v => isZ v || fitsV f.kind f.lo f.hi v
 | _, _ => false
def knownV (all : List Fld) (kn : List Vl) : Bool := decide (all.length = kn.length) && (List.range kn.length).all (knownAt all kn)
def properV (l : List Dcl) (lb : Int) (kn : List Vl) : Bool := decide (0 <= lb) && decide (lb < l.length) && validD l && knownV (allF l) kn
theorem knownAt_get {fs : List Fld} {vs : List Vl} {i : Nat} (h : i < fs.length) (h2 : i < vs.length) : knownAt fs vs i = (isZ vs[i] || fitsV fs[i].kind fs[i].lo fs[i].hi vs[i]) := by
 unfold knownAt
 rw [List.getElem?_eq_getElem h, List.getElem?_eq_getElem h2]
theorem f89 (h138 : H138) (l : List Dcl) (lb : Int) (kn : List Vl) (hl : l.length <= 1000) (hp : ∀ d ∈ l, d.fields.length <= 100000) (hk : kn.length <= 1000000) : Impl Tryz.prog 89 [.one (.sl (l.map encD)), .one (.int .i64 lb), .one (.sl (kn.map encVl))] (.one (.one (.bool (properV l lb kn)))) := by
 have k112 := f112 l hl hp
 have k113 := f113 l hl hp
 obtain ⟨all, hA⟩ : ∃ a, allF l = a := ⟨_, rfl⟩
 unfold properV
 rw [hA] at k113 ⊢
 refine impl_v ?_
 by_cases h0 : lb < 0
 ·have h0' : ¬ 0 <= lb := by omega
  refine wX h0 ?_
  simp [go_sem, h0']
 have h0' : 0 <= lb := by omega
 by_cases h1 : (l.length : Int) <= lb
 ·have h1' : ¬ lb < l.length := by omega
  refine wX (aN h0 h1) ?_
  simp [go_sem, h1']
 have h1' : lb < l.length := by omega
 cases hv : validD l with
 | false =>
   rw [hv] at k112
   refine wV (aN h0 h1) k112 ?_
   simp [go_sem]
 | true =>
   rw [hv] at k112
   have hal : all.length <= 24 := by
    have := hv
    unfold validD at this
    simp only [Bool.and_eq_true, decide_eq_true_eq] at this
    rw [<- hA]
    omega
   by_cases hle : all.length = kn.length
   rotate_left
   ·have hl' : ((all.length : Int) != (kn.length : Int)) = true := by simp; omega
    have hkv : knownV all kn = false := by simp [knownV, hle]
    refine wV (aN h0 <| aN h1 hl') (aN k112 k113) ?_
    simp [go_sem, hkv]
   have hl' : ((all.length : Int) != (kn.length : Int)) = false := by simp [hle]
   refine wV (aN h0 <| aN h1 hl') (aN k112 k113) ?_
   refine z_k (fun n e => ∃ k : Nat, k + n = kn.length /\ (List.range k).all (knownAt all kn) = true /\ e = [(32, .sv (.one (.int .i64 k))), (31, .sv (.one (.int .i64 kn.length))), (30, .sv (.one (.sl (kn.map encVl)))), (7, .sv (.one (.ow 4 (all.map encF))))]) kn.length _ ⟨0, by simp, by simp, rfl⟩ (by simp [go_sem]) ?_
   rintro n e ⟨k, hk, hall, rfl⟩
   by_cases hlt : k < kn.length
   ·have hlt2 : k < all.length := by omega
    have hat := knownAt_get hlt2 hlt
    obtain ⟨f, hfe⟩ : ∃ f, all[k] = f := ⟨_, rfl⟩
    obtain ⟨v, hve⟩ : ∃ v, kn[k] = v := ⟨_, rfl⟩
    rw [hfe, hve] at hat
    have k114 := f114 h138 f.kind f.lo f.hi v
    simp only [encVl] at k114
    have hq : ((!v.kind == 0 || (!v.num == 0 || !v.txt == (⟨#[]⟩ : ByteArray))) && !fitsV f.kind f.lo f.hi v) = !knownAt all kn k := by
     rw [hat]
     unfold isZ
     cases v.kind == 0 <;> cases v.num == 0 <;> cases v.txt == (⟨#[]⟩ : ByteArray) <;> simp
    cases hb : knownAt all kn k with
    | false =>
      rw [hb] at hq
      have hkv : knownV all kn = false := by simp [knownV, range_all_no hlt hb]
      refine wV (aN hlt <| aN hlt2 <| aN hfe <| aN hve <| aN encF.eq_1 <| aN encVl.eq_1 hq) k114 ?_
      simp [go_sem, hkv]
    | true =>
      rw [hb] at hq
      refine wV (aN hlt <| aN hlt2 <| aN hfe <| aN hve <| aN encF.eq_1 <| aN encVl.eq_1 hq) k114 ?_
      refine z_j (n - 1) _ (by omega) ⟨k + 1, by omega, ?_, rfl⟩ ?_
      ·rw [range_succ_all, hall, hb]; rfl
      ·simp [go_sem]
   ·have hke : k = kn.length := by omega
    rw [hke] at hall
    have hkv : knownV all kn = true := by
     unfold knownV
     rw [hall]
     simp [hle]
    refine wX hlt ?_
    simp [go_sem, h0', h1', hkv]
set_option maxHeartbeats 64000000
def behindV (fi : Nat) (vs kn : List Vl) : List Vl := kn.take fi ++ (vs ++ kn.drop (fi + vs.length))
theorem behind_len {fi : Nat} {vs kn : List Vl} (h : fi + vs.length <= kn.length) : (behindV fi vs kn).length = kn.length := by
 simp only [behindV, List.length_append, List.length_take, List.length_drop]
 omega
theorem flat_vl (l : List Vl) : z_g (l.map encVl) := by
 intro e he
 obtain ⟨z, _, rfl⟩ := List.mem_map.1 he
 rfl
theorem f91 (d : Dcl) (fi : Nat) (vs kn : List Vl) (hf : d.first = fi) (hl : fi + vs.length <= kn.length) (hk : kn.length <= 1000000) : Impl Tryz.prog 91 [.ag (encD d), .one (.sl (vs.map encVl)), .one (.sl (kn.map encVl))] (.one (.one (.ow 3 ((behindV fi vs kn).map encVl)))) := by
 have k115 := f115 kn hk
 have h0 : (0 : Int) <= fi := by omega
 have h1 : fi <= kn.length := by omega
 have hel2 : ∀ a : Vl, (encVl a).length = 3 := fun _ => rfl
 have hfv : ∀ a : Vl, (encVl a).all DV.flat = true := fun _ => rfl
 have hfv2 : ∀ (a : Vl) (d : DV), d ∈ encVl a -> d.flat = true := fun a => List.all_eq_true.1 (hfv a)
 refine impl_intro z91.f z91.b rfl z91.r z91.n z91.t z91.d (by simp) fun hs => ?_
 clear hs
 simp only [slotsOf, encD, hf]
 conv => arg 2; reduce
 cases vs with
 | nil =>
   have hbe : behindV fi [] kn = kn := by simp [behindV]
   rw [hbe]
   simp only [List.map_nil]
   refine wG (aN h0 <| aN h1 hel2) k115 (aN hfv hfv2) ?_
   simp [go_sem]
 | cons v vs =>
   simp only [List.length_cons] at hl
   have hm : min (vs.length + 1) (kn.length - fi) = vs.length + 1 := by omega
   have htk : (encVl v :: vs.map encVl).take (kn.length - fi) = encVl v :: vs.map encVl := List.take_of_length_le (by simp; omega)
   have hbe : (kn.map encVl).take fi ++ (encVl v :: (vs.map encVl ++ (kn.map encVl).drop (fi + (vs.length + 1)))) = (behindV fi (v :: vs) kn).map encVl := by
    simp [behindV, List.map_append, List.map_take, List.map_drop]
   simp only [List.map_cons]
   repeat' first | refine St.go ?_ | ((with_reducible refine cn ?_ ?_) <;> intro h <;> (try simp at h) <;> try omega) | (refine Ru.go ?_; intro K hK; simp [go_sem, h0, h1, hm, htk, hel2]; (try simp (disch := omega) only [wx, z_i]); (first | apply hK | ((first | ((try refine .inl ?_); refine ⟨_, by (try intro hc); (repeat' first | exact k115 | exact hc | refine And.intro ?_ ?_ | simp [go_sem, h0, h1, hm, htk, hel2]); first | done | omega, ?_⟩) | refine .inr (.inl ⟨_, by (try intro hc); (repeat' first | exact k115 | exact hc | refine And.intro ?_ ?_ | simp [go_sem, h0, h1, hm, htk, hel2]); first | done | omega, ?_⟩) | refine .inr (.inr ⟨_, by (try intro hc); (repeat' first | exact k115 | exact hc | refine And.intro ?_ ?_ | simp [go_sem, h0, h1, hm, htk, hel2]); first | done | omega, ?_⟩)); first | apply hK | (refine ⟨by simp [go_sem, h0, h1, hm, htk, hel2], ?_⟩; first | apply hK | refine ⟨by simp [go_sem, h0, h1, hm, htk, hel2], hK _ _ ?_⟩)) | refine ⟨.one (.one (.bool false)), by simp [go_sem, h0, h1, hm, htk, hel2], hK _ _ ?_⟩ | refine ⟨by first | omega | (simp [z_f, z_g, h0, h1, hm, htk, hel2, hfv, hfv2]; first | done | omega), ?_⟩ | refine ⟨hK _ ?_, fun h => ?_⟩ | refine ⟨?_, ?_⟩); all_goals ((try apply hK); clear hK K))
   ·exact ⟨flat_vl kn, flat_vl (v :: vs)⟩
   ·simp [go_sem, hbe]
def learnV (l : List Dcl) (lb : Int) (vs kn : List Vl) : Option (List Vl) × Int := match l[lb.toNat]? with
 | some d => if properV l lb kn then (if fitV d.fields vs then (some (behindV d.first.toNat vs kn), 0) else (none, 11)) else (none, 1)
 | none => (none, 1)
def resV : Option (List Vl) -> DV
 | none => .nil
 | some l => .ow 3 (l.map encVl)
theorem proper_facts {l : List Dcl} {lb : Int} {kn : List Vl} (h : properV l lb kn = true) : 0 <= lb /\ lb < l.length /\ validD l = true /\ knownV (allF l) kn = true := by
 unfold properV at h
 simp only [Bool.and_eq_true, decide_eq_true_eq] at h
 exact ⟨h.1.1.1, h.1.1.2, h.1.2, h.2⟩
theorem first_in {l : List Dcl} (hv : validD l = true) {i : Nat} (h : i < l.length) : ∃ n : Nat, l[i].first = n /\ n + l[i].fields.length <= (allF l).length := by
 unfold validD at hv
 simp only [Bool.and_eq_true, decide_eq_true_eq, List.all_eq_true, List.mem_range] at hv
 have h1 := hv.2 i h
 rw [okDeclAt_get h] at h1
 simp only [Bool.and_eq_true, decide_eq_true_eq] at h1
 refine ⟨(allF (l.take i)).length, h1.1.1.1.2, ?_⟩
 have h2 : allF l = allF (l.take i) ++ (l[i].fields ++ allF (l.drop (i + 1))) := by
  unfold allF
  rw [<- List.flatMap_cons, <- List.drop_eq_getElem_cons h, <- List.flatMap_append, List.take_append_drop]
 rw [h2]
 simp
theorem f57 (h138 : H138) (l : List Dcl) (lb : Int) (vs kn : List Vl) (hl : l.length <= 1000) (hp : ∀ d ∈ l, d.fields.length <= 100000) (hv : vs.length <= 1000000000000000) (hk : kn.length <= 1000000) :
  Impl Tryz.prog 57 [.one (.sl (l.map encD)), .one (.int .i64 lb), .one (.sl (vs.map encVl)), .one (.sl (kn.map encVl))] (.tup [.one (resV (learnV l lb vs kn).1), .one (.int .i64 (learnV l lb vs kn).2)]) := by
 have k89 := f89 h138 l lb kn hl hp hk
 refine impl_v ?_
 cases hpv : properV l lb kn with
 | false =>
   have he : learnV l lb vs kn = (none, 1) := by
    unfold learnV
    rw [hpv]
    split <;> rfl
   rw [he]
   rw [hpv] at k89
   refine wC k89 ?_
   simp [go_sem, resV]
 | true =>
   rw [hpv] at k89
   obtain ⟨h0, h1, h2, h3⟩ := proper_facts hpv
   obtain ⟨i, rfl⟩ : ∃ i : Nat, lb = i := ⟨lb.toNat, by omega⟩
   have hi : i < l.length := by omega
   have hdm := hp l[i] (List.getElem_mem hi)
   obtain ⟨fi, hfi, hfl⟩ := first_in h2 hi
   obtain ⟨d, hd⟩ : ∃ d, l[i] = d := ⟨_, rfl⟩
   rw [hd] at hdm hfi hfl
   have he : learnV l (i : Int) vs kn = if fitV d.fields vs then (some (behindV fi vs kn), 0) else (none, 11) := by
    unfold learnV
    rw [hpv, Int.toNat_natCast, List.getElem?_eq_getElem hi, hd]
    simp only [if_true, hfi, Int.toNat_natCast]
   rw [he]
   have k90 := f90 h138 d.fields vs (by omega) hv
   cases hfv : fitV d.fields vs with
   | false =>
     rw [hfv] at k90
     refine wV (aN hi <| aN hd encD.eq_1) (aN k89 k90) ?_
     simp [go_sem, resV]
   | true =>
     rw [hfv] at k90
     have hvl : vs.length = d.fields.length := by
      unfold fitV at hfv
      simp only [Bool.and_eq_true, decide_eq_true_eq] at hfv
      omega
     have hkl : (allF l).length = kn.length := by
      unfold knownV at h3
      simp only [Bool.and_eq_true, decide_eq_true_eq] at h3
      exact h3.1
     have k91 := f91 d fi vs kn hfi (by omega) hk
     simp only [encD] at k91
     refine wV (aN hi <| aN hd encD.eq_1) (aN k89 <| aN k90 k91) ?_
     simp [go_sem, resV]
set_option maxHeartbeats 64000000
def vAt (vs : List Vl) (x : Int) : Vl := vs[x.toNat]?.getD ⟨0, 0, ⟨#[]⟩⟩
def kOk (vs : List Vl) (x : Int) : Bool := if x < 0 then true else !((vAt vs x).kind == 0)
def nOf (vs : List Vl) (x : Int) : Int := if x < 0 then 0 else numV (vAt vs x)
def diffOk (vs : List Vl) (d : Dff) : Bool := kOk vs d.x && (kOk vs d.y && decide (nOf vs d.x - nOf vs d.y <= d.c))
def eqOk (vs : List Vl) (e : Int × Int) : Bool := !((vAt vs e.1).kind == 0) && (!((vAt vs e.2).kind == 0) && (vAt vs e.1).txt == (vAt vs e.2).txt)
def fulfilsV (ds : List Dff) (es : List (Int × Int)) (vs : List Vl) : Bool := ds.all (diffOk vs) && es.all (eqOk vs)
def InV (vs : List Vl) (ds : List Dff) (es : List (Int × Int)) : Prop := (∀ d ∈ ds, d.x < vs.length /\ d.y < vs.length) /\ ∀ e ∈ es, 0 <= e.1 /\ e.1 < vs.length /\ 0 <= e.2 /\ e.2 < vs.length
theorem vAt_get {vs : List Vl} {x : Int} (h0 : 0 <= x) (h : x.toNat < vs.length) : vAt vs x = vs[x.toNat] := by
 unfold vAt
 rw [List.getElem?_eq_getElem h]
 rfl
theorem all_succ2 {α : Type} {p : α -> Bool} {l : List α} {k : Nat} (h : k < l.length) : (l.take (k + 1)).all p = ((l.take k).all p && p l[k]) := by
 rw [List.take_succ_eq_append_getElem h, List.all_append]
 simp
theorem all_not {α : Type} {p : α -> Bool} {l : List α} {k : Nat} (h : k < l.length) (hb : p l[k] = false) : l.all p = false := by
 rw [List.all_eq_false]
 exact ⟨l[k], List.getElem_mem h, by simp [hb]⟩
theorem f92 (ds : List Dff) (es : List (Int × Int)) (vs : List Vl) (hin : InV vs ds es) (hb : ∀ v ∈ vs, -1000000 <= numV v /\ numV v <= 1000000) (hd : ds.length <= 1000000) (he : es.length <= 1000000) (hv : vs.length <= 1000000) :
  Impl Tryz.prog 92 [.ag [.sl (ds.map encDf), .sl (es.map encEq)], .one (.sl (vs.map encVl))] (.one (.one (.bool (fulfilsV ds es vs)))) := by
 have k116 := f116
 simp only [encVl] at k116
 refine impl_v ?_
 refine wN ?_
 refine z_k (fun n e => ∃ k : Nat, k + n = ds.length /\ (ds.take k).all (diffOk vs) = true /\ e = [(15, .sv (.one (.int .i64 k))), (14, .sv (.one (.int .i64 ds.length))), (13, .sv (.one (.sl (ds.map encDf)))), (2, .sv (.one (.bx [.sl (ds.map encDf), .sl (es.map encEq)]))), (1, .sv (.one (.sl (vs.map encVl))))]) ds.length _ ⟨0, by simp, by simp, rfl⟩ (by simp [go_sem]) ?_
 rintro n e ⟨k, hk, hall, rfl⟩
 by_cases hlt : k < ds.length
 ·obtain ⟨d, hde⟩ : ∃ d, ds[k] = d := ⟨_, rfl⟩
  have hdm := hin.1 d (hde ▸ List.getElem_mem hlt)
  have hsc := all_succ2 (p := diffOk vs) hlt
  rw [hde, hall, Bool.true_and] at hsc
  have hno : diffOk vs d = false -> fulfilsV ds es vs = false := fun h => by
   have := all_not (p := diffOk vs) hlt (by rw [hde]; exact h)
   simp [fulfilsV, this]
  refine wX (aN hlt <| aN hde encDf.eq_1) ?_
  refine z_k (fun m e => ∃ (i : Nat) (a b : Int), i + m = 2 /\ (i = 0 -> a = 0) /\ (1 <= i -> kOk vs d.x = true /\ a = nOf vs d.x) /\ (i <= 1 -> b = 0) /\ (2 <= i -> kOk vs d.y = true /\ b = nOf vs d.y) /\ e = [(25, .sv (.one (.int .i64 i))), (24, .sv (.ag [.int .i64 d.x, .int .i64 d.y])), (7, .sv (.one (.bx [.int .i64 a, .int .i64 b]))), (6, .sv (.one (.bx [.int .i64 d.x, .int .i64 d.y, .int .i64 d.c]))), (15, .sv (.one (.int .i64 k))), (14, .sv (.one (.int .i64 ds.length))), (13, .sv (.one (.sl (ds.map encDf)))), (2, .sv (.one (.bx [.sl (ds.map encDf), .sl (es.map encEq)]))), (1, .sv (.one (.sl (vs.map encVl))))]) 2 _ ⟨0, 0, 0, by omega, fun _ => rfl, fun h => by omega, fun _ => rfl, fun h => by omega, rfl⟩ (by simp [go_sem]) ?_
  rintro m e ⟨i, a, b, hi, ha0, ha1, hb0, hb1, rfl⟩
  rcases (show i = 0 \/ i = 1 \/ i = 2 by omega) with rfl | rfl | rfl
  ·have ha := ha0 rfl
   have hbb := hb0 (by omega)
   subst ha
   subst hbb
   by_cases hx : d.x < 0
   ·refine wX hx ?_
    refine z_j (m - 1) _ (by omega) ⟨1, 0, 0, by omega, fun h => by omega, fun _ => ⟨by simp [kOk, hx], by simp [nOf, hx]⟩, fun _ => rfl, fun h => by omega, rfl⟩ ?_
    simp [go_sem]
   ·have hx0 : 0 <= d.x := by omega
    have hxl : d.x.toNat < vs.length := by omega
    have hva := vAt_get hx0 hxl
    obtain ⟨v, hve⟩ : ∃ v, vs[d.x.toNat] = v := ⟨_, rfl⟩
    rw [hve] at hva
    cases hkd : v.kind == 0 with
    | true =>
      have hf := hno (by simp [diffOk, kOk, hx, hva, hkd])
      refine wX (aN hx <| aN hx0 <| aN hxl <| aN hve <| aN encVl.eq_1 hkd) ?_
      simp [go_sem, hf]
    | false =>
      refine wV (aN hx <| aN hx0 <| aN hxl <| aN hve <| aN encVl.eq_1 hkd) (k116 v) ?_
      refine z_j (m - 1) _ (by omega) ⟨1, numV v, 0, by omega, fun h => by omega, fun _ => ⟨by simp [kOk, hx, hva, hkd], by simp [nOf, hx, hva]⟩, fun _ => rfl, fun h => by omega, rfl⟩ ?_
      simp [go_sem]
  ·obtain ⟨hkx, hax⟩ := ha1 (by omega)
   have hbb := hb0 (by omega)
   subst hbb
   by_cases hx : d.y < 0
   ·refine wX hx ?_
    refine z_j (m - 1) _ (by omega) ⟨2, a, 0, by omega, fun h => by omega, fun _ => ⟨hkx, hax⟩, fun h => by omega, fun _ => ⟨by simp [kOk, hx], by simp [nOf, hx]⟩, rfl⟩ ?_
    simp [go_sem]
   ·have hx0 : 0 <= d.y := by omega
    have hxl : d.y.toNat < vs.length := by omega
    have hva := vAt_get hx0 hxl
    obtain ⟨v, hve⟩ : ∃ v, vs[d.y.toNat] = v := ⟨_, rfl⟩
    rw [hve] at hva
    cases hkd : v.kind == 0 with
    | true =>
      have hf := hno (by simp [diffOk, kOk, hx, hva, hkd])
      refine wX (aN hx <| aN hx0 <| aN hxl <| aN hve <| aN encVl.eq_1 hkd) ?_
      simp [go_sem, hf]
    | false =>
      refine wV (aN hx <| aN hx0 <| aN hxl <| aN hve <| aN encVl.eq_1 hkd) (k116 v) ?_
      refine z_j (m - 1) _ (by omega) ⟨2, a, numV v, by omega, fun h => by omega, fun _ => ⟨hkx, hax⟩, fun h => by omega, fun _ => ⟨by simp [kOk, hx, hva, hkd], by simp [nOf, hx, hva]⟩, rfl⟩ ?_
      simp [go_sem]
  ·obtain ⟨hkx, hax⟩ := ha1 (by omega)
   obtain ⟨hky, hby⟩ := hb1 (by omega)
   have hnb : ∀ x : Int, x < vs.length -> -1000000 <= nOf vs x /\ nOf vs x <= 1000000 := fun x hx => by
    unfold nOf
    split
    ·omega
    ·rw [vAt_get (by omega) (by omega)]
     exact hb _ (List.getElem_mem _)
   have hba := hnb d.x hdm.1
   have hbb := hnb d.y hdm.2
   rw [<- hax] at hba
   rw [<- hby] at hbb
   have hw : IntKind.i64.wrap (a - b) = a - b := z_h (by omega) (by omega)
   by_cases hc : a - b <= d.c
   ·have hc' : ¬ d.c < a - b := by omega
    have hdo : diffOk vs d = true := by simp [diffOk, hkx, hky, <- hax, <- hby, hc]
    rw [hdo] at hsc
    refine wX (aN hw hc') ?_
    refine z_j (n - 1) _ (by omega) ⟨k + 1, by omega, hsc, rfl⟩ ?_
    simp [go_sem]
   ·have hc' : d.c < a - b := by omega
    have hf := hno (by simp [diffOk, hkx, hky, <- hax, <- hby, hc])
    refine wX (aN hw hc') ?_
    simp [go_sem, hf]
 ·have hkl : ds.take k = ds := List.take_of_length_le (by omega)
  rw [hkl] at hall
  refine wX hlt ?_
  refine z_k (fun n e => ∃ j : Nat, j + n = es.length /\ (es.take j).all (eqOk vs) = true /\ e = [(57, .sv (.one (.int .i64 j))), (56, .sv (.one (.int .i64 es.length))), (55, .sv (.one (.sl (es.map encEq)))), (1, .sv (.one (.sl (vs.map encVl))))]) es.length _ ⟨0, by simp, by simp, rfl⟩ (by simp [go_sem]) ?_
  rintro n e ⟨j, hj, hal2, rfl⟩
  by_cases hlj : j < es.length
  ·obtain ⟨q, hqe⟩ : ∃ q, es[j] = q := ⟨_, rfl⟩
   have hsc := all_succ2 (p := eqOk vs) hlj
   rw [hqe, hal2, Bool.true_and] at hsc
   obtain ⟨q1, q2, q3, q4⟩ := hin.2 q (hqe ▸ List.getElem_mem hlj)
   have q2' : q.1.toNat < vs.length := by omega
   have q4' : q.2.toNat < vs.length := by omega
   have hv1 := vAt_get q1 q2'
   have hv2 := vAt_get q3 q4'
   obtain ⟨u, hue⟩ : ∃ v, vs[q.1.toNat] = v := ⟨_, rfl⟩
   obtain ⟨v, hve⟩ : ∃ v, vs[q.2.toNat] = v := ⟨_, rfl⟩
   rw [hue] at hv1
   rw [hve] at hv2
   have heo : eqOk vs q = (!(u.kind == 0) && (!(v.kind == 0) && u.txt == v.txt)) := by unfold eqOk; rw [hv1, hv2]
   have hq : (u.kind == 0 || v.kind == 0 || !u.txt == v.txt) = !eqOk vs q := by
    rw [heo]
    cases u.kind == 0 <;> cases v.kind == 0 <;> simp
   cases hbq : eqOk vs q with
   | false =>
     rw [hbq] at hq
     have hf : fulfilsV ds es vs = false := by
      have := all_not (p := eqOk vs) hlj (by rw [hqe]; exact hbq)
      simp [fulfilsV, this]
     refine wX (aN hlj <| aN hqe <| aN encEq.eq_1 <| aN encVl.eq_1 <| aN q1 <| aN q2' <| aN q3 <| aN q4' <| aN hue <| aN hve hq) ?_
     simp [go_sem, hf]
   | true =>
     rw [hbq] at hq hsc
     refine wX (aN hlj <| aN hqe <| aN encEq.eq_1 <| aN encVl.eq_1 <| aN q1 <| aN q2' <| aN q3 <| aN q4' <| aN hue <| aN hve hq) ?_
     refine z_j (n - 1) _ (by omega) ⟨j + 1, by omega, hsc, rfl⟩ ?_
     simp [go_sem]
  ·have hjl : es.take j = es := List.take_of_length_le (by omega)
   rw [hjl] at hal2
   have hf : fulfilsV ds es vs = true := by simp only [fulfilsV, hall, hal2, Bool.and_self]
   refine wX hlj ?_
   simp [go_sem, hf]
def checkV (l : List Dcl) (lb : Int) (vs kn : List Vl) : Bool := match l[lb.toNat]? with
 | some d => properV l lb kn && (fitV d.fields vs && fulfilsV d.diffs d.equals (behindV d.first.toNat vs kn))
 | none => false
theorem guard_in {l : List Dcl} (hv : validD l = true) {i : Nat} (h : i < l.length) : okGuard (allF l) l[i] = true := by
 unfold validD at hv
 simp only [Bool.and_eq_true, decide_eq_true_eq, List.all_eq_true, List.mem_range] at hv
 have h1 := hv.2 i h
 rw [okDeclAt_get h] at h1
 simp only [Bool.and_eq_true] at h1
 exact h1.2
set_option maxHeartbeats 64000000
theorem good_num {f : Fld} (h : goodSort f = true) {v : Vl} (hf : fitsV f.kind f.lo f.hi v = true) : -1000000 <= numV v /\ numV v <= 1000000 := by
 unfold fitsV at hf
 simp only [Bool.and_eq_true, decide_eq_true_eq] at hf
 obtain ⟨h1, h2, h3, _⟩ := hf
 unfold goodSort at h
 split at h
 ·simp only [Bool.and_eq_true, decide_eq_true_eq] at h
  omega
 ·split at h
  ·simp only [Bool.and_eq_true, decide_eq_true_eq] at h
   omega
  ·cases h
theorem zero_num {v : Vl} (h : isZ v = true) : numV v = 0 := by
 unfold isZ at h
 simp only [Bool.and_eq_true, beq_iff_eq] at h
 unfold numV
 rw [h.1, h.2.1]
 rfl
theorem fields_good {fs : List Fld} (h : okFields fs = true) : ∀ f ∈ fs, goodSort f = true := by
 intro f hf
 obtain ⟨k, hk, rfl⟩ := List.mem_iff_getElem.1 hf
 unfold okFields at h
 rw [List.all_eq_true] at h
 have := h k (List.mem_range.2 hk)
 rw [okFieldAt_get hk] at this
 simp only [Bool.and_eq_true] at this
 exact this.1.2
theorem decl_fields {l : List Dcl} (hv : validD l = true) : ∀ d ∈ l, okFields d.fields = true := by
 intro d hd
 obtain ⟨i, hi, rfl⟩ := List.mem_iff_getElem.1 hd
 unfold validD at hv
 simp only [Bool.and_eq_true, decide_eq_true_eq, List.all_eq_true, List.mem_range] at hv
 have h1 := hv.2 i hi
 rw [okDeclAt_get hi] at h1
 simp only [Bool.and_eq_true] at h1
 exact h1.1.2
theorem all_good {l : List Dcl} (hv : validD l = true) : ∀ f ∈ allF l, goodSort f = true := by
 intro f hf
 unfold allF at hf
 obtain ⟨d, hd, hf⟩ := List.mem_flatMap.1 hf
 exact fields_good (decl_fields hv d hd) f hf
theorem known_num {all : List Fld} (hg : ∀ f ∈ all, goodSort f = true) {kn : List Vl} (h : knownV all kn = true) : ∀ v ∈ kn, -1000000 <= numV v /\ numV v <= 1000000 := by
 intro v hv
 obtain ⟨k, hk, rfl⟩ := List.mem_iff_getElem.1 hv
 unfold knownV at h
 simp only [Bool.and_eq_true, decide_eq_true_eq, List.all_eq_true, List.mem_range] at h
 have hk2 : k < all.length := by omega
 have h1 := h.2 k hk
 rw [knownAt_get hk2 hk, Bool.or_eq_true] at h1
 rcases h1 with h1 | h1
 ·rw [zero_num h1]
  omega
 ·exact good_num (hg _ (List.getElem_mem hk2)) h1
theorem fit_num {fs : List Fld} (hg : ∀ f ∈ fs, goodSort f = true) {vs : List Vl} (h : fitV fs vs = true) : ∀ v ∈ vs, -1000000 <= numV v /\ numV v <= 1000000 := by
 intro v hv
 obtain ⟨k, hk, rfl⟩ := List.mem_iff_getElem.1 hv
 unfold fitV at h
 simp only [Bool.and_eq_true, decide_eq_true_eq, List.all_eq_true, List.mem_range] at h
 have hk2 : k < fs.length := by omega
 have h1 := h.2 k hk2
 rw [fitAt_get hk2 hk] at h1
 exact good_num (hg _ (List.getElem_mem hk2)) h1
theorem behind_mem {fi : Nat} {vs kn : List Vl} {v : Vl} (h : v ∈ behindV fi vs kn) : v ∈ vs \/ v ∈ kn := by
 unfold behindV at h
 rcases List.mem_append.1 h with h | h
 ·exact .inr (List.mem_of_mem_take h)
 ·rcases List.mem_append.1 h with h | h
  ·exact .inl h
  ·exact .inr (List.mem_of_mem_drop h)
theorem guard_vars {l : List Dcl} (hv : validD l = true) {d : Dcl} (hd : d ∈ l) {vs : List Vl} (hl : vs.length = (allF l).length) : InV vs d.diffs d.equals /\ d.diffs.length <= 20 /\ d.equals.length <= 20 := by
 obtain ⟨i, hi, rfl⟩ := List.mem_iff_getElem.1 hd
 have h := guard_in hv hi
 unfold okGuard at h
 simp only [Bool.and_eq_true, decide_eq_true_eq, List.all_eq_true] at h
 obtain ⟨⟨⟨h1, h2⟩, h3⟩, h4⟩ := h
 refine ⟨⟨fun x hx => ?_, fun e he => ?_⟩, h1, h2⟩
 ·have := h3 x hx
  simp only [okDff, Bool.and_eq_true, decide_eq_true_eq] at this
  omega
 ·have := h4 e he
  simp only [isText, Bool.and_eq_true, decide_eq_true_eq] at this
  omega
theorem f60 (h138 : H138) (l : List Dcl) (lb : Int) (vs kn : List Vl) (hl : l.length <= 1000) (hp : ∀ d ∈ l, d.fields.length <= 100000) (hv : vs.length <= 1000000000000000) (hk : kn.length <= 1000000) :
  Impl Tryz.prog 60 [.one (.sl (l.map encD)), .one (.int .i64 lb), .one (.sl (vs.map encVl)), .one (.sl (kn.map encVl))] (.one (.one (.bool (checkV l lb vs kn)))) := by
 have k89 := f89 h138 l lb kn hl hp hk
 refine impl_v ?_
 cases hpv : properV l lb kn with
 | false =>
   have he : checkV l lb vs kn = false := by
    unfold checkV
    rw [hpv]
    split <;> rfl
   rw [he]
   rw [hpv] at k89
   cases hq : l[lb.toNat]? with
   | none =>
     refine wV hq k89 ?_
     simp [go_sem]
   | some d =>
     by_cases h0 : 0 <= lb
     ·refine wV (aN hq <| aN encD.eq_1 h0) k89 ?_
      simp [go_sem]
     ·refine wV (aN hq <| aN encD.eq_1 h0) k89 ?_
      simp [go_sem]
 | true =>
   rw [hpv] at k89
   obtain ⟨h0, h1, h2, h3⟩ := proper_facts hpv
   obtain ⟨i, rfl⟩ : ∃ i : Nat, lb = i := ⟨lb.toNat, by omega⟩
   have hi : i < l.length := by omega
   have hdl : l[i] ∈ l := List.getElem_mem hi
   obtain ⟨fi, hfi, hfl⟩ := first_in h2 hi
   obtain ⟨d, hd⟩ : ∃ d, l[i] = d := ⟨_, rfl⟩
   rw [hd] at hdl hfi hfl
   have hdm := hp d hdl
   have he : checkV l (i : Int) vs kn = (fitV d.fields vs && fulfilsV d.diffs d.equals (behindV fi vs kn)) := by
    unfold checkV
    rw [hpv, Int.toNat_natCast, List.getElem?_eq_getElem hi, hd]
    simp only [hfi, Int.toNat_natCast, Bool.true_and]
   rw [he]
   have k90 := f90 h138 d.fields vs (by omega) hv
   cases hfv : fitV d.fields vs with
   | false =>
     rw [hfv] at k90
     refine wV (aN hi <| aN hd encD.eq_1) (aN k89 k90) ?_
     simp [go_sem]
   | true =>
     rw [hfv] at k90
     have hvl : vs.length = d.fields.length := by
      unfold fitV at hfv
      simp only [Bool.and_eq_true, decide_eq_true_eq] at hfv
      omega
     have hkl : (allF l).length = kn.length := by
      have h3 := h3
      unfold knownV at h3
      simp only [Bool.and_eq_true, decide_eq_true_eq] at h3
      exact h3.1
     have hbl := behind_len (fi := fi) (vs := vs) (kn := kn) (by omega)
     obtain ⟨g1, g2, g3⟩ := guard_vars h2 hdl (vs := behindV fi vs kn) (by omega)
     have hnum : ∀ v ∈ behindV fi vs kn, -1000000 <= numV v /\ numV v <= 1000000 := fun v hv => by
      rcases behind_mem hv with h | h
      ·exact fit_num (fields_good (decl_fields h2 d hdl)) hfv v h
      ·exact known_num (all_good h2) h3 v h
     have k91 := f91 d fi vs kn hfi (by omega) hk
     have k92 := f92 d.diffs d.equals (behindV fi vs kn) g1 hnum (by omega) (by omega) (by omega)
     simp only [encD] at k91
     refine wV (aN hi <| aN hd encD.eq_1) (aN k89 <| aN k90 <| aN k91 k92) ?_
     simp [go_sem]
set_option maxHeartbeats 64000000
def sameVl (a b : Vl) : Bool := a.kind == b.kind && (a.num == b.num && a.txt == b.txt)
def sameAt (a b : List Vl) (i : Nat) : Bool := match a[i]?, b[i]? with
 | some u, some v => sameVl u v
 | _, _ => false
def sameV (a b : List Vl) : Bool := decide (a.length = b.length) && (List.range a.length).all (sameAt a b)
theorem sameAt_get {a b : List Vl} {i : Nat} (h : i < a.length) (h2 : i < b.length) : sameAt a b i = sameVl a[i] b[i] := by
 unfold sameAt
 rw [List.getElem?_eq_getElem h, List.getElem?_eq_getElem h2]
theorem f59 (a b : List Vl) (ha : a.length <= 1000000000000000) (hb : b.length <= 1000000000000000) : Impl Tryz.prog 59 [.one (.sl (a.map encVl)), .one (.sl (b.map encVl))] (.one (.one (.bool (sameV a b)))) := by
 refine impl_v ?_
 by_cases hl : a.length = b.length
 rotate_left
 ·have hl' : ((a.length : Int) != (b.length : Int)) = true := by simp; omega
  have hf : sameV a b = false := by simp [sameV, hl]
  refine wX hl' ?_
  simp [go_sem, hf]
 have hl' : ((a.length : Int) != (b.length : Int)) = false := by simp [hl]
 refine wX hl' ?_
 refine z_k (fun n e => ∃ k : Nat, k + n = a.length /\ (List.range k).all (sameAt a b) = true /\ e = [(13, .sv (.one (.int .i64 k))), (12, .sv (.one (.int .i64 a.length))), (0, .sv (.one (.sl (a.map encVl)))), (1, .sv (.one (.sl (b.map encVl))))]) a.length _ ⟨0, by simp, by simp, rfl⟩ (by simp [go_sem]) ?_
 rintro n e ⟨k, hk, hall, rfl⟩
 by_cases hlt : k < a.length
 ·have hlt2 : k < b.length := by omega
  have hat := sameAt_get hlt hlt2
  obtain ⟨u, hue⟩ : ∃ u, a[k] = u := ⟨_, rfl⟩
  obtain ⟨v, hve⟩ : ∃ v, b[k] = v := ⟨_, rfl⟩
  rw [hue, hve] at hat
  have hq : (!u.kind == v.kind || (!u.num == v.num || !u.txt == v.txt)) = !sameAt a b k := by
   rw [hat]
   unfold sameVl
   cases u.kind == v.kind <;> cases u.num == v.num <;> simp
  cases hb : sameAt a b k with
  | false =>
    rw [hb] at hq
    have hf : sameV a b = false := by simp [sameV, range_all_no hlt hb]
    refine wX (aN hlt <| aN hlt2 <| aN hue <| aN hve <| aN encVl.eq_1 hq) ?_
    all_goals simp [go_sem, hf]
  | true =>
    rw [hb] at hq
    refine wX (aN hlt <| aN hlt2 <| aN hue <| aN hve <| aN encVl.eq_1 hq) ?_
    refine z_j (n - 1) _ (by omega) ⟨k + 1, by omega, ?_, rfl⟩ ?_
    ·rw [range_succ_all, hall, hb]; rfl
    ·simp [go_sem]
 ·have hke : k = a.length := by omega
  rw [hke] at hall
  have hf : sameV a b = true := by
   unfold sameV
   rw [hall]
   simp [hl]
  refine wX hlt ?_
  simp [go_sem, hf]
end Go.Av

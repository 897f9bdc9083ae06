/- Part of a proof. -/
import Derived.Test.YtbfebdbdoclagaaGreatDoorF4
import Derived.Laws.CopyRow
import Derived.Laws.IdiomCopy
set_option linter.unusedVariables false
set_option linter.unusedSimpArgs false
set_option maxHeartbeats 64000000
namespace Go.Av
open Go Go.RowKit
def copyTo (env : Env) : AV -> Option (Nat × Nat × List (List DV) × Nat × Nat)
 | .al s [] => match env.root s with
   | some (.ow z els) => some (s, z, els, 0, els.length)
   | _ => none
 | .sub s [] lo hi => match env.root s with
   | some (.ow z els) => some (s, z, els, lo, hi)
   | _ => none
 | _ => none
def acopy (P : Program) (env : Env) (o : Op) : Option (Prop × Nat × DV × DV) :=
 match o with
 | .call c => match c.callee, c.args.toList, c.argTypes.toList with
   | .builtin .copy, [x, y], [t, _] => match elT P t with
     | some e => match sizeT P e, sliceOf env (opd env y), copyTo env (opd env x) with
       | some z, some news, some (s, z', els, lo, hi) => if z = z' then some ((z_g els /\ z_g news /\ ∀ e ∈ news, e.length = z), s, .ow z (els.take lo ++ (news.take (hi - lo) ++ els.drop (lo + min news.length (hi - lo)))), .int .i64 (min news.length (hi - lo) : Nat)) else none
       | _, _, _ => none
     | none => none
   | _, _, _ => none
 | _ => none
section
variable {P : Program} {N B : Nat} {w0 : World} {S0 : Nat -> Prop} {env : Env} {a : Act} {w : World} {rows : Nat -> List Nat} {next : Act -> World -> Prop} {Q : Exit -> Act -> World -> Prop}
theorem copyTo_ok (h : SimR N B w0 S0 env a w rows) {av : AV} {v : Value} {r : List Nat} (hv : AVR w (SS B S0 w rows) env (Act.f a) av v r) {s zz : Nat} {els : List (List DV)} {lo hi : Nat} (he : copyTo env av = some (s, zz, els, lo, hi)) :
  env.root s = some (.ow zz els) /\ lo <= hi /\ hi <= els.length /\ ∃ A c, v = .slice A (hi - lo) c /\ (lo < hi -> ∀ b off n c', Act.f a s = .slice (some ⟨b, off, none⟩) n c' -> A = some ⟨b, off + lo * zz, none⟩) := by
 unfold copyTo at he
 split at he
 ·rename_i s'
  split at he
  ·rename_i zz' els' hroot
   simp only [Option.some.injEq, Prod.mk.injEq] at he
   obtain ⟨rfl, rfl, rfl, rfl, rfl⟩ := he
   obtain ⟨_, x, y, h1, h2⟩ := hv
   simp only [cat, Option.some.injEq, Prod.mk.injEq] at h2
   obtain ⟨rfl, _⟩ := h2
   have hcz := h.root_cz hroot
   refine ⟨hroot, Nat.zero_le _, Nat.le_refl _, ?_⟩
   generalize Act.f a s' = v at *
   generalize rows s' = rs at *
   cases hcz with
   | owNil => exact ⟨none, 0, rfl, by simp⟩
   | ow b off n c z els T cs rs hb hne hc hm hsz hz hl =>
     refine ⟨_, _, by rw [hne, Nat.sub_zero], ?_⟩
     intro _ b' off' n' c' hq
     injection hq with h1 h2 h3
     simpa using h1
  ·cases he
 ·rename_i s' lo' hi'
  split at he
  ·rename_i zz' els' hroot
   simp only [Option.some.injEq, Prod.mk.injEq] at he
   obtain ⟨rfl, rfl, rfl, rfl, rfl⟩ := he
   obtain ⟨_, x, y, A, n, c, els2, h1, h2, h3, h4, h5, h6, h7, z, h8, h9⟩ := hv
   simp only [cat, Option.some.injEq, Prod.mk.injEq] at h2
   obtain ⟨h2, rfl⟩ := h2
   rw [hroot] at h1
   injection h1 with h1
   subst h1
   simp only [DV.elsOf, Option.some.injEq] at h3
   subst h3
   refine ⟨hroot, h5, by omega, _, _, h9, ?_⟩
   intro hlt b off n' c' hq
   rw [h2] at hq
   injection hq with g1 g2 g3
   subst g1
   have hz := (h.root_cz hroot)
   have hz1 : z = zz' := by
    have hne : 0 < els'.length := by omega
    have e1 := h8 _ (List.getElem_mem hne)
    have e2 : els'[0].length = zz' := by
     generalize Act.f a s' = v at *
     generalize rows s' = rs at *
     cases hz with
     | owNil => exact absurd hne (by simp)
     | ow b off n c z els T cs rs hb hne hc hm hsz hz hl => exact hz _ (List.getElem_mem _)
    omega
   rw [if_neg (by omega), hz1]
   simp [add_mk]
  ·cases he
 ·cases he
theorem row_cut {α : Type} (l cs : List α) {off lo n : Nat} (h1 : lo + cs.length <= n) (h2 : off + n <= l.length) :
  ((l.take (off + lo) ++ cs ++ l.drop (off + lo + cs.length)).drop off).take n = ((l.drop off).take n).take lo ++ (cs ++ ((l.drop off).take n).drop (lo + cs.length)) := by
 apply List.ext_getElem?
 intro i
 simp only [List.getElem?_take, List.getElem?_drop, List.getElem?_append, List.length_append, List.length_take, List.length_drop]
 grind
theorem Shape.ones {zz : Nat} {els els' : List (List DV)} (hl : els'.length = els.length) (h1 : ∀ e ∈ els, e.length = zz) (h2 : ∀ e ∈ els', e.length = zz) : Shape (.ow zz els) (.ow zz els') := by
 refine ⟨fun i el h => ?_, fun u => by cases u with | pointer a => cases a <;> rfl | slice a _ _ => cases a <;> rfl | _ => rfl, fun l hs => ?_⟩
 ·simp only [DV.elAt] at h ⊢
  have hlt := (List.getElem?_eq_some_iff.1 h).1
  refine ⟨els'[i]'(by omega), List.getElem?_eq_getElem _, ?_⟩
  rw [h2 _ (List.getElem_mem _), <- (List.getElem?_eq_some_iff.1 h).2, h1 _ (List.getElem_mem _)]
 ·injection hs with hs
  subst hs
  refine ⟨_, rfl, hl, fun z hz e he => ?_⟩
  have hne : 0 < els.length := by rw [<- hl]; exact List.length_pos_of_mem he
  rw [h2 e he, <- hz _ (List.getElem_mem hne), h1 _ (List.getElem_mem hne)]
theorem run_copy_min0 (w : World) (dT sT ty elem : TypeId) (d a : Option Addr) (dLen dCap sLen sCap z : Nat) (hu : P.underlying dT = some (.slice elem)) (hs : (P.info? elem).map (·.size) = some z) (h0 : min sLen dLen = 0) :
  (Builtin.copy_ #[dT, sT] ty #[.slice d dLen dCap, .slice a sLen sCap]).run P w = .ok (goInt 0) w := by
 have h0' : Nat.min sLen dLen = 0 := h0
 cases hq : P.info? elem with
 | none => simp [hq] at hs
 | some i => cases d <;> cases a <;> simp [Builtin.copy_, run_underlying hu, Builtin.lenOf, Builtin.firstCells, sizeOf, typeInfo, hq, h0', storeCells, loadCells, loadCellsFrom]
theorem run_copy_rows (w : World) (dT sT ty elem : TypeId) (g o dLen dCap z : Nat) (a : Addr) (sLen sCap : Nat) (cur : Array Value) (t : TypeId) (cs : List Value)
  (hu : P.underlying dT = some (.slice elem)) (hs : (P.info? elem).map (·.size) = some z)
  (hg : w.heap[g]? = some (.cells cur t (0, 0))) (hn : cs.length = Nat.min sLen dLen * z)
  (hsrc : ∀ j v, cs[j]? = some v -> w.cell? (a.add j) = some v) (hfit : o + cs.length <= cur.size) (h1 : ∀ v ∈ cs, v.oneCell' = true) :
  (Builtin.copy_ #[dT, sT] ty #[.slice (some ⟨g, o, none⟩) dLen dCap, .slice (some a) sLen sCap]).run P w =
   .ok (goInt (Nat.min sLen dLen)) (w.setRow g (cur.toList.take o ++ cs ++ cur.toList.drop (o + cs.length)).toArray) := by
 have hl := run_loadCells_list (P := P) w a cs hsrc
 have hst := run_storeCells_at P g o t cs 0 cur w hg (by simpa using hfit) h1
 cases hq : P.info? elem with
 | none => simp [hq] at hs
 | some i =>
   have hi : i.size = z := by simpa [hq] using hs
   simp [Builtin.copy_, run_underlying hu, Builtin.lenOf, Builtin.firstCells, sizeOf, typeInfo, hq, hi, <- hn, hl, hst]
theorem acopy_ok (h : SimR N B w0 S0 env a w rows) {o : Oper} {ob : Prop} {s : Nat} {y n : DV} (he : acopy P env o.op = some (ob, s, y, n)) (hob : ob) {d : Nat} (hd : d < N) (hdst : o.dst = some d)
  (hn : ∀ a' w', Sim N B w0 S0 ((env.setRoot s y 1).put d (.sv (.one n))) a' w' -> next a' w') : o.wp P a w next Q := by
 unfold acopy at he
 split at he
 ·rename_i c hop
  split at he
  ·rename_i X Y t t' hcal hargs htys
   have hargs' : c.args = #[X, Y] := by rw [<- Array.toArray_toList (xs := c.args), hargs]
   have htys' : c.argTypes = #[t, t'] := by rw [<- Array.toArray_toList (xs := c.argTypes), htys]
   split at he
   ·rename_i e helT
    split at he
    ·rename_i z news s' z' els lo hi hs hsrc hto
     split at he
     rotate_left
     ·cases he
     rename_i hzz
     subst hzz
     simp only [Option.some.injEq, Prod.mk.injEq] at he
     obtain ⟨rfl, rfl, rfl, rfl⟩ := he
     obtain ⟨hfl, hnf, hn1⟩ := hob
     have hu : P.underlying t = some (.slice e) := by
      unfold elT at helT
      split at helT
      ·rename_i e' hu
       injection helT with helT
       rw [hu, helT]
      ·cases helT
     obtain ⟨hroot, hlh, hhl, A, cX, hX, hA⟩ := copyTo_ok h (h.opd_ok X) hto
     obtain ⟨AY, cY, nvs, hY, _, hnl, hncell, hncz, hbase⟩ := h.source (h.opd_ok Y) hsrc hnf hn1
     have hexec : ∀ v' w', (Builtin.copy_ #[t, t'] o.type #[a.eval X, a.eval Y]).run P w = .ok v' w' -> (execOp a.eval o).run P w = .ok (.value v') w' := by
      intro v' w' hr
      simp [execOp, hop, resolve, hcal, hargs', htys', invoke, builtin, hr]
     rw [hX, hY] at hexec
     have hcz := h.root_cz hroot
     by_cases h0 : min news.length (hi - lo) = 0
     ·have hels : els.take lo ++ (news.take (hi - lo) ++ els.drop (lo + min news.length (hi - lo))) = els := by
       have : news.take (hi - lo) = [] := by
        apply List.eq_nil_of_length_eq_zero
        rw [List.length_take]
        omega
       rw [this, h0]
       simp
      have hcopy : (Builtin.copy_ #[t, t'] o.type #[.slice A (hi - lo) cX, .slice AY news.length cY]).run P w = .ok (goInt 0) w := run_copy_min0 w t t' o.type e A AY _ cX _ cY z hu hs h0
      refine wp_value (hexec _ _ hcopy) ?_
      rw [hdst]
      have h1 := h.reroot (w' := w) hroot (n := 1) (.inr ⟨rfl, Shape.refl _⟩) (Below.refl _ _) (rs' := rows s') (fun b hb => ⟨.inl hb, (h.own s' b hb).2⟩) (h.nodup s') (fun _ _ _ => rfl) (fun S' hS' _ => hcz.keep (fun b hb => ⟨hS' b hb, rfl⟩) (fun _ _ => rfl))
      rw [hels, h0] at hn
      exact hn _ _ ⟨_, h1.put hd (Below.refl _ _) (r := []) (by simp) (by simp) (.one _ _ _ (.int _ _))⟩
     ·have hlt : lo < hi := by omega
      obtain ⟨ad, rfl⟩ := hbase (by rintro rfl; simp at h0)
      obtain ⟨b, off, n, c', T, cs, rs, hfs, hrows, hb, hen, hcn, hm, hsz, hz, hl⟩ : ∃ b off n c' T cs rs, Act.f a s' = .slice (some ⟨b, off, none⟩) n c' /\ rows s' = b :: rs /\ w.heap[b]? = some (.cells cs T (0, 0)) /\ els.length = n /\ n <= c' /\ c' <= maxLen /\ off + c' * z <= cs.size /\ (∀ e ∈ els, e.length = z) /\ CzL w (SS B S0 w rows) ((cs.toList.drop off).take (n * z)) els.flatten rs := by
       generalize Act.f a s' = v at hcz ⊢
       generalize rows s' = rs0 at hcz ⊢
       cases hcz with
       | owNil => simp at hhl; omega
       | ow b off n c z els T cs rs hb hne hc hm hsz hz hl => exact ⟨_, _, _, _, _, _, _, rfl, rfl, hb, hne, hc, hm, hsz, hz, hl⟩
      have hrs : rs = [] := hl.flat_rows hfl.flatten
      subst hrs
      have hAe := hA hlt _ _ _ _ hfs
      subst hAe
      obtain ⟨m, hm0⟩ : ∃ m, min news.length (hi - lo) = m := ⟨_, rfl⟩
      have hmn : m <= news.length := by omega
      have hmh : lo + m <= hi := by omega
      have hmz : m * z <= news.length * z := Nat.mul_le_mul_right z hmn
      have hlz : (lo + m) * z <= n * z := Nat.mul_le_mul_right z (by omega)
      have hnz : n * z <= c' * z := Nat.mul_le_mul_right z hcn
      rw [Nat.add_mul] at hlz
      have hcl : (nvs.take (m * z)).length = m * z := by rw [List.length_take]; omega
      have hone : ∀ v ∈ nvs.take (m * z), v.oneCell' = true := fun v hv => hncz.allOne v (List.mem_of_mem_take hv)
      have hrun := run_copy_rows (P := P) w t t' o.type e b (off + lo * z) (hi - lo) cX z ad news.length cY cs T (nvs.take (m * z)) hu hs hb (by rw [hcl, <- hm0]) (fun j v hj => by
       rw [List.getElem?_take] at hj
       split at hj
       ·obtain ⟨ad', e1, e2⟩ := hncell j v hj
        injection e1 with e1
        rw [e1]; exact e2
       ·cases hj) (by omega) hone
      have hmin : Nat.min news.length (hi - lo) = m := hm0
      rw [hmin] at hrun
      refine wp_value (hexec _ _ hrun) ?_
      rw [hdst]
      have hbs : b ∈ rows s' := by rw [hrows]; simp
      have hB : B <= b := (h.own s' b hbs).1
      generalize hrow : (cs.toList.take (off + lo * z) ++ nvs.take (m * z) ++ cs.toList.drop (off + lo * z + (nvs.take (m * z)).length)).toArray = row at *
      have hne : ∀ b', b' ≠ b -> (w.setRow b row).heap[b']? = w.heap[b']? := fun b' hb' => setRow_other w b b' _ hb'
      have hSk : ∀ S' : Nat -> Prop, (∀ b, SS B S0 w rows b -> S' b) -> ∀ b', SS B S0 w rows b' -> S' b' /\ (w.setRow b row).heap[b']? = w.heap[b']? := by
       intro S' hS' b' hs
       refine ⟨hS' b' hs, hne b' ?_⟩
       rintro rfl
       rcases hs with hs | hs
       ·exact (h.old b' hs).2.2 _ hbs
       ·exact hs.2.2 s' hbs
      have htn : news.take (hi - lo) = news.take m := by
       by_cases hc : news.length <= hi - lo
       ·rw [List.take_of_length_le hc, List.take_of_length_le (by omega)]
       ·congr 1
        omega
      rw [htn, hm0] at hn
      have hlen' : (els.take lo ++ (news.take m ++ els.drop (lo + m))).length = els.length := by
       simp only [List.length_append, List.length_take, List.length_drop]
       omega
      have hz' : ∀ e ∈ els.take lo ++ (news.take m ++ els.drop (lo + m)), e.length = z := by
       intro e he
       simp only [List.mem_append] at he
       rcases he with he | he | he
       ·exact hz e (List.mem_of_mem_take he)
       ·exact hn1 e (List.mem_of_mem_take he)
       ·exact hz e (List.mem_of_mem_drop he)
      have h1 := h.reroot (w' := w.setRow b row) hroot (n := 1) (x' := .ow z (els.take lo ++ (news.take m ++ els.drop (lo + m)))) (.inr ⟨rfl, Shape.ones hlen' hz hz'⟩) ⟨⟨rfl, rfl, rfl, by simp, fun k hk => hne k (by omega)⟩, Nat.le_refl _⟩ (rs' := [b])
       (fun b' hb' => by
        simp only [List.mem_singleton] at hb'
        subst hb'
        exact ⟨.inl hbs, by rw [setRow_size]; exact (h.own s' b' hbs).2⟩) (by simp)
       (fun b' _ hb' => hne b' (by rintro rfl; exact hb' hbs))
       (fun S' hS' _ => by
        rw [hfs]
        refine .ow b off n c' z _ T row [] (setRow_heap w b cs _ T _ hb) (by rw [hlen', hen]) hcn hm ?_ hz' ?_
        ·rw [<- hrow]
         simp only [List.size_toArray, List.length_append, List.length_take, List.length_drop, Array.length_toList]
         omega
        ·have hrt : row.toList = cs.toList.take (off + lo * z) ++ nvs.take (m * z) ++ cs.toList.drop (off + lo * z + (nvs.take (m * z)).length) := by rw [<- hrow]
         rw [hrt]
         rw [row_cut _ _ (by omega) (by simp only [Array.length_toList]; omega)]
         rw [hcl]
         simp only [List.flatten_append]
         have e1 := flatten_take (z := z) lo hz
         have e2 := flatten_take (z := z) m hn1
         have e3 := flatten_drop (z := z) (lo + m) hz
         rw [Nat.add_mul] at e3
         rw [<- e1, <- e2, <- e3]
         obtain ⟨q1, q2, q3, p1, _⟩ := hl.split (lo * z)
         obtain ⟨u1, u2, u3, _, p3⟩ := hl.split (lo * z + m * z)
         obtain ⟨v1, v2, v3, p2, _⟩ := hncz.split (m * z)
         have q1e : q1 = [] := (List.append_eq_nil_iff.1 q3.symm).1
         have u2e : u2 = [] := (List.append_eq_nil_iff.1 u3.symm).2
         have v1e : v1 = [] := (List.append_eq_nil_iff.1 v3.symm).1
         subst q1e u2e v1e
         have := (p1.append (p2.append p3)).keep (hSk S' hS') (by simp)
         simpa using this)
      exact hn _ _ ⟨_, h1.put hd (Below.refl _ _) (r := []) (by simp) (by simp) (.one _ _ _ (.int _ _))⟩
    ·cases he
   ·cases he
  ·cases he
 ·cases he
end
theorem run_copy_zero {P : Program} (w : World) (dT sT ty elem : TypeId) (d a : Option Addr) (dLen dCap sCap : Nat) (hu : P.underlying dT = some (.slice elem)) (hs : ∃ z, (P.info? elem).map (·.size) = some z) :
  (Builtin.copy_ #[dT, sT] ty #[.slice d dLen dCap, .slice a 0 sCap]).run P w = .ok (goInt 0) w := by
 obtain ⟨z, hs⟩ := hs
 cases hq : P.info? elem with
 | none => simp [hq] at hs
 | some i =>
   have hl : ∀ (x : Addr), (loadCells x 0).run P w = .ok #[] w := fun x => by simpa using run_loadCells_list (P := P) w x [] (by simp)
   cases d <;> cases a <;> simp [Builtin.copy_, run_underlying hu, Builtin.lenOf, Builtin.firstCells, sizeOf, typeInfo, hq, storeCells, hl]
def acopy0 (P : Program) (env : Env) (o : Op) : Option Unit :=
 match o with
 | .call c => match c.callee, c.args.toList, c.argTypes.toList with
   | .builtin .copy, [x, y], [t, _] => match elT P t with
     | some e => match sizeT P e, sliceOf env (opd env y), opd env x with
       | some _, some [], .sub _ _ _ _ => some ()
       | _, _, _ => none
     | none => none
   | _, _, _ => none
 | _ => none
theorem acopy0_ok {P : Program} {N B : Nat} {w0 : World} {S0 : Nat -> Prop} {env : Env} {a : Act} {w : World} {rows : Nat -> List Nat} {next : Act -> World -> Prop} {Q : Exit -> Act -> World -> Prop}
  (h : SimR N B w0 S0 env a w rows) {o : Oper} (he : acopy0 P env o.op = some ()) {d : Nat} (hd : d < N) (hdst : o.dst = some d)
  (hn : ∀ a' w', Sim N B w0 S0 (env.put d (.sv (.one (.int .i64 0)))) a' w' -> next a' w') : o.wp P a w next Q := by
 unfold acopy0 at he
 split at he
 ·rename_i c hop
  split at he
  ·rename_i X Y t t' hcal hargs htys
   have hargs' : c.args = #[X, Y] := by rw [<- Array.toArray_toList (xs := c.args), hargs]
   have htys' : c.argTypes = #[t, t'] := by rw [<- Array.toArray_toList (xs := c.argTypes), htys]
   split at he
   ·rename_i e helT
    split at he
    ·rename_i z s p lo hi hs hsrc hx
     have hu : P.underlying t = some (.slice e) := by
      unfold elT at helT
      split at helT
      ·rename_i e' hu
       injection helT with helT
       rw [hu, helT]
      ·cases helT
     have hX := h.opd_ok X
     rw [hx] at hX
     obtain ⟨_, _, _, _, _, c1, _, _, _, _, _, _, _, _, _, _, hv⟩ := hX
     obtain ⟨AY, cY, nvs, hY, _⟩ := h.source (h.opd_ok Y) hsrc (by intro e he; cases he) (z := 1) (by intro e he; cases he)
     have hexec : ∀ v' w', (Builtin.copy_ #[t, t'] o.type #[a.eval X, a.eval Y]).run P w = .ok v' w' -> (execOp a.eval o).run P w = .ok (.value v') w' := by
      intro v' w' hr
      simp [execOp, hop, resolve, hcal, hargs', htys', invoke, builtin, hr]
     rw [hv, hY] at hexec
     refine wp_value (hexec _ _ (run_copy_zero (P := P) w t t' o.type e _ AY _ _ cY hu ⟨z, hs⟩)) ?_
     rw [hdst]
     exact hn _ _ ⟨_, h.put hd (Below.refl _ _) (r := []) (by simp) (by simp) (.one _ _ _ (.int _ _))⟩
    ·cases he
   ·cases he
  ·cases he
 ·cases he
end Go.Av
namespace Go.Av
open Go Go.RowKit
structure SOp where
 dst : Option Nat
 op : Op
 g : Option (Nat × Bool)
def slimGuard (ops : Array Oper) : Option (Nat × Bool) -> Option (Option (Nat × Bool))
 | none => some none
 | some (j, want) => match ((ops[j]?).bind (·.dst)) with
   | some d => some (some (d, want))
   | none => none
def slimOps (ops : Array Oper) : List Oper -> Option (List SOp)
 | [] => some []
 | o :: os => match slimGuard ops o.guard, slimOps ops os with
   | some g, some l => some ({ dst := o.dst, op := o.op, g := g } :: l)
   | _, _ => none
def guardN (N : Nat) : Option (Nat × Bool) -> Bool
 | none => true
 | some (s, _) => decide (s < N)
def nilCmp (P : Program) (env : Env) (op : BinOp) (t : TypeId) (x y : Operand) : Option (List (List DV) × Bool) :=
 match opd env y with
 | .sv (.one .nil) => match elT P t with
   | some _ => match sliceOf env (opd env x) with
     | some els => match op with
       | .eql => some (els, true)
       | .neq => some (els, false)
       | _ => none
     | none => none
   | none => none
 | _ => none
def takesC (P : Program) (env : Env) (o : Op) (d : Nat) (K : Env -> Prop) : Prop :=
 match acallC env o with
 | some (f, s, x, ys) => ∃ y, ImplC P f x ys y /\ K ((env.setRoot s .dead 0).put d (.sv (.one y)))
 | none => False
def mutsC (P : Program) (env : Env) (o : Op) (d : Nat) (K : Env -> Prop) : Prop :=
 match acallC env o with
 | some (f, s, x, ys) => ∃ y, ImplM P f x ys y /\ K ((env.setRoot s y 1).put d .no)
 | none => match acallP env o with
   | some (f, s, x0, p, x, ys) => ∃ y, ImplM P f x ys y /\ K ((env.setRoot s (setP x0 p y) 1).put d .no)
   | none => False
def capTmps : List Operand -> Option (List Nat)
 | [] => some []
 | .tmp s :: xs => match capTmps xs with
   | some l => some (s :: l)
   | none => none
 | _ :: _ => none
def aclos (env : Env) : Op -> Option AV
 | .makeFunc (.func g) first captured => match first.toList, capTmps captured.toList with
   | [], some ss => if (rootsFrz env ss).isSome then some (.cl g ss) else none
   | _, _ => none
 | _ => none
def frzPts (env : Env) : List Operand -> Env
 | [] => env
 | .tmp s :: xs => match env.get s with
   | .sv (.one (.bx _)) => frzPts (env.frz s) xs
   | _ => frzPts env xs
 | _ :: xs => frzPts env xs
def capsOf (env : Env) : List Operand -> Option (List DV)
 | [] => some []
 | x :: xs => match opd env x, capsOf env xs with
   | .sv (.one d), some l => if d.flat then some (d :: l) else none
   | _, _ => none
def fnOf (env : Env) (t : Nat) : Option (FuncId × List DV × Bool) :=
 match (env.get t).asOpd t with
 | .sv (.one (.fn g caps)) => some (g, caps, false)
 | .cl g caps => match rootsFrz env caps with
   | some l => some (g, l, true)
   | none => none
 | _ => none
def acallF (env : Env) (o : Op) : Option (FuncId × List SV × Bool) :=
 match o with
 | .call c => match c.callee with
   | .value (.tmp t) => match fnOf env t with
     | some (g, caps, own) => match argsOf env c.args.toList with
       | some ys => some (g, ys ++ caps.map .one, own || c.args.toList.any fun x => (opd env x).owned env)
       | none => none
     | none => none
   | _ => none
 | _ => none
def cutFirst (env : Env) (c : Call) : Option (Prop × Env) :=
 match c.args.toList with
 | .tmp t :: _ => match env.get t with
   | .sub s [] lo hi => match env.root s with
     | some (.ow z els) => some ((∀ e ∈ els, e.length = z), (env.setRoot s .dead 0).put t (.sv (.one (.ow z ((els.drop lo).take (hi - lo))))))
     | _ => none
   | _ => none
 | _ => none
def astoreAg (P : Program) (env : Env) (t : TypeId) (x y : Operand) : Option (Prop × Env) :=
 match opd env y with
 | .agl s p i => match env.at s p with
   | some yy => match yy.elAt i with
     | some el => match opd (env.frz s) x with
       | .pt s2 p2 i2 j2 => match sizeT P t, (env.frz s).root s2, (env.frz s).at s2 p2 with
         | some n, some x0, some y0 => match y0.elAt i2 with
           | some el2 => some (el.length = n /\ j2 + n <= el2.length, (env.frz s).setRoot s2 (setP x0 p2 (y0.put i2 j2 (frzL el))) 1)
           | none => none
         | _, _, _ => none
       | _ => none
     | none => none
   | none => none
 | _ => none
def aeff (P : Program) (env : Env) (o : Op) (dst : Option Nat) (K : Env -> Prop) : Prop :=
 match dst with
 | none => match o with
   | .store t x y => match astore P env t x y with
     | some (ob, env') => ob /\ K env'
     | none => match astoreOwn P env t x y with
       | some (ob, env') => ob /\ K env'
       | none => match astoreAg P env t x y with
         | some (ob, env') => ob /\ K env'
         | none => match astoreO P env t x y with
           | some (ob, env') => ob /\ K env'
           | none => False
   | .mapUpdate t x i y => match aupd P env t x i y with
     | some (ob, env') => ob /\ K env'
     | none => False
   | .insert t x i y => match aupd P env t x i y with
     | some (ob, env') => ob /\ K env'
     | none => False
   | _ => False
 | some d => match o with
   | .binOp op t x y _ => match nilCmp P env op t x y with
     | some (els, eq) => ∀ u : Bool, (els ≠ [] -> u = false) -> K (env.put d (.sv (.one (.bool (u == eq)))))
     | none => False
   | .box _ _ => match abox env o P with
     | some l => K (env.put d (.sv (.one (.bx l))))
     | none => False
   | .alloc _ => match abox env o P with
     | some l => K (env.put d (.sv (.one (.bx l))))
     | none => False
   | .assign (.tmp t) => match env.get t with
     | .sv (.one x) => K ((env.setRoot t .dead 0).put d (.sv (.one x)))
     | .al s [] => match env.root s with
       | some x => K ((env.setRoot s .dead 0).put d (.sv (.one x)))
       | none => False
     | .sub s [] lo hi => match env.root s with
       | some (.ow z els) => (∀ e ∈ els, e.length = z) /\ (if s = d then K (env.put d (.sv (.one (.ow z ((els.drop lo).take (hi - lo)))))) else K ((env.setRoot s .dead 0).put d (.sv (.one (.ow z ((els.drop lo).take (hi - lo)))))))
       | _ => False
     | _ => False
   | .move (.tmp t) => match env.get t with
     | .tup l => t ≠ d /\ K (Env.put ((t, .no) :: env) d (.tup l))
     | _ => False
   | .extract (.tmp t) i => match env.get t with
     | .tup l => match l[i]? with
       | some (.one x) => t ≠ d /\ K (Env.put ((t, .tup (l.set i (.one .dead))) :: env) d (.sv (.one x)))
       | _ => False
     | _ => False
   | .buildSlice t len parts => match abuildSlice P env t len parts with
     | some x => K (env.put d (.sv (.one x)))
     | none => match abuildSlice P (frzOps env (parts.toList.map (·.2))) t len parts with
       | some x => K ((frzOps env (parts.toList.map (·.2))).put d (.sv (.one x)))
       | none => False
   | .makeSlice t len cap => match amake P env t len cap with
     | some (ob, x) => ob /\ K (env.put d (.sv (.one x)))
     | none => False
   | .build t parts => match abuildO 3 P env t parts d with
     | some env' => K env'
     | none => match abuild P (frzOps env (parts.toList.map (·.2))) t parts with
       | some (_, av) => K ((frzOps env (parts.toList.map (·.2))).put d av)
       | none => False
   | .makeMap _ none => K (env.put d (.sv (.one (.mp []))))
   | .makeFunc (.func g) first captured => match first.toList, capsOf (frzPts env captured.toList) captured.toList with
     | [], some caps => K ((frzPts env captured.toList).put d (.sv (.one (.fn g caps))))
     | _, _ => False
   | .call c => match aappend P env (.call c) with
     | some (ob, env', x) => ob /\ K (env'.put d (.sv (.one x)))
     | none => match acall env (.call c) with
       | some (f, ys, own) => (∃ r, Impl P f ys r /\ (own = true -> r.Closed) /\ K (env.put d r.av)) \/ (takesC P env (.call c) d K \/ mutsC P env (.call c) d K)
       | none => match acallF env (.call c) with
         | some (f, ys, own) => ∃ r, Impl P f ys r /\ (own = true -> r.Closed) /\ K (env.put d r.av)
         | none => match cutFirst env c with
           | some (ob, env1) => match aappend P env1 (.call c) with
             | some (ob2, env', x) => ob /\ ob2 /\ K (env'.put d (.sv (.one x)))
             | none => match acopy0 P env (.call c) with
               | some _ => K (env.put d (.sv (.one (.int .i64 0))))
               | none => match acopy P env (.call c) with
                 | some (ob, s, y, n) => ob /\ K ((env.setRoot s y 1).put d (.sv (.one n)))
                 | none => False
           | none => match acopy P env (.call c) with
             | some (ob, s, y, n) => ob /\ K ((env.setRoot s y 1).put d (.sv (.one n)))
             | none => False
   | _ => False
def apureA (P : Program) (env : Env) (o : Op) : Option (Prop × AV) :=
 match apure P env o with
 | some x => some x
 | none => apure2 P env o
def AV.wanted (want : Bool) : AV -> Option Bool
 | .sv (.one (.bool b)) => some (b == want)
 | .undef => some false
 | .gd c (.sv (.one (.bool b))) => some (c && (b == want))
 | .gd false _ => some false
 | _ => none
def tmpsL : List Operand -> List Nat
 | [] => []
 | .tmp t :: xs => t :: tmpsL xs
 | _ :: xs => tmpsL xs
def calT : Callee -> List Nat
 | .value x => tmpsL [x]
 | _ => []
def opTmps : Op -> List Nat
 | .move x => tmpsL [x]
 | .assign x => tmpsL [x]
 | .pick c x y => tmpsL [c, x, y]
 | .load _ x => tmpsL [x]
 | .fieldAddr _ x _ => tmpsL [x]
 | .indexAddr _ x i => tmpsL [x, i]
 | .binOp _ _ x y _ => tmpsL [x, y]
 | .unOp _ _ x => tmpsL [x]
 | .convert _ _ x => tmpsL [x]
 | .extract x _ => tmpsL [x]
 | .slice _ x lo hi _ => tmpsL (x :: (lo.toList ++ hi.toList))
 | .field _ x _ => tmpsL [x]
 | .call c => calT c.callee ++ tmpsL c.args.toList
 | .box _ x => tmpsL [x]
 | .build _ ps => tmpsL (ps.toList.map (·.2))
 | .buildSlice _ _ ps => tmpsL (ps.toList.map (·.2))
 | .store _ x y => tmpsL [x, y]
 | .makeSlice _ x y => tmpsL [x, y]
 | .index _ x i => tmpsL [x, i]
 | .lookup _ x i _ => tmpsL [x, i]
 | .mapUpdate _ x i y => tmpsL [x, i, y]
 | .insert _ x i y => tmpsL [x, i, y]
 | _ => []
def strTmps : Op -> List Nat
 | .pick c _ _ => tmpsL [c]
 | o => opTmps o
def strip (env : Env) : List Nat -> Prop × Env
 | [] => (True, env)
 | t :: ts => match env.get t with
   | .gd c a => (c = true /\ (strip env ts).1, (t, .gd true a) :: (strip env ts).2)
   | _ => strip env ts
def astep (P : Program) (o : SOp) (env : Env) (K : Env -> Prop) : Prop :=
 match o.g with
 | none => match apureA P env o.op with
   | some (ob, av) => match o.dst with
     | some d => ob /\ K (env.put d av)
     | none => False
   | none => aeff P env o.op o.dst K
 | some (s, want) => match (env.get s).wanted want with
   | some c => match o.dst with
     | some d => match apureA P (strip env (strTmps o.op)).2 o.op with
       | some (ob, av) => (c = true -> (strip env (strTmps o.op)).1 /\ ob) /\ K (env.put d (.gd c av))
       | none => match aclos env o.op with
         | some av => K (env.put d (.gd c av))
         | none => (c = true -> aeff P env o.op o.dst K) /\ (c = false -> K (env.put d .undef))
     | none => (c = true -> aeff P env o.op o.dst K) /\ (c = false -> K env)
   | none => False
def arun (P : Program) : List SOp -> Env -> (Env -> Prop) -> Prop
 | [], env, K => K env
 | o :: os, env, K => astep P o env fun env' => arun P os env' K
def AV.le : AV -> AV -> Prop
 | _, .no => True
 | .sv (.one .nil), .sv (.one (.ow _ els)) => els = []
 | .sv (.one .nil), .sv (.one (.sl els)) => els = []
 | a, b => a = b
def AV.refOk (e e' : Env) : AV -> Prop
 | .al s _ => e'.root s = e.root s
 | .pt s _ _ _ => e'.root s = e.root s
 | .sub s _ _ _ => e'.root s = e.root s
 | .bsl s _ _ => e'.root s = e.root s
 | .gd _ a => AV.refOk e e' a
 | .agl s _ _ => e'.root s = e.root s
 | _ => True
def Env.coversL (e e' : Env) : Env -> Prop
 | [] => True
 | (t, a) :: l => (e.get t).le a /\ a.refOk e e' /\ Env.coversL e e' l
def Env.covers (e e' : Env) : Prop := Env.coversL e e' e'
theorem Env.coversL_get {e e' : Env} : ∀ {l : Env}, Env.coversL e e' l -> ∀ t, (e.get t).le (l.get t) /\ (l.get t).refOk e e'
 | [], _, t => by
   simp only [Env.get, AV.refOk, and_true]
   cases e.get t <;> exact trivial
 | (s, a) :: l, h, t => by
   obtain ⟨h1, h2, h3⟩ := h
   simp only [Env.get]
   split
   ·rename_i e
    subst e
    exact ⟨h1, h2⟩
   ·exact Env.coversL_get h3 t
section
variable {N B : Nat} {w0 : World} {S0 : Nat -> Prop} {env env' : Env} {a : Act} {w : World} {rows : Nat -> List Nat}
theorem AVR.refKeep {S S' : Nat -> Prop} {f : Nat -> Value} (hS : ∀ b, S b -> S' b) : ∀ (av : AV) {v : Value} {r : List Nat}, AVR w S env f av v r -> av.refOk env env' -> AVR w S' env' f av v r
 | .no, _, _, h, _ => h
 | .undef, _, _, h, _ => h
 | .sv x, _, _, h, _ => CzS.keep (fun b hb => ⟨hS b hb, rfl⟩) h (fun _ _ => rfl)
 | .tup l, _, _, ⟨vs, h1, h2⟩, _ => ⟨vs, h1, h2.keep (fun b hb => ⟨hS b hb, rfl⟩) (fun _ _ => rfl)⟩
 | .al s p, v, r, h, hk => by
   obtain ⟨rfl, x, y, h1, h2⟩ := h
   exact ⟨rfl, x, y, hk.trans h1, h2⟩
 | .pt s p i j, v, r, h, hk => by
   obtain ⟨rfl, x, u, y, el, ad, h1, h2⟩ := h
   exact ⟨rfl, x, u, y, el, ad, hk.trans h1, h2⟩
 | .sub s p lo hi, v, r, h, hk => by
   obtain ⟨rfl, x, y, A, n, c, els, h1, h2⟩ := h
   exact ⟨rfl, x, y, A, n, c, els, hk.trans h1, h2⟩
 | .bsl s p m, v, r, h, hk => by
   obtain ⟨rfl, x, u, y, el, ad, h1, h2⟩ := h
   exact ⟨rfl, x, u, y, el, ad, hk.trans h1, h2⟩
 | .gd c a, v, r, h, hk => by
   obtain ⟨rfl, h1, h2⟩ := h
   exact ⟨rfl, fun hc => AVR.refKeep hS a (h1 hc) hk, h2⟩
 | .eqv s x, v, r, h, _ => h
 | .cl g caps, v, r, h, _ => h
 | .agl s p i, v, r, h, hk => by
   obtain ⟨rfl, x, u, y, el, vs, h1, h2⟩ := h
   exact ⟨rfl, x, u, y, el, vs, hk.trans h1, h2⟩
theorem Sim.covers (h : Sim N B w0 S0 env a w) (hc : env.covers env') : Sim N B w0 S0 env' a w := by
 obtain ⟨rows, h⟩ := h
 have hsub : ∀ t b, b ∈ (match env'.get t with | .no => [] | _ => rows t) -> b ∈ rows t := by
  intro t b hb
  split at hb
  ·cases hb
  ·exact hb
 have hS : ∀ b, SS B S0 w rows b -> SS B S0 w (fun t => match env'.get t with | .no => [] | _ => rows t) b := by
  intro b hb
  rcases hb with hb | ⟨h1, h2, h3⟩
  ·exact .inl hb
  ·exact .inr ⟨h1, h2, fun t ht => h3 t (hsub t b ht)⟩
 refine ⟨fun t => match env'.get t with | .no => [] | _ => rows t, h.defers, h.size, h.below, h.base, h.old_next (fun t b hb => .inl ⟨t, hsub t b hb⟩) (fun b hlt _ => rfl), fun t b hb => h.own t b (hsub t b hb), ?_, fun t t' hne b hb hb' => h.apart t t' hne b (hsub t b hb) (hsub t' b hb'), ?_⟩
 ·intro t
  split
  ·exact List.nodup_nil
  ·exact h.nodup t
 ·intro t
  obtain ⟨h1, h2⟩ := Env.coversL_get hc t
  have hr := h.rel t
  generalize env.get t = av at *
  generalize env'.get t = av' at *
  generalize Act.f a t = v at *
  generalize rows t = rs at *
  unfold AV.le at h1
  split at h1
  ·trivial
  ·subst h1
   have hr := CzS.one_inv hr
   cases hr
   exact .one _ _ _ (.owNil _)
  ·subst h1
   have hr := CzS.one_inv hr
   cases hr
   exact .one _ _ _ (.shNil _ _)
  ·subst h1
   cases av with
   | no => trivial
   | _ => exact AVR.refKeep hS _ hr h2
end
theorem AV.refOk_of {env env' : Env} (hroot : ∀ s, env'.root s = env.root s) : ∀ (a : AV), a.refOk env env'
 | .gd _ a => AV.refOk_of hroot a
 | .eqv _ _ => trivial
 | .cl _ _ => trivial
 | .agl s _ _ => hroot s
 | .al s _ => hroot s
 | .pt s _ _ _ => hroot s
 | .sub s _ _ _ => hroot s
 | .bsl s _ _ => hroot s
 | .no => trivial
 | .undef => trivial
 | .sv _ => trivial
 | .tup _ => trivial
section
variable {P : Program} {N B : Nat} {w0 : World} {S0 : Nat -> Prop} {env env' : Env} {a : Act} {w : World} {rows : Nat -> List Nat} {next : Act -> World -> Prop} {Q : Exit -> Act -> World -> Prop}
theorem Sim.congr (hg : ∀ t, env.get t = env'.get t) (h : Sim N B w0 S0 env a w) : Sim N B w0 S0 env' a w := by
 obtain ⟨rows, h⟩ := h
 have hroot : ∀ s, env'.root s = env.root s := fun s => by simp only [Env.root, hg]
 refine ⟨rows, h.defers, h.size, h.below, h.base, h.old, h.own, h.nodup, h.apart, fun t => ?_⟩
 rw [<- hg t]
 exact AVR.refKeep (fun _ h => h) _ (h.rel t) (AV.refOk_of hroot _)
theorem AV.kill_kill (s n : Nat) : ∀ a : AV, (a.kill s n).kill s n = a.kill s n
 | .gd c a => by simp only [AV.kill, AV.kill_kill s n a]
 | .eqv s' v => by simp only [AV.kill]; split <;> simp [AV.kill, *]
 | .cl g caps => by simp only [AV.kill]; split <;> simp_all [AV.kill]
 | .agl s' p i => by simp only [AV.kill]; split <;> simp [AV.kill, *]
 | .al s' p => by simp only [AV.kill]; split <;> simp [AV.kill, *]
 | .pt s' p i j => by simp only [AV.kill]; split <;> simp [AV.kill, *]
 | .sub s' p i j => by simp only [AV.kill]; split <;> simp [AV.kill, *]
 | .bsl s' p m => by simp only [AV.kill]; split <;> simp [AV.kill, *]
 | .no => rfl
 | .undef => rfl
 | .sv _ => rfl
 | .tup _ => rfl
theorem SimR.cutOver (h : SimR N B w0 S0 env a w rows) {s d t lo hi z : Nat} {els : List (List DV)} (hd : d < N) (ht : env.get t = .sub s [] lo hi) (hx : env.root s = some (.ow z els)) (hz : ∀ e ∈ els, e.length = z) :
  Sim N B w0 S0 ((env.setRoot s .dead 0).put d (.sv (.one (.ow z ((els.drop lo).take (hi - lo)))))) (a.put (some d) (Act.f a t)) w := by
 have hr := h.rel t
 rw [ht] at hr
 obtain ⟨_, x, y, A, n, c, els', hx', hcat, hels, hn, h3, h4, h5, z', hz', hv⟩ := hr
 rw [hx] at hx'
 injection hx' with hx'
 subst hx'
 simp only [cat, Option.some.injEq, Prod.mk.injEq] at hcat
 obtain ⟨hfd, rfl⟩ := hcat
 simp only [DV.elsOf, Option.some.injEq] at hels
 subst hels
 have hcz := h.root_cz hx
 rw [hfd] at hcz
 rw [hv]
 have fin : ∀ r' : List Nat, (∀ b ∈ r', b ∈ rows s) -> r'.Nodup -> (∀ S', (∀ b, SS B S0 w rows b -> S' b) -> Cz w S' (.slice (if c = lo then A else A.map (·.add (lo * z'))) (hi - lo) (c - lo)) (.ow z ((els.drop lo).take (hi - lo))) r') ->
   Sim N B w0 S0 ((env.setRoot s .dead 0).put d (.sv (.one (.ow z ((els.drop lo).take (hi - lo)))))) (a.put (some d) (.slice (if c = lo then A else A.map (·.add (lo * z'))) (hi - lo) (c - lo))) w := by
  intro r' h1 h2 h3
  have hone : (Act.f a s).oneCell' = true := by rw [hfd]; rfl
  have hs := h.consume hd hx (n := 0) (.inl rfl) (Below.refl B w) (rs' := []) (r' := r') (by simp) (by simp) (fun b hb => ⟨.inl (h1 b hb), (h.own s b (h1 b hb)).2⟩) h2 (by simp) (fun _ _ _ => rfl) (fun S' _ => .dead _ hone) (fun S' hS' => .one _ _ _ (h3 S' hS'))
  exact ⟨_, hs⟩
 generalize hvd : Value.slice A n c = vd at hcz
 generalize hrd : rows s = rd at hcz
 cases hcz with
 | owNil =>
   injection hvd with e1 e2 e3
   subst e1
   subst e2
   subst e3
   have e4 : lo = 0 := by omega
   have e5 : hi = 0 := by omega
   subst e4
   subst e5
   exact fin [] (by simp) (by simp) (fun S' _ => by simpa using Cz.owNil z)
 | ow b off n' c' z0 els0 T cs rs hb hne hc hm hsz hzz hl =>
   injection hvd with e1 e2 e3
   subst e1
   subst e2
   subst e3
   have hcases : els = [] \/ z' = z := by
    cases els with
    | nil => exact .inl rfl
    | cons e es => right; have := hz e (by simp); have := hz' e (by simp); omega
   have hnd : (b :: rs).Nodup := by rw [<- hrd]; exact h.nodup s
   have hmemd : ∀ k, k ∈ rows s ↔ k ∈ b :: rs := by intro k; rw [hrd]
   by_cases hcl : c = lo
   ·-- nothing is left, not even room
    have hlo : hi - lo = 0 := by omega
    rw [if_pos hcl, hlo, List.take_zero] at fin
    rw [if_pos hcl, hlo, List.take_zero]
    refine fin [b] (fun k hk => (hmemd k).2 (by simp at hk; simp [hk])) (by simp) (fun S' hS' => ?_)
    exact .ow b off 0 (c - lo) z [] T cs [] hb rfl (by omega) (by omega) (by simp [hcl]; omega) (by simp) (by simpa using CzL.nil)
   ·rw [if_neg hcl] at fin
    rw [if_neg hcl]
    obtain ⟨r1, r2, er, _, g2⟩ := CzL.split (lo * z) hl
    obtain ⟨r3, r4, er2, g3, _⟩ := CzL.split ((hi - lo) * z) g2
    rw [flatten_drop lo hzz, flatten_take (hi - lo) (fun e he => hzz e (List.mem_of_mem_drop he))] at g3
    have hin : ∀ k ∈ b :: r3, k ∈ b :: rs := by
     intro k hk
     rw [er, er2]
     simp only [List.mem_cons, List.mem_append] at hk ⊢
     rcases hk with hk | hk
     ·exact .inl hk
     ·exact .inr (.inr (.inl hk))
    have hndr : (b :: r3).Nodup := by
     rw [er, er2] at hnd
     simp only [List.nodup_cons, List.nodup_append, List.mem_append] at hnd ⊢
     exact ⟨fun hb3 => hnd.1 (.inr (.inl hb3)), hnd.2.2.1.1⟩
    have hzlo : lo * z' = lo * z := by
     rcases hcases with he | he
     ·subst he
      simp at hne
      have : lo = 0 := by omega
      simp [this]
     ·rw [he]
    have e9 : (Option.map (fun x : Addr => x.add (lo * z')) (some ⟨b, off, none⟩)) = some ⟨b, off + lo * z, none⟩ := by
     rw [hzlo, Option.map_some, add_mk]
    rw [e9] at fin ⊢
    refine fin (b :: r3) (fun k hk => (hmemd k).2 (hin k hk)) hndr (fun S' hS' => ?_)
    have hcm : lo * z + (c - lo) * z = c * z := by rw [<- Nat.add_mul]; congr 1; omega
    refine .ow b (off + lo * z) (hi - lo) (c - lo) z _ T cs r3 hb (by rw [List.length_take, List.length_drop]; omega) (by omega) (by omega) (by omega) (fun e he => hzz e (List.mem_of_mem_drop (List.mem_of_mem_take he))) ?_
    have hseg : ((((cs.toList.drop off).take (n * z)).drop (lo * z)).take ((hi - lo) * z)) = (cs.toList.drop (off + lo * z)).take ((hi - lo) * z) := by
     have hle : lo * z + (hi - lo) * z <= n * z := by rw [<- Nat.add_mul]; exact Nat.mul_le_mul_right _ (by omega)
     rw [seg hle, List.drop_drop]
    rw [hseg] at g3
    exact g3.keep (fun b hb => ⟨hS' b hb, rfl⟩) (fun _ _ => rfl)
theorem SimR.cutOwn (h : SimR N B w0 S0 env a w rows) {d t lo hi z : Nat} {els : List (List DV)} (hd : d < N) (ht : env.get t = .sub d [] lo hi) (hx : env.root d = some (.ow z els)) (hz : ∀ e ∈ els, e.length = z) :
  Sim N B w0 S0 (env.put d (.sv (.one (.ow z ((els.drop lo).take (hi - lo)))))) (a.put (some d) (Act.f a t)) w := by
 refine Sim.congr (fun k => ?_) (h.cutOver hd ht hx hz)
 rw [Env.get_put, Env.get_put, Env.get_setRoot]
 by_cases e : d = k
 ·simp [e]
 ·simp only [e, if_false, AV.kill_kill]
theorem Act.put_same (a : Act) {t : Nat} (ht : t < a.tmps.size) : a.put (some t) (Act.f a t) = a := by
 obtain ⟨tmps, defers⟩ := a
 simp only [Act.put, Act.f]
 congr 1
 apply Array.ext
 ·simp
 ·intro i h1 h2
  rw [Array.getElem_setIfInBounds (by simpa using h2)]
  split
  ·rename_i e
   subst e
   simp [Array.getD_eq_getD_getElem?, h2]
  ·rfl
theorem SimR.cutFirst (h : SimR N B w0 S0 env a w rows) {c : Call} {ob : Prop} {env1 : Env} (he : cutFirst env c = some (ob, env1)) (hob : ob) : Sim N B w0 S0 env1 a w := by
 unfold Av.cutFirst at he
 split at he
 ·rename_i t _ _
  split at he
  ·rename_i s lo hi ht
   split at he
   ·rename_i z els hx
    simp only [Option.some.injEq, Prod.mk.injEq] at he
    obtain ⟨rfl, rfl⟩ := he
    have hN : t < N := by
     rcases Nat.lt_or_ge t N with h' | h'
     ·exact h'
     ·have hr := h.rel t
      rw [ht] at hr
      obtain ⟨_, _, _, A, n, c', els', _, _, _, _, _, _, _, z', _, hv⟩ := hr
      have : Act.f a t = Go.undef := by
       simp only [Act.f, Array.getD_eq_getD_getElem?]
       rw [Array.getElem?_eq_none (by rw [h.size]; exact h')]
       rfl
      rw [this] at hv
      cases hv
    have := h.cutOver hN ht hx hob
    rwa [Act.put_same a (by rw [h.size]; exact hN)] at this
   ·cases he
  ·cases he
 ·cases he
theorem SimR.frzPts : ∀ (xs : List Operand) {env : Env} {rows : Nat -> List Nat}, SimR N B w0 S0 env a w rows -> ∃ rows', SimR N B w0 S0 (Av.frzPts env xs) a w rows'
 | [], _, rows, h => ⟨rows, h⟩
 | x :: xs, env, rows, h => by
   unfold Av.frzPts
   split
   ·rename_i e; cases e
   ·rename_i s xs' e
    injection e with _ e
    subst e
    split
    ·obtain ⟨rows', h', _⟩ := h.frz s
     exact SimR.frzPts xs h'
    ·exact SimR.frzPts xs h
   ·rename_i e
    injection e with _ e
    subst e
    exact SimR.frzPts xs h
theorem SimR.caps_ok (h : SimR N B w0 S0 env a w rows) : ∀ (xs : List Operand) (caps : List DV), capsOf env xs = some caps -> CzL w (SS B S0 w rows) (xs.map a.eval) caps []
 | [], caps, he => by
   simp only [capsOf, Option.some.injEq] at he
   subst he
   exact .nil
 | x :: xs, caps, he => by
   simp only [capsOf] at he
   split at he
   ·rename_i d l hx hl
    split at he
    ·rename_i hfl
     simp only [Option.some.injEq] at he
     subst he
     have hv := h.opd_ok x
     rw [hx] at hv
     exact CzL.cons _ _ [] _ _ [] (CzS.one_inv hv) (h.caps_ok xs l hl)
    ·cases he
   ·cases he
end
end Go.Av
namespace Go.Av
open Go Go.RowKit
section
variable {P : Program} {N B : Nat} {w0 : World} {S0 : Nat -> Prop} {env : Env} {a : Act} {w : World} {rows : Nat -> List Nat} {next : Act -> World -> Prop} {Q : Exit -> Act -> World -> Prop}
theorem wp_pure (h : SimR N B w0 S0 env a w rows) {o : Oper} {av : AV} (hv : ∃ v, Yields P o a w v /\ AVR w (SS B S0 w rows) env (Act.f a) av v []) {d : Nat} (hd : d < N) (hdst : o.dst = some d)
  (hn : ∀ a' w', Sim N B w0 S0 (env.put d av) a' w' -> next a' w') : o.wp P a w next Q := by
 obtain ⟨v, hy, hr⟩ := hv
 refine wp_value (hy w (Below.refl _ _)) ?_
 rw [hdst]
 refine hn _ _ ⟨_, h.put hd (Below.refl _ _) (r := []) (by simp) (by simp) ?_⟩
 exact AVR.refKeep (fun b hb => .inl hb) av hr (AV.refOk_of (fun _ => rfl) av)
theorem apureA_ok (h : SimR N B w0 S0 env a w rows) {o : Oper} {ob : Prop} {av : AV} (he : apureA P env o.op = some (ob, av)) (hob : ob) :
  ∃ v, Yields P o a w v /\ AVR w (SS B S0 w rows) env (Act.f a) av v [] := by
 unfold apureA at he
 split at he
 ·rename_i x hx
  injection he with he
  subst he
  exact apure_ok h hx hob
 ·exact apure2_ok h he hob
theorem call_ok (h : SimR N B w0 S0 env a w rows) {o : Oper} {f : FuncId} {ys : List SV} {own : Bool} {r : RV} (he : acall env o.op = some (f, ys, own)) (hf : Impl P f ys r) (hc : own = true -> r.Closed) {d : Nat} (hd : d < N) (hdst : o.dst = some d)
  (hn : ∀ a' w', Sim N B w0 S0 (env.put d r.av) a' w' -> next a' w') : o.wp P a w next Q := by
 obtain ⟨xs, h1, h2, hrun⟩ := acall_run he hf.1
 unfold Oper.wp
 rw [hrun]
 show Calls P f _ w _
 have hbase := h.base
 have fin : ∀ e w', (∃ v rs, e = Ending.returned v /\ Below w.heap.size w w' /\ (∀ b ∈ rs, w.heap.size <= b /\ b < w'.heap.size) /\ rs.Nodup /\ CzR w' (fun b => SS B S0 w rows b \/ (w.heap.size <= b /\ b < w'.heap.size /\ b ∉ rs)) v r rs) ->
   (match e with
    | .returned v => next (a.put o.dst v) w'
    | .panicked chain => Q (.panic chain) a w'
    | .outgrown => LetsOut Q) := by
  rintro e w' ⟨v, rs, rfl, hb, hrs, hnd, hr⟩
  dsimp only
  rw [hdst]
  refine hn _ _ ⟨_, h.put hd hb hrs hnd ?_⟩
  cases hr with
  | one v x rs hx => exact hx
  | tup vs l rs hl => exact ⟨vs, rfl, hl⟩
 cases own with
 | false =>
   have hargs := h.args_ok (S' := SS B S0 w rows) (fun _ hb => hb) xs ys h1 (fun x hx hown => by
    have : xs.any (fun x => (opd env x).owned env) = true := List.any_eq_true.2 ⟨x, hx, hown⟩
    rw [<- h2] at this
    cases this)
   refine (hf.2 w (SS B S0 w rows) _ (fun b hb => h.lt hb) hargs).mono ?_
   intro e w' he'
   have := fin e w' he'
   cases e <;> exact this
 | true =>
   have hargs := h.args_ok (S' := fun b => b < w.heap.size) (fun b hb => h.lt hb) xs ys h1 (fun x hx hown t b hb => (h.own t b hb).2)
   refine (hf.2 w (fun b => b < w.heap.size) _ (fun b hb => hb) hargs).mono ?_
   rintro e w' ⟨v, rs, he', hb, hrs, hnd, hr⟩
   have := fin e w' ⟨v, rs, he', hb, hrs, hnd, hr.closed (hc rfl)⟩
   cases e <;> exact this
theorem CzL.ones {S' : Nat -> Prop} : ∀ {l : List Value} {caps : List DV} {rr : List Nat}, CzL w S' l caps rr -> CzSL w S' l (caps.map .one) rr := by
 intro l caps rr h
 induction caps generalizing l rr with
 | nil => cases h; exact .nil
 | cons x xs ih =>
   cases h with
   | cons v x r vs xs rs h hs => exact .cons _ _ _ _ _ _ (.one _ _ _ h) (ih hs)
theorem SimR.fn_ok (h : SimR N B w0 S0 env a w rows) {t : Nat} {g : FuncId} {caps : List DV} {own : Bool} (he : fnOf env t = some (g, caps, own)) :
  ∃ cs : Array Value, a.eval (.tmp t) = .func (.func g) #[] cs /\ ∀ S' : Nat -> Prop, (∀ b, SS B S0 w rows b -> S' b) -> (own = true -> ∀ s, ∀ b ∈ rows s, S' b) -> CzSL w S' cs.toList (caps.map .one) [] := by
 have hx := h.opd_ok (.tmp t)
 simp only [opd] at hx
 unfold fnOf at he
 split at he
 ·rename_i g' caps' hg
  simp only [Option.some.injEq, Prod.mk.injEq] at he
  obtain ⟨rfl, rfl, rfl⟩ := he
  rw [hg] at hx
  have hx := CzS.one_inv hx
  generalize hv : a.eval (.tmp t) = v at hx ⊢
  generalize hnil : ([] : List Nat) = rr at hx
  cases hx with
  | fn g cs caps hcaps => exact ⟨cs, rfl, fun S' hS' _ => CzL.ones (hcaps.keep (fun b hb => ⟨hS' b hb, rfl⟩) (by simp))⟩
 ·rename_i g' ss hg
  split at he
  ·rename_i l hl
   simp only [Option.some.injEq, Prod.mk.injEq] at he
   obtain ⟨rfl, rfl, rfl⟩ := he
   rw [hg] at hx
   exact ⟨_, hx.2, fun S' hS' ho => CzL.ones (h.roots_ok hS' (ho rfl) ss l hl)⟩
  ·cases he
 ·cases he
theorem callF_ok (h : SimR N B w0 S0 env a w rows) {o : Oper} {f : FuncId} {ys : List SV} {own : Bool} {r : RV} (he : acallF env o.op = some (f, ys, own)) (hf : Impl P f ys r) (hc : own = true -> r.Closed) {d : Nat} (hd : d < N) (hdst : o.dst = some d)
  (hn : ∀ a' w', Sim N B w0 S0 (env.put d r.av) a' w' -> next a' w') : o.wp P a w next Q := by
 unfold acallF at he
 split at he
 ·rename_i c ho
  split at he
  ·rename_i t hcal
   split at he
   ·rename_i g caps fown hg
    split at he
    ·rename_i ys0 hys
     simp only [Option.some.injEq, Prod.mk.injEq] at he
     obtain ⟨rfl, rfl, hown⟩ := he
     obtain ⟨cs, hev, hcapsS⟩ := h.fn_ok hg
     obtain ⟨fn, h1, h2, h3⟩ := hf.1
     have hbody : fn.body ≠ none := by intro hbb; simp [hbb] at h2
     have hmap : (c.args.toList.map a.eval ++ cs.toList).toArray = c.args.map a.eval ++ cs := by
      apply Array.ext'
      simp
     have hrun : (execOp a.eval o).run P w = .ok (.enter g (c.args.toList.map a.eval ++ cs.toList).toArray) w := by
      rw [hmap]
      simp [execOp, ho, resolve, hcal, hev, Deferred.ofValue, invoke, callFunc, run_program, h1, hbody, h3]
     unfold Oper.wp
     rw [hrun]
     show Calls P g _ w _
     have hbase := h.base
     have fin : ∀ e w', (∃ v rs, e = Ending.returned v /\ Below w.heap.size w w' /\ (∀ b ∈ rs, w.heap.size <= b /\ b < w'.heap.size) /\ rs.Nodup /\ CzR w' (fun b => SS B S0 w rows b \/ (w.heap.size <= b /\ b < w'.heap.size /\ b ∉ rs)) v r rs) ->
       (match e with
        | .returned v => next (a.put o.dst v) w'
        | .panicked chain => Q (.panic chain) a w'
        | .outgrown => LetsOut Q) := by
      rintro e w' ⟨v, rs, rfl, hb, hrs, hnd, hr⟩
      dsimp only
      rw [hdst]
      refine hn _ _ ⟨_, h.put hd hb hrs hnd ?_⟩
      cases hr with
      | one v x rs hx => exact hx
      | tup vs l rs hl => exact ⟨vs, rfl, hl⟩
     cases own with
     | false =>
       simp only [Bool.or_eq_false_iff] at hown
       have hargs := h.args_ok (S' := SS B S0 w rows) (fun _ hb => hb) c.args.toList ys0 hys (fun x hx hown' => by
        have : (c.args.toList.any fun x => (opd env x).owned env) = true := List.any_eq_true.2 ⟨x, hx, hown'⟩
        rw [hown.2] at this
        cases this)
       refine (hf.2 w (SS B S0 w rows) _ (fun b hb => h.lt hb) (hargs.append (hcapsS _ (fun _ hb => hb) (fun ht => by rw [hown.1] at ht; cases ht)))).mono ?_
       intro e w' he'
       have := fin e w' he'
       cases e <;> exact this
     | true =>
       have hargs := h.args_ok (S' := fun b => b < w.heap.size) (fun b hb => h.lt hb) c.args.toList ys0 hys (fun x hx hown' t b hb => (h.own t b hb).2)
       refine (hf.2 w (fun b => b < w.heap.size) _ (fun b hb => hb) (hargs.append (hcapsS _ (fun b hb => h.lt hb) (fun _ s b hb => (h.own s b hb).2)))).mono ?_
       rintro e w' ⟨v, rs, he', hb, hrs, hnd, hr⟩
       have := fin e w' ⟨v, rs, he', hb, hrs, hnd, hr.closed (hc rfl)⟩
       cases e <;> exact this
    ·cases he
   ·cases he
  ·cases he
 ·cases he
theorem callC_ok (h : SimR N B w0 S0 env a w rows) {o : Oper} {f : FuncId} {s : Nat} {x : DV} {ys : List SV} {y : DV} (he : acallC env o.op = some (f, s, x, ys)) (hf : ImplC P f x ys y) {d : Nat} (hd : d < N) (hdst : o.dst = some d)
  (hn : ∀ a' w', Sim N B w0 S0 ((env.setRoot s .dead 0).put d (.sv (.one y))) a' w' -> next a' w') : o.wp P a w next Q := by
 obtain ⟨x', xs, h1, h2, h3, h4, hrun⟩ := acallC_run he hf.1
 have hx := h.opd_ok x'
 rw [h1] at hx
 obtain ⟨_, x0, y0, hroot, hcat⟩ := hx
 simp only [cat, Option.some.injEq, Prod.mk.injEq] at hcat
 obtain ⟨hv, rfl⟩ := hcat
 have hcz := h.root_cz h2
 unfold Oper.wp
 rw [hrun, <- hv]
 show Calls P f _ w _
 have hargs := h.args_ok (S' := SS B S0 w rows) (fun _ hb => hb) xs ys h3 (fun x hx hown => by
  have : xs.any (fun x => (opd env x).owned env) = true := List.any_eq_true.2 ⟨x, hx, hown⟩
  rw [h4] at this
  cases this)
 refine (hf.2 w (SS B S0 w rows) _ _ (rows s) B (fun b hb => h.lt hb) (fun b hb => ⟨(h.own s b hb).1, (h.own s b hb).2, fun hs => ?_⟩) (h.nodup s) h.base hcz hargs).mono ?_
 ·rcases hs with hs | hs
  ·exact (h.old b hs).2.2 s hb
  ·exact hs.2.2 s hb
 ·rintro e w' ⟨v, rs, rfl, hbel, hfr, hrs, hnd, hr⟩
  dsimp only
  rw [hdst]
  refine hn _ _ ⟨_, h.consume hd h2 (n := 0) (.inl rfl) hbel (rs' := []) (r' := rs) (by simp) (by simp) hrs hnd (by simp) hfr (fun S' _ => .dead _ hcz.one) (fun S' hS' => .one _ _ _ (hr.keep (fun b hb => ⟨hS' b hb, rfl⟩) (fun _ _ => rfl)))⟩
theorem mutC_ok (h : SimR N B w0 S0 env a w rows) {o : Oper} {f : FuncId} {s : Nat} {x : DV} {ys : List SV} {y : DV} (he : acallC env o.op = some (f, s, x, ys)) (hf : ImplM P f x ys y) {d : Nat} (hd : d < N) (hdst : o.dst = some d)
  (hn : ∀ a' w', Sim N B w0 S0 ((env.setRoot s y 1).put d .no) a' w' -> next a' w') : o.wp P a w next Q := by
 obtain ⟨x', xs, h1, h2, h3, h4, hrun⟩ := acallC_run he hf.1
 have hx := h.opd_ok x'
 rw [h1] at hx
 obtain ⟨_, x0, y0, hroot, hcat⟩ := hx
 simp only [cat, Option.some.injEq, Prod.mk.injEq] at hcat
 obtain ⟨hv, rfl⟩ := hcat
 have hcz := h.root_cz h2
 unfold Oper.wp
 rw [hrun, <- hv]
 show Calls P f _ w _
 have hargs := h.args_ok (S' := SS B S0 w rows) (fun _ hb => hb) xs ys h3 (fun x hx hown => by
  have : xs.any (fun x => (opd env x).owned env) = true := List.any_eq_true.2 ⟨x, hx, hown⟩
  rw [h4] at this
  cases this)
 refine (hf.call w (SS B S0 w rows) _ _ (rows s) B (fun b hb => ⟨h.lt hb, fun hs => ?_⟩) (h.own s) (h.nodup s) h.base hcz hargs).mono ?_
 ·rcases hb with hb | hb
  ·exact (h.old b hb).2.2 s hs
  ·exact hb.2.2 s hs
 ·rintro e w' ⟨v, rs, rfl, hbel, hfr, hrs, hnd, hr⟩
  dsimp only
  rw [hdst]
  have h5 := h.reroot h2 (n := 1) (.inr ⟨rfl, hf.shape⟩) hbel hrs hnd hfr (fun S' _ _ => hr.closed hf.closed)
  exact hn _ _ ⟨_, h5.put hd (Below.refl _ _) (r := []) (by simp) (by simp) (av := .no) trivial⟩
theorem mutP_ok (h : SimR N B w0 S0 env a w rows) {o : Oper} {f : FuncId} {s : Nat} {x0 x : DV} {p : List (Nat × Nat)} {ys : List SV} {y : DV} (he : acallP env o.op = some (f, s, x0, p, x, ys)) (hf : ImplM P f x ys y) {d : Nat} (hd : d < N) (hdst : o.dst = some d)
  (hn : ∀ a' w', Sim N B w0 S0 ((env.setRoot s (setP x0 p y) 1).put d .no) a' w' -> next a' w') : o.wp P a w next Q := by
 obtain ⟨x', xs, h1, h2, hat, h3, h4, hrun⟩ := acallP_run he hf.1
 have hx := h.opd_ok x'
 rw [h1] at hx
 obtain ⟨_, x1, y1, hroot, hcat⟩ := hx
 rw [h2] at hroot
 injection hroot with hroot
 subst hroot
 obtain ⟨rfl, _⟩ := h.place h2 hcat hat
 obtain ⟨ru, rest, hcu, hmem, hdis, hndu, hback⟩ := (h.root_cz h2).lens p (h.nodup s) hcat
 unfold Oper.wp
 rw [hrun]
 show Calls P f _ w _
 have hargs := h.args_ok (S' := SS B S0 w rows) (fun _ hb => hb) xs ys h3 (fun x hx hown => by
  have : xs.any (fun x => (opd env x).owned env) = true := List.any_eq_true.2 ⟨x, hx, hown⟩
  rw [h4] at this
  cases this)
 have hur : ∀ b ∈ ru, b ∈ rows s := fun b hb => (hmem b).2 (.inl hb)
 refine (hf.call w (SS B S0 w rows) _ _ ru B (fun b hb => ⟨h.lt hb, fun hs => ?_⟩) (fun b hb => h.own s b (hur b hb)) hndu h.base hcu hargs).mono ?_
 ·rcases hb with hb | hb
  ·exact (h.old b hb).2.2 s (hur b hs)
  ·exact hb.2.2 s (hur b hs)
 ·rintro e w' ⟨v, rs, rfl, hbel, hfr, hrs, hnd, hr⟩
  dsimp only
  rw [hdst]
  have hSk : ∀ b, SS B S0 w rows b -> SS B S0 w rows b /\ w'.heap[b]? = w.heap[b]? := fun b hb => ⟨hb, hfr b (h.lt hb) fun hs => by
   rcases hb with hb | hb
   ·exact (h.old b hb).2.2 s (hur b hs)
   ·exact hb.2.2 s (hur b hs)⟩
  have hrest : ∀ b ∈ rest, w'.heap[b]? = w.heap[b]? := fun b hb => hfr b (h.own s b ((hmem b).2 (.inr hb))).2 fun hs => hdis b hs hb
  obtain ⟨rs', g1, g2, g3⟩ := hback w' (SS B S0 w rows) y rs hSk hrest (hr.closed hf.closed) hnd (fun b hb hb2 => by
   rcases (hrs b hb).1 with h5 | h5
   ·exact hdis b h5 hb2
   ·have := (h.own s b ((hmem b).2 (.inr hb2))).2
    omega)
  have h5 := h.reroot h2 (n := 1) (.inr ⟨rfl, Shape.setP' (cat_getP _ hcat) hf.shape⟩) hbel (rs' := rs') (fun b hb => by
    rcases (g3 b).1 hb with h6 | h6
    ·obtain ⟨h7, h8⟩ := hrs b h6
     exact ⟨h7.imp (hur b) id, h8⟩
    ·have h9 := (hmem b).2 (.inr h6)
     have := (h.own s b h9).2
     exact ⟨.inl h9, by have := hbel.size; omega⟩) g2 (fun b hb hn => hfr b hb fun hs => hn (hur b hs))
   (fun S' hS' _ => g1.keep (fun b hb => ⟨hS' b hb, rfl⟩) (fun _ _ => rfl))
  exact hn _ _ ⟨_, h5.put hd (Below.refl _ _) (r := []) (by simp) (by simp) (av := .no) trivial⟩
theorem Cz.isSlice {S : Nat -> Prop} {v : Value} {x : DV} {r : List Nat} {els : List (List DV)} (h : Cz w S v x r) (he : x.elsOf = some els) : ∃ A n c, v = .slice A n c /\ (els ≠ [] -> A ≠ none) := by
 cases h <;> simp only [DV.elsOf, Option.some.injEq, reduceCtorEq] at he
 ·exact ⟨_, _, _, rfl, fun h => (h he.symm).elim⟩
 ·exact ⟨_, _, _, rfl, fun h => (h he.symm).elim⟩
 ·exact ⟨_, _, _, rfl, fun h => (h he.symm).elim⟩
 ·exact ⟨_, _, _, rfl, fun _ => by simp⟩
 ·exact ⟨_, _, _, rfl, fun _ => by simp⟩
theorem SimR.isSlice (h : SimR N B w0 S0 env a w rows) {x : Operand} {els : List (List DV)} (he : sliceOf env (opd env x) = some els) : ∃ A n c, a.eval x = .slice A n c /\ (els ≠ [] -> A ≠ none) := by
 have hx := h.opd_ok x
 generalize opd env x = av at *
 generalize a.eval x = v at *
 unfold sliceOf at he
 split at he
 ·exact (CzS.one_inv hx).isSlice he
 ·rename_i s p
  obtain ⟨_, x0, y0, hroot, hcat⟩ := hx
  split at he
  ·rename_i y hat
   obtain ⟨rfl, r, hcz, _⟩ := h.place hroot hcat hat
   exact hcz.isSlice he
  ·cases he
 ·rename_i s p lo hi
  obtain ⟨_, x0, y0, A, n, c, els0, hroot, hcat, hels, hn, h3, h4, h5, z, hz, hv⟩ := hx
  split at he
  ·rename_i y hat
   obtain ⟨rfl, r, hcz, _⟩ := h.place hroot hcat hat
   rw [hels] at he
   injection he with he
   obtain ⟨A', n', c', e1, hA⟩ := hcz.isSlice hels
   injection e1 with e1
   subst e1
   refine ⟨_, _, _, hv, fun hne => ?_⟩
   have hA2 := hA (by rintro rfl; simp at he; exact hne he)
   split
   ·exact hA2
   ·simpa using hA2
  ·cases he
 ·cases he
theorem run_equalIn_slice {t e : TypeId} (hu : P.underlying t = some (.slice e)) (d : Nat) (A : Option Addr) (n c : Nat) : (Op.equalIn (d + 1) t (.slice A n c) (.slice none 0 0)).run P w = .ok A.isNone w := by
 cases A <;> simp [Op.equalIn, run_underlying hu]
theorem run_slice_nil {t e : TypeId} (hu : P.underlying t = some (.slice e)) (A : Option Addr) (n c : Nat) : (Op.equal t (.slice A n c) (.slice none 0 0)).run P w = .ok A.isNone w :=
 run_equalIn_slice hu _ A n c
theorem eqGuard_at_slice (op : BinOp) (t : TypeId) (x y : Operand) (A A' : Option Addr) (n c n' c' : Nat) : (eqGuard op t x y (.slice A n c) (.slice A' n' c')).run P w = .ok () w := by
 cases op <;> simp [eqGuard]
theorem astoreAg_ok (h : SimR N B w0 S0 env a w rows) {o : Oper} {t : TypeId} {x y : Operand} (ho : o.op = .store t x y) {ob : Prop} {env' : Env} (he : astoreAg P env t x y = some (ob, env')) (hob : ob) (hdst : o.dst = none)
  (hn : ∀ w', Sim N B w0 S0 env' a w' -> next a w') : o.wp P a w next Q := by
 have hy := h.opd_ok y
 unfold astoreAg at he
 split at he
 ·rename_i s p i hopy
  rw [hopy] at hy
  split at he
  ·rename_i yy hat
   split at he
   ·rename_i el hel
    obtain ⟨vs, hv, r, hl, hr⟩ := h.agl_ok hy hat hel
    obtain ⟨rows', h', hSS, hrs, hsub⟩ := h.frz s
    have hroots : ∃ x, env.root s = some x := by
     obtain ⟨_, x, _, _, _, _, h1, _⟩ := hy
     exact ⟨x, h1⟩
    obtain ⟨xr, hxr⟩ := hroots
    have hl' : CzL w (SS B S0 w rows') vs (frzL el) [] := by
     refine hl.freeze hSS fun b hb => ?_
     have hbs := hr b hb
     refine .inr ⟨(h.own s b hbs).1, (h.own s b hbs).2, fun k hk => ?_⟩
     by_cases e : s = k
     ·subst e
      rw [(hrs xr hxr).1] at hk
      cases hk
     ·exact h.apart s k e b hbs (hsub k b hk)
    have hx := h'.opd_ok x
    split at he
    ·rename_i s2 p2 i2 j2 hopx
     rw [hopx] at hx
     obtain ⟨_, x1, u, y1, el1, ad, hroot, hcat, hel1, hbase, hval⟩ := hx
     split at he
     ·rename_i n x0 y0 hs hroot' hat'
      rw [hroot] at hroot'
      injection hroot' with hroot'
      subst hroot'
      obtain ⟨rfl, _⟩ := h'.place hroot hcat hat'
      rw [hel1] at he
      dsimp only at he
      simp only [Option.some.injEq, Prod.mk.injEq] at he
      obtain ⟨rfl, rfl⟩ := he
      obtain ⟨hlen, hfit⟩ := hob
      have hfl := frzL_length el
      obtain ⟨g, off, cur, T, e1, hg, hsz, hsim⟩ := h'.stored (j := j2) hroot hcat hel1 hbase hl' (by omega)
      have hvl := hl'.length
      have hcells : (Value.agg vs.toArray).cells.toList = vs := by simp [Value.cells]
      have hcs : (Value.agg vs.toArray).cells.size = n := by
       have : (Value.agg vs.toArray).cells.size = vs.length := by simp [Value.cells]
       omega
      have hrun := run_storeVar (P := P) (v := .agg vs.toArray) (off := off) hs hcs hg (by omega) (by rw [hcells]; exact hl'.allOne)
      rw [hcells] at hrun
      refine wp_skipv (w' := w.setRow g (splice cur.toList off vs).toArray) ?_ ?_
      ·simp only [execOp, ho, hval, e1, hv]
       simp [hrun]
      ·rw [hdst]
       exact hn _ hsim
     ·cases he
    ·cases he
   ·cases he
  ·cases he
 ·cases he
theorem aeff_ok (h : SimR N B w0 S0 env a w rows) {o : Oper} {K : Env -> Prop} (he : aeff P env o.op o.dst K) (hd : o.dst.all (· < N) = true)
  (hn : ∀ env' a' w', K env' -> Sim N B w0 S0 env' a' w' -> next a' w') : o.wp P a w next Q := by
 unfold aeff at he
 split at he
 ·rename_i hdst
  split at he
  ·rename_i t x y ho
   split at he
   ·rename_i ob env' hst
    exact astore_ok h ho hst he.1 hdst (fun w' hs => hn _ _ _ he.2 hs)
   ·split at he
    ·rename_i ob env' hst
     exact astoreOwn_ok h ho hst he.1 hdst (fun w' hs => hn _ _ _ he.2 hs)
    ·split at he
     ·rename_i ob env' hst
      exact astoreAg_ok h ho hst he.1 hdst (fun w' hs => hn _ _ _ he.2 hs)
     ·split at he
      ·rename_i ob env' hst
       exact astoreO_ok h ho hst he.1 hdst (fun w' hs => hn _ _ _ he.2 hs)
      ·exact he.elim
  ·rename_i t x i y ho
   split at he
   ·rename_i ob env' hst
    exact aupd_ok h (.inl ho) hst he.1 hdst (fun w' hs => hn _ _ _ he.2 hs)
   ·exact he.elim
  ·rename_i t x i y ho
   split at he
   ·rename_i ob env' hst
    exact aupd_ok h (.inr ho) hst he.1 hdst (fun w' hs => hn _ _ _ he.2 hs)
   ·exact he.elim
  ·exact he.elim
 ·rename_i d hdst
  have hdN : d < N := by rw [hdst] at hd; simpa using hd
  split at he
  ·rename_i op t x y _ ho
   split at he
   ·rename_i els eq hnc
    unfold nilCmp at hnc
    split at hnc
    ·rename_i hy
     have hyv : a.eval y = .slice none 0 0 := by
      have h1 := h.opd_ok y
      rw [hy] at h1
      have h1 := CzS.one_inv h1
      generalize a.eval y = vy at h1 ⊢
      generalize hr : ([] : List Nat) = r at h1
      cases h1
      rfl
     split at hnc
     ·rename_i e helT
      unfold elT at helT
      split at helT
      ·rename_i e' hu
       split at hnc
       ·rename_i els' hsl
        obtain ⟨A, n, c, hxv, hA⟩ := h.isSlice hsl
        have hrun := run_slice_nil (P := P) (w := w) hu A n c
        split at hnc
        ·simp only [Option.some.injEq, Prod.mk.injEq] at hnc
         obtain ⟨rfl, rfl⟩ := hnc
         refine wp_value (v := .bool A.isNone) (w' := w) ?_ ?_
         ·simp only [execOp, ho, hxv, hyv]
          refine run_value ?_
          simp [binOp, hrun, eqGuard_at_slice]
         ·rw [hdst]
          have hk := he A.isNone (fun hne => by have := hA hne; cases A <;> simp_all)
          refine hn _ _ _ hk ⟨_, h.put hdN (Below.refl _ _) (r := []) (by simp) (by simp) ?_⟩
          have e9 : (A.isNone == true) = A.isNone := by cases A <;> rfl
          rw [e9]
          exact .one _ _ _ (.bool _)
        ·simp only [Option.some.injEq, Prod.mk.injEq] at hnc
         obtain ⟨rfl, rfl⟩ := hnc
         refine wp_value (v := .bool (!A.isNone)) (w' := w) ?_ ?_
         ·simp only [execOp, ho, hxv, hyv]
          refine run_value ?_
          simp [binOp, hrun, eqGuard_at_slice]
         ·rw [hdst]
          have hk := he A.isNone (fun hne => by have := hA hne; cases A <;> simp_all)
          refine hn _ _ _ hk ⟨_, h.put hdN (Below.refl _ _) (r := []) (by simp) (by simp) ?_⟩
          have e9 : (A.isNone == false) = !A.isNone := by cases A <;> rfl
          rw [e9]
          exact .one _ _ _ (.bool _)
        ·cases hnc
       ·cases hnc
      ·cases helT
     ·cases hnc
    ·cases hnc
   ·exact he.elim
  ·rename_i T x ho
   split at he
   ·rename_i l hl
    exact abox_ok h hl hdN hdst (fun a' w' hs => hn _ _ _ he hs)
   ·exact he.elim
  ·rename_i T ho
   split at he
   ·rename_i l hl
    exact abox_ok h hl hdN hdst (fun a' w' hs => hn _ _ _ he hs)
   ·exact he.elim
  ·rename_i t ho
   have hrun : (execOp a.eval o).run P w = .ok (.value (Act.f a t)) w := by simp [execOp, ho, Act.eval, Act.f]
   split at he
   ·rename_i x hx
    refine wp_value hrun ?_
    rw [hdst]
    exact hn _ _ _ he (h.takeOver hdN (by rw [Env.root, hx]; rfl))
   ·rename_i s hx
    split at he
    ·rename_i x hroot
     have hr := h.rel t
     rw [hx] at hr
     obtain ⟨_, x', y, _, hcat⟩ := hr
     simp only [cat, Option.some.injEq, Prod.mk.injEq] at hcat
     refine wp_value hrun ?_
     rw [hdst, <- hcat.1]
     exact hn _ _ _ he (h.takeOver hdN hroot)
    ·exact he.elim
   ·rename_i s lo hi hx
    split at he
    ·rename_i z els hroot
     obtain ⟨hz, hk⟩ := he
     refine wp_value hrun ?_
     rw [hdst]
     split at hk
     ·rename_i e
      subst e
      exact hn _ _ _ hk (h.cutOwn hdN hx hroot hz)
     ·exact hn _ _ _ hk (h.cutOver hdN hx hroot hz)
    ·exact he.elim
   ·exact he.elim
  ·rename_i t ho
   split at he
   ·rename_i l hl
    obtain ⟨hne, hk⟩ := he
    have hrun : (execOp a.eval o).run P w = .ok (.value (Act.f a t)) w := by simp [execOp, ho, Act.eval, Act.f]
    refine wp_value hrun ?_
    rw [hdst]
    have hr := h.rel t
    rw [hl] at hr
    obtain ⟨vs, hv, hcz⟩ := hr
    refine hn _ _ _ hk ⟨_, h.divide hdN hne (by rw [Env.root, hl]; rfl) (av' := .no) (av2 := .tup l) (r1 := rows t) (r2 := []) (fun _ hb => hb) (by simp) (h.nodup t) (by simp) (by simp) (fun _ _ _ _ => trivial) rfl (fun S' hS' _ _ => ⟨vs, hv, hcz.keep (fun b hb => ⟨hS' b hb, rfl⟩) (fun _ _ => rfl)⟩) rfl⟩
   ·exact he.elim
  ·rename_i t i ho
   split at he
   ·rename_i l hl
    split at he
    ·rename_i x hx
     obtain ⟨hne, hk⟩ := he
     have hr := h.rel t
     rw [hl] at hr
     obtain ⟨vs, hv, hcz⟩ := hr
     obtain ⟨v, r1, r2, h1, h2, h3, h4, h5⟩ := hcz.take_out i x hx
     obtain ⟨g1, g2, g3⟩ := h5 (h.nodup t)
     have hvi : vs[i]? = some v := by simpa using h1
     have hrun : (execOp a.eval o).run P w = .ok (.value v) w := by
      have e1 : a.eval (.tmp t) = .tuple vs := by
       have : a.eval (.tmp t) = Act.f a t := by simp [Act.eval, Act.f]
       rw [this, hv]
      simp only [execOp, ho, e1]
      refine run_value ?_
      simp [Instr.extract, hvi]
     refine wp_value hrun ?_
     rw [hdst]
     refine hn _ _ _ hk ⟨_, h.divide hdN hne (by rw [Env.root, hl]; rfl) (av' := .tup (l.set i (.one .dead))) (av2 := .sv (.one x)) (r1 := r1) (r2 := r2) (fun b hb => (h4 b).2 (.inl hb)) (fun b hb => (h4 b).2 (.inr hb)) g1 g2 g3 (fun S' hS' _ _ => ⟨vs, hv, h3.keep (fun b hb => ⟨hS' b hb, rfl⟩) (fun _ _ => rfl)⟩) rfl (fun S' hS' _ _ => .one _ _ _ (h2.keep (fun b hb => ⟨hS' b hb, rfl⟩) (fun _ _ => rfl))) rfl⟩
    ·exact he.elim
   ·exact he.elim
  ·rename_i t len parts ho
   split at he
   ·rename_i x hx
    exact abuildSlice_ok h ho hx hdN hdst (fun a' w' hs => hn _ _ _ he hs)
   ·split at he
    ·rename_i x hx
     obtain ⟨rows', h'⟩ := SimR.frzOps (parts.toList.map (·.2)) h
     exact abuildSlice_ok h' ho hx hdN hdst (fun a' w' hs => hn _ _ _ he hs)
    ·exact he.elim
  ·rename_i t len cap ho
   split at he
   ·rename_i ob x hx
    exact amake_ok h ho hx he.1 hdN hdst (fun a' w' hs => hn _ _ _ he.2 hs)
   ·exact he.elim
  ·rename_i t parts ho
   split at he
   ·rename_i env' hx
    exact abuildO_ok h ho hx hdN hdst (fun a' w' hs => hn _ _ _ he hs)
   ·split at he
    ·rename_i ob av hx
     obtain ⟨rows', h'⟩ := SimR.frzOps (parts.toList.map (·.2)) h
     exact wp_pure h' (abuild_ok h' ho hx) hdN hdst (fun a' w' hs => hn _ _ _ he hs)
    ·exact he.elim
  ·rename_i t ho
   exact amap_ok h ho hdN hdst (fun a' w' hs => hn _ _ _ he hs)
  ·rename_i g first captured ho
   split at he
   ·rename_i caps hfirst hcaps
    obtain ⟨rows', h'⟩ := SimR.frzPts captured.toList h
    have hc := h'.caps_ok _ _ hcaps
    have hf0 : first = #[] := by rw [<- Array.toArray_toList (xs := first), hfirst]
    have hrun : (execOp a.eval o).run P w = .ok (.value (.func (.func g) #[] (captured.map a.eval))) w := by
     simp [execOp, ho, Instr.makeFunc, hf0]
    refine wp_value hrun ?_
    rw [hdst]
    refine hn _ _ _ he ⟨_, h'.put hdN (Below.refl _ _) (r := []) (by simp) (by simp) (.one _ _ _ (.fn _ _ _ ?_))⟩
    rw [Array.toList_map]
    exact hc.keep (fun b hb => ⟨.inl hb, rfl⟩) (by simp)
   ·exact he.elim
  ·rename_i c ho
   split at he
   ·rename_i ob env' x hx
    rw [<- ho] at hx
    exact aappend_ok h hx he.1 hdN hdst (fun a' w' hs => hn _ _ _ he.2 hs)
   ·split at he
    ·rename_i f ys own hx
     rw [<- ho] at hx
     rcases he with ⟨r, hf, hc, hk⟩ | he
     ·exact call_ok h hx hf hc hdN hdst (fun a' w' hs => hn _ _ _ hk hs)
     ·rcases he with he | he
      rotate_left
      ·unfold mutsC at he
       split at he
       ·rename_i f s x ys hx
        rw [<- ho] at hx
        obtain ⟨y, hf, hk⟩ := he
        exact mutC_ok h hx hf hdN hdst (fun a' w' hs => hn _ _ _ hk hs)
       ·split at he
        ·rename_i f s x0 p x ys hx
         rw [<- ho] at hx
         obtain ⟨y, hf, hk⟩ := he
         exact mutP_ok h hx hf hdN hdst (fun a' w' hs => hn _ _ _ hk hs)
        ·exact he.elim
      unfold takesC at he
      split at he
      ·rename_i f s x ys hx
       rw [<- ho] at hx
       obtain ⟨y, hf, hk⟩ := he
       exact callC_ok h hx hf hdN hdst (fun a' w' hs => hn _ _ _ hk hs)
      ·exact he.elim
    ·split at he
     ·rename_i f ys own hx
      obtain ⟨r, hf, hc, hk⟩ := he
      rw [<- ho] at hx
      exact callF_ok h hx hf hc hdN hdst (fun a' w' hs => hn _ _ _ hk hs)
     ·split at he
      ·rename_i ob env1 hcut
       split at he
       ·rename_i ob2 env' x hx
        obtain ⟨h1, h2, hk⟩ := he
        rw [<- ho] at hx
        obtain ⟨rows1, hs1⟩ := h.cutFirst hcut h1
        exact aappend_ok hs1 hx h2 hdN hdst (fun a' w' hs => hn _ _ _ hk hs)
       ·split at he
        ·rename_i hx
         rw [<- ho] at hx
         exact acopy0_ok h hx hdN hdst (fun a' w' hs => hn _ _ _ he hs)
        ·split at he
         ·rename_i ob s y n hx
          rw [<- ho] at hx
          exact acopy_ok h hx he.1 hdN hdst (fun a' w' hs => hn _ _ _ he.2 hs)
         ·exact he.elim
      ·split at he
       ·rename_i ob s y n hx
        rw [<- ho] at hx
        exact acopy_ok h hx he.1 hdN hdst (fun a' w' hs => hn _ _ _ he.2 hs)
       ·exact he.elim
  ·exact he.elim
theorem capTmps_ok {a : Act} : ∀ (xs : List Operand) (ss : List Nat), capTmps xs = some ss -> xs.map a.eval = ss.map (Act.f a)
 | [], ss, he => by
   simp only [capTmps, Option.some.injEq] at he
   subst he
   rfl
 | .tmp s :: xs, ss, he => by
   simp only [capTmps] at he
   split at he
   ·rename_i l hl
    injection he with he
    subst he
    simp only [List.map_cons, capTmps_ok xs l hl]
    rfl
   ·cases he
 | .const _ :: _, _, he => by simp [capTmps] at he
 | .func _ :: _, _, he => by simp [capTmps] at he
 | .global _ :: _, _, he => by simp [capTmps] at he
theorem aclos_ok (h : SimR N B w0 S0 env a w rows) {o : Oper} {av : AV} (he : aclos env o.op = some av) : ∃ v, Yields P o a w v /\ AVR w (SS B S0 w rows) env (Act.f a) av v [] := by
 unfold aclos at he
 split at he
 ·rename_i g first captured ho
  split at he
  ·rename_i ss hfirst hcaps
   split at he
   ·injection he with he
    subst he
    have hf0 : first = #[] := by rw [<- Array.toArray_toList (xs := first), hfirst]
    refine ⟨.func (.func g) #[] (captured.map a.eval), fun w' _ => by simp [execOp, ho, Instr.makeFunc, hf0], rfl, ?_⟩
    congr 1
    apply Array.ext'
    rw [Array.toList_map, capTmps_ok _ _ hcaps]
   ·cases he
  ·cases he
 ·cases he
theorem strip_get : ∀ (ts : List Nat), (strip env ts).1 -> ∀ t, (strip env ts).2.get t = env.get t \/ ∃ c b, env.get t = .gd c b /\ c = true /\ (strip env ts).2.get t = .gd true b
 | [], _, t => .inl rfl
 | s :: ts, hc, t => by
   simp only [strip] at hc ⊢
   split at hc
   ·rename_i c b hs
    simp only [Env.get]
    by_cases e : s = t
    ·subst e
     rw [if_pos rfl]
     exact .inr ⟨c, b, hs, hc.1, rfl⟩
    ·rw [if_neg e]
     exact strip_get ts hc.2 t
   ·exact strip_get ts hc t
theorem SimR.strip (h : SimR N B w0 S0 env a w rows) {ts : List Nat} (hc : (Av.strip env ts).1) : SimR N B w0 S0 (Av.strip env ts).2 a w rows /\ ∀ s, env.root s = (Av.strip env ts).2.root s := by
 have hg := strip_get ts hc
 have hroot : ∀ s, env.root s = (Av.strip env ts).2.root s := by
  intro s
  simp only [Env.root]
  rcases hg s with h1 | ⟨c, b, h1, _, h2⟩
  ·rw [h1]
  ·rw [h1, h2]; rfl
 refine ⟨⟨h.defers, h.size, h.below, h.base, h.old, h.own, h.nodup, h.apart, fun t => ?_⟩, hroot⟩
 have hr := h.rel t
 have hr' : AVR w (SS B S0 w rows) env (Act.f a) ((Av.strip env ts).2.get t) (Act.f a t) (rows t) := by
  rcases hg t with h1 | ⟨c, b, h1, hct, h2⟩
  ·rw [h1]; exact hr
  ·rw [h1] at hr
   rw [h2]
   exact ⟨hr.1, fun _ => hr.2.1 hct, fun hf => by cases hf⟩
 exact AVR.refKeep (fun _ h => h) _ hr' (AV.refOk_of (fun s => (hroot s).symm) _)
theorem put_undef (h : SimR N B w0 S0 env a w rows) {d : Nat} (hd : d < N) : Sim N B w0 S0 (env.put d .undef) (a.put (some d) Go.undef) w :=
 ⟨_, h.put hd (Below.refl _ _) (r := []) (by simp) (by simp) (av := .undef) ⟨rfl, rfl⟩⟩
theorem wanted_ok (h : SimR N B w0 S0 env a w rows) {ops : Array Oper} {o : Oper} {s : Nat} {want : Bool} {j : Nat} (hg : o.guard = some (j, want)) (hj : (ops[j]?).bind (·.dst) = some s) (hs : s < N) {c : Bool} (hc : (env.get s).wanted want = some c) :
  Region.wanted o (yielded ops a.tmps) = c := by
 have hr := h.rel s
 have ht : a.tmps[s]? = some (Act.f a s) := by
  simp only [Act.f, Array.getD_eq_getD_getElem?]
  rw [Array.getElem?_eq_getElem (by rw [h.size]; exact hs)]
  rfl
 have key : ∀ v, Act.f a s = v -> Region.wanted o (yielded ops a.tmps) = ((match v with | .bool b => some b | _ => none) == some want) := by
  intro v hv
  simp only [Region.wanted, hg, yielded, hj, Option.bind_some, ht, hv]
  cases v <;> rfl
 rw [key _ rfl]
 unfold AV.wanted at hc
 split at hc
 ·rename_i b he
  rw [he] at hr
  injection hc with hc
  subst hc
  rw [(CzS.one_inv hr).bool_inv]
  rfl
 ·rename_i he
  rw [he] at hr
  injection hc with hc
  subst hc
  rw [hr.1]
  rfl
 ·rename_i c' b he
  rw [he] at hr
  injection hc with hc
  subst hc
  cases c' with
  | true =>
    rw [(CzS.one_inv (hr.2.1 rfl)).bool_inv]
    cases b <;> cases want <;> rfl
  | false =>
    rw [hr.2.2 rfl]
    rfl
 ·rename_i he
  rw [he] at hr
  injection hc with hc
  subst hc
  rw [hr.2.2 rfl]
  rfl
 ·cases hc
theorem arun_step {ops : Array Oper} {o : Oper} {l : List Oper} {g : Option (Nat × Bool)} {env : Env} {a : Act} {w : World} (hgd : slimGuard ops o.guard = some g) (hd : o.dst.all (· < N) = true) (hgN : guardN N g = true)
  {K1 : Env -> Prop} (hk : astep P ⟨o.dst, o.op, g⟩ env K1) (hs : Sim N B w0 S0 env a w) (hrest : ∀ env' a' w', K1 env' -> Sim N B w0 S0 env' a' w' -> wpList P ops Q l a' w') : wpList P ops Q (o :: l) a w := by
 obtain ⟨rows, h⟩ := hs
 simp only [astep] at hk
 simp only [wpList]
 unfold slimGuard at hgd
 split at hgd
 ·rename_i hnone
  injection hgd with hgd
  subst hgd
  dsimp only at hk
  have hw : Region.wanted o (yielded ops a.tmps) = true := by simp [Region.wanted, hnone]
  rw [if_pos hw]
  refine .inl ?_
  split at hk
  ·rename_i ob av hp
   split at hk
   ·rename_i d hdst
    have hdst : o.dst = some d := hdst
    have hdN : d < N := by rw [hdst] at hd; simpa using hd
    exact wp_pure h (apureA_ok h hp hk.1) hdN hdst (fun a' w' hs' => hrest _ _ _ hk.2 hs')
   ·exact hk.elim
  ·exact aeff_ok h hk hd (fun env' a' w' h1 h2 => hrest _ _ _ h1 h2)
 ·rename_i j want hsome
  split at hgd
  ·rename_i s hj
   injection hgd with hgd
   subst hgd
   dsimp only at hk hgN
   have hsN : s < N := by simpa [guardN] using hgN
   split at hk
   ·rename_i c hc
    have hw := wanted_ok h hsome hj hsN hc
    rw [hw]
    split at hk
    ·rename_i d hdst
     have hdst : o.dst = some d := hdst
     have hdN : d < N := by rw [hdst] at hd; simpa using hd
     split at hk
     ·rename_i ob av hp
      obtain ⟨hk1, hk2⟩ := hk
      cases c with
      | true =>
        rw [if_pos rfl]
        refine .inl ?_
        obtain ⟨hst, hob⟩ := hk1 rfl
        obtain ⟨h', hroot⟩ := h.strip hst
        obtain ⟨v, hy, hr⟩ := apureA_ok h' hp hob
        refine wp_pure (av := .gd true av) h ⟨v, hy, rfl, fun _ => AVR.refKeep (fun _ h => h) av hr (AV.refOk_of hroot av), fun hf => by cases hf⟩ hdN hdst (fun a' w' hs' => hrest _ _ _ hk2 hs')
      | false =>
        rw [if_neg (by simp)]
        rw [hdst]
        refine hrest _ _ _ hk2 ⟨_, h.put hdN (Below.refl _ _) (r := []) (by simp) (by simp) (av := .gd false av) ⟨rfl, fun hf => (by cases hf), fun _ => rfl⟩⟩
     ·split at hk
      ·rename_i av hcl
       cases c with
       | true =>
         rw [if_pos rfl]
         refine .inl (wp_pure (av := .gd true av) h ?_ hdN hdst (fun a' w' hs' => hrest _ _ _ hk hs'))
         obtain ⟨v, h1, h2⟩ := aclos_ok h hcl
         exact ⟨v, h1, rfl, fun _ => h2, fun hf => by cases hf⟩
       | false =>
         rw [if_neg (by simp), hdst]
         exact hrest _ _ _ hk ⟨_, h.put hdN (Below.refl _ _) (r := []) (by simp) (by simp) (av := .gd false av) ⟨rfl, fun hf => (by cases hf), fun _ => rfl⟩⟩
      ·cases c with
       | true =>
         rw [if_pos rfl]
         exact .inl (aeff_ok h (hk.1 rfl) hd (fun env' a' w' h1 h2 => hrest _ _ _ h1 h2))
       | false =>
         rw [if_neg (by simp), hdst]
         exact hrest _ _ _ (hk.2 rfl) (put_undef h hdN)
    ·rename_i hdst
     have hdst : o.dst = none := hdst
     cases c with
     | true =>
       rw [if_pos rfl]
       exact .inl (aeff_ok h (hk.1 rfl) hd (fun env' a' w' h1 h2 => hrest _ _ _ h1 h2))
     | false =>
       rw [if_neg (by simp), hdst]
       exact hrest _ _ _ (hk.2 rfl) ⟨_, h⟩
   ·exact hk.elim
  ·cases hgd
theorem arun_ok {ops : Array Oper} : ∀ (l : List Oper) (sl : List SOp) (env : Env) (a : Act) (w : World), slimOps ops l = some sl -> sl.all (fun o => o.dst.all (· < N) && guardN N o.g) = true ->
  ∀ {K : Env -> Prop}, arun P sl env K -> Sim N B w0 S0 env a w -> (∀ env' a' w', K env' -> Sim N B w0 S0 env' a' w' -> Q .normal a' w') -> wpList P ops Q l a w
 | [], sl, env, a, w, hsl, _, K, hk, hs, hq => by
   simp only [slimOps, Option.some.injEq] at hsl
   subst hsl
   exact hq _ _ _ hk hs
 | o :: l, sl, env, a, w, hsl, hfit, K, hk, hs, hq => by
   simp only [slimOps] at hsl
   split at hsl
   ·rename_i g sl' hgd hsl'
    injection hsl with hsl
    subst hsl
    simp only [List.all_cons, Bool.and_eq_true] at hfit
    obtain ⟨⟨hd, hgN⟩, hfit'⟩ := hfit
    simp only [arun] at hk
    exact arun_step hgd hd hgN hk hs fun env' a' w' h1 h2 => arun_ok l sl' env' a' w' hsl' hfit' h1 h2 hq
   ·cases hsl
end
end Go.Av

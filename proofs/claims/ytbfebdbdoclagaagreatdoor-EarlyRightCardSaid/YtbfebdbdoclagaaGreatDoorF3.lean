/- Part of a proof. -/
import Derived.Test.YtbfebdbdoclagaaGreatDoorF2
import Derived.Deep.LoopGhost
set_option linter.unusedVariables false
set_option linter.unusedSimpArgs false
set_option maxHeartbeats 64000000
namespace Go.Av
open Go Go.RowKit
theorem wp_value {P : Program} {o : Oper} {a : Act} {w w' : World} {next : Act -> World -> Prop} {Q : Exit -> Act -> World -> Prop} {v : Value} (h : (execOp a.eval o).run P w = .ok (.value v) w') (hn : next (a.put o.dst v) w') : o.wp P a w next Q := by
 unfold Oper.wp; rw [h]; exact hn
theorem wp_skipv {P : Program} {o : Oper} {a : Act} {w w' : World} {next : Act -> World -> Prop} {Q : Exit -> Act -> World -> Prop} (h : (execOp a.eval o).run P w = .ok .skip w') (hn : next (a.put o.dst Go.undef) w') : o.wp P a w next Q := by
 unfold Oper.wp; rw [h]; exact hn
def zeroDV : Value -> Option DV
 | .int k n => some (.int k n)
 | .bool b => some (.bool b)
 | .string s => some (.str s)
 | .slice none 0 0 => some .nil
 | .pointer none => some (.raw (.pointer none))
 | .nilIface => some (.raw .nilIface)
 | .map none => some (.raw (.map none))
 | _ => none
def zerosDV : List Value -> Option (List DV)
 | [] => some []
 | v :: vs => match zeroDV v, zerosDV vs with
   | some d, some ds => some (d :: ds)
   | _, _ => none
def zeroT (P : Program) (t : TypeId) : Option (List DV) :=
 match P.info? t with
 | some i => match i.zero with
   | some z => if z.cells.size = i.size then zerosDV z.cells.toList else none
   | none => none
 | none => none
section
variable {P : Program} {w : World} {S : Nat -> Prop}
theorem zeroDV_ok {v : Value} {d : DV} (h : zeroDV v = some d) : Cz w S v d [] := by
 unfold zeroDV at h
 split at h <;> first
  | (injection h with h; subst h; first | exact .int _ _ | exact .bool _ | exact .str _ | exact .nil | exact .raw _ rfl)
  | cases h
theorem zerosDV_ok : ∀ {vs : List Value} {ds : List DV}, zerosDV vs = some ds -> CzL w S vs ds []
 | [], ds, h => by
   simp only [zerosDV, Option.some.injEq] at h
   subst h
   exact .nil
 | v :: vs, ds, h => by
   simp only [zerosDV] at h
   split at h
   ·rename_i d ds' hd hds
    injection h with h
    subst h
    have := CzL.cons _ _ _ _ _ _ (zeroDV_ok (w := w) (S := S) hd) (zerosDV_ok hds)
    simpa using this
   ·cases h
end
def SV.cells : SV -> List DV
 | .one x => [x]
 | .ag l => l
theorem CzS.cells {w : World} {S : Nat -> Prop} {v : Value} {x : SV} {r : List Nat} (h : CzS w S v x r) : CzL w S v.cells.toList x.cells r := by
 cases h with
 | one v x r h =>
   have h1 := h.one
   have : v.cells = #[v] := by cases v <;> first | rfl | simp [Value.oneCell'] at h1
   rw [this]
   exact CzL.mk1 h
 | ag vs l r h => exact h
section
variable {P : Program} {N B : Nat} {w0 : World} {S0 : Nat -> Prop} {env : Env} {a : Act} {w : World} {rows : Nat -> List Nat} {next : Act -> World -> Prop} {Q : Exit -> Act -> World -> Prop}
theorem SimR.newBox (h : SimR N B w0 S0 env a w rows) {d : Nat} (hd : d < N) (T : TypeId) {cs : Array Value} {l : List DV} (hl : CzL w (SS B S0 w rows) cs.toList l []) :
  Sim N B w0 S0 (env.put d (.sv (.one (.bx l)))) (a.put (some d) (.pointer (some ⟨w.heap.size, 0, none⟩))) (w.alloc (.cells cs T)) := by
 have hb : Below w.heap.size w (w.alloc (.cells cs T)) := (Below.refl _ _).alloc (Nat.le_refl _) _
 refine ⟨_, h.put hd hb (r := [w.heap.size]) (by simp) (by simp) (.one _ _ _ (.bx _ _ T cs [] (heap_alloc_new w _) ?_))⟩
 exact hl.keep (fun b hs => ⟨.inl hs, hb.block b (h.lt hs)⟩) (by simp)
def abox (env : Env) (o : Op) (P : Program) : Option (List DV) :=
 match o with
 | .box _ x => match opd env x with
   | .sv x => if x.cells.all DV.flat then some x.cells else none
   | _ => none
 | .alloc t => zeroT P t
 | _ => none
theorem run_newVar (t : TypeId) (v : Value) : (newVar t v).run P w = .ok ⟨w.heap.size, 0, none⟩ (w.alloc (.cells v.cells t)) := rfl
theorem abox_ok (h : SimR N B w0 S0 env a w rows) {o : Oper} {l : List DV} (he : abox env o.op P = some l) {d : Nat} (hd : d < N) (hdst : o.dst = some d)
  (hn : ∀ a' w', Sim N B w0 S0 (env.put d (.sv (.one (.bx l)))) a' w' -> next a' w') : o.wp P a w next Q := by
 unfold abox at he
 split at he
 ·rename_i T x ho
  have hx := h.opd_ok x
  split at he
  ·rename_i y hopd
   rw [hopd] at hx
   split at he
   ·injection he with he
    subst he
    refine wp_value (v := .pointer (some ⟨w.heap.size, 0, none⟩)) (w' := w.alloc (.cells (a.eval x).cells T)) ?_ ?_
    ·simp only [execOp, ho]
     exact run_value (by simp [Instr.box, run_newVar])
    ·rw [hdst]
     exact hn _ _ (h.newBox hd T hx.cells)
   ·cases he
  ·cases he
 ·rename_i T ho
  unfold zeroT at he
  split at he
  ·rename_i i hi
   split at he
   ·rename_i z hz
    split at he
    ·refine wp_value (v := .pointer (some ⟨w.heap.size, 0, none⟩)) (w' := w.alloc (.cells z.cells T)) ?_ ?_
     ·simp only [execOp, ho]
      exact run_value (by simp [Instr.alloc, zeroValue, typeInfo, hi, hz, run_newVar])
     ·rw [hdst]
      exact hn _ _ (h.newBox hd T (zerosDV_ok he))
    ·cases he
   ·cases he
  ·cases he
 ·cases he
end
theorem foldl_set (off : Nat) : ∀ (vs : List Value) (k : Nat) (cells : Array Value), off + k + vs.length <= cells.size ->
  ((vs.zipIdx k).foldl (fun (cs : Array Value) (x : Value × Nat) => cs.setIfInBounds (off + x.2) x.1) cells).toList = splice cells.toList (off + k) vs
 | [], k, cells, _ => by simp [splice]
 | v :: vs, k, cells, h => by
   simp only [List.zipIdx_cons, List.foldl_cons]
   rw [foldl_set off vs (k + 1) _ (by simp at h ⊢; omega)]
   simp only [Array.toList_setIfInBounds]
   have e := list_seg_step cells.toList (off + k) v vs (by simp at h ⊢; omega)
   simpa [splice, Nat.add_assoc] using e
inductive PartsR (w : World) (S : Nat -> Prop) : List (Nat × Value) -> List (Nat × List DV) -> Prop
 | nil : PartsR w S [] []
 | cons (i : Nat) (v : Value) (ds : List DV) (vp : List (Nat × Value)) (dp : List (Nat × List DV)) (h : CzL w S v.cells.toList ds []) (hs : PartsR w S vp dp) : PartsR w S ((i, v) :: vp) ((i, ds) :: dp)
def afill (place : Nat -> Option (Nat × Nat)) : List DV -> List (Nat × List DV) -> Option (List DV)
 | l, [] => some l
 | l, (i, ds) :: rest =>
   match place i with
   | some (off, size) => if ds.length = size /\ off + ds.length <= l.length then afill place (splice l off ds) rest else none
   | none => none
theorem fill_ok {w : World} {S : Nat -> Prop} (place : Nat -> Option (Nat × Nat)) : ∀ (vp : List (Nat × Value)) (dp : List (Nat × List DV)) (cells : Array Value) (l l' : List DV), CzL w S cells.toList l [] ->
  PartsR w S vp dp -> afill place l dp = some l' -> ∃ cells', Instr.fill place cells vp = some cells' /\ CzL w S cells'.toList l' []
 | _, _, cells, l, l', hc, .nil, h => by
   simp only [afill, Option.some.injEq] at h
   subst h
   exact ⟨cells, rfl, hc⟩
 | _, _, cells, l, l', hc, .cons i v ds vp dp h2 hr, h => by
   simp only [afill] at h
   split at h
   ·rename_i off size hp
    split at h
    ·rename_i hcond
     have hlen := hc.length
     have hlv := h2.length
     simp only [Array.length_toList] at hlen hlv
     have hsz : v.cells.size = size := by omega
     have hfit : ¬ (off + v.cells.size > cells.size) := by omega
     have e := foldl_set off v.cells.toList 0 cells (by simp; omega)
     obtain ⟨r1, rm, r2, hr0, hcz, _⟩ := hc.splice off h2
     have hnil : r1 = [] /\ r2 = [] := by
      have := congrArg List.length hr0
      simp at this
      exact ⟨List.eq_nil_of_length_eq_zero (by omega), List.eq_nil_of_length_eq_zero (by omega)⟩
     rw [hnil.1, hnil.2] at hcz
     obtain ⟨cells', g1, g2⟩ := fill_ok place vp dp (v.cells.zipIdx.foldl (fun cs (x : Value × Nat) => cs.setIfInBounds (off + x.2) x.1) cells) (splice l off ds) l' (by
      rw [<- Array.foldl_toList, Array.toList_zipIdx, e]
      simpa using hcz) hr h
     refine ⟨cells', ?_, g2⟩
     have hfit2 : off + size <= cells.size := by omega
     simp only [Instr.fill, hp, hsz]
     simpa [hfit2] using g1
    ·cases h
   ·cases h
def partsOf (env : Env) : List (Nat × Operand) -> Option (List (Nat × List DV))
 | [] => some []
 | (i, x) :: rest => match opd env x, partsOf env rest with
   | .sv y, some l => if y.cells.all DV.flat then some ((i, y.cells) :: l) else none
   | _, _ => none
section
variable {P : Program} {N B : Nat} {w0 : World} {S0 : Nat -> Prop} {env : Env} {a : Act} {w : World} {rows : Nat -> List Nat} {next : Act -> World -> Prop} {Q : Exit -> Act -> World -> Prop}
theorem SimR.parts_ok (h : SimR N B w0 S0 env a w rows) : ∀ (parts : List (Nat × Operand)) (dp : List (Nat × List DV)), partsOf env parts = some dp ->
  PartsR w (SS B S0 w rows) (parts.map fun x => (x.1, a.eval x.2)) dp
 | [], dp, hp => by
   simp only [partsOf, Option.some.injEq] at hp
   subst hp
   exact .nil
 | (i, x) :: rest, dp, hp => by
   simp only [partsOf] at hp
   split at hp
   ·rename_i y l hopd hl
    split at hp
    ·injection hp with hp
     subst hp
     have hx := h.opd_ok x
     rw [hopd] at hx
     exact .cons _ _ _ _ _ (CzS.cells hx) (h.parts_ok rest l hl)
    ·cases hp
   ·cases hp
def abuildSlice (P : Program) (env : Env) (t : TypeId) (len : Nat) (parts : Array (Nat × Operand)) : Option DV :=
 match elT P t with
 | some e => match sizeT P e with
   | some size => match partsOf env parts.toList with
     | some dp => if (dp.map (·.1) = List.range len /\ dp.all (fun x => x.2.length = size) = true) /\ len * size <= 2 ^ 24 /\ len <= maxLen /\ 0 < size /\ (zeroT P e).isSome then some (.ow size (dp.map (·.2))) else none
     | none => none
   | none => none
 | none => none
theorem afill_seq (size : Nat) : ∀ (dp : List (Nat × List DV)) (k : Nat) (l : List DV), dp.map (·.1) = List.range' k dp.length -> dp.all (fun x => x.2.length = size) = true -> l.length = (k + dp.length) * size ->
  afill (fun i => some (i * size, size)) l dp = some (l.take (k * size) ++ (dp.map (·.2)).flatten)
 | [], k, l, _, _, hl => by
   simp only [List.length_nil, Nat.add_zero] at hl
   simp [afill, <- hl]
 | (i, ds) :: dp, k, l, hi, ha, hl => by
   simp only [List.map_cons, List.length_cons, List.range'_succ, List.cons.injEq] at hi
   obtain ⟨rfl, hi⟩ := hi
   simp only [List.all_cons, Bool.and_eq_true, decide_eq_true_eq] at ha
   obtain ⟨hds, ha⟩ := ha
   have h1 : (i + (dp.length + 1)) * size = i * size + (dp.length * size + size) := by rw [Nat.add_mul, Nat.succ_mul]
   have hfit : i * size + ds.length <= l.length := by rw [hl, List.length_cons, h1, hds]; omega
   have hcond : ds.length = size /\ i * size + ds.length <= l.length := ⟨hds, hfit⟩
   simp only [afill]
   rw [if_pos hcond, afill_seq size dp (i + 1) _ hi ha (by rw [splice_length _ _ _ hfit, hl]; congr 1; simp; omega)]
   congr 1
   have e : (i + 1) * size = i * size + ds.length := by rw [Nat.succ_mul, hds]
   have e2 : (splice l (i * size) ds).take (i * size + ds.length) = l.take (i * size) ++ ds := by
    unfold splice
    have e3 : (l.take (i * size) ++ ds).length = i * size + ds.length := by simp; omega
    rw [<- e3, List.take_left]
   rw [e, e2]
   simp
theorem oneCell_zeros {vs : List Value} {ds : List DV} (h : zerosDV vs = some ds) : ∀ v ∈ vs, v.oneCell' = true :=
 CzL.allOne (w := default) (S := fun _ => False) (zerosDV_ok h)
theorem CzL.deads {w : World} {S : Nat -> Prop} : ∀ (vs : List Value), (∀ v ∈ vs, v.oneCell' = true) -> CzL w S vs (List.replicate vs.length .dead) []
 | [], _ => .nil
 | v :: vs, h => by
   have := CzL.cons (w := w) (S := S) v .dead [] vs _ [] (.dead v (h v (by simp))) (CzL.deads vs (fun v hv => h v (by simp [hv])))
   simpa [List.replicate_succ] using this
theorem abuildSlice_ok (h : SimR N B w0 S0 env a w rows) {o : Oper} {t : TypeId} {len : Nat} {parts : Array (Nat × Operand)} (ho : o.op = .buildSlice t len parts) {x : DV} (he : abuildSlice P env t len parts = some x) {d : Nat} (hd : d < N) (hdst : o.dst = some d)
  (hn : ∀ a' w', Sim N B w0 S0 (env.put d (.sv (.one x))) a' w' -> next a' w') : o.wp P a w next Q := by
 unfold abuildSlice at he
 split at he
 ·rename_i e helT
  unfold elT at helT
  split at helT
  ·rename_i e' hu
   injection helT with helT
   subst helT
   split at he
   ·rename_i size hs
    split at he
    ·rename_i dp hdp
     split at he
     ·rename_i hcond
      obtain ⟨⟨hidx, hall⟩, hlim, hmax, hpos, hz⟩ := hcond
      injection he with he
      subst he
      have hlen : dp.length = len := by have := congrArg List.length hidx; simpa using this
      obtain ⟨zl, hz⟩ := Option.isSome_iff_exists.1 hz
      unfold zeroT at hz
      split at hz
      ·rename_i i hi
       split at hz
       ·rename_i z hzz
        split at hz
        ·rename_i hzs
         have hsz : i.size = size := by simpa [sizeT, hi] using hs
         let Z : Array Value := if len * size = 0 then #[] else z.cells
         let C0 : Array Value := (Array.range (len * size)).map fun k => Z[k % Z.size]!
         have hone : ∀ v ∈ C0.toList, v.oneCell' = true := by
          intro v hv
          simp only [C0, Array.toList_map, List.mem_map, Array.toList_range, List.mem_range] at hv
          obtain ⟨k, hk, rfl⟩ := hv
          have hne : len * size ≠ 0 := by omega
          simp only [Z, hne, if_false]
          have hlt : k % z.cells.size < z.cells.size := Nat.mod_lt _ (by omega)
          rw [getElem!_pos z.cells _ hlt]
          exact oneCell_zeros hz _ (by simp)
         have hC0 : C0.toList.length = len * size := by simp [C0]
         have hrep := CzL.deads (w := w) (S := SS B S0 w rows) C0.toList hone
         rw [hC0] at hrep
         have hpr := h.parts_ok parts.toList dp hdp
         have hfill := afill_seq size dp 0 (List.replicate (len * size) .dead) (by rw [hidx, hlen, List.range_eq_range']) hall (by simp [hlen])
         simp only [Nat.zero_mul, List.take_zero, List.nil_append] at hfill
         obtain ⟨cells', g1, g2⟩ := fill_ok _ _ _ C0 _ _ hrep hpr hfill
         have hrun : (Instr.buildSlice t len (parts.map fun x => (x.1, a.eval x.2))).run P w = .ok (.slice (some ⟨w.heap.size, 0, none⟩) len len) (w.alloc (.cells cells' e')) := by
          have hlim' : ¬ (len * size > 2 ^ 24) := by omega
          have g1' : Instr.fill (fun i => some (i * size, size)) C0 (parts.map fun x => (x.1, a.eval x.2)).toList = some cells' := by
           rw [Array.toList_map]; exact g1
          by_cases hne : len * size = 0
          ·have hC : C0 = (Array.range (len * size)).map (fun k => (#[] : Array Value)[k % (#[] : Array Value).size]!) := by simp only [C0, Z, hne, if_true]
           rw [hC] at g1'
           simp [hne] at g1'
           simp [Instr.buildSlice, run_underlying hu, run_sizeOf hs, hne, g1', newRow]
          ·have hC : C0 = (Array.range (len * size)).map (fun k => z.cells[k % z.cells.size]!) := by simp only [C0, Z, hne, if_false]
           rw [hC] at g1'
           have hzero : (zeroValue e').run P w = .ok z w := by simp [zeroValue, typeInfo, hi, hzz]
           simp at g1' hlim'
           simp [Instr.buildSlice, run_underlying hu, run_sizeOf hs, hlim', hne, hzero, g1', newRow]
         refine wp_value (v := .slice (some ⟨w.heap.size, 0, none⟩) len len) (w' := w.alloc (.cells cells' e')) ?_ ?_
         ·simp only [execOp, ho]
          exact run_value hrun
         ·rw [hdst]
          have hb : Below w.heap.size w (w.alloc (.cells cells' e')) := (Below.refl _ _).alloc (Nat.le_refl _) _
          have hels : ∀ x ∈ dp.map (·.2), x.length = size := by
           intro x hx
           simp only [List.mem_map] at hx
           obtain ⟨y, hy, rfl⟩ := hx
           have := List.all_eq_true.1 hall y hy
           simpa using this
          have hfl := flatten_len (z := size) hels
          have hg := g2.length
          rw [hfl, List.length_map, hlen] at hg
          simp only [Array.length_toList] at hg
          have hl1 : (dp.map (·.2)).length = len := by simp [hlen]
          have hr1 : ∀ b ∈ [w.heap.size], w.heap.size <= b /\ b < (w.alloc (.cells cells' e')).heap.size := by simp
          refine hn _ _ ⟨_, h.put hd hb hr1 (by simp) (.one _ _ _ (.ow _ 0 len len size _ e' cells' [] (heap_alloc_new w _) hl1 (Nat.le_refl _) hmax (by omega) hels ?_))⟩
          have : (cells'.toList.drop 0).take (len * size) = cells'.toList := by rw [List.drop_zero, <- hg, <- Array.length_toList, List.take_length]
          rw [this]
          exact g2.keep (fun b hs => ⟨.inl hs, hb.block b (h.lt hs)⟩) (by simp)
        ·cases hz
       ·cases hz
      ·cases hz
     ·cases he
    ·cases he
   ·cases he
  ·cases helT
 ·cases he
def amake (P : Program) (env : Env) (t : TypeId) (len cap : Operand) : Option (Prop × DV) :=
 match elT P t with
 | some e => match sizeT P e, zeroT P e, bytesT P e with
   | some size, some zl, some bz => match opd env len, opd env cap with
     | .sv (.one (.int _ n)), .sv (.one (.int _ c)) => some (0 <= n /\ n <= c /\ (bz : Int) * c <= 281474976710656 /\ c <= 9223372036854775807, .ow size (List.replicate n.toNat zl))
     | _, _ => none
   | _, _, _ => none
 | none => none
theorem made_toList {S : Nat -> Prop} {zl : List DV} (zs : Array Value) (n size : Nat) (hz : zs.size = size) : CzL w S zs.toList zl [] -> CzL w S ((List.range (n * size)).map fun k => zs[k % zs.size]!) (List.replicate n zl).flatten [] := by
 intro h
 induction n with
 | zero => simpa using CzL.nil
 | succ n ih =>
   rw [Nat.succ_mul, List.range_add, List.map_append, List.replicate_succ', List.flatten_append]
   have := ih.append (rs' := []) (vs' := zs.toList) (xs' := zl) h
   simp only [List.flatten_cons, List.flatten_nil, List.append_nil] at this ⊢
   have e : (List.map (fun x => n * size + x) (List.range size)).map (fun k => zs[k % zs.size]!) = zs.toList := by
    apply List.ext_getElem
    ·simp [hz]
    ·intro k h1 h2
     simp only [List.length_map, List.length_range] at h1
     simp only [List.getElem_map, List.getElem_range, Array.getElem_toList]
     have : (n * size + k) % zs.size = k := by rw [hz, Nat.mul_comm, Nat.mul_add_mod, Nat.mod_eq_of_lt h1]
     rw [this, getElem!_pos zs k (by omega)]
   rw [e]
   exact this
theorem amake_ok (h : SimR N B w0 S0 env a w rows) {o : Oper} {t : TypeId} {len cap : Operand} (ho : o.op = .makeSlice t len cap) {ob : Prop} {x : DV} (he : amake P env t len cap = some (ob, x)) (hob : ob) {d : Nat} (hd : d < N) (hdst : o.dst = some d)
  (hn : ∀ a' w', Sim N B w0 S0 (env.put d (.sv (.one x))) a' w' -> next a' w') : o.wp P a w next Q := by
 unfold amake at he
 split at he
 ·rename_i e helT
  unfold elT at helT
  split at helT
  ·rename_i e' hu
   injection helT with helT
   subst helT
   split at he
   ·rename_i size zl bz hs hz hbz
    split at he
    ·rename_i kl n kc c hl hc
     simp only [Option.some.injEq, Prod.mk.injEq] at he
     obtain ⟨rfl, rfl⟩ := he
     obtain ⟨h0, h1, h2, h3⟩ := hob
     have hlv := h.opd_ok len
     have hcv := h.opd_ok cap
     rw [hl] at hlv
     rw [hc] at hcv
     have elv := (CzS.one_inv hlv).int_inv
     have ecv := (CzS.one_inv hcv).int_inv
     unfold zeroT at hz
     split at hz
     ·rename_i i hi
      split at hz
      ·rename_i z hzz
       split at hz
       ·rename_i hzs
        have hsz : i.size = size := by simpa [sizeT, hi] using hs
        have hby : i.bytes = bz := by simpa [bytesT, hi] using hbz
        have hrun := run_make (P := P) w t e' i z hu hi hzz kl kc n c h0 h1 (by rw [hby]; exact h2) h3
        have hzcz := zerosDV_ok (w := w) (S := SS B S0 w rows) hz
        have hzl : zl.length = size := by have := hzcz.length; simp at this; omega
        refine wp_value (v := .slice (some ⟨w.heap.size, 0, none⟩) n.toNat c.toNat) (w' := w.alloc (.cells (madeCells z.cells (c.toNat * i.size)) e')) ?_ ?_
        ·simp only [execOp, ho, elv, ecv]
         exact run_value hrun
        ·rw [hdst]
         have hb : Below w.heap.size w (w.alloc (.cells (madeCells z.cells (c.toNat * i.size)) e')) := (Below.refl _ _).alloc (Nat.le_refl _) _
         have hr1 : ∀ b ∈ [w.heap.size], w.heap.size <= b /\ b < (w.alloc (.cells (madeCells z.cells (c.toNat * i.size)) e')).heap.size := by simp
         have hnc : n.toNat <= c.toNat := by omega
         refine hn _ _ ⟨_, h.put hd hb hr1 (by simp) (.one _ _ _ (.ow _ 0 n.toNat c.toNat size _ e' _ [] (heap_alloc_new w _) (by simp) hnc (by unfold maxLen; omega) (by rw [hsz]; simp [madeCells]) (fun e he => by rw [List.eq_of_mem_replicate he]; exact hzl) ?_))⟩
         have e9 : ((madeCells z.cells (c.toNat * i.size)).toList.drop 0).take (n.toNat * size) = (List.range (n.toNat * size)).map fun k => z.cells[k % z.cells.size]! := by
          have : min (n.toNat * size) (c.toNat * size) = n.toNat * size := Nat.min_eq_left (Nat.mul_le_mul_right _ hnc)
          rw [List.drop_zero, hsz]
          simp only [madeCells, Array.toList_map, Array.toList_range, <- List.map_take, List.take_range, this]
         rw [e9]
         exact (made_toList z.cells n.toNat size (by omega) hzcz).keep (fun b hs => ⟨.inl hs, hb.block b (h.lt hs)⟩) (by simp)
       ·cases hz
      ·cases hz
     ·cases hz
    ·cases he
   ·cases he
  ·cases helT
 ·cases he
end
end Go.Av
namespace Go.Av
open Go Go.RowKit
structure Shape (x y : DV) : Prop where
 el : ∀ i el, x.elAt i = some el -> ∃ el', y.elAt i = some el' /\ el'.length = el.length
 base : ∀ u, rowBase u y = rowBase u x
 els : ∀ els, x.elsOf = some els -> ∃ els', y.elsOf = some els' /\ els'.length = els.length /\ ∀ z, (∀ e ∈ els, e.length = z) -> ∀ e ∈ els', e.length = z
theorem Shape.put {x : DV} {i j : Nat} {ds el : List DV} (he : x.elAt i = some el) (hj : j + ds.length <= el.length) : Shape x (x.put i j ds) := by
 cases x with
 | ow z els =>
   simp only [DV.elAt] at he
   have hlt : i < els.length := (List.getElem?_eq_some_iff.1 he).1
   have hee : els[i] = el := (List.getElem?_eq_some_iff.1 he).2
   refine ⟨?_, fun u => by cases u with | pointer a => cases a <;> rfl | slice a _ _ => cases a <;> rfl | _ => rfl, ?_⟩
   ·intro k el' hk
    simp only [DV.elAt, DV.put, he, Option.getD_some] at hk ⊢
    by_cases e : i = k
    ·subst e
     rw [he] at hk
     injection hk with hk
     subst hk
     exact ⟨splice el j ds, by simp [hlt], splice_length _ _ _ hj⟩
    ·exact ⟨el', by rw [List.getElem?_set_ne e]; exact hk, rfl⟩
   ·intro els' hs
    injection hs with hs
    subst hs
    refine ⟨_, rfl, by simp, fun z hz e h => ?_⟩
    simp only [he, Option.getD_some] at h
    rcases List.mem_or_eq_of_mem_set h with h | h
    ·exact hz _ h
    ·rw [h, splice_length _ _ _ hj]
     exact hz _ (by rw [<- hee]; exact List.getElem_mem hlt)
 | bx l =>
   simp only [DV.elAt] at he
   split at he
   ·injection he with he
    subst he
    refine ⟨?_, fun u => by cases u with | pointer a => cases a <;> rfl | slice a _ _ => cases a <;> rfl | _ => rfl, fun els' hs => by cases hs⟩
    intro k el' hk
    simp only [DV.elAt, DV.put] at hk ⊢
    split at hk
    ·injection hk with hk
     subst hk
     rename_i hk0
     exact ⟨splice l j ds, by simp [hk0], splice_length _ _ _ hj⟩
    ·cases hk
   ·cases he
 | _ => simp [DV.elAt] at he
theorem Shape.setP {x y : DV} {p : List (Nat × Nat)} {q : Nat × Nat} {d : DV} (h : getP x (q :: p) = some y) : Shape x (setP x (q :: p) d) := by
 obtain ⟨i, j⟩ := q
 simp only [getP] at h
 split at h
 ·rename_i el he
  split at h
  ·rename_i c hc
   simp only [Av.setP, he, hc]
   exact Shape.put he (by have := (List.getElem?_eq_some_iff.1 hc).1; simp; omega)
  ·cases h
 ·cases h
def Env.setRoot (e : Env) (s : Nat) (x : DV) (n : Nat) : Env := (s, .sv (.one x)) :: Env.kill s n e
theorem Env.get_setRoot (e : Env) (s : Nat) (x : DV) (n t : Nat) : (e.setRoot s x n).get t = if s = t then .sv (.one x) else (e.get t).kill s n := by
 simp only [Env.setRoot, Env.get, Env.get_kill]
theorem Env.root_setRoot (e : Env) (s : Nat) (x : DV) (n t : Nat) : (e.setRoot s x n).root t = if s = t then some x else e.root t := by
 simp only [Env.root, Env.get_setRoot]
 split
 ·rfl
 ·rw [AV.asOne_kill]
theorem AVR.keepS {w w' : World} {S S' : Nat -> Prop} {env env' : Env} {f f' : Nat -> Value} (hS : ∀ b, S b -> S' b /\ w'.heap[b]? = w.heap[b]?) {s0 n0 : Nat}
  (hroot : ∀ s x p v y, (s ≠ s0 \/ p.length < n0) -> env.root s = some x -> cat w (f s) x p = some (v, y) -> ∃ x' y', env'.root s = some x' /\ cat w' (f' s) x' p = some (v, y') /\ Shape y y') (hval : ∀ s, (s ≠ s0 \/ 0 < n0) -> f' s = f s) :
  ∀ (av : AV) {v : Value} {r : List Nat}, AVR w S env f av v r -> (∀ b ∈ r, w'.heap[b]? = w.heap[b]?) -> AVR w' S' env' f' (av.kill s0 n0) v r
 | .no, _, _, h, _ => h
 | .undef, _, _, h, _ => h
 | .sv x, _, _, h, hr => CzS.keep hS h hr
 | .tup l, _, _, ⟨vs, h1, h2⟩, hr => ⟨vs, h1, h2.keep hS hr⟩
 | .al s p, v, r, h, hr => by
   obtain ⟨rfl, x, y, h1, h2⟩ := h
   simp only [AV.kill]
   split
   ·trivial
   ·rename_i hk
    obtain ⟨x', y', g1, g2, _⟩ := hroot s x p v y (by by_cases e : s = s0 <;> simp_all) h1 h2
    exact ⟨rfl, x', y', g1, g2⟩
 | .pt s p i j, v, r, h, hr => by
   obtain ⟨rfl, x, u, y, el, ad, h1, h2, h3, h4, h5⟩ := h
   simp only [AV.kill]
   split
   ·trivial
   ·rename_i hk
    obtain ⟨x', y', g1, g2, g3⟩ := hroot s x p u y (by by_cases e : s = s0 <;> simp_all) h1 h2
    obtain ⟨el', k1, k2⟩ := g3.el i el h3
    exact ⟨rfl, x', u, y', el', ad, g1, g2, k1, by rw [g3.base, h4], by rw [k2]; exact h5⟩
 | .sub s p lo hi, v, r, h, hr => by
   obtain ⟨rfl, x, y, A, n, c, els, h1, h2, h3, h4, h5, h6, h7, z, h8, h9⟩ := h
   simp only [AV.kill]
   split
   ·trivial
   ·rename_i hk
    obtain ⟨x', y', g1, g2, g3⟩ := hroot s x p _ y (by by_cases e : s = s0 <;> simp_all) h1 h2
    obtain ⟨els', k1, k2, k3⟩ := g3.els els h3
    exact ⟨rfl, x', y', A, n, c, els', g1, g2, k1, by omega, h5, h6, h7, z, k3 z h8, h9⟩
 | .bsl s p m, v, r, h, hr => by
   obtain ⟨rfl, x, u, y, el, ad, h1, h2, h3, h4, h6, h5⟩ := h
   simp only [AV.kill]
   split
   ·trivial
   ·rename_i hk
    obtain ⟨x', y', g1, g2, g3⟩ := hroot s x p u y (by by_cases e : s = s0 <;> simp_all) h1 h2
    obtain ⟨el', k1, k2⟩ := g3.el 0 el h3
    exact ⟨rfl, x', u, y', el', ad, g1, g2, k1, by rw [g3.base, h4], by rw [k2]; exact h6, h5⟩
 | .gd c a, v, r, h, hr => by
   obtain ⟨rfl, h1, h2⟩ := h
   exact ⟨rfl, fun hc => AVR.keepS hS hroot hval a (h1 hc) (by simp), h2⟩
 | .eqv s x, v, r, h, hr => by
   obtain ⟨rfl, h1⟩ := h
   simp only [AV.kill]
   split
   ·trivial
   ·rename_i hk
    refine ⟨rfl, (hval s ?_).trans h1⟩
    by_cases e : s = s0
    ·right
     have h2 : ¬ n0 = 0 := fun h0 => hk ⟨e, h0⟩
     omega
    ·exact .inl e
 | .cl g caps, v, r, h, hr => by
   obtain ⟨rfl, h1⟩ := h
   simp only [AV.kill]
   split
   ·trivial
   ·rename_i hk
    refine ⟨rfl, ?_⟩
    rw [h1]
    have : caps.map f' = caps.map f := by
     refine List.map_congr_left fun s hs => hval s ?_
     by_cases e : s = s0
     ·right
      subst e
      have h2 : ¬ n0 = 0 := fun h0 => hk ⟨by simpa using hs, h0⟩
      omega
     ·exact .inl e
    rw [this]
 | .agl s p i, v, r, h, hr => by
   obtain ⟨rfl, x, u, y, el, vs, h1, h2, h3, h4, h5, h6⟩ := h
   simp only [AV.kill]
   split
   ·trivial
   ·rename_i hk
    obtain ⟨x', y', g1, g2, g3⟩ := hroot s x p u y (.inl hk) h1 h2
    obtain ⟨el', k1, k2⟩ := g3.el i el h3
    refine ⟨rfl, x', u, y', el', vs, g1, g2, k1, h4, by rw [k2]; exact h5, fun j c hc => ?_⟩
    obtain ⟨d, hd⟩ := h6 j c hc
    obtain ⟨x2, d', m1, m2, _⟩ := hroot s x _ c d (.inl hk) h1 hd
    rw [g1] at m1
    injection m1 with m1
    subst m1
    exact ⟨d', m2⟩
theorem Shape.refl (x : DV) : Shape x x := ⟨fun _ el h => ⟨el, h, rfl⟩, fun _ => rfl, fun els h => ⟨els, h, rfl, fun _ h => h⟩⟩
section
variable {N B : Nat} {w0 : World} {S0 : Nat -> Prop} {env : Env} {a : Act} {w w' : World} {rows : Nat -> List Nat}
theorem SimR.reroot (h : SimR N B w0 S0 env a w rows) {s : Nat} {x x' : DV} (hx : env.root s = some x) {n : Nat} (hsh : n = 0 \/ (n = 1 /\ Shape x x')) (hbel : Below B w w') {rs' : List Nat}
  (hown : ∀ b ∈ rs', (b ∈ rows s \/ w.heap.size <= b) /\ b < w'.heap.size) (hnd : rs'.Nodup) (hframe : ∀ b, b < w.heap.size -> b ∉ rows s -> w'.heap[b]? = w.heap[b]?)
  (hcz : ∀ S' : Nat -> Prop, (∀ b, SS B S0 w rows b -> S' b) -> (∀ b ∈ rows s, b ∉ rs' -> S' b) -> Cz w' S' (Act.f a s) x' rs') :
  SimR N B w0 S0 (env.setRoot s x' n) a w' (fun t => if s = t then rs' else rows t) := by
 have hsz := hbel.size
 have hbase := h.base
 have hS : ∀ b, SS B S0 w rows b -> SS B S0 w' (fun t => if s = t then rs' else rows t) b /\ w'.heap[b]? = w.heap[b]? := by
  intro b hs
  have hlt := h.lt hs
  have hns : b ∉ rows s := by
   rcases hs with hs | hs
   ·exact (h.old b hs).2.2 s
   ·exact hs.2.2 s
  refine ⟨?_, hframe b hlt hns⟩
  rcases hs with hs | ⟨h1, h2, h3⟩
  ·exact .inl hs
  ·refine .inr ⟨h1, by omega, fun t ht => ?_⟩
   dsimp only at ht
   split at ht
   ·rcases (hown b ht).1 with g | g
    ·exact hns g
    ·omega
   ·exact h3 t ht
 have hkeep : ∀ t, s ≠ t -> ∀ b ∈ rows t, w'.heap[b]? = w.heap[b]? := fun t ht b hb => hframe b (h.own t b hb).2 (fun hb' => h.apart s t ht b hb' hb)
 refine ⟨h.defers, h.size, h.below.trans hbel, by omega, h.old_next (fun t b hb => (mem_ite hb).elim (fun hb => (hown b hb).1.imp (fun g => ⟨s, g⟩) id) (fun hb => .inl ⟨t, hb⟩)) (fun b hlt hn => hframe b hlt (hn s)), ?_, ?_, ?_, ?_⟩
 ·intro t b hb
  split at hb
  ·obtain ⟨h1, h2⟩ := hown b hb
   rcases h1 with h1 | h1
   ·exact ⟨(h.own s b h1).1, h2⟩
   ·exact ⟨by omega, h2⟩
  ·have := h.own t b hb; omega
 ·intro t
  split
  ·exact hnd
  ·exact h.nodup t
 ·intro t t' hne b hb hb'
  split at hb
  ·rename_i e
   split at hb'
   ·omega
   ·rcases (hown b hb).1 with g | g
    ·exact h.apart s t' (by omega) b g hb'
    ·have := h.own t' b hb'; omega
  ·split at hb'
   ·rcases (hown b hb').1 with g | g
    ·exact h.apart t s (by omega) b hb g
    ·have := h.own t b hb; omega
   ·exact h.apart t t' hne b hb hb'
 ·intro t
  rw [Env.get_setRoot]
  by_cases e : s = t
  ·subst e
   simp only [if_true]
   refine .one _ _ _ (hcz _ (fun b hb => (hS b hb).1) (fun b hb hnb => ?_))
   have hown1 := h.own s b hb
   refine .inr ⟨hown1.1, by omega, fun t ht => ?_⟩
   dsimp only at ht
   split at ht
   ·exact hnb ht
   ·rename_i e
    exact h.apart s t e b hb ht
  ·simp only [e, if_false]
   refine AVR.keepS hS (s0 := s) (n0 := n) ?_ (fun _ _ => rfl) (env.get t) (h.rel t) (hkeep t e)
   intro s' x1 p v y hs hx1 hc
   by_cases es : s = s'
   ·subst es
    rcases hsh with rfl | ⟨rfl, hsh⟩
    ·simp at hs
    ·have hp : p = [] := by
      rcases hs with hs | hs
      ·exact (hs rfl).elim
      ·exact List.eq_nil_of_length_eq_zero (by omega)
     subst hp
     rw [hx] at hx1
     injection hx1 with hx1
     subst hx1
     simp only [cat, Option.some.injEq, Prod.mk.injEq] at hc
     obtain ⟨rfl, rfl⟩ := hc
     exact ⟨x', x', by simp [Env.root_setRoot], rfl, hsh⟩
   ·refine ⟨x1, y, by rw [Env.root_setRoot, if_neg es, hx1], ?_, Shape.refl y⟩
    exact h.cat_keep (hkeep s' es) hx1 hc
theorem SimR.consume (h : SimR N B w0 S0 env a w rows) {s d : Nat} (hd : d < N) {x x' : DV} (hx : env.root s = some x) {n : Nat} (hsh : n = 0 \/ (n = 1 /\ Shape x x')) (hbel : Below B w w') {rs' r' : List Nat}
  (hown : ∀ b ∈ rs', b ∈ rows s) (hnd : rs'.Nodup) (hown' : ∀ b ∈ r', (b ∈ rows s \/ w.heap.size <= b) /\ b < w'.heap.size) (hnd' : r'.Nodup) (hdis : ∀ b ∈ r', b ∉ rs')
  (hframe : ∀ b, b < w.heap.size -> b ∉ rows s -> w'.heap[b]? = w.heap[b]?)
  (hcz : ∀ S' : Nat -> Prop, (∀ b, SS B S0 w rows b -> S' b) -> Cz w' S' (Act.f a s) x' rs') {v : Value} {y : SV}
  (hcy : ∀ S' : Nat -> Prop, (∀ b, SS B S0 w rows b -> S' b) -> CzS w' S' v y r') :
  SimR N B w0 S0 ((env.setRoot s x' n).put d (.sv y)) (a.put (some d) v) w' (fun t => if d = t then r' else if s = t then rs' else rows t) := by
 have hsz := hbel.size
 have hbase := h.base
 have hr1 : ∀ b ∈ rs', (b ∈ rows s \/ w.heap.size <= b) /\ b < w'.heap.size := fun b hb => ⟨.inl (hown b hb), by have := h.own s b (hown b hb); omega⟩
 have h1 := h.reroot hx hsh hbel hr1 hnd hframe (fun S' h1 _ => hcz S' h1)
 have hS : ∀ b, SS B S0 w rows b -> SS B S0 w' (fun t => if d = t then r' else if s = t then rs' else rows t) b /\ w'.heap[b]? = w.heap[b]? := by
  intro b hs
  have hlt := h.lt hs
  have hns : b ∉ rows s := by
   rcases hs with hs | hs
   ·exact (h.old b hs).2.2 s
   ·exact hs.2.2 s
  refine ⟨?_, hframe b hlt hns⟩
  rcases hs with hs | ⟨h1, h2, h3⟩
  ·exact .inl hs
  ·refine .inr ⟨h1, by omega, fun t ht => ?_⟩
   dsimp only at ht
   split at ht
   ·rcases (hown' b ht).1 with g | g
    ·exact hns g
    ·omega
   ·split at ht
    ·exact hns (hown b ht)
    ·exact h3 t ht
 have hkeep : ∀ t, s ≠ t -> ∀ b ∈ rows t, w'.heap[b]? = w.heap[b]? := fun t ht b hb => hframe b (h.own t b hb).2 (fun hb' => h.apart s t ht b hb' hb)
 refine ⟨h1.defers, by simp [Act.put, h.size], h1.below, h1.base, h.old_next (fun t b hb => (mem_ite hb).elim (fun hb => (hown' b hb).1.imp (fun g => ⟨s, g⟩) id) (fun hb => (mem_ite hb).elim (fun hb => .inl ⟨s, hown b hb⟩) (fun hb => .inl ⟨t, hb⟩))) (fun b hlt hn => hframe b hlt (hn s)), ?_, ?_, ?_, ?_⟩
 ·intro t b hb
  split at hb
  ·obtain ⟨g1, g2⟩ := hown' b hb
   rcases g1 with g1 | g1
   ·exact ⟨(h.own s b g1).1, g2⟩
   ·exact ⟨by omega, g2⟩
  ·exact h1.own t b hb
 ·intro t
  split
  ·exact hnd'
  ·exact h1.nodup t
 ·intro t t' hne b hb hb'
  have hmix : ∀ t, b ∈ r' -> b ∈ (if s = t then rs' else rows t) -> False := by
   intro t g1 g2
   split at g2
   ·exact hdis b g1 g2
   ·rename_i e
    rcases (hown' b g1).1 with g | g
    ·exact h.apart s t e b g g2
    ·have := h.own t b g2; omega
  split at hb
  ·split at hb'
   ·omega
   ·exact hmix t' hb hb'
  ·split at hb'
   ·exact hmix t hb' hb
   ·exact h1.apart t t' hne b hb hb'
 ·intro t
  rw [Env.get_put, Act.f_put (by rw [h.size]; exact hd)]
  by_cases e : d = t
  ·subst e
   simp only [if_true]
   exact hcy _ fun b hb => (hS b hb).1
  ·simp only [e, if_false]
   have hstep : AVR w' (SS B S0 w' (fun t => if d = t then r' else if s = t then rs' else rows t)) (env.setRoot s x' n) (Act.f a) ((env.setRoot s x' n).get t) (Act.f a t) (if s = t then rs' else rows t) := by
    rw [Env.get_setRoot]
    by_cases es : s = t
    ·subst es
     simp only [if_true]
     exact .one _ _ _ (hcz _ fun b hb => (hS b hb).1)
    ·simp only [es, if_false]
     refine AVR.keepS hS (s0 := s) (n0 := n) ?_ (fun _ _ => rfl) (env.get t) (h.rel t) (hkeep t es)
     intro s' x1 p v y hs hx1 hc
     by_cases es' : s = s'
     ·subst es'
      rcases hsh with rfl | ⟨rfl, hsh⟩
      ·simp at hs
      ·have hp : p = [] := by
        rcases hs with hs | hs
        ·exact (hs rfl).elim
        ·exact List.eq_nil_of_length_eq_zero (by omega)
       subst hp
       rw [hx] at hx1
       injection hx1 with hx1
       subst hx1
       simp only [cat, Option.some.injEq, Prod.mk.injEq] at hc
       obtain ⟨rfl, rfl⟩ := hc
       exact ⟨x', x', by simp [Env.root_setRoot], rfl, hsh⟩
     ·refine ⟨x1, y, by rw [Env.root_setRoot, if_neg es', hx1], ?_, Shape.refl y⟩
      exact h.cat_keep (hkeep s' es') hx1 hc
   refine AVR.keep (w := w') (f := Act.f a) (fun b hb => ⟨hb, rfl⟩) (s0 := d) (n0 := 0) ?_ (fun s hs => by rw [Act.f_put (by rw [h.size]; exact hd), if_neg (by rcases hs with hs | hs; exact fun e => hs e.symm; omega)]) _ hstep (fun _ _ => rfl)
   intro s' x1 p v' y1 hs hx1 hc
   have hsd : d ≠ s' := by rcases hs with hs | hs; exact fun e => hs e.symm; omega
   refine ⟨x1, by rw [Env.root_put_ne _ _ hsd, hx1], ?_⟩
   rw [Act.f_put (by rw [h.size]; exact hd), if_neg hsd]
   exact hc
end
end Go.Av
namespace Go.Av
open Go Go.RowKit
def z_g (els : List (List DV)) : Prop := ∀ e ∈ els, e.all DV.flat = true
theorem z_g.flatten {els : List (List DV)} (h : z_g els) : els.flatten.all DV.flat = true := by
 rw [List.all_eq_true]
 intro x hx
 obtain ⟨e, he, hxe⟩ := List.mem_flatten.1 hx
 exact List.all_eq_true.1 (h e he) x hxe
theorem CzL.nil_split {w : World} {S : Nat -> Prop} {vs : List Value} {xs : List DV} (h : CzL w S vs xs []) (k m : Nat) : CzL w S ((vs.drop k).take m) ((xs.drop k).take m) [] := by
 obtain ⟨r1, r2, e, _, h2⟩ := CzL.split k h
 obtain ⟨r3, r4, e', h3, _⟩ := CzL.split m h2
 have := congrArg List.length e
 have := congrArg List.length e'
 simp at *
 have e3 : r3 = [] := List.eq_nil_of_length_eq_zero (by omega)
 rw [e3] at h3
 exact h3
theorem splice_seg {α : Type} (l : List α) (off A : Nat) (news : List α) (h : off + A + news.length <= l.length) : ((splice l (off + A) news).drop off).take (A + news.length) = (l.drop off).take A ++ news := by
 have e : splice l (off + A) news = l.take off ++ (((l.drop off).take A ++ news) ++ l.drop (off + A + news.length)) := by
  unfold splice
  rw [List.take_add]
  simp [List.append_assoc]
 have h1 : (l.take off).length = off := by rw [List.length_take]; omega
 have h2 : ((l.drop off).take A ++ news).length = A + news.length := by rw [List.length_append, List.length_take, List.length_drop]; omega
 have e3 : (l.take off ++ (((l.drop off).take A ++ news) ++ l.drop (off + A + news.length))).drop off = ((l.drop off).take A ++ news) ++ l.drop (off + A + news.length) := List.drop_left' h1
 rw [e, e3]
 exact List.take_left' h2
theorem Cz.source {w : World} {S : Nat -> Prop} {v : Value} {x : DV} {r : List Nat} (h : Cz w S v x r) {els : List (List DV)} (he : x.elsOf = some els) (hf : z_g els) {z : Nat} (hz : ∀ e ∈ els, e.length = z) :
  ∃ A c nvs, v = .slice A els.length c /\ els.length <= c /\ nvs.length = els.length * z /\ (∀ j u, nvs[j]? = some u -> ∃ ad, A = some ad /\ w.cell? (ad.add j) = some u) /\ CzL w S nvs els.flatten [] /\ (els ≠ [] -> ∃ ad, A = some ad) := by
 cases h with
 | nil => injection he with he; subst he; exact ⟨none, 0, [], rfl, by simp, by simp, by simp, .nil, by simp⟩
 | shNil A c => injection he with he; subst he; exact ⟨A, c, [], rfl, by simp, by simp, by simp, .nil, by simp⟩
 | owNil => injection he with he; subst he; exact ⟨none, 0, [], rfl, by simp, by simp, by simp, .nil, by simp⟩
 | sh ad n c z0 els0 vs hS hn hc hm hz0 hcell hl =>
   injection he with he
   subst he
   subst hn
   exact ⟨some ad, c, vs, rfl, hc, by rw [hl.length, flatten_len hz], fun j u hu => ⟨ad, rfl, hcell j u hu⟩, hl, fun _ => ⟨ad, rfl⟩⟩
 | ow b off n c z0 els0 T cs rs hb hn hc hm hsz hz0 hl =>
   injection he with he
   subst he
   subst hn
   have hr := hl.flat_rows hf.flatten
   subst hr
   refine ⟨_, c, _, rfl, hc, by rw [hl.length, flatten_len hz], fun j u hu => ⟨_, rfl, ?_⟩, hl, fun _ => ⟨_, rfl⟩⟩
   rw [add_mk, cell_of_row w b _ cs T (0, 0) hb]
   rw [List.getElem?_take] at hu
   split at hu
   ·rw [List.getElem?_drop] at hu
    simpa using hu
   ·cases hu
 | _ => cases he
section
variable {P : Program} {N B : Nat} {w0 : World} {S0 : Nat -> Prop} {env : Env} {a : Act} {w : World} {rows : Nat -> List Nat} {next : Act -> World -> Prop} {Q : Exit -> Act -> World -> Prop}
theorem SimR.source (h : SimR N B w0 S0 env a w rows) {av : AV} {v : Value} (hv : AVR w (SS B S0 w rows) env (Act.f a) av v []) {els : List (List DV)} (he : sliceOf env av = some els) (hf : z_g els) {z : Nat} (hz : ∀ e ∈ els, e.length = z) :
  ∃ A c nvs, v = .slice A els.length c /\ els.length <= c /\ nvs.length = els.length * z /\ (∀ j u, nvs[j]? = some u -> ∃ ad, A = some ad /\ w.cell? (ad.add j) = some u) /\ CzL w (SS B S0 w rows) nvs els.flatten [] /\ (els ≠ [] -> ∃ ad, A = some ad) := by
 unfold sliceOf at he
 split at he
 ·exact (CzS.one_inv hv).source he hf hz
 ·obtain ⟨_, x, y, h1, h2⟩ := hv
  split at he
  ·rename_i y' hat
   obtain ⟨rfl, r, h3, _⟩ := h.place h1 h2 hat
   exact h3.source he hf hz
  ·cases he
 ·rename_i s' p' lo' hi'
  obtain ⟨_, x, y, A, n, c, els', h1, h2, h3, h4, h5, h6, h7, z', h8, h9⟩ := hv
  split at he
  ·rename_i y' hat
   obtain ⟨rfl, r, hcz, _⟩ := h.place h1 h2 hat
   rw [h3] at he
   injection he with he
   by_cases hemp : els = []
   ·rw [hemp] at he ⊢
    have hlen : hi' - lo' = 0 := by
     have := congrArg List.length he
     simp at this
     omega
    exact ⟨_, _, [], by rw [h9, hlen]; rfl, by simp, by simp, by simp, .nil, by simp⟩
   ·-- the whole slice's cells, then the part
    have hels : els.length = hi' - lo' := by
     rw [<- he, List.length_take, List.length_drop, h4]; omega
    have hpos : 0 < els.length := List.length_pos_iff.2 hemp
    have hzz : z' = z := by
     obtain ⟨e0, h0⟩ : ∃ e0, els[0]? = some e0 := ⟨_, List.getElem?_eq_getElem hpos⟩
     have hm0 := hz e0 (List.mem_of_getElem? h0)
     have h10 : els'[lo']? = some e0 := by
      rw [<- he, List.getElem?_take, if_pos (by omega), List.getElem?_drop, Nat.add_zero] at h0
      exact h0
     have := h8 e0 (List.mem_of_getElem? h10)
     omega
    subst hzz
    have core : ∃ ad vs, A = some ad /\ (∀ j u, vs[j]? = some u -> w.cell? (ad.add j) = some u) /\ (∃ r, CzL w (SS B S0 w rows) vs els'.flatten r) /\ vs.length = els'.length * z' := by
     have hne : els' ≠ [] := by intro e; rw [e] at h4; simp at h4; omega
     generalize hu : Value.slice A n c = u at hcz
     cases hcz with
     | nil => injection h3 with h3; exact (hne h3.symm).elim
     | shNil => injection h3 with h3; exact (hne h3.symm).elim
     | owNil => injection h3 with h3; exact (hne h3.symm).elim
     | sh ad n0 c0 z0 els0 vs hS hn hc hm hz0 hcell hl =>
       injection h3 with h3
       subst h3
       injection hu with hu1 hu2 hu3
       exact ⟨ad, vs, hu1, hcell, ⟨[], hl⟩, by rw [hl.length, flatten_len h8]⟩
     | ow b off n0 c0 z0 els0 T cs rs hb hn hc hm hsz hz0 hl =>
       injection h3 with h3
       subst h3
       injection hu with hu1 hu2 hu3
       refine ⟨_, _, hu1, fun j u hu => ?_, ⟨rs, hl⟩, by rw [hl.length, flatten_len h8]⟩
       rw [add_mk, cell_of_row w b _ cs T (0, 0) hb]
       rw [List.getElem?_take] at hu
       split at hu
       ·rw [List.getElem?_drop] at hu
        simpa using hu
       ·cases hu
     | _ => cases h3
    obtain ⟨ad, vs, hA, hcells, ⟨r', hl⟩, hvl⟩ := core
    subst hA
    have hflat : els.flatten = (els'.flatten.drop (lo' * z')).take ((hi' - lo') * z') := by
     rw [flatten_drop lo' h8, flatten_take (hi' - lo') (fun e he => h8 e (List.mem_of_mem_drop he)), he]
    obtain ⟨r1, r2, e1, _, g2⟩ := CzL.split (lo' * z') hl
    obtain ⟨r3, r4, e2, g3, _⟩ := CzL.split ((hi' - lo') * z') g2
    rw [<- hflat] at g3
    have hr3 := g3.flat_rows hf.flatten
    rw [hr3] at g3
    have hcl : c ≠ lo' := by omega
    rw [if_neg hcl] at h9
    refine ⟨some (ad.add (lo' * z')), c - lo', (vs.drop (lo' * z')).take ((hi' - lo') * z'), by rw [h9, hels]; rfl, by omega, ?_, ?_, g3, fun _ => ⟨_, rfl⟩⟩
    ·rw [g3.length, flatten_len hz]
    ·intro j u hu
     refine ⟨_, rfl, ?_⟩
     rw [List.getElem?_take] at hu
     split at hu
     ·rw [List.getElem?_drop] at hu
      rw [add_of_add]
      exact hcells _ _ hu
     ·cases hu
  ·cases he
 ·cases he
theorem run_append_roomO (t ty t' e : TypeId) (i : TypeInfo) (ht : P.underlying t = some (.slice e)) (ht' : elT P t' ≠ none) (hi : P.info? e = some i)
  (g off sLen sCap : Nat) (cur : Array Value) (T : TypeId) (hg : w.heap[g]? = some (.cells cur T (0, 0)))
  (A : Option Addr) (m c : Nat) (news : List Value) (hl : news.length = m * i.size) (hnews : ∀ j u, news[j]? = some u -> ∃ ad, A = some ad /\ w.cell? (ad.add j) = some u) (h1 : ∀ u ∈ news, u.oneCell' = true)
  (hroom : sLen + m <= sCap) (hfit : off + sLen * i.size + news.length <= cur.size) :
  (Builtin.append_ #[t, t'] ty #[.slice (some ⟨g, off, none⟩) sLen sCap, .slice A m c]).run P w =
   .ok (.slice (some ⟨g, off, none⟩) (sLen + m) sCap) (w.setRow g (splice cur.toList (off + sLen * i.size) news).toArray) := by
 have hst := run_storeCells_at P g (off + sLen * i.size) T news 0 cur w hg (by simpa using hfit) h1
 simp only [Nat.add_zero] at hst
 have hnz : ∀ d, P.underlying t' = some d -> ∃ e', d = .slice e' := by
  intro d hd
  unfold elT at ht'
  rw [hd] at ht'
  cases d <;> simp at ht' <;> exact ⟨_, rfl⟩
 have hsome : ∃ e', P.underlying t' = some (.slice e') := by
  cases hu : P.underlying t' with
  | none => unfold elT at ht'; rw [hu] at ht'; exact (ht' rfl).elim
  | some d => obtain ⟨e', rfl⟩ := hnz d hu; exact ⟨e', rfl⟩
 obtain ⟨e', hu'⟩ := hsome
 have hf : (Builtin.firstCells i.size m (.slice A m c)).run P w = .ok news.toArray w := by
  cases A with
  | none =>
    have hn : news = [] := by
     cases news with
     | nil => rfl
     | cons u us => obtain ⟨ad, h, _⟩ := hnews 0 u rfl; cases h
    subst hn
    exact run_firstCells_none w i.size m m c
  | some ad => exact run_firstCells_some (P := P) w i.size m ad m c news hl (fun j u hu => by obtain ⟨ad', h, h2⟩ := hnews j u hu; injection h with h; subst h; exact h2)
 simp [Builtin.append_, run_underlying ht, run_underlying hu', sizeOf, typeInfo, hi, Builtin.lenOf, hroom, hf, add_mk, hst, splice]
theorem firstCells_any {size n c : Nat} {A : Option Addr} {cs : List Value} (hl : cs.length = n * size) (h : ∀ j u, cs[j]? = some u -> ∃ ad, A = some ad /\ w.cell? (ad.add j) = some u) : (Builtin.firstCells size n (.slice A n c)).run P w = .ok cs.toArray w := by
 cases A with
 | none =>
   have hn : cs = [] := by
    cases cs with
    | nil => rfl
    | cons u us => obtain ⟨ad, h, _⟩ := h 0 u rfl; cases h
   subst hn
   exact run_firstCells_none w size n n c
 | some ad => exact run_firstCells_some (P := P) w size n ad n c cs hl (fun j u hu => by obtain ⟨ad', h, h2⟩ := h j u hu; injection h with h; subst h; exact h2)
theorem run_append_growO (t ty t' e : TypeId) (i : TypeInfo) (z : Value) (ht : P.underlying t = some (.slice e)) (ht' : elT P t' ≠ none) (hi : P.info? e = some i) (hz : i.zero = some z)
  (base : Option Addr) (sLen sCap : Nat) (olds : List Value) (hlo : olds.length = sLen * i.size) (holds : ∀ j u, olds[j]? = some u -> ∃ ad, base = some ad /\ w.cell? (ad.add j) = some u)
  (A : Option Addr) (m c : Nat) (news : List Value) (hl : news.length = m * i.size) (hnews : ∀ j u, news[j]? = some u -> ∃ ad, A = some ad /\ w.cell? (ad.add j) = some u)
  (hg : sCap < sLen + m) (h63 : sLen + m <= 9223372036854775807) (hfit : Builtin.nextslicecap (sLen + m) sCap * i.bytes <= 281474976710656) :
  ∃ cap', sLen + m <= cap' /\ cap' <= maxLen /\ (Builtin.append_ #[t, t'] ty #[.slice base sLen sCap, .slice A m c]).run P w =
   .ok (.slice (some ⟨w.heap.size, 0, none⟩) (sLen + m) cap')
    (w.drew.alloc (.cells (olds.toArray ++ news.toArray ++ Builtin.zeroCells z.cells (cap' - (sLen + m))) e)) := by
 have hn : ¬ (sLen + m <= sCap) := by omega
 have h63' : ¬ (9223372036854775807 < ((sLen : Int) + (m : Int))) := by omega
 have h48' : ¬ (281474976710656 < Builtin.nextslicecap (sLen + m) sCap * i.bytes) := by omega
 have hf := firstCells_any (P := P) (w := w.drew) (c := c) hl (by simpa using hnews)
 have hfo := firstCells_any (P := P) (w := w.drew) (c := sCap) hlo (by simpa using holds)
 have hsome : ∃ e', P.underlying t' = some (.slice e') := by
  cases hu : P.underlying t' with
  | none => unfold elT at ht'; rw [hu] at ht'; exact (ht' rfl).elim
  | some d =>
    unfold elT at ht'
    rw [hu] at ht'
    cases d <;> simp at ht' <;> exact ⟨_, rfl⟩
 obtain ⟨e', hu'⟩ := hsome
 refine ⟨grownCap w (sLen + m) sCap e, grownCap_ge _ _ _ _, grownCap_le_maxLen _ _ _ _ (by unfold maxLen; omega), ?_⟩
 simp [Builtin.append_, run_underlying ht, run_underlying hu', sizeOf, typeInfo, zeroValue, hi, hz, Builtin.lenOf, hn, h63', h48', Question.forced, hf, hfo, newRow, grownCap]
 congr 2
 apply Array.ext'
 simp [List.append_assoc]
theorem run_append_none (t ty t' e : TypeId) (i : TypeInfo) (ht : P.underlying t = some (.slice e)) (ht' : elT P t' ≠ none) (hi : P.info? e = some i) (A : Option Addr) (c : Nat) :
  (Builtin.append_ #[t, t'] ty #[.slice none 0 0, .slice A 0 c]).run P w = .ok (.slice none 0 0) w := by
 have hf := firstCells_any (P := P) (w := w) (size := i.size) (n := 0) (c := c) (A := A) (cs := []) (by simp) (by simp)
 have hsome : ∃ e', P.underlying t' = some (.slice e') := by
  cases hu : P.underlying t' with
  | none => unfold elT at ht'; rw [hu] at ht'; exact (ht' rfl).elim
  | some d =>
    unfold elT at ht'
    rw [hu] at ht'
    cases d <;> simp at ht' <;> exact ⟨_, rfl⟩
 obtain ⟨e', hu'⟩ := hsome
 simp [Builtin.append_, run_underlying ht, run_underlying hu', sizeOf, typeInfo, hi, Builtin.lenOf, hf]
def Env.give (env : Env) (s : Nat) (p : List (Nat × Nat)) : Env :=
 match env.root s with
 | some x => env.setRoot s (setP x p .dead) (if p.isEmpty then 0 else 1)
 | none => env
def z_f (z bz : Nat) (els news : List (List DV)) : Prop :=
 z_g news /\ (∀ e ∈ news, e.length = z) /\ 0 < z /\ els.length + news.length <= maxLen /\ (els.length + news.length) * bz <= 140737488355328
def aappend (P : Program) (env : Env) (o : Op) : Option (Prop × Env × DV) :=
 match o with
 | .call c => match c.callee, c.args.toList, c.argTypes.toList with
   | .builtin .append, [x, y], [t, t'] => match elT P t, elT P t' with
     | some e, some _ => match sizeT P e, bytesT P e, zeroT P e with
       | some z, some bz, some _ => match sliceOf env (opd env y) with
         | some news => match opd env x with
           | .sv (.one .nil) => some (z_f z bz [] news, env, .ow z news)
           | .al s p => match env.at s p with
             | some (.ow z' els) => some (z' = z /\ z_f z bz els news, env.give s p, .ow z (els ++ news))
             | _ => none
           | _ => none
         | none => none
       | _, _, _ => none
     | _, _ => none
   | _, _, _ => none
 | _ => none
theorem new_row {S : Nat -> Prop} {olds nvs : List Value} {oe ne : List (List DV)} {z : Nat} {rs : List Nat} (hz : ∀ e ∈ oe ++ ne, e.length = z) (ho : CzL w S olds oe.flatten rs) (hn : CzL w S nvs ne.flatten []) (e : TypeId) (pad : Array Value) (cap' : Nat) (hc : oe.length + ne.length <= cap') (hm : cap' <= maxLen)
  (hsz : olds.length + nvs.length + pad.size = cap' * z) (hk : ∀ b ∈ rs, b < w.heap.size) (hS : ∀ b, S b -> b < w.heap.size) (S' : Nat -> Prop) (hS' : ∀ b, S b -> S' b) :
  Cz (w.drew.alloc (.cells (olds.toArray ++ nvs.toArray ++ pad) e)) S' (.slice (some ⟨w.heap.size, 0, none⟩) (oe.length + ne.length) cap') (.ow z (oe ++ ne)) (w.heap.size :: rs) := by
 have hflat := flatten_len hz
 have hlen := (ho.append hn).length
 rw [<- List.flatten_append] at hlen
 rw [hflat] at hlen
 have hb : Below w.heap.size w (w.drew.alloc (.cells (olds.toArray ++ nvs.toArray ++ pad) e)) := ((Below.refl _ _).drew).alloc (Nat.le_refl _) _
 refine .ow _ 0 _ cap' z _ e _ rs (heap_alloc_new w.drew _) (by simp) hc hm (by simp; omega) hz ?_
 have h1 : ((olds.toArray ++ nvs.toArray ++ pad).toList.drop 0).take ((oe.length + ne.length) * z) = olds ++ nvs := by
  rw [List.drop_zero]
  simp only [Array.toList_append]
  rw [List.length_append] at hlen
  have : (oe.length + ne.length) * z = (olds ++ nvs).length := by rw [List.length_append, hlen, List.length_append]
  rw [this, List.take_left]
 rw [h1, List.flatten_append]
 have h2 := ho.append hn
 rw [List.append_nil] at h2
 exact h2.keep (fun b hs => ⟨hS' b hs, hb.block b (hS b hs)⟩) (fun b hr => hb.block b (hk b hr))
theorem aappend_ok (h : SimR N B w0 S0 env a w rows) {o : Oper} {ob : Prop} {env' : Env} {x : DV} (he : aappend P env o.op = some (ob, env', x)) (hob : ob) {d : Nat} (hd : d < N) (hdst : o.dst = some d)
  (hn : ∀ a' w', Sim N B w0 S0 (env'.put d (.sv (.one x))) a' w' -> next a' w') : o.wp P a w next Q := by
 unfold aappend at he
 split at he
 ·rename_i c hop
  split at he
  ·rename_i X Y t t' hcal hargs htys
   have hargs' : c.args = #[X, Y] := by rw [<- Array.toArray_toList (xs := c.args), hargs]
   have htys' : c.argTypes = #[t, t'] := by rw [<- Array.toArray_toList (xs := c.argTypes), htys]
   split at he
   ·rename_i e e2 helT helT'
    split at he
    ·rename_i z bz zl hs hbz hzt
     split at he
     ·rename_i news hsrc
      have hy := h.opd_ok Y
      have hx := h.opd_ok X
      have htn : elT P t' ≠ none := by rw [helT']; simp
      unfold elT at helT
      split at helT
      ·rename_i e' hu
       injection helT with helT
       subst helT
       unfold zeroT at hzt
       split at hzt
       ·rename_i i hi
        split at hzt
        ·rename_i zv hzv
         split at hzt
         ·rename_i hzs
          have hsz : i.size = z := by simpa [sizeT, hi] using hs
          have hby : i.bytes = bz := by simpa [bytesT, hi] using hbz
          have hexec : ∀ v' w', (Builtin.append_ #[t, t'] o.type #[a.eval X, a.eval Y]).run P w = .ok v' w' -> (execOp a.eval o).run P w = .ok (.value v') w' := by
           intro v' w' hr
           simp [execOp, hop, resolve, hcal, hargs', htys', invoke, builtin, hr]
          have hpad : ∀ k, (Builtin.zeroCells zv.cells k).size = k * z := by intro k; rw [size_zeroCells, hzs, hsz]
          split at he
          ·rename_i hopd
           simp only [Option.some.injEq, Prod.mk.injEq] at he
           obtain ⟨rfl, rfl, rfl⟩ := he
           obtain ⟨hfl, hzl, hz0, hmax, hbytes⟩ := hob
           rw [hopd] at hx
           have hxv : a.eval X = .slice none 0 0 := by
            have h1 := CzS.one_inv hx
            generalize a.eval X = vx at h1 ⊢
            generalize hr : ([] : List Nat) = r at h1
            cases h1
            rfl
           obtain ⟨A, cp, nvs, hyv, _, hnl, hncell, hncz, _⟩ := h.source hy hsrc hfl hzl
           by_cases hm : news = []
           ·subst hm
            refine wp_value (hexec _ _ (by rw [hxv, hyv]; exact run_append_none t _ t' e' i hu htn hi A cp)) ?_
            rw [hdst]
            exact hn _ _ ⟨_, h.put hd (Below.refl _ _) (r := []) (by simp) (by simp) (.one _ _ _ (.owNil z))⟩
           ·have hpos : 0 < news.length := List.length_pos_iff.2 hm
            simp only [List.length_nil, Nat.zero_add] at hmax hbytes
            obtain ⟨cap', hc1, hc2, hrun⟩ := run_append_growO (P := P) (w := w) t o.type t' e' i zv hu htn hi hzv none 0 0 [] (by simp) (by simp) A news.length cp nvs (by rw [hnl, hsz]) hncell (by omega) (by unfold maxLen at hmax; omega) (growslice_fits (by omega) (by rw [Nat.zero_add, hby]; exact hbytes))
            refine wp_value (hexec _ _ (by rw [hxv, hyv]; exact hrun)) ?_
            rw [hdst]
            have hb : Below w.heap.size w (w.drew.alloc (.cells (([] : List Value).toArray ++ nvs.toArray ++ Builtin.zeroCells zv.cells (cap' - (0 + news.length))) e')) := ((Below.refl _ _).drew).alloc (Nat.le_refl _) _
            have hrow := new_row (w := w) (S := SS B S0 w rows) (olds := []) (oe := []) (rs := []) (z := z) (by simpa using hzl) .nil hncz e' (Builtin.zeroCells zv.cells (cap' - (0 + news.length))) cap' (by simpa using hc1) hc2 (by rw [hpad, hnl]; simp only [List.length_nil, Nat.zero_add]; rw [<- Nat.add_mul]; congr 1; simp only [Nat.zero_add] at hc1; omega) (by simp) (fun b hs => h.lt hs) (fun b => SS B S0 w rows b \/ (w.heap.size <= b /\ b < (w.drew.alloc (.cells (([] : List Value).toArray ++ nvs.toArray ++ Builtin.zeroCells zv.cells (cap' - (0 + news.length))) e')).heap.size /\ b ∉ [w.heap.size])) (fun b hb => .inl hb)
            exact hn _ _ ⟨_, h.put hd hb (r := [w.heap.size]) (by simp) (by simp) (.one _ _ _ (by simpa using hrow))⟩
          ·rename_i s p hopd
           rw [hopd] at hx
           obtain ⟨_, x0, y0, hroot, hcat⟩ := hx
           split at he
           ·rename_i z' els hat
            simp only [Option.some.injEq, Prod.mk.injEq] at he
            obtain ⟨rfl, rfl, rfl⟩ := he
            obtain ⟨rfl, hfl, hzl, hz0, hmax, hbytes⟩ := hob
            obtain ⟨A, cp, nvs, hyv, _, hnl, hncell, hncz, _⟩ := h.source hy hsrc hfl hzl
            obtain ⟨hyy, _⟩ := h.place hroot hcat hat
            subst hyy
            have hrcz := h.root_cz hroot
            obtain ⟨ru, rest, hcu, hmem, hdis, hndu, hback⟩ := hrcz.lens p (h.nodup s) hcat
            have hxv : a.eval X = a.eval X := rfl
            generalize hu' : a.eval X = uv at *
            have hgive : ∀ w' r', (∀ b, b < w.heap.size -> b ∉ ru -> w'.heap[b]? = w.heap[b]?) -> Below B w w' -> (∀ b ∈ r', (b ∈ ru \/ w.heap.size <= b) /\ b < w'.heap.size) -> r'.Nodup -> ∀ v', (∀ S' : Nat -> Prop, (∀ b, SS B S0 w rows b -> S' b) -> Cz w' S' v' (.ow z' (els ++ news)) r') ->
              (Builtin.append_ #[t, t'] o.type #[uv, a.eval Y]).run P w = .ok v' w' -> o.wp P a w next Q := by
             intro w' r' hfr hbel hr1 hr2 v' hv' hrun
             refine wp_value (hexec _ _ hrun) ?_
             rw [hdst]
             have hSk : ∀ S' : Nat -> Prop, (∀ b, SS B S0 w rows b -> S' b) -> ∀ b, SS B S0 w rows b -> S' b /\ w'.heap[b]? = w.heap[b]? := by
              intro S' hS' b hs
              refine ⟨hS' b hs, hfr b (h.lt hs) ?_⟩
              intro hb
              have hb' := (hmem b).2 (.inl hb)
              rcases hs with hs | hs
              ·exact (h.old b hs).2.2 s hb'
              ·exact hs.2.2 s hb'
             have hrest : ∀ b ∈ rest, w'.heap[b]? = w.heap[b]? := fun b hb => hfr b (h.own s b ((hmem b).2 (.inr hb))).2 (fun hb' => hdis b hb' hb)
             have hone : uv.oneCell' = true := hcu.one
             obtain ⟨rs', g1, g2, g3⟩ := hback w' (SS B S0 w rows) .dead [] (hSk _ (fun _ hb => hb)) hrest (.dead _ hone) (by simp) (by simp)
             have hsh : ∀ n, n = (if p.isEmpty then 0 else 1) -> n = 0 \/ (n = 1 /\ Shape x0 (setP x0 p .dead)) := by
              intro n hn
              cases p with
              | nil => left; simpa using hn
              | cons q p => right; exact ⟨by simpa using hn, Shape.setP (cat_getP _ hcat)⟩
             have fin := h.consume hd (v := v') (y := .one (.ow z' (els ++ news))) hroot (n := if p.isEmpty then 0 else 1) (hsh _ rfl) hbel (rs' := rs') (r' := r')
              (fun b hb => (hmem b).2 (.inr (by simpa using (g3 b).1 hb))) g2
              (fun b hb => ⟨(hr1 b hb).1.imp (fun h => (hmem b).2 (.inl h)) id, (hr1 b hb).2⟩) hr2
              (fun b hb hb' => by
               have h1 : b ∈ rest := by simpa using (g3 b).1 hb'
               rcases (hr1 b hb).1 with h2 | h2
               ·exact hdis b h2 h1
               ·have := h.own s b ((hmem b).2 (.inr h1)); omega)
              (fun b hb hnb => hfr b hb (fun hb' => hnb ((hmem b).2 (.inl hb'))))
              (fun S' hS' => by
               obtain ⟨rs2, k1, k2, k3⟩ := hback w' S' .dead [] (hSk S' hS') hrest (.dead _ hone) (by simp) (by simp)
               exact g1.keep (S' := S') (fun b hb => ⟨hS' b hb, rfl⟩) (fun _ _ => rfl))
              (fun S' hS' => .one _ _ _ (hv' S' hS'))
             have henv : env.give s p = env.setRoot s (setP x0 p .dead) (if p.isEmpty then 0 else 1) := by simp [Env.give, hroot]
             rw [<- henv] at fin
             exact hn _ _ ⟨_, fin⟩
            have hBb : ∀ (o : Obj), Below B w (w.drew.alloc o) := fun o => ((Below.refl _ _).drew).alloc h.base _
            cases hcu with
            | owNil =>
              by_cases hm : news = []
              ·subst hm
               refine hgive w [] (fun _ _ _ => rfl) (Below.refl _ _) (by simp) (by simp) _ (fun S' _ => by simpa using Cz.owNil z') (by rw [hyv]; exact run_append_none t _ t' e' i hu htn hi A cp)
              ·have hpos : 0 < news.length := List.length_pos_iff.2 hm
               simp only [List.length_nil, Nat.zero_add] at hmax hbytes
               obtain ⟨cap', hc1, hc2, hrun⟩ := run_append_growO (P := P) (w := w) t o.type t' e' i zv hu htn hi hzv none 0 0 [] (by simp) (by simp) A news.length cp nvs (by rw [hnl, hsz]) hncell (by omega) (by unfold maxLen at hmax; omega) (growslice_fits (by omega) (by rw [Nat.zero_add, hby]; exact hbytes))
               refine hgive _ [w.heap.size] (fun b hb _ => Below.heap_alloc w.drew _ b hb) (hBb _) (by simp) (by simp) _ (fun S' hS' => ?_) (by rw [hyv]; exact hrun)
               have hrow := new_row (w := w) (S := SS B S0 w rows) (olds := []) (oe := []) (rs := []) (z := z') (by simpa using hzl) .nil hncz e' (Builtin.zeroCells zv.cells (cap' - (0 + news.length))) cap' (by simpa using hc1) hc2 (by rw [hpad, hnl]; simp only [List.length_nil, Nat.zero_add]; rw [<- Nat.add_mul]; congr 1; simp only [Nat.zero_add] at hc1; omega) (by simp) (fun b hs => h.lt hs) S' hS'
               simpa using hrow
            | ow b off n c z0 els0 T cs rs hb hne hc hm hszz hz0' hl =>
              subst hne
              have hlold := hl.length
              rw [flatten_len hz0'] at hlold
              have hallz : ∀ e ∈ els ++ news, e.length = z' := by
               intro e he
               rcases List.mem_append.1 he with he | he
               ·exact hz0' e he
               ·exact hzl e he
              have hblt : b < w.heap.size := (Array.getElem?_eq_some_iff.1 hb).1
              have hcellold : ∀ j u, ((cs.toList.drop off).take (els.length * z'))[j]? = some u -> ∃ ad, (some (⟨b, off, none⟩ : Addr)) = some ad /\ w.cell? (ad.add j) = some u := by
               intro j u hju
               refine ⟨_, rfl, ?_⟩
               rw [add_mk, cell_of_row w b _ cs T (0, 0) hb]
               rw [List.getElem?_take] at hju
               split at hju
               ·rw [List.getElem?_drop] at hju
                simpa using hju
               ·cases hju
              by_cases hroom : els.length + news.length <= c
              ·have hfit : off + els.length * i.size + nvs.length <= cs.size := by
                have : (els.length + news.length) * z' <= c * z' := Nat.mul_le_mul_right _ hroom
                rw [Nat.add_mul] at this
                rw [hsz, hnl]; omega
               have hrun := run_append_roomO (P := P) (w := w) t o.type t' e' i hu htn hi b off els.length c cs T hb A news.length cp nvs (by rw [hnl, hsz]) hncell hncz.allOne hroom hfit
               rw [hsz] at hrun hfit
               refine hgive _ (b :: rs) ?_ ?_ ?_ hndu _ (fun S' hS' => ?_) (by rw [hyv]; exact hrun)
               ·intro b' _ hb'
                exact setRow_other w b b' _ (by intro e; exact hb' (by simp [e]))
               ·have hB : B <= b := (h.own s b ((hmem b).2 (.inl (by simp)))).1
                exact ⟨⟨rfl, rfl, rfl, by simp, fun k hk => setRow_other w b k _ (by omega)⟩, Nat.le_refl _⟩
               ·intro b' hb'
                refine ⟨.inl hb', ?_⟩
                rw [setRow_size]
                exact (h.own s b' ((hmem b').2 (.inl hb'))).2
               ·have hlen2 : (els ++ news).length = els.length + news.length := by simp
                have hspl : (splice cs.toList (off + els.length * z') nvs).length = cs.toList.length := splice_length _ _ _ (by simpa using hfit)
                refine .ow b off _ c z' _ T _ rs (setRow_heap w b cs _ T _ hb) hlen2 hroom hm (by simp only [List.size_toArray, hspl, Array.length_toList]; exact hszz) hallz ?_
                have e1 : (((splice cs.toList (off + els.length * z') nvs).toArray.toList.drop off).take ((els.length + news.length) * z')) = (cs.toList.drop off).take (els.length * z') ++ nvs := by
                 rw [Nat.add_mul, <- hnl]
                 exact splice_seg cs.toList off (els.length * z') nvs (by simpa using hfit)
                rw [e1, List.flatten_append]
                have h2 := hl.append hncz
                rw [List.append_nil] at h2
                refine h2.keep (fun b' hs => ⟨hS' b' hs, setRow_other w b b' _ ?_⟩) (fun b' hr => setRow_other w b b' _ ?_)
                ·intro e
                 subst e
                 have hb1 := (hmem b').2 (.inl (by simp))
                 rcases hs with hs | hs
                 ·exact (h.old b' hs).2.2 s hb1
                 ·exact hs.2.2 s hb1
                ·intro e
                 subst e
                 exact (List.nodup_cons.1 hndu).1 hr
              ·obtain ⟨cap', hc1, hc2, hrun⟩ := run_append_growO (P := P) (w := w) t o.type t' e' i zv hu htn hi hzv (some ⟨b, off, none⟩) els.length c ((cs.toList.drop off).take (els.length * z')) (by rw [hlold, hsz]) hcellold A news.length cp nvs (by rw [hnl, hsz]) hncell (by omega) (by unfold maxLen at hmax; omega) (growslice_fits (by omega) (by rw [hby]; exact hbytes))
               refine hgive _ (w.heap.size :: rs) (fun b hb _ => Below.heap_alloc w.drew _ b hb) (hBb _) ?_ ?_ _ (fun S' hS' => ?_) (by rw [hyv]; exact hrun)
               ·intro b' hb'
                rcases List.mem_cons.1 hb' with rfl | hb'
                ·exact ⟨.inr (Nat.le_refl _), by simp⟩
                ·have hlt := (h.own s b' ((hmem b').2 (.inl (by simp [hb'])))).2
                 exact ⟨.inl (by simp [hb']), by simp; omega⟩
               ·refine List.nodup_cons.2 ⟨fun hb' => ?_, (List.nodup_cons.1 hndu).2⟩
                have := (h.own s _ ((hmem _).2 (.inl (List.mem_cons_of_mem _ hb')))).2
                omega
               ·exact new_row (w := w) (S := SS B S0 w rows) hallz hl hncz e' _ cap' hc1 hc2 (by rw [hpad, hlold, hnl, <- Nat.add_mul, <- Nat.add_mul]; congr 1; omega) (fun b' hb' => (h.own s b' ((hmem b').2 (.inl (by simp [hb'])))).2) (fun b hs => h.lt hs) S' hS'
           ·cases he
          ·cases he
         ·cases hzt
        ·cases hzt
       ·cases hzt
      ·cases helT
     ·cases he
    ·cases he
   ·cases he
  ·cases he
 ·cases he
end
end Go.Av

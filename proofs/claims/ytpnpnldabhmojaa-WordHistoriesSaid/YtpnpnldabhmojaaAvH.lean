/- Operations that make memory or write it. -/
import Derived.Test.YtpnpnldabhmojaaAvG
import Derived.Deep.LoopGhost
set_option linter.unusedVariables false
set_option linter.unusedSimpArgs false
namespace Go.Av
open Go Go.RowKit

theorem wp_value {P : Program} {o : Oper} {a : Act} {w w' : World} {next : Act → World → Prop} {Q : Exit → Act → World → Prop} {v : Value} (h : (execOp a.eval o).run P w = .ok (.value v) w') (hn : next (a.put o.dst v) w') : o.wp P a w next Q := by
  unfold Oper.wp; rw [h]; exact hn

theorem wp_skipv {P : Program} {o : Oper} {a : Act} {w w' : World} {next : Act → World → Prop} {Q : Exit → Act → World → Prop} (h : (execOp a.eval o).run P w = .ok .skip w') (hn : next (a.put o.dst Go.undef) w') : o.wp P a w next Q := by
  unfold Oper.wp; rw [h]; exact hn

/-- The cells of a zero value. -/
def zeroDV : Value → Option DV
  | .int k n => some (.int k n)
  | .bool b => some (.bool b)
  | .string s => some (.str s)
  | .slice none 0 0 => some .nil
  | .pointer none => some (.raw (.pointer none))
  | .nilIface => some (.raw .nilIface)
  | .map none => some (.raw (.map none))
  | _ => none

def zerosDV : List Value → Option (List DV)
  | [] => some []
  | v :: vs => match zeroDV v, zerosDV vs with
    | some d, some ds => some (d :: ds)
    | _, _ => none

/-- The zero value of a type, cell by cell; its cells are as many as the type has. -/
def zeroT (P : Program) (t : TypeId) : Option (List DV) :=
  match P.info? t with
  | some i => match i.zero with
    | some z => if z.cells.size = i.size then zerosDV z.cells.toList else none
    | none => none
  | none => none

section
variable {P : Program} {w : World} {S : Nat → Prop}

theorem zeroDV_ok {v : Value} {d : DV} (h : zeroDV v = some d) : Cz w S v d [] := by
  unfold zeroDV at h
  split at h <;> first
    | (injection h with h; subst h; first | exact .int _ _ | exact .bool _ | exact .str _ | exact .nil | exact .raw _ rfl)
    | cases h

theorem zerosDV_ok : ∀ {vs : List Value} {ds : List DV}, zerosDV vs = some ds → CzL w S vs ds []
  | [], ds, h => by
    simp only [zerosDV, Option.some.injEq] at h
    subst h
    exact .nil
  | v :: vs, ds, h => by
    simp only [zerosDV] at h
    split at h
    · rename_i d ds' hd hds
      injection h with h
      subst h
      have := CzL.cons _ _ _ _ _ _ (zeroDV_ok (w := w) (S := S) hd) (zerosDV_ok hds)
      simpa using this
    · cases h
end

/-- The cells of data that is handed on whole. -/
def SV.cells : SV → List DV
  | .one x => [x]
  | .ag l => l

theorem CzS.cells {w : World} {S : Nat → Prop} {v : Value} {x : SV} {r : List Nat} (h : CzS w S v x r) : CzL w S v.cells.toList x.cells r := by
  cases h with
  | one v x r h =>
    have h1 := h.one
    have : v.cells = #[v] := by cases v <;> first | rfl | simp [Value.oneCell'] at h1
    rw [this]
    exact CzL.mk1 h
  | ag vs l r h => exact h

section
variable {P : Program} {N B : Nat} {w0 : World} {S0 : Nat → Prop} {env : Env} {a : Act} {w : World} {rows : Nat → List Nat} {next : Act → World → Prop} {Q : Exit → Act → World → Prop}

/-- A new box: its cells are shared data. -/
theorem SimR.newBox (h : SimR N B w0 S0 env a w rows) {d : Nat} (hd : d < N) (T : TypeId) {cs : Array Value} {l : List DV} (hl : CzL w (SS B S0 w rows) cs.toList l []) :
    Sim N B w0 S0 (env.put d (.sv (.one (.bx l)))) (a.put (some d) (.pointer (some ⟨w.heap.size, 0, none⟩))) (w.alloc (.cells cs T)) := by
  have hb : Below w.heap.size w (w.alloc (.cells cs T)) := (Below.refl _ _).alloc (Nat.le_refl _) _
  refine ⟨_, h.put hd hb (r := [w.heap.size]) (by simp) (by simp) (.one _ _ _ (.bx _ _ T cs [] (heap_alloc_new w _) ?_))⟩
  exact hl.keep (fun b hs => ⟨.inl hs, hb.block b (hs.lt h.old h.base)⟩) (by simp)

def abox (env : Env) (o : Op) (P : Program) : Option (List DV) :=
  match o with
  | .box _ x => match opd env x with
    | .sv x => if x.cells.all DV.flat then some x.cells else none
    | _ => none
  | .alloc t => zeroT P t
  | _ => none

theorem run_newVar (t : TypeId) (v : Value) : (newVar t v).run P w = .ok ⟨w.heap.size, 0, none⟩ (w.alloc (.cells v.cells t)) := rfl

theorem abox_ok (h : SimR N B w0 S0 env a w rows) {o : Oper} {l : List DV} (he : abox env o.op P = some l) {d : Nat} (hd : d < N) (hdst : o.dst = some d)
    (hn : ∀ a' w', Sim N B w0 S0 (env.put d (.sv (.one (.bx l)))) a' w' → next a' w') : o.wp P a w next Q := by
  unfold abox at he
  split at he
  · rename_i T x ho
    have hx := h.opd_ok x
    split at he
    · rename_i y hopd
      rw [hopd] at hx
      split at he
      · injection he with he
        subst he
        refine wp_value (v := .pointer (some ⟨w.heap.size, 0, none⟩)) (w' := w.alloc (.cells (a.eval x).cells T)) ?_ ?_
        · simp only [execOp, ho]
          exact run_value (by simp [Instr.box, run_newVar])
        · rw [hdst]
          exact hn _ _ (h.newBox hd T hx.cells)
      · cases he
    · cases he
  · rename_i T ho
    unfold zeroT at he
    split at he
    · rename_i i hi
      split at he
      · rename_i z hz
        split at he
        · refine wp_value (v := .pointer (some ⟨w.heap.size, 0, none⟩)) (w' := w.alloc (.cells z.cells T)) ?_ ?_
          · simp only [execOp, ho]
            exact run_value (by simp [Instr.alloc, zeroValue, typeInfo, hi, hz, run_newVar])
          · rw [hdst]
            exact hn _ _ (h.newBox hd T (zerosDV_ok he))
        · cases he
      · cases he
    · cases he
  · cases he
end


theorem foldl_set (off : Nat) : ∀ (vs : List Value) (k : Nat) (cells : Array Value), off + k + vs.length ≤ cells.size →
    ((vs.zipIdx k).foldl (fun (cs : Array Value) (x : Value × Nat) => cs.setIfInBounds (off + x.2) x.1) cells).toList = splice cells.toList (off + k) vs
  | [], k, cells, _ => by simp [splice]
  | v :: vs, k, cells, h => by
    simp only [List.zipIdx_cons, List.foldl_cons]
    rw [foldl_set off vs (k + 1) _ (by simp at h ⊢; omega)]
    simp only [Array.toList_setIfInBounds]
    have e := list_seg_step cells.toList (off + k) v vs (by simp at h ⊢; omega)
    simpa [splice, Nat.add_assoc] using e

inductive PartsR (w : World) (S : Nat → Prop) : List (Nat × Value) → List (Nat × List DV) → Prop
  | nil : PartsR w S [] []
  | cons (i : Nat) (v : Value) (ds : List DV) (vp : List (Nat × Value)) (dp : List (Nat × List DV)) (h : CzL w S v.cells.toList ds []) (hs : PartsR w S vp dp) : PartsR w S ((i, v) :: vp) ((i, ds) :: dp)

/-- A composite value's cells. -/
def afill (place : Nat → Option (Nat × Nat)) : List DV → List (Nat × List DV) → Option (List DV)
  | l, [] => some l
  | l, (i, ds) :: rest =>
    match place i with
    | some (off, size) => if ds.length = size ∧ off + ds.length ≤ l.length then afill place (splice l off ds) rest else none
    | none => none

theorem fill_ok {w : World} {S : Nat → Prop} (place : Nat → Option (Nat × Nat)) : ∀ (vp : List (Nat × Value)) (dp : List (Nat × List DV)) (cells : Array Value) (l l' : List DV), CzL w S cells.toList l [] →
    PartsR w S vp dp → afill place l dp = some l' → ∃ cells', Instr.fill place cells vp = some cells' ∧ CzL w S cells'.toList l' []
  | _, _, cells, l, l', hc, .nil, h => by
    simp only [afill, Option.some.injEq] at h
    subst h
    exact ⟨cells, rfl, hc⟩
  | _, _, cells, l, l', hc, .cons i v ds vp dp h2 hr, h => by
    simp only [afill] at h
    split at h
    · rename_i off size hp
      split at h
      · rename_i hcond
        have hlen := hc.length
        have hlv := h2.length
        simp only [Array.length_toList] at hlen hlv
        have hsz : v.cells.size = size := by omega
        have hfit : ¬ (off + v.cells.size > cells.size) := by omega
        have e := foldl_set off v.cells.toList 0 cells (by simp; omega)
        obtain ⟨r1, rm, r2, hr0, hcz, _⟩ := hc.splice off h2
        have hnil : r1 = [] ∧ r2 = [] := by
          have := congrArg List.length hr0
          simp at this
          exact ⟨List.eq_nil_of_length_eq_zero (by omega), List.eq_nil_of_length_eq_zero (by omega)⟩
        rw [hnil.1, hnil.2] at hcz
        obtain ⟨cells', g1, g2⟩ := fill_ok place vp dp (v.cells.zipIdx.foldl (fun cs (x : Value × Nat) => cs.setIfInBounds (off + x.2) x.1) cells) (splice l off ds) l' (by
          rw [← Array.foldl_toList, Array.toList_zipIdx, e]
          simpa using hcz) hr h
        refine ⟨cells', ?_, g2⟩
        have hfit2 : off + size ≤ cells.size := by omega
        simp only [Instr.fill, hp, hsz]
        simpa [hfit2] using g1
      · cases h
    · cases h

/-- The parts of a composite value, as far as they are known. -/
def partsOf (env : Env) : List (Nat × Operand) → Option (List (Nat × List DV))
  | [] => some []
  | (i, x) :: rest => match opd env x, partsOf env rest with
    | .sv y, some l => if y.cells.all DV.flat then some ((i, y.cells) :: l) else none
    | _, _ => none

section
variable {P : Program} {N B : Nat} {w0 : World} {S0 : Nat → Prop} {env : Env} {a : Act} {w : World} {rows : Nat → List Nat} {next : Act → World → Prop} {Q : Exit → Act → World → Prop}

theorem SimR.parts_ok (h : SimR N B w0 S0 env a w rows) : ∀ (parts : List (Nat × Operand)) (dp : List (Nat × List DV)), partsOf env parts = some dp →
    PartsR w (SS B S0 w rows) (parts.map fun x => (x.1, a.eval x.2)) dp
  | [], dp, hp => by
    simp only [partsOf, Option.some.injEq] at hp
    subst hp
    exact .nil
  | (i, x) :: rest, dp, hp => by
    simp only [partsOf] at hp
    split at hp
    · rename_i y l hopd hl
      split at hp
      · injection hp with hp
        subst hp
        have hx := h.opd_ok x
        rw [hopd] at hx
        exact .cons _ _ _ _ _ (CzS.cells hx) (h.parts_ok rest l hl)
      · cases hp
    · cases hp

def zerosN (z : List DV) : Nat → List DV
  | 0 => []
  | n + 1 => z ++ zerosN z n

/-- What a literal of a slice makes: its elements. -/
def abuildSlice (P : Program) (env : Env) (t : TypeId) (len : Nat) (parts : Array (Nat × Operand)) : Option DV :=
  match elT P t with
  | some e => match sizeT P e with
    | some size => match partsOf env parts.toList with
      | some dp => if (dp.map (·.1) = List.range len ∧ dp.all (fun x => x.2.length = size) = true) ∧ len * size ≤ 2 ^ 24 ∧ len ≤ maxLen ∧ 0 < size ∧ (zeroT P e).isSome then some (.ow size (dp.map (·.2))) else none
      | none => none
    | none => none
  | none => none

theorem afill_seq (size : Nat) : ∀ (dp : List (Nat × List DV)) (k : Nat) (l : List DV), dp.map (·.1) = List.range' k dp.length → dp.all (fun x => x.2.length = size) = true → l.length = (k + dp.length) * size →
    afill (fun i => some (i * size, size)) l dp = some (l.take (k * size) ++ (dp.map (·.2)).flatten)
  | [], k, l, _, _, hl => by
    simp only [List.length_nil, Nat.add_zero] at hl
    simp [afill, ← hl]
  | (i, ds) :: dp, k, l, hi, ha, hl => by
    simp only [List.map_cons, List.length_cons, List.range'_succ, List.cons.injEq] at hi
    obtain ⟨rfl, hi⟩ := hi
    simp only [List.all_cons, Bool.and_eq_true, decide_eq_true_eq] at ha
    obtain ⟨hds, ha⟩ := ha
    have h1 : (i + (dp.length + 1)) * size = i * size + (dp.length * size + size) := by rw [Nat.add_mul, Nat.succ_mul]
    have hfit : i * size + ds.length ≤ l.length := by rw [hl, List.length_cons, h1, hds]; omega
    have hcond : ds.length = size ∧ i * size + ds.length ≤ l.length := ⟨hds, hfit⟩
    simp only [afill]
    rw [if_pos hcond, afill_seq size dp (i + 1) _ hi ha (by rw [splice_length _ _ _ hfit, hl]; congr 1; simp; omega)]
    congr 1
    have e : (i + 1) * size = i * size + ds.length := by rw [Nat.succ_mul, hds]
    have e2 : (splice l (i * size) ds).take (i * size + ds.length) = l.take (i * size) ++ ds := by
      unfold splice
      have e3 : (l.take (i * size) ++ ds).length = i * size + ds.length := by simp; omega
      rw [← e3, List.take_left]
    rw [e, e2]
    simp

theorem oneCell_zeros {vs : List Value} {ds : List DV} (h : zerosDV vs = some ds) : ∀ v ∈ vs, v.oneCell' = true :=
  CzL.allOne (w := default) (S := fun _ => False) (zerosDV_ok h)

theorem CzL.deads {w : World} {S : Nat → Prop} : ∀ (vs : List Value), (∀ v ∈ vs, v.oneCell' = true) → CzL w S vs (List.replicate vs.length .dead) []
  | [], _ => .nil
  | v :: vs, h => by
    have := CzL.cons (w := w) (S := S) v .dead [] vs _ [] (.dead v (h v (by simp))) (CzL.deads vs (fun v hv => h v (by simp [hv])))
    simpa [List.replicate_succ] using this

theorem abuildSlice_ok (h : SimR N B w0 S0 env a w rows) {o : Oper} {t : TypeId} {len : Nat} {parts : Array (Nat × Operand)} (ho : o.op = .buildSlice t len parts) {x : DV} (he : abuildSlice P env t len parts = some x) {d : Nat} (hd : d < N) (hdst : o.dst = some d)
    (hn : ∀ a' w', Sim N B w0 S0 (env.put d (.sv (.one x))) a' w' → next a' w') : o.wp P a w next Q := by
  unfold abuildSlice at he
  split at he
  · rename_i e helT
    unfold elT at helT
    split at helT
    · rename_i e' hu
      injection helT with helT
      subst helT
      split at he
      · rename_i size hs
        split at he
        · rename_i dp hdp
          split at he
          · rename_i hcond
            obtain ⟨⟨hidx, hall⟩, hlim, hmax, hpos, hz⟩ := hcond
            injection he with he
            subst he
            have hlen : dp.length = len := by have := congrArg List.length hidx; simpa using this
            obtain ⟨zl, hz⟩ := Option.isSome_iff_exists.1 hz
            unfold zeroT at hz
            split at hz
            · rename_i i hi
              split at hz
              · rename_i z hzz
                split at hz
                · rename_i hzs
                  have hsz : i.size = size := by simpa [sizeT, hi] using hs
                  let Z : Array Value := if len * size = 0 then #[] else z.cells
                  let C0 : Array Value := (Array.range (len * size)).map fun k => Z[k % Z.size]!
                  have hone : ∀ v ∈ C0.toList, v.oneCell' = true := by
                    intro v hv
                    simp only [C0, Array.toList_map, List.mem_map, Array.toList_range, List.mem_range] at hv
                    obtain ⟨k, hk, rfl⟩ := hv
                    have hne : len * size ≠ 0 := by omega
                    simp only [Z, hne, if_false]
                    have hlt : k % z.cells.size < z.cells.size := Nat.mod_lt _ (by omega)
                    rw [getElem!_pos z.cells _ hlt]
                    exact oneCell_zeros hz _ (by simp)
                  have hC0 : C0.toList.length = len * size := by simp [C0]
                  have hrep := CzL.deads (w := w) (S := SS B S0 w rows) C0.toList hone
                  rw [hC0] at hrep
                  have hpr := h.parts_ok parts.toList dp hdp
                  have hfill := afill_seq size dp 0 (List.replicate (len * size) .dead) (by rw [hidx, hlen, List.range_eq_range']) hall (by simp [hlen])
                  simp only [Nat.zero_mul, List.take_zero, List.nil_append] at hfill
                  obtain ⟨cells', g1, g2⟩ := fill_ok _ _ _ C0 _ _ hrep hpr hfill
                  have hrun : (Instr.buildSlice t len (parts.map fun x => (x.1, a.eval x.2))).run P w = .ok (.slice (some ⟨w.heap.size, 0, none⟩) len len) (w.alloc (.cells cells' e')) := by
                    have hlim' : ¬ (len * size > 2 ^ 24) := by omega
                    have g1' : Instr.fill (fun i => some (i * size, size)) C0 (parts.map fun x => (x.1, a.eval x.2)).toList = some cells' := by
                      rw [Array.toList_map]; exact g1
                    by_cases hne : len * size = 0
                    · have hC : C0 = (Array.range (len * size)).map (fun k => (#[] : Array Value)[k % (#[] : Array Value).size]!) := by simp only [C0, Z, hne, if_true]
                      rw [hC] at g1'
                      simp [hne] at g1'
                      simp [Instr.buildSlice, run_underlying hu, run_sizeOf hs, hne, g1', newRow]
                    · have hC : C0 = (Array.range (len * size)).map (fun k => z.cells[k % z.cells.size]!) := by simp only [C0, Z, hne, if_false]
                      rw [hC] at g1'
                      have hzero : (zeroValue e').run P w = .ok z w := by simp [zeroValue, typeInfo, hi, hzz]
                      simp at g1' hlim'
                      simp [Instr.buildSlice, run_underlying hu, run_sizeOf hs, hlim', hne, hzero, g1', newRow]
                  refine wp_value (v := .slice (some ⟨w.heap.size, 0, none⟩) len len) (w' := w.alloc (.cells cells' e')) ?_ ?_
                  · simp only [execOp, ho]
                    exact run_value hrun
                  · rw [hdst]
                    have hb : Below w.heap.size w (w.alloc (.cells cells' e')) := (Below.refl _ _).alloc (Nat.le_refl _) _
                    have hels : ∀ x ∈ dp.map (·.2), x.length = size := by
                      intro x hx
                      simp only [List.mem_map] at hx
                      obtain ⟨y, hy, rfl⟩ := hx
                      have := List.all_eq_true.1 hall y hy
                      simpa using this
                    have hfl := flatten_len (z := size) hels
                    have hg := g2.length
                    rw [hfl, List.length_map, hlen] at hg
                    simp only [Array.length_toList] at hg
                    have hl1 : (dp.map (·.2)).length = len := by simp [hlen]
                    have hr1 : ∀ b ∈ [w.heap.size], w.heap.size ≤ b ∧ b < (w.alloc (.cells cells' e')).heap.size := by simp
                    refine hn _ _ ⟨_, h.put hd hb hr1 (by simp) (.one _ _ _ (.ow _ 0 len len size _ e' cells' [] (heap_alloc_new w _) hl1 (Nat.le_refl _) hmax (by omega) hels ?_))⟩
                    have : (cells'.toList.drop 0).take (len * size) = cells'.toList := by rw [List.drop_zero, ← hg, ← Array.length_toList, List.take_length]
                    rw [this]
                    exact g2.keep (fun b hs => ⟨.inl hs, hb.block b (hs.lt h.old h.base)⟩) (by simp)
                · cases hz
              · cases hz
            · cases hz
          · cases he
        · cases he
      · cases he
    · cases helT
  · cases he

/-- 'make' at a slice type: zeros. -/
def amake (P : Program) (env : Env) (t : TypeId) (len cap : Operand) : Option (Prop × DV) :=
  match elT P t with
  | some e => match sizeT P e, zeroT P e, bytesT P e with
    | some size, some zl, some bz => match opd env len, opd env cap with
      | .sv (.one (.int _ n)), .sv (.one (.int _ c)) => some (0 ≤ n ∧ n ≤ c ∧ (bz : Int) * c ≤ 281474976710656 ∧ c ≤ 9223372036854775807, .ow size (List.replicate n.toNat zl))
      | _, _ => none
    | _, _, _ => none
  | none => none

theorem made_toList {S : Nat → Prop} {zl : List DV} (zs : Array Value) (n size : Nat) (hz : zs.size = size) : CzL w S zs.toList zl [] → CzL w S ((List.range (n * size)).map fun k => zs[k % zs.size]!) (List.replicate n zl).flatten [] := by
  intro h
  induction n with
  | zero => simpa using CzL.nil
  | succ n ih =>
    rw [Nat.succ_mul, List.range_add, List.map_append, List.replicate_succ', List.flatten_append]
    have := ih.append (rs' := []) (vs' := zs.toList) (xs' := zl) h
    simp only [List.flatten_cons, List.flatten_nil, List.append_nil] at this ⊢
    have e : (List.map (fun x => n * size + x) (List.range size)).map (fun k => zs[k % zs.size]!) = zs.toList := by
      apply List.ext_getElem
      · simp [hz]
      · intro k h1 h2
        simp only [List.length_map, List.length_range] at h1
        simp only [List.getElem_map, List.getElem_range, Array.getElem_toList]
        have : (n * size + k) % zs.size = k := by rw [hz, Nat.mul_comm, Nat.mul_add_mod, Nat.mod_eq_of_lt h1]
        rw [this, getElem!_pos zs k (by omega)]
    rw [e]
    exact this

theorem amake_ok (h : SimR N B w0 S0 env a w rows) {o : Oper} {t : TypeId} {len cap : Operand} (ho : o.op = .makeSlice t len cap) {ob : Prop} {x : DV} (he : amake P env t len cap = some (ob, x)) (hob : ob) {d : Nat} (hd : d < N) (hdst : o.dst = some d)
    (hn : ∀ a' w', Sim N B w0 S0 (env.put d (.sv (.one x))) a' w' → next a' w') : o.wp P a w next Q := by
  unfold amake at he
  split at he
  · rename_i e helT
    unfold elT at helT
    split at helT
    · rename_i e' hu
      injection helT with helT
      subst helT
      split at he
      · rename_i size zl bz hs hz hbz
        split at he
        · rename_i kl n kc c hl hc
          simp only [Option.some.injEq, Prod.mk.injEq] at he
          obtain ⟨rfl, rfl⟩ := he
          obtain ⟨h0, h1, h2, h3⟩ := hob
          have hlv := h.opd_ok len
          have hcv := h.opd_ok cap
          rw [hl] at hlv
          rw [hc] at hcv
          have elv := (CzS.one_inv hlv).int_inv
          have ecv := (CzS.one_inv hcv).int_inv
          unfold zeroT at hz
          split at hz
          · rename_i i hi
            split at hz
            · rename_i z hzz
              split at hz
              · rename_i hzs
                have hsz : i.size = size := by simpa [sizeT, hi] using hs
                have hby : i.bytes = bz := by simpa [bytesT, hi] using hbz
                have hrun := run_make (P := P) w t e' i z hu hi hzz kl kc n c h0 h1 (by rw [hby]; exact h2) h3
                have hzcz := zerosDV_ok (w := w) (S := SS B S0 w rows) hz
                have hzl : zl.length = size := by have := hzcz.length; simp at this; omega
                refine wp_value (v := .slice (some ⟨w.heap.size, 0, none⟩) n.toNat c.toNat) (w' := w.alloc (.cells (madeCells z.cells (c.toNat * i.size)) e')) ?_ ?_
                · simp only [execOp, ho, elv, ecv]
                  exact run_value hrun
                · rw [hdst]
                  have hb : Below w.heap.size w (w.alloc (.cells (madeCells z.cells (c.toNat * i.size)) e')) := (Below.refl _ _).alloc (Nat.le_refl _) _
                  have hr1 : ∀ b ∈ [w.heap.size], w.heap.size ≤ b ∧ b < (w.alloc (.cells (madeCells z.cells (c.toNat * i.size)) e')).heap.size := by simp
                  have hnc : n.toNat ≤ c.toNat := by omega
                  refine hn _ _ ⟨_, h.put hd hb hr1 (by simp) (.one _ _ _ (.ow _ 0 n.toNat c.toNat size _ e' _ [] (heap_alloc_new w _) (by simp) hnc (by unfold maxLen; omega) (by rw [hsz]; simp [madeCells]) (fun e he => by rw [List.eq_of_mem_replicate he]; exact hzl) ?_))⟩
                  have e9 : ((madeCells z.cells (c.toNat * i.size)).toList.drop 0).take (n.toNat * size) = (List.range (n.toNat * size)).map fun k => z.cells[k % z.cells.size]! := by
                    have : min (n.toNat * size) (c.toNat * size) = n.toNat * size := Nat.min_eq_left (Nat.mul_le_mul_right _ hnc)
                    rw [List.drop_zero, hsz]
                    simp only [madeCells, Array.toList_map, Array.toList_range, ← List.map_take, List.take_range, this]
                  rw [e9]
                  exact (made_toList z.cells n.toNat size (by omega) hzcz).keep (fun b hs => ⟨.inl hs, hb.block b (hs.lt h.old h.base)⟩) (by simp)
              · cases hz
            · cases hz
          · cases hz
        · cases he
      · cases he
    · cases helT
  · cases he
end

end Go.Av

/- Part of a proof by symbolic walks on plain data. -/
import Derived.Test.YtpdfolkoejbbgaaGreatDoorF3
set_option linter.unusedVariables false
set_option linter.unusedSimpArgs false
set_option maxHeartbeats 4000000
namespace Go.Av
open Go Go.RowKit
mutual
def DV.frz : DV → DV
  | .ow _ els => .sl (frzLL els)
  | .bx l => .rf (frzL l)
  | .nil => .nil
  | .int k n => .int k n
  | .bool b => .bool b
  | .str s => .str s
  | .raw v => .raw v
  | .sl els => .sl els
  | .rf l => .rf l
  | .dead => .dead
  | .fn f caps => .fn f caps
def frzL : List DV → List DV
  | [] => []
  | x :: xs => x.frz :: frzL xs
def frzLL : List (List DV) → List (List DV)
  | [] => []
  | x :: xs => frzL x :: frzLL xs
end
theorem frzL_length : ∀ (l : List DV), (frzL l).length = l.length
  | [] => rfl
  | x :: xs => by simp [frzL, frzL_length xs]
theorem frzLL_length : ∀ (l : List (List DV)), (frzLL l).length = l.length
  | [] => rfl
  | x :: xs => by simp [frzLL, frzLL_length xs]
theorem frzL_append : ∀ (l m : List DV), frzL (l ++ m) = frzL l ++ frzL m
  | [], m => rfl
  | x :: l, m => by simp [frzL, frzL_append l m]
theorem frzLL_flatten : ∀ (l : List (List DV)), (frzLL l).flatten = frzL l.flatten
  | [] => rfl
  | x :: xs => by simp [frzLL, frzL_append, frzLL_flatten xs]
theorem frzLL_all {z : Nat} : ∀ (l : List (List DV)), (∀ e ∈ l, e.length = z) → ∀ e ∈ frzLL l, e.length = z
  | [], _ => by simp [frzLL]
  | x :: xs, h => by
    intro e he
    simp only [frzLL, List.mem_cons] at he
    rcases he with rfl | he
    · rw [frzL_length]; exact h x (by simp)
    · exact frzLL_all xs (fun e he => h e (by simp [he])) e he
theorem frzLL_map {α : Type} (f : α → List DV) : ∀ (l : List α), frzLL (l.map f) = l.map (fun x => frzL (f x))
  | [] => rfl
  | x :: xs => by simp [frzLL, frzLL_map f xs]
mutual
theorem Cz.freeze {w : World} {S S' : Nat → Prop} (hS : ∀ b, S b → S' b) : ∀ {v : Value} {x : DV} {rs : List Nat}, Cz w S v x rs → (∀ b ∈ rs, S' b) → Cz w S' v x.frz []
  | _, _, _, .int k n, _ => .int k n
  | _, _, _, .bool b, _ => .bool b
  | _, _, _, .str s, _ => .str s
  | _, _, _, .raw v h, _ => .raw v h
  | _, _, _, .dead v h, _ => .dead v h
  | _, _, _, .nil, _ => .nil
  | _, _, _, .shNil a c, _ => .shNil a c
  | _, _, _, .owNil z, _ => .shNil none 0
  | _, _, _, .sh ad n c z els vs h1 h2 h3 h4 h5 h6 h7, _ => .sh ad n c z els vs (hS _ h1) h2 h3 h4 h5 h6 (h7.keep (fun b hb => ⟨hS b hb, rfl⟩) (by simp))
  | _, _, _, .ow b off n c z els T cs rs h1 h2 h3 h4 h5 h6 h7, hr => by
    have hl := CzL.freeze hS h7 (fun b' hb => hr b' (by simp [hb]))
    rw [← frzLL_flatten] at hl
    refine .sh ⟨b, off, none⟩ n c z _ _ (hr b (by simp)) (by rw [frzLL_length, h2]) h3 h4 (frzLL_all _ h6) ?_ hl
    intro j u hu
    rw [add_mk, cell_of_row w b _ cs T (0, 0) h1]
    rw [List.getElem?_take] at hu
    split at hu
    · rw [List.getElem?_drop] at hu
      simpa using hu
    · cases hu
  | _, _, _, .bx b l T cs rs h1 h2, hr => by
    have hl := CzL.freeze hS h2 (fun b' hb => hr b' (by simp [hb]))
    refine .rf ⟨b, 0, none⟩ _ _ (hr b (by simp)) ?_ hl
    intro j u hu
    rw [add_mk, Nat.zero_add, cell_of_row w b _ cs T (0, 0) h1]
    simpa using hu
  | _, _, _, .rf ad l vs h1 h2 h3, _ => .rf ad l vs (hS _ h1) h2 (h3.keep (fun b hb => ⟨hS b hb, rfl⟩) (by simp))
  | _, _, _, .fn f cs caps h, _ => .fn f cs caps (h.keep (fun b hb => ⟨hS b hb, rfl⟩) (by simp))
theorem CzL.freeze {w : World} {S S' : Nat → Prop} (hS : ∀ b, S b → S' b) : ∀ {v : List Value} {x : List DV} {rs : List Nat}, CzL w S v x rs → (∀ b ∈ rs, S' b) → CzL w S' v (frzL x) []
  | _, _, _, .nil, _ => .nil
  | _, _, _, .cons v x r vs xs rs h hs, hr => by
    have h1 := Cz.freeze hS h (fun b hb => hr b (by simp [hb]))
    have h2 := CzL.freeze hS hs (fun b hb => hr b (by simp [hb]))
    have := CzL.cons _ _ _ _ _ _ h1 h2
    simpa [frzL] using this
end
inductive Closed : DV → Prop
  | int (k : IntKind) (n : Int) : Closed (.int k n)
  | bool (b : Bool) : Closed (.bool b)
  | str (s : ByteArray) : Closed (.str s)
  | raw (v : Value) : Closed (.raw v)
  | dead : Closed .dead
  | nil : Closed .nil
  | slNil : Closed (.sl [])
  | ow (z : Nat) (els : List (List DV)) (h : ∀ e ∈ els, ∀ d ∈ e, Closed d) : Closed (.ow z els)
  | bx (l : List DV) (h : ∀ d ∈ l, Closed d) : Closed (.bx l)
  | fn (f : FuncId) (caps : List DV) (h : ∀ d ∈ caps, Closed d) : Closed (.fn f caps)
mutual
theorem Cz.closed {w : World} {S S' : Nat → Prop} : ∀ {v : Value} {x : DV} {rs : List Nat}, Cz w S v x rs → Closed x → Cz w S' v x rs
  | _, _, _, .int k n, _ => .int k n
  | _, _, _, .bool b, _ => .bool b
  | _, _, _, .str s, _ => .str s
  | _, _, _, .raw v h, _ => .raw v h
  | _, _, _, .dead v h, _ => .dead v h
  | _, _, _, .nil, _ => .nil
  | _, _, _, .shNil a c, _ => .shNil a c
  | _, _, _, .owNil z, _ => .owNil z
  | _, _, _, .sh ad n c z els vs h1 h2 h3 h4 h5 h6 h7, hc => by
    cases hc
    simp at h2
    subst h2
    exact .shNil _ _
  | _, _, _, .ow b off n c z els T cs rs h1 h2 h3 h4 h5 h6 h7, hc => by
    have hcl : ∀ d ∈ els.flatten, Closed d := by
      cases hc with
      | ow _ _ h =>
        intro d hd
        obtain ⟨e, he, hde⟩ := List.mem_flatten.1 hd
        exact h e he d hde
    exact .ow b off n c z els T cs rs h1 h2 h3 h4 h5 h6 (CzL.closed h7 hcl)
  | _, _, _, .bx b l T cs rs h1 h2, hc => by
    have hcl : ∀ d ∈ l, Closed d := by
      cases hc with
      | bx _ h => exact h
    exact .bx b l T cs rs h1 (CzL.closed h2 hcl)
  | _, _, _, .rf ad l vs h1 h2 h3, hc => by cases hc
  | _, _, _, .fn f cs caps h, hc => by
    cases hc with
    | fn f caps h' => exact .fn f cs caps (CzL.closed h h')
theorem CzL.closed {w : World} {S S' : Nat → Prop} : ∀ {v : List Value} {x : List DV} {rs : List Nat}, CzL w S v x rs → (∀ d ∈ x, Closed d) → CzL w S' v x rs
  | _, _, _, .nil, _ => .nil
  | _, _, _, .cons v x r vs xs rs h hs, hc => .cons v x r vs xs rs (Cz.closed h (hc x (by simp))) (CzL.closed hs (fun d hd => hc d (by simp [hd])))
end
section
variable {P : Program} {N B : Nat} {w0 : World} {S0 : Nat → Prop} {env : Env} {a : Act} {w : World} {rows : Nat → List Nat} {next : Act → World → Prop} {Q : Exit → Act → World → Prop}
theorem SimR.takeOver (h : SimR N B w0 S0 env a w rows) {t d : Nat} (hd : d < N) {x : DV} (hx : env.root t = some x) :
    Sim N B w0 S0 ((env.setRoot t .dead 0).put d (.sv (.one x))) (a.put (some d) (Act.f a t)) w := by
  have hcz := h.root_cz hx
  refine ⟨_, h.consume hd hx (n := 0) (.inl rfl) (Below.refl _ _) (rs' := []) (r' := rows t) (by simp) (by simp) (fun b hb => ⟨.inl hb, (h.own t b hb).2⟩) (h.nodup t) (by simp) (fun _ _ _ => rfl) (fun S' _ => .dead _ hcz.one) (fun S' hS' => .one _ _ _ ?_)⟩
  exact hcz.keep (fun b hb => ⟨hS' b hb, rfl⟩) (fun _ _ => rfl)
def Env.frz (env : Env) (s : Nat) : Env :=
  match env.root s with
  | some x => env.setRoot s x.frz 0
  | none => env
theorem SimR.frz (h : SimR N B w0 S0 env a w rows) (s : Nat) : ∃ rows', SimR N B w0 S0 (env.frz s) a w rows' ∧ (∀ b, SS B S0 w rows b → SS B S0 w rows' b) ∧ (∀ x, env.root s = some x → rows' s = [] ∧ (env.frz s).root s = some x.frz) ∧ (∀ t, ∀ b ∈ rows' t, b ∈ rows t) := by
  unfold Env.frz
  split
  · rename_i x hx
    have hcz := h.root_cz hx
    refine ⟨_, h.reroot hx (n := 0) (.inl rfl) (Below.refl _ _) (rs' := []) (by simp) (by simp) (fun _ _ _ => rfl) (fun S' h1 h2 => hcz.freeze h1 (fun b hb => h2 b hb (by simp))), ?_, ?_, ?_⟩
    · intro b hb
      rcases hb with hb | ⟨h1, h2, h3⟩
      · exact .inl hb
      · refine .inr ⟨h1, h2, fun t ht => ?_⟩
        dsimp only at ht
        split at ht
        · cases ht
        · exact h3 t ht
    · intro x' hx'
      rw [hx] at hx'
      injection hx' with hx'
      subst hx'
      exact ⟨by simp, by simp [Env.root_setRoot]⟩
    · intro t b hb
      split at hb
      · cases hb
      · exact hb
  · rename_i hx
    exact ⟨rows, h, fun _ h => h, (fun x hx' => by rw [hx] at hx'; cases hx'), fun _ _ h => h⟩
def frzOps (env : Env) : List Operand → Env
  | [] => env
  | x :: xs => match opd env x with
    | .al s [] => frzOps (env.frz s) xs
    | _ => frzOps env xs
theorem SimR.frzOps : ∀ (xs : List Operand) {env : Env} {rows : Nat → List Nat}, SimR N B w0 S0 env a w rows → ∃ rows', SimR N B w0 S0 (Av.frzOps env xs) a w rows'
  | [], _, rows, h => ⟨rows, h⟩
  | x :: xs, env, rows, h => by
    unfold Av.frzOps
    split
    · rename_i s _
      obtain ⟨rows', h', _⟩ := h.frz s
      exact SimR.frzOps xs h'
    · exact SimR.frzOps xs h
def astore (P : Program) (env : Env) (t : TypeId) (x y : Operand) : Option (Prop × Env) :=
  match opd env x with
  | .pt s p i j => match opd env y with
    | .sv d => match sizeT P t, env.root s, env.at s p with
      | some n, some x0, some y0 => match y0.elAt i with
        | some el => some (d.cells.all DV.flat = true ∧ d.cells.length = n ∧ j + n ≤ el.length, env.setRoot s (setP x0 p (y0.put i j d.cells)) 1)
        | none => none
      | _, _, _ => none
    | _ => none
  | _ => none
theorem Shape.setP' {x y y' : DV} {p : List (Nat × Nat)} (h : getP x p = some y) (hs : Shape y y') : Shape x (Av.setP x p y') := by
  cases p with
  | nil =>
    simp only [getP, Option.some.injEq] at h
    subst h
    exact hs
  | cons q p => exact Shape.setP h
theorem run_storeVar {t : TypeId} {n : Nat} {v : Value} {g off : Nat} {cur : Array Value} {T : TypeId} (hs : sizeT P t = some n) (hv : v.cells.size = n) (hg : w.heap[g]? = some (.cells cur T (0, 0))) (hfit : off + n ≤ cur.size) (h1 : ∀ u ∈ v.cells.toList, u.oneCell' = true) :
    (Instr.storeAt t (.pointer (some ⟨g, off, none⟩)) v).run P w = .ok () (w.setRow g (splice cur.toList off v.cells.toList).toArray) := by
  have hst := run_storeCells_at P g off T v.cells.toList 0 cur w hg (by simpa [hv] using hfit) h1
  simp only [Nat.add_zero] at hst
  simp [Instr.storeAt, Instr.sureAddr, storeVar, run_sizeOf hs, hv, hst, splice]
theorem SimR.stored (h : SimR N B w0 S0 env a w rows) {s : Nat} {p : List (Nat × Nat)} {i j : Nat} {x0 y0 : DV} {u : Value} {el : List DV} {ad : Addr} (hroot : env.root s = some x0) (hcat : cat w (Act.f a s) x0 p = some (u, y0)) (hel : y0.elAt i = some el) (hbase : rowBase u y0 = some ad)
    {vs : List Value} {ds : List DV} (hds : CzL w (SS B S0 w rows) vs ds []) (hj : j + ds.length ≤ el.length) :
    ∃ g off cur T, ad.add (i * el.length + j) = ⟨g, off, none⟩ ∧ w.heap[g]? = some (.cells cur T (0, 0)) ∧ off + ds.length ≤ cur.size ∧
      Sim N B w0 S0 (env.setRoot s (setP x0 p (y0.put i j ds)) 1) a (w.setRow g (splice cur.toList off vs).toArray) := by
  have hrcz := h.root_cz hroot
  obtain ⟨ru, rest, hcu, hmem, hdis, hndu, hback⟩ := hrcz.lens p (h.nodup s) hcat
  obtain ⟨b, o, z, T, cs, r0, vs0, rfl, hbase', hb, hlz, hsz, _, _, hup⟩ := hcu.row hel
  rw [hbase] at hbase'
  injection hbase' with hbase'
  subst hbase'
  obtain ⟨r1, rm, r2, rfl, _, hset⟩ := hup j ds.length (by omega)
  have hbs : b ∈ rows s := (hmem b).2 (.inl (by simp))
  have hlen := hds.length
  have hne : ∀ b', b' ≠ b → (w.setRow b (splice cs.toList (o + i * z + j) vs).toArray).heap[b']? = w.heap[b']? := fun b' hb' => setRow_other w b b' _ hb'
  have hSk : ∀ S' : Nat → Prop, (∀ b, SS B S0 w rows b → S' b) → ∀ b', SS B S0 w rows b' → S' b' ∧ (w.setRow b (splice cs.toList (o + i * z + j) vs).toArray).heap[b']? = w.heap[b']? := by
    intro S' hS' b' hs
    refine ⟨hS' b' hs, hne b' ?_⟩
    rintro rfl
    rcases hs with hs | hs
    · have := h.old b' hs; have := h.own s b' hbs; omega
    · exact hs.2.2 s hbs
  have hndr : (r1 ++ r2).Nodup := by
    simp only [List.nodup_cons, List.nodup_append, List.mem_append] at hndu ⊢
    grind
  have hbr : b ∉ r1 ++ r2 := by
    simp only [List.nodup_cons, List.mem_append] at hndu ⊢
    grind
  have hy' : ∀ S' : Nat → Prop, (∀ b, SS B S0 w rows b → S' b) → Cz (w.setRow b (splice cs.toList (o + i * z + j) vs).toArray) S' u (y0.put i j ds) (b :: (r1 ++ r2)) := by
    intro S' hS'
    have := hset _ S' vs ds [] rfl (hSk S' hS') (fun b' hb' => hne b' (by rintro rfl; exact hbr hb')) (setRow_heap w b cs _ T _ hb) (hds.keep (hSk S' hS') (by simp))
    simpa using this
  have hrest : ∀ b' ∈ rest, (w.setRow b (splice cs.toList (o + i * z + j) vs).toArray).heap[b']? = w.heap[b']? := fun b' hb' => hne b' (by rintro rfl; exact hdis b' (by simp) hb')
  have hsub : ∀ b' ∈ b :: (r1 ++ r2), b' ∉ rest := by
    intro b' hb'
    refine hdis b' ?_
    simp only [List.mem_cons, List.mem_append] at hb' ⊢
    grind
  refine ⟨b, o + i * z + j, cs, T, by rw [hlz, add_mk, Nat.add_assoc], hb, by omega, ?_⟩
  obtain ⟨rs', g1, g2, g3⟩ := hback _ (SS B S0 w rows) _ _ (hSk _ fun _ h => h) hrest (hy' _ fun _ h => h) (List.nodup_cons.2 ⟨hbr, hndr⟩) hsub
  have hin : ∀ b' ∈ rs', b' ∈ rows s := by
    intro b' hb'
    refine (hmem b').2 ?_
    rcases (g3 b').1 hb' with h1 | h1
    · left
      simp only [List.mem_cons, List.mem_append] at h1 ⊢
      grind
    · exact .inr h1
  have hB : B ≤ b := (h.own s b hbs).1
  refine ⟨_, h.reroot (w' := w.setRow b (splice cs.toList (o + i * z + j) vs).toArray) hroot (n := 1) (.inr ⟨rfl, Shape.setP' (cat_getP _ hcat) (Shape.put hel hj)⟩) ⟨rfl, rfl, rfl, by simp, fun k hk => hne k (by omega)⟩ (rs' := rs') ?_ g2 ?_ ?_⟩
  · intro b' hb'
    refine ⟨.inl (hin b' hb'), ?_⟩
    rw [setRow_size]
    exact (h.own s b' (hin b' hb')).2
  · intro b' _ hb'
    exact hne b' (by rintro rfl; exact hb' hbs)
  · intro S' hS' _
    exact g1.keep (fun b hb => ⟨hS' b hb, rfl⟩) (fun _ _ => rfl)
theorem astore_ok (h : SimR N B w0 S0 env a w rows) {o : Oper} {t : TypeId} {x y : Operand} (ho : o.op = .store t x y) {ob : Prop} {env' : Env} (he : astore P env t x y = some (ob, env')) (hob : ob) (hdst : o.dst = none)
    (hn : ∀ w', Sim N B w0 S0 env' a w' → next a w') : o.wp P a w next Q := by
  have hx := h.opd_ok x
  have hy := h.opd_ok y
  unfold astore at he
  split at he
  · rename_i s p i j hopx
    rw [hopx] at hx
    obtain ⟨_, x1, u, y1, el1, ad, hroot, hcat, hel1, hbase, hval⟩ := hx
    split at he
    · rename_i d hopy
      rw [hopy] at hy
      split at he
      · rename_i n x0 y0 hs hroot' hat
        rw [hroot] at hroot'
        injection hroot' with hroot'
        subst hroot'
        obtain ⟨rfl, _⟩ := h.place hroot hcat hat
        rw [hel1] at he
        dsimp only at he
        simp only [Option.some.injEq, Prod.mk.injEq] at he
        obtain ⟨rfl, rfl⟩ := he
        obtain ⟨_, hlen, hfit⟩ := hob
        have hc := CzS.cells hy
        obtain ⟨g, off, cur, T, e1, hg, hsz, hsim⟩ := h.stored (j := j) hroot hcat hel1 hbase hc (by omega)
        have hvl := hc.length
        simp only [Array.length_toList] at hvl
        have hrun := run_storeVar (P := P) (v := a.eval y) (off := off) hs (by omega) hg (by omega) hc.allOne
        refine wp_skipv (w' := w.setRow g (splice cur.toList off (a.eval y).cells.toList).toArray) ?_ ?_
        · simp only [execOp, ho, hval, e1]
          simp [hrun]
        · rw [hdst]
          exact hn _ hsim
      · cases he
    · cases he
  · cases he
theorem SimR.moveInto {w' : World} (h : SimR N B w0 S0 env a w rows) {s t : Nat} (hst : s ≠ t) {x x' xt : DV} (hx : env.root s = some x) (hxt : env.root t = some xt) (hsh : Shape x x') (hbel : Below B w w') (hsz : w'.heap.size = w.heap.size) {rs' : List Nat}
    (hown : ∀ b ∈ rs', b ∈ rows s ∨ b ∈ rows t) (hnd : rs'.Nodup) (hframe : ∀ b, b < w.heap.size → b ∉ rows s → w'.heap[b]? = w.heap[b]?)
    (hcz : ∀ S' : Nat → Prop, (∀ b, SS B S0 w rows b → S' b) → Cz w' S' (Act.f a s) x' rs') :
    SimR N B w0 S0 ((env.setRoot t .dead 0).setRoot s x' 1) a w' (fun k => if s = k then rs' else if t = k then [] else rows k) := by
  have hbase := h.base
  have hSr : ∀ b, SS B S0 w rows b → ∀ k, b ∉ rows k := by
    intro b hs k hb
    rcases hs with hs | hs
    · have := h.old b hs; have := h.own k b hb; omega
    · exact hs.2.2 k hb
  have hS : ∀ b, SS B S0 w rows b → SS B S0 w' (fun k => if s = k then rs' else if t = k then [] else rows k) b ∧ w'.heap[b]? = w.heap[b]? := by
    intro b hs
    have hn := hSr b hs
    refine ⟨?_, hframe b (hs.lt h.old h.base) (hn s)⟩
    rcases hs with hs | ⟨h1, h2, h3⟩
    · exact .inl hs
    · refine .inr ⟨h1, by omega, fun k hk => ?_⟩
      dsimp only at hk
      split at hk
      · rcases hown b hk with g | g
        · exact hn s g
        · exact hn t g
      · split at hk
        · cases hk
        · exact h3 k hk
  have hkeep : ∀ k, s ≠ k → ∀ b ∈ rows k, w'.heap[b]? = w.heap[b]? := fun k hk b hb => hframe b (h.own k b hb).2 (fun hb' => h.apart s k hk b hb' hb)
  refine ⟨h.defers, h.size, h.below.trans hbel, by omega, h.old, ?_, ?_, ?_, ?_⟩
  · intro k b hb
    split at hb
    · rcases hown b hb with g | g
      · have := h.own s b g; omega
      · have := h.own t b g; omega
    · split at hb
      · cases hb
      · have := h.own k b hb; omega
  · intro k
    split
    · exact hnd
    · split
      · exact List.nodup_nil
      · exact h.nodup k
  · intro k k' hne b hb hb'
    have hmix : ∀ k, s ≠ k → b ∈ rs' → b ∈ (if t = k then [] else rows k) → False := by
      intro k hsk g1 g2
      split at g2
      · cases g2
      · rename_i htk
        rcases hown b g1 with g | g
        · exact h.apart s k hsk b g g2
        · exact h.apart t k htk b g g2
    split at hb
    · split at hb'
      · omega
      · rename_i e1 e2
        exact hmix k' e2 hb hb'
    · split at hb'
      · rename_i e1 e2
        exact hmix k e1 hb' hb
      · split at hb
        · cases hb
        · split at hb'
          · cases hb'
          · exact h.apart k k' hne b hb hb'
  · intro k
    rw [Env.get_setRoot]
    by_cases e : s = k
    · subst e
      simp only [if_true]
      exact .one _ _ _ (hcz _ fun b hb => (hS b hb).1)
    · simp only [e, if_false]
      have hone : (Act.f a t).oneCell' = true := (h.root_cz hxt).one
      have hstep : AVR w (SS B S0 w rows) (env.setRoot t .dead 0) (Act.f a) ((env.setRoot t .dead 0).get k) (Act.f a k) (if t = k then [] else rows k) := by
        rw [Env.get_setRoot]
        by_cases et : t = k
        · subst et
          simp only [if_true]
          exact .one _ _ _ (.dead _ hone)
        · simp only [et, if_false]
          refine AVR.keepS (fun b hb => ⟨hb, rfl⟩) (s0 := t) (n0 := 0) ?_ (env.get k) (h.rel k) (fun _ _ => rfl)
          intro s' x1 p v y hs hx1 hc
          have hne : t ≠ s' := by rcases hs with hs | hs; exact fun e => hs e.symm; omega
          exact ⟨x1, y, by rw [Env.root_setRoot, if_neg hne, hx1], hc, Shape.refl y⟩
      refine AVR.keepS hS (s0 := s) (n0 := 1) ?_ _ hstep ?_
      · intro s' x1 p v y hs hx1 hc
        by_cases es : s = s'
        · subst es
          have hp : p = [] := by
            rcases hs with hs | hs
            · exact (hs rfl).elim
            · exact List.eq_nil_of_length_eq_zero (by omega)
          subst hp
          rw [Env.root_setRoot, if_neg (fun e => hst e.symm), hx] at hx1
          injection hx1 with hx1
          subst hx1
          simp only [cat, Option.some.injEq, Prod.mk.injEq] at hc
          obtain ⟨rfl, rfl⟩ := hc
          exact ⟨x', x', by simp [Env.root_setRoot], rfl, hsh⟩
        · refine ⟨x1, y, by rw [Env.root_setRoot, if_neg es, hx1], ?_, Shape.refl y⟩
          rw [Env.root_setRoot] at hx1
          split at hx1
          · rename_i et
            subst et
            injection hx1 with hx1
            subst hx1
            cases p with
            | nil => simpa [cat] using hc
            | cons q p => obtain ⟨i, j⟩ := q; simp [cat, DV.elAt] at hc
          · exact h.cat_keep (hkeep s' es) hx1 hc
      · intro b hb
        split at hb
        · cases hb
        · exact hkeep k e b hb
def astoreOwn (P : Program) (env : Env) (t : TypeId) (x y : Operand) : Option (Prop × Env) :=
  match opd env x with
  | .pt s p i j => match opd env y with
    | .al k [] => match sizeT P t, env.root s, env.at s p, env.root k with
      | some n, some x0, some y0, some xk => match y0.elAt i with
        | some el => some (n = 1 ∧ s ≠ k ∧ j + 1 ≤ el.length, (env.setRoot k .dead 0).setRoot s (setP x0 p (y0.put i j [xk])) 1)
        | none => none
      | _, _, _, _ => none
    | _ => none
  | _ => none
theorem cells_of_one {v : Value} (h : v.oneCell' = true) : v.cells = #[v] := by
  cases v <;> first | rfl | simp [Value.oneCell'] at h
set_option maxHeartbeats 1000000 in
theorem astoreOwn_ok (h : SimR N B w0 S0 env a w rows) {o : Oper} {t : TypeId} {x y : Operand} (ho : o.op = .store t x y) {ob : Prop} {env' : Env} (he : astoreOwn P env t x y = some (ob, env')) (hob : ob) (hdst : o.dst = none)
    (hn : ∀ w', Sim N B w0 S0 env' a w' → next a w') : o.wp P a w next Q := by
  have hx := h.opd_ok x
  have hy := h.opd_ok y
  unfold astoreOwn at he
  split at he
  · rename_i s p i j hopx
    rw [hopx] at hx
    obtain ⟨_, x1, u, y1, el1, ad, hroot, hcat, hel1, hbase, hval⟩ := hx
    split at he
    · rename_i k hopy
      rw [hopy] at hy
      obtain ⟨_, xk0, yk0, hrootk, hcatk⟩ := hy
      split at he
      · rename_i n x0 y0 xk hs hroot' hat hrootk'
        rw [hroot] at hroot'
        injection hroot' with hroot'
        subst hroot'
        rw [hrootk] at hrootk'
        injection hrootk' with hrootk'
        subst hrootk'
        simp only [cat, Option.some.injEq, Prod.mk.injEq] at hcatk
        obtain ⟨hvk, rfl⟩ := hcatk
        obtain ⟨rfl, _⟩ := h.place hroot hcat hat
        rw [hel1] at he
        dsimp only at he
        simp only [Option.some.injEq, Prod.mk.injEq] at he
        obtain ⟨rfl, rfl⟩ := he
        obtain ⟨rfl, hsk, hfit⟩ := hob
        have hkcz := h.root_cz hrootk
        have hrcz := h.root_cz hroot
        obtain ⟨ru, rest, hcu, hmem, hdis, hndu, hback⟩ := hrcz.lens p (h.nodup s) hcat
        obtain ⟨b, o', z, T, cs, r0, vs0, rfl, hbase', hb, hlz, hsz, _, _, hup⟩ := hcu.row hel1
        rw [hbase] at hbase'
        injection hbase' with hbase'
        subst hbase'
        obtain ⟨r1, rm, r2, rfl, _, hset⟩ := hup j 1 (by omega)
        have hbs : b ∈ rows s := (hmem b).2 (.inl (by simp))
        have hbk : b ∉ rows k := h.apart s k hsk b hbs
        let w' := w.setRow b (splice cs.toList (o' + i * z + j) [Act.f a k]).toArray
        have hne : ∀ b', b' ≠ b → w'.heap[b']? = w.heap[b']? := fun b' hb' => setRow_other w b b' _ hb'
        have hSk : ∀ S' : Nat → Prop, (∀ b, SS B S0 w rows b → S' b) → ∀ b', SS B S0 w rows b' → S' b' ∧ w'.heap[b']? = w.heap[b']? := by
          intro S' hS' b' hs
          refine ⟨hS' b' hs, hne b' ?_⟩
          rintro rfl
          rcases hs with hs | hs
          · have := h.old b' hs; have := h.own s b' hbs; omega
          · exact hs.2.2 s hbs
        have hbr : b ∉ r1 ++ r2 := by
          simp only [List.nodup_cons, List.mem_append] at hndu ⊢
          grind
        have hrk : ∀ b' ∈ rows k, b' ∉ rows s := fun b' h1 h2 => h.apart s k hsk b' h2 h1
        have hru : ∀ b' ∈ r1 ++ r2, b' ∈ rows s := by
          intro b' hb'
          refine (hmem b').2 (.inl ?_)
          simp only [List.mem_cons, List.mem_append] at hb' ⊢
          grind
        have hnew : (b :: (r1 ++ rows k ++ r2)).Nodup := by
          have hk1 := h.nodup k
          simp only [List.nodup_cons, List.nodup_append, List.mem_append] at hndu ⊢
          simp only [List.mem_append] at hru
          grind
        have hsub : ∀ b' ∈ b :: (r1 ++ rows k ++ r2), b' ∉ rest := by
          intro b' hb' hr
          have hbs' := (hmem b').2 (.inr hr)
          have hd := hdis b'
          simp only [List.mem_cons, List.mem_append] at hb' hd
          grind
        have hy' : ∀ S' : Nat → Prop, (∀ b, SS B S0 w rows b → S' b) → Cz w' S' u (y0.put i j [xk0]) (b :: (r1 ++ rows k ++ r2)) := by
          intro S' hS'
          refine hset w' S' [Act.f a k] [xk0] (rows k) rfl (hSk S' hS') (fun b' hb' => hne b' (by rintro rfl; exact hbr hb')) (setRow_heap w b cs _ T _ hb) (CzL.mk1 ?_)
          exact hkcz.keep (hSk S' hS') (fun b' hb' => hne b' (by rintro rfl; exact hbk hb'))
        have hrest : ∀ b' ∈ rest, w'.heap[b']? = w.heap[b']? := fun b' hb' => hne b' (by rintro rfl; exact hdis b' (by simp) hb')
        obtain ⟨rs', g1, g2, g3⟩ := hback w' (SS B S0 w rows) _ _ (hSk _ fun _ h => h) hrest (hy' _ fun _ h => h) hnew hsub
        have hB : B ≤ b := (h.own s b hbs).1
        have hsim := h.moveInto (w' := w') hsk hroot hrootk (Shape.setP' (cat_getP _ hcat) (Shape.put (ds := [xk0]) hel1 (by simpa using hfit))) ⟨rfl, rfl, rfl, by simp [w'], fun k hk => hne k (by omega)⟩ (by simp [w']) (rs' := rs') ?_ g2 ?_ ?_
        · have hc := cells_of_one hkcz.one
          have hrun := run_storeVar (P := P) (w := w) (v := Act.f a k) (off := o' + i * z + j) (n := 1) hs (by rw [hc]; rfl) hb (by omega) (by
            rw [hc]
            intro u hu
            simp only [List.mem_singleton] at hu
            rw [hu]
            exact hkcz.one)
          rw [hc] at hrun
          refine wp_skipv (w' := w') ?_ ?_
          · simp only [execOp, ho, hval, hlz, add_mk, ← hvk, ← Nat.add_assoc]
            simp [hrun, w']
          · rw [hdst]
            exact hn _ ⟨_, hsim⟩
        · intro b' hb'
          rcases (g3 b').1 hb' with h1 | h1
          · simp only [List.mem_cons, List.mem_append] at h1
            rcases h1 with rfl | (h1 | h1) | h1
            · exact .inl hbs
            · exact .inl (hru b' (by simp [h1]))
            · exact .inr h1
            · exact .inl (hru b' (by simp [h1]))
          · exact .inl ((hmem b').2 (.inr h1))
        · intro b' _ hb'
          exact hne b' (by rintro rfl; exact hb' hbs)
        · intro S' hS'
          exact g1.keep (fun b hb => ⟨hS' b hb, rfl⟩) (fun _ _ => rfl)
      · cases he
    · cases he
  · cases he
theorem SimR.divide (h : SimR N B w0 S0 env a w rows) {t d : Nat} (hd : d < N) (hne : t ≠ d) (hroot : env.root t = none) {av' av2 : AV} {v2 : Value} {r1 r2 : List Nat}
    (hs1 : ∀ b ∈ r1, b ∈ rows t) (hs2 : ∀ b ∈ r2, b ∈ rows t) (hn1 : r1.Nodup) (hn2 : r2.Nodup) (hdis : ∀ b ∈ r1, b ∉ r2)
    (hav' : ∀ (S' : Nat → Prop), (∀ b, SS B S0 w rows b → S' b) → ∀ (e : Env) (f : Nat → Value), AVR w S' e f av' (Act.f a t) r2) (hroot' : av'.asOne = none)
    (hav2 : ∀ (S' : Nat → Prop), (∀ b, SS B S0 w rows b → S' b) → ∀ (e : Env) (f : Nat → Value), AVR w S' e f (av2.kill d 0) v2 r1) (hk : av'.kill d 0 = av') :
    SimR N B w0 S0 (Env.put ((t, av') :: env) d av2) (a.put (some d) v2) w (fun k => if d = k then r1 else if t = k then r2 else rows k) := by
  have hS : ∀ b, SS B S0 w rows b → SS B S0 w (fun k => if d = k then r1 else if t = k then r2 else rows k) b := by
    intro b hs
    rcases hs with hs | ⟨h1, h2, h3⟩
    · exact .inl hs
    · refine .inr ⟨h1, h2, fun k hk => ?_⟩
      dsimp only at hk
      split at hk
      · exact h3 t (hs1 b hk)
      · split at hk
        · exact h3 t (hs2 b hk)
        · exact h3 k hk
  have hget : ∀ k, Env.get ((t, av') :: env) k = if t = k then av' else env.get k := fun k => rfl
  refine ⟨h.defers, by simp [Act.put, h.size], h.below, h.base, h.old, ?_, ?_, ?_, ?_⟩
  · intro k b hb
    split at hb
    · exact h.own t b (hs1 b hb)
    · split at hb
      · exact h.own t b (hs2 b hb)
      · exact h.own k b hb
  · intro k
    split
    · exact hn1
    · split
      · exact hn2
      · exact h.nodup k
  · intro k k' hkk b hb hb'
    split at hb
    · rename_i e1
      split at hb'
      · omega
      · split at hb'
        · exact hdis b hb hb'
        · rename_i e2 e3
          exact h.apart t k' e3 b (hs1 b hb) hb'
    · split at hb
      · rename_i e1 e2
        split at hb'
        · exact hdis b hb' hb
        · split at hb'
          · omega
          · rename_i e3 e4
            exact h.apart t k' e4 b (hs2 b hb) hb'
      · rename_i e1 e2
        split at hb'
        · exact h.apart k t (fun e => e2 e.symm) b hb (hs1 b hb')
        · split at hb'
          · exact h.apart k t (fun e => e2 e.symm) b hb (hs2 b hb')
          · exact h.apart k k' hkk b hb hb'
  · intro k
    rw [Env.get_put, Act.f_put (by rw [h.size]; exact hd)]
    by_cases e : d = k
    · simp only [e, if_true]
      rw [← e]
      exact hav2 _ hS _ _
    · simp only [e, if_false]
      rw [hget]
      by_cases e2 : t = k
      · simp only [e2, if_true]
        rw [hk, ← e2]
        exact hav' _ hS _ _
      · simp only [e2, if_false]
        refine AVR.keep (fun b hb => ⟨hS b hb, rfl⟩) (s0 := d) (n0 := 0) ?_ (env.get k) (h.rel k) (fun _ _ => rfl)
        intro s x p v y hs hx hc
        have hsd : s ≠ d := by rcases hs with hs | hs; exact hs; omega
        have hst : t ≠ s := fun e => by rw [← e, hroot] at hx; cases hx
        refine ⟨x, ?_, ?_⟩
        · rw [Env.root_put_ne _ _ (fun e => hsd e.symm)]
          simp only [Env.root, hget, hst, if_false]
          exact hx
        · rw [Act.f_put (by rw [h.size]; exact hd), if_neg (fun e => hsd e.symm)]
          exact hc
theorem CzSL.take_out {S : Nat → Prop} {vs : List Value} {l : List SV} {r : List Nat} (h : CzSL w S vs l r) : ∀ (i : Nat) (x : DV), l[i]? = some (.one x) → ∃ v r1 r2, vs[i]? = some v ∧ Cz w S v x r1 ∧ CzSL w S vs (l.set i (.one .dead)) r2 ∧ (∀ b, b ∈ r ↔ b ∈ r1 ∨ b ∈ r2) ∧ (r.Nodup → r1.Nodup ∧ r2.Nodup ∧ ∀ b ∈ r1, b ∉ r2) := by
  induction h with
  | nil => intro i x hx; simp at hx
  | cons v y r vs xs rs hy hs ih =>
    intro i x hx
    cases i with
    | zero =>
      simp only [List.getElem?_cons_zero, Option.some.injEq] at hx
      subst hx
      have hc := CzS.one_inv hy
      refine ⟨v, r, rs, rfl, hc, ?_, by simp, fun hn => ?_⟩
      · have := CzSL.cons v (.one .dead) [] vs xs rs (.one _ _ _ (.dead v hc.one)) hs
        simpa using this
      · rw [List.nodup_append] at hn
        exact ⟨hn.1, hn.2.1, fun b hb hb' => hn.2.2 b hb b hb' rfl⟩
    | succ i =>
      obtain ⟨v', r1, r2, h1, h2, h3, h4, h5⟩ := ih i x (by simpa using hx)
      refine ⟨v', r1, r ++ r2, by simpa using h1, h2, by simpa using CzSL.cons v y r vs _ r2 hy h3, ?_, fun hn => ?_⟩
      · intro b
        simp only [List.mem_append, h4]
        constructor
        · rintro (h | h | h)
          · exact .inr (.inl h)
          · exact .inl h
          · exact .inr (.inr h)
        · rintro (h | h | h)
          · exact .inr (.inl h)
          · exact .inl h
          · exact .inr (.inr h)
      · rw [List.nodup_append] at hn
        obtain ⟨g1, g2, g3⟩ := h5 hn.2.1
        refine ⟨g1, ?_, fun b hb hb' => ?_⟩
        · rw [List.nodup_append]
          exact ⟨hn.1, g2, fun x hx y hy' => hn.2.2 x hx y ((h4 y).2 (.inr hy'))⟩
        · rcases List.mem_append.1 hb' with hb' | hb'
          · exact hn.2.2 b hb' b ((h4 b).2 (.inl hb)) rfl
          · exact g3 b hb hb'
end
end Go.Av
namespace Go.Av
open Go Go.RowKit
def bnd (env : Env) (dflt : Nat) : Option Operand → Option (Prop × Nat)
  | none => some (True, dflt)
  | some x => match opd env x with
    | .sv (.one (.int _ n)) => some (0 ≤ n, n.toNat)
    | _ => none
def aslice (P : Program) (env : Env) (t : TypeId) (x : Operand) (lo hi : Option Operand) : Option (Prop × AV) :=
  match elT P t with
  | some e => match sizeT P e with
    | some z => match sliceOf env (opd env x) with
      | some els => match bnd env 0 lo, bnd env els.length hi with
        | some (o1, l), some (o2, h) => match opd env x with
          | .al s p => match env.at s p with
            | some (.ow _ _) => some (o1 ∧ o2 ∧ l ≤ h ∧ h ≤ els.length ∧ (∀ e ∈ els, e.length = z), .sub s p l h)
            | some (.sl _) => some (o1 ∧ o2 ∧ l ≤ h ∧ h ≤ els.length ∧ (∀ e ∈ els, e.length = z), .sv (.one (.sl ((els.drop l).take (h - l)))))
            | _ => none
          | .sv (.one (.sl _)) => some (o1 ∧ o2 ∧ l ≤ h ∧ h ≤ els.length ∧ (∀ e ∈ els, e.length = z), .sv (.one (.sl ((els.drop l).take (h - l)))))
          | .sv (.one .nil) => some (o1 ∧ o2 ∧ l ≤ h ∧ h ≤ els.length, .sv (.one (.sl [])))
          | _ => none
        | _, _ => none
      | none => none
    | none => none
  | none => match arrT P t with
    | some (n, e) => match sizeT P e, opd env x, lo, hi with
      | some 1, .pt s p 0 0, none, none => match env.at s p with
        | some (.bx l) => some (l.length = n, .bsl s p n)
        | _ => none
      | _, _, _, _ => none
    | none => none
def placesT (P : Program) (t : TypeId) : Option (List (Nat × Nat)) :=
  match P.underlying t with
  | some (.struct fields) => fields.toList.mapM (fun f => (P.info? f.type).map fun i => (f.offset, i.size))
  | _ => none
def abuild (P : Program) (env : Env) (t : TypeId) (parts : Array (Nat × Operand)) : Option (Prop × AV) :=
  match zeroT P t, partsOf env parts.toList with
  | some zl, some dp => match placesT P t with
    | some pl => match afill (fun i => pl[i]?) zl dp with
      | some l => some (True, .sv (.ag l))
      | none => none
    | none => match arrT P t with
      | some (_, e) => match sizeT P e with
        | some s => match afill (fun i => some (i * s, s)) zl dp with
          | some l => some (True, .sv (.ag l))
          | none => none
        | none => none
      | none => none
  | _, _ => none
def afieldV (P : Program) (env : Env) (t : TypeId) (x : Operand) (f : Nat) : Option (Prop × AV) :=
  match fldT P t f, opd env x with
  | some (off, ft), .sv (.ag l) => match kindT P ft, sizeT P ft with
    | some true, some n => some (off + n ≤ l.length, .sv (.ag ((l.drop off).take n)))
    | some false, some _ => match l[off]? with
      | some d => some (True, .sv (.one d))
      | none => none
    | _, _ => none
  | _, _ => none
def aidx (P : Program) (env : Env) (t : TypeId) (x i : Operand) : Option (Prop × AV) :=
  match opd env i with
  | .sv (.one (.int _ n)) => match opd env x with
    | .sv (.one (.str s)) => if strT P t then match s[n.toNat]? with
        | some b => some (0 ≤ n, .sv (.one (.int .u8 b.toNat)))
        | none => none
      else none
    | .sv (.ag l) => match arrT P t with
      | some (len, e) => match kindT P e, sizeT P e with
        | some false, some 1 => match l[n.toNat]? with
          | some d => some (0 ≤ n ∧ n < len, .sv (.one d))
          | none => none
        | _, _ => none
      | none => none
    | _ => none
  | _ => none
def astrsl (P : Program) (env : Env) (t : TypeId) (x : Operand) (lo hi : Option Operand) : Option (Prop × AV) :=
  match opd env x with
  | .sv (.one (.str s)) => if strT P t then match bnd env 0 lo, bnd env s.size hi with
      | some (o1, l), some (o2, h) => some (o1 ∧ o2 ∧ l ≤ h ∧ h ≤ s.size, .sv (.one (.str (s.extract l h))))
      | _, _ => none
    else none
  | _ => none
def intsOf (env : Env) : List Operand → Option (List Int)
  | [] => some []
  | x :: xs => match opd env x, intsOf env xs with
    | .sv (.one (.int _ n)), some l => some (n :: l)
    | _, _ => none
def aminmax (env : Env) (b : Builtin) (xs : List Operand) : Option (Prop × AV) :=
  match xs with
  | [] => none
  | x :: xs => match opd env x, intsOf env xs with
    | .sv (.one (.int k n)), some l => match b with
      | .min => some (True, .sv (.one (.int k (l.foldl min n))))
      | .max => some (True, .sv (.one (.int k (l.foldl max n))))
      | _ => none
    | _, _ => none
def apure2 (P : Program) (env : Env) (o : Op) : Option (Prop × AV) :=
  match o with
  | .slice t x lo hi none => match astrsl P env t x lo hi with
    | some r => some r
    | none => aslice P env t x lo hi
  | .build t parts => abuild P env t parts
  | .field t x f => afieldV P env t x f
  | .index t x i => aidx P env t x i
  | .call c => match c.callee with
    | .builtin b => aminmax env b c.args.toList
    | _ => none
  | _ => none
section
variable {P : Program} {N B : Nat} {w0 : World} {S0 : Nat → Prop} {env : Env} {a : Act} {w : World} {rows : Nat → List Nat} {next : Act → World → Prop} {Q : Exit → Act → World → Prop}
theorem bnd_ok (h : SimR N B w0 S0 env a w rows) {d : Nat} {x : Option Operand} {ob : Prop} {n : Nat} (he : bnd env d x = some (ob, n)) (hob : ob) :
    (x = none ∧ n = d) ∨ ∃ y k, x = some y ∧ a.eval y = .int k (n : Int) := by
  unfold bnd at he
  split at he
  · simp only [Option.some.injEq, Prod.mk.injEq] at he
    exact .inl ⟨rfl, he.2.symm⟩
  · rename_i y
    have hy := h.opd_ok y
    split at he
    · rename_i k m hopd
      rw [hopd] at hy
      simp only [Option.some.injEq, Prod.mk.injEq] at he
      obtain ⟨rfl, rfl⟩ := he
      refine .inr ⟨y, k, rfl, ?_⟩
      rw [(CzS.one_inv hy).int_inv, Int.toNat_of_nonneg hob]
    · cases he
theorem run_sliceAt {t e : TypeId} {z : Nat} {A : Option Addr} {n c l u : Nat} {lo hi : Option Value} (h : elT P t = some e) (hs : sizeT P e = some z) (hlo : (lo = none ∧ l = 0) ∨ ∃ k, lo = some (.int k (l : Int))) (hhi : (hi = none ∧ u = n) ∨ ∃ k, hi = some (.int k (u : Int))) (h1 : l ≤ u) (h2 : u ≤ c) :
    (Instr.sliceAt t (.slice A n c) lo hi none).run P w = .ok (.slice (if c = l then A else A.map (·.add (l * z))) (u - l) (c - l)) w := by
  unfold elT at h
  split at h
  · rename_i e' hu
    injection h with h
    subst h
    have b1 : ∀ (k : IntKind) (m y : Nat) (code : BoundsCode), m ≤ y → (Instr.sliceBound (.int k (m : Int)) y code).run P w = .ok m w := by
      intro k m y code hm
      have : (0 : Int) ≤ (m : Int) ∧ (m : Int) ≤ (y : Int) := by omega
      simp [Instr.sliceBound, asIntOf, this]
    rcases hlo with ⟨rfl, rfl⟩ | ⟨kl, rfl⟩
    · rcases hhi with ⟨rfl, rfl⟩ | ⟨kh, rfl⟩
      · simp [Instr.sliceAt, Instr.slice, Instr.sliceBounds, run_underlying hu, run_sizeOf hs]
      · simp [Instr.sliceAt, Instr.slice, Instr.sliceBounds, run_underlying hu, run_sizeOf hs, b1 kh u c _ h2]
    · rcases hhi with ⟨rfl, rfl⟩ | ⟨kh, rfl⟩
      · simp [Instr.sliceAt, Instr.slice, Instr.sliceBounds, run_underlying hu, run_sizeOf hs, b1 kl l u _ h1]
      · simp [Instr.sliceAt, Instr.slice, Instr.sliceBounds, run_underlying hu, run_sizeOf hs, b1 kl l u _ h1, b1 kh u c _ h2]
  · cases h
theorem run_sliceAtArr {t e : TypeId} {z n : Nat} {ad : Addr} (h : arrT P t = some (n, e)) (hs : sizeT P e = some z) :
    (Instr.sliceAt t (.pointer (some ad)) none none none).run P w = .ok (.slice (some ad) n n) w := by
  unfold arrT at h
  split at h
  · rename_i n' e' hu
    injection h with h
    injection h with ha hb
    subst ha
    subst hb
    simp [Instr.sliceAt, Instr.sliceBounds, run_underlying hu, run_sizeOf hs, Instr.sureAddr, add_zero]
  · cases h
theorem Cz.sh_cut {S : Nat → Prop} {v : Value} {els : List (List DV)} {r : List Nat} (h : Cz w S v (.sl els) r) {l u z : Nat} (h1 : l ≤ u) (h2 : u ≤ els.length) (hz : ∀ e ∈ els, e.length = z) :
    ∃ A c, v = .slice A els.length c ∧ els.length ≤ c ∧ Cz w S (.slice (if c = l then A else A.map (·.add (l * z))) (u - l) (c - l)) (.sl ((els.drop l).take (u - l))) [] := by
  by_cases hul : u - l = 0
  · obtain ⟨A, c, hv, hc, _⟩ := h.slice_len rfl
    refine ⟨A, c, hv, hc, ?_⟩
    rw [hul, List.take_zero]
    exact .shNil _ _
  · cases h with
    | shNil => simp at h2; omega
    | sh ad n c z0 els vs hS hn hc hm hz0 hcell hl =>
      subst hn
      refine ⟨some ad, c, rfl, hc, ?_⟩
      rw [if_neg (by omega)]
      have hcz := hl.nil_split (l * z) ((u - l) * z)
      rw [flatten_drop l hz, flatten_take (u - l) (fun e he => hz e (List.mem_of_mem_drop he))] at hcz
      refine .sh _ _ _ z _ _ (by rw [block_of_add]; exact hS) (by rw [List.length_take, List.length_drop]; omega) (by omega) (by omega) (fun e he => hz e (List.mem_of_mem_drop (List.mem_of_mem_take he))) ?_ hcz
      intro j u' hu'
      rw [List.getElem?_take] at hu'
      split at hu'
      · rw [List.getElem?_drop] at hu'
        rw [add_of_add]
        exact hcell _ _ hu'
      · cases hu'
theorem aslice_ok (h : SimR N B w0 S0 env a w rows) {o : Oper} {t : TypeId} {x : Operand} {lo hi : Option Operand} (ho : o.op = .slice t x lo hi none) {ob : Prop} {av : AV} (he : aslice P env t x lo hi = some (ob, av)) (hob : ob) :
    ∃ v, Yields P o a w v ∧ AVR w (SS B S0 w rows) env (Act.f a) av v [] := by
  have hx := h.opd_ok x
  unfold aslice at he
  split at he
  · rename_i e helT
    split at he
    · rename_i z hs
      split at he
      · rename_i els hsl
        split at he
        · rename_i o1 l o2 u hb1 hb2
          have hY : ∀ A n c, a.eval x = .slice A n c → o1 → o2 → n = els.length → l ≤ u → u ≤ n → n ≤ c → Yields P o a w (.slice (if c = l then A else A.map (·.add (l * z))) (u - l) (c - l)) := by
            intro A n c hv p1 p2 hn h1 h2 h3 w' hw'
            have e1 : (lo.map a.eval = none ∧ l = 0) ∨ ∃ k, lo.map a.eval = some (.int k (l : Int)) := by
              rcases bnd_ok h hb1 p1 with ⟨rfl, rfl⟩ | ⟨y, k, rfl, hy⟩
              · exact .inl ⟨rfl, rfl⟩
              · exact .inr ⟨k, by simp [hy]⟩
            have e2 : (hi.map a.eval = none ∧ u = n) ∨ ∃ k, hi.map a.eval = some (.int k (u : Int)) := by
              rcases bnd_ok h hb2 p2 with ⟨rfl, rfl⟩ | ⟨y, k, rfl, hy⟩
              · exact .inl ⟨rfl, hn.symm⟩
              · exact .inr ⟨k, by simp [hy]⟩
            simp only [execOp, ho, hv]
            exact run_value (run_sliceAt helT hs e1 e2 h1 (by omega))
          split at he
          · rename_i s p hopd
            rw [hopd] at hx hsl
            obtain ⟨_, x0, y0, hroot, hcat⟩ := hx
            split at he
            · rename_i z' els' hat
              simp only [Option.some.injEq, Prod.mk.injEq] at he
              obtain ⟨rfl, rfl⟩ := he
              obtain ⟨p1, p2, h1, h2, hz⟩ := hob
              obtain ⟨rfl, r, hcz, _⟩ := h.place hroot hcat hat
              simp only [sliceOf, hat, DV.elsOf, Option.some.injEq] at hsl
              subst hsl
              obtain ⟨A, c, hv, hc, _⟩ := hcz.slice_len rfl
              refine ⟨_, hY A _ c hv p1 p2 rfl h1 h2 hc, rfl, x0, _, A, _, c, els', hroot, by rw [hcat, hv], rfl, rfl, h1, h2, hc, z, hz, rfl⟩
            · rename_i els' hat
              simp only [Option.some.injEq, Prod.mk.injEq] at he
              obtain ⟨rfl, rfl⟩ := he
              obtain ⟨p1, p2, h1, h2, hz⟩ := hob
              obtain ⟨rfl, r, hcz, _⟩ := h.place hroot hcat hat
              simp only [sliceOf, hat, DV.elsOf, Option.some.injEq] at hsl
              subst hsl
              obtain ⟨A, c, hv, hc, hcut⟩ := hcz.sh_cut h1 h2 hz
              exact ⟨_, hY A _ c hv p1 p2 rfl h1 h2 hc, .one _ _ _ hcut⟩
            · cases he
          · rename_i els' hopd
            rw [hopd] at hx hsl
            simp only [sliceOf, DV.elsOf, Option.some.injEq] at hsl
            subst hsl
            simp only [Option.some.injEq, Prod.mk.injEq] at he
            obtain ⟨rfl, rfl⟩ := he
            obtain ⟨p1, p2, h1, h2, hz⟩ := hob
            obtain ⟨A, c, hv, hc, hcut⟩ := (CzS.one_inv hx).sh_cut h1 h2 hz
            exact ⟨_, hY A _ c hv p1 p2 rfl h1 h2 hc, .one _ _ _ hcut⟩
          · rename_i hopd
            rw [hopd] at hx hsl
            simp only [sliceOf, DV.elsOf, Option.some.injEq] at hsl
            subst hsl
            simp only [Option.some.injEq, Prod.mk.injEq] at he
            obtain ⟨rfl, rfl⟩ := he
            obtain ⟨p1, p2, h1, h2⟩ := hob
            obtain ⟨A, c, hv, hc, _⟩ := (CzS.one_inv hx).slice_len rfl
            refine ⟨_, hY A _ c hv p1 p2 rfl h1 h2 hc, .one _ _ _ ?_⟩
            have : u - l = 0 := by simp at h2; omega
            rw [this]
            exact .shNil _ _
          · cases he
        · cases he
      · cases he
    · cases he
  · split at he
    · rename_i n e harr
      split at he
      · rename_i s p hs hopd
        rw [hopd] at hx
        obtain ⟨_, x0, u, y0, el, ad, hroot, hcat, hel, had, hv⟩ := hx
        split at he
        · rename_i l hat
          simp only [Option.some.injEq, Prod.mk.injEq] at he
          obtain ⟨rfl, rfl⟩ := he
          obtain ⟨rfl, r, hcz, _⟩ := h.place hroot hcat hat
          simp only [DV.elAt, if_true, Option.some.injEq] at hel
          subst hel
          rw [Nat.zero_mul, Nat.add_zero, add_zero] at hv
          refine ⟨.slice (some ad) n n, fun w' _ => ?_, rfl, x0, u, _, l, ad, hroot, hcat, rfl, had, hob, rfl⟩
          simp only [execOp, ho, hv, Option.map_none]
          exact run_value (run_sliceAtArr harr hs)
        · cases he
      · cases he
    · cases he
theorem abuild_ok (h : SimR N B w0 S0 env a w rows) {o : Oper} {t : TypeId} {parts : Array (Nat × Operand)} (ho : o.op = .build t parts) {ob : Prop} {av : AV} (he : abuild P env t parts = some (ob, av)) :
    ∃ v, Yields P o a w v ∧ AVR w (SS B S0 w rows) env (Act.f a) av v [] := by
  unfold abuild at he
  split at he
  · rename_i zl dp hz hdp
    have hpr := h.parts_ok parts.toList dp hdp
    unfold zeroT at hz
    split at hz
    · rename_i i hi
      split at hz
      · rename_i zv hzv
        split at hz
        · have hcz := zerosDV_ok (w := w) (S := SS B S0 w rows) hz
          have fin : ∀ place l, afill place zl dp = some l → (∀ cells, Instr.fill place zv.cells (parts.toList.map fun x => (x.1, a.eval x.2)) = some cells → P.built t ((parts.map fun x => (x.1, a.eval x.2)).toList) = some cells) →
              ∃ v, Yields P o a w v ∧ AVR w (SS B S0 w rows) env (Act.f a) (.sv (.ag l)) v [] := by
            intro place l hl hb
            obtain ⟨cells', g1, g2⟩ := fill_ok place _ dp zv.cells zl l hcz hpr hl
            refine ⟨.agg cells', fun w' _ => ?_, .ag _ _ _ g2⟩
            simp only [execOp, ho]
            exact run_value (run_build w' t _ cells' (hb cells' g1))
          split at he
          · rename_i pl hpl
            unfold placesT at hpl
            split at hpl
            · rename_i fields hu
              split at he
              · rename_i l hl
                simp only [Option.some.injEq, Prod.mk.injEq] at he
                obtain ⟨rfl, rfl⟩ := he
                refine fin _ l hl (fun cells hc => ?_)
                have hf : (fun x : Nat => pl.toArray[x]?) = (fun i : Nat => pl[i]?) := by funext x; simp
                simp only [Program.built, hi, hu, hzv, hpl, Array.toList_map]
                rw [hf]
                exact hc
              · cases he
            · cases hpl
          · split at he
            · rename_i n e harr
              unfold arrT at harr
              split at harr
              · rename_i n' e' hu
                injection harr with harr
                injection harr with ha hb
                subst ha
                subst hb
                split at he
                · rename_i s hs
                  split at he
                  · rename_i l hl
                    simp only [Option.some.injEq, Prod.mk.injEq] at he
                    obtain ⟨rfl, rfl⟩ := he
                    refine fin _ l hl (fun cells hc => ?_)
                    cases hie : P.info? e' with
                    | none => simp [sizeT, hie] at hs
                    | some ie =>
                      have hsz : ie.size = s := by simpa [sizeT, hie] using hs
                      simp only [Program.built, hi, hu, hzv, hie, Array.toList_map, hsz]
                      exact hc
                  · cases he
                · cases he
              · cases harr
            · cases he
        · cases hz
      · cases hz
    · cases hz
  · cases he
theorem afieldV_ok (h : SimR N B w0 S0 env a w rows) {o : Oper} {t : TypeId} {x : Operand} {f : Nat} (ho : o.op = .field t x f) {ob : Prop} {av : AV} (he : afieldV P env t x f = some (ob, av)) (hob : ob) :
    ∃ v, Yields P o a w v ∧ AVR w (SS B S0 w rows) env (Act.f a) av v [] := by
  have hx := h.opd_ok x
  unfold afieldV at he
  split at he
  · rename_i off ft l hfd hopd
    rw [hopd] at hx
    generalize hv : a.eval x = vx at *
    generalize hr : ([] : List Nat) = r at hx
    cases hx with
    | ag vs l r hl =>
      subst hr
      unfold fldT at hfd
      split at hfd
      · rename_i fs hu
        cases hf : fs[f]? with
        | none => simp [hf] at hfd
        | some fd =>
          simp [hf] at hfd
          obtain ⟨rfl, rfl⟩ := hfd
          split at he
          · rename_i n hk hs
            simp only [Option.some.injEq, Prod.mk.injEq] at he
            obtain ⟨rfl, rfl⟩ := he
            refine ⟨.agg (vs.extract fd.offset (fd.offset + n)), fun w' _ => ?_, .ag _ _ _ ?_⟩
            · simp only [execOp, ho, hv]
              refine run_value ?_
              simp [Instr.field, run_underlying hu, hf, asAgg, part, run_isAgg hk, run_sizeOf hs]
            · have := hl.nil_split fd.offset n
              rw [Array.toList_extract, List.extract_eq_take_drop]
              simpa using this
          · rename_i n hk hs
            split at he
            · rename_i d hd
              simp only [Option.some.injEq, Prod.mk.injEq] at he
              obtain ⟨rfl, rfl⟩ := he
              obtain ⟨c, r, hc, hcz, hr⟩ := hl.get hd
              have e0 : r = [] := List.eq_nil_iff_forall_not_mem.2 fun b hb => by simpa using hr b hb
              subst e0
              have hc' : vs[fd.offset]? = some c := by simpa using hc
              refine ⟨c, fun w' _ => ?_, .one _ _ _ hcz⟩
              simp only [execOp, ho, hv]
              refine run_value ?_
              simp [Instr.field, run_underlying hu, hf, asAgg, part, run_isAgg hk, hc']
            · cases he
          · cases he
      · cases hfd
  · cases he
theorem strT_some {t : TypeId} (h : strT P t = true) : P.underlying t = some .string := by
  unfold strT at h
  split at h
  · assumption
  · cases h
theorem aidx_ok (h : SimR N B w0 S0 env a w rows) {o : Oper} {t : TypeId} {x i : Operand} (ho : o.op = .index t x i) {ob : Prop} {av : AV} (he : aidx P env t x i = some (ob, av)) (hob : ob) :
    ∃ v, Yields P o a w v ∧ AVR w (SS B S0 w rows) env (Act.f a) av v [] := by
  have hx := h.opd_ok x
  have hi := h.opd_ok i
  unfold aidx at he
  split at he
  · rename_i k n hopi
    rw [hopi] at hi
    have ei := (CzS.one_inv hi).int_inv
    split at he
    · rename_i s hopx
      rw [hopx] at hx
      have ex := (CzS.one_inv hx).str_inv
      split at he
      · rename_i hst
        split at he
        · rename_i b hb
          simp only [Option.some.injEq, Prod.mk.injEq] at he
          obtain ⟨rfl, rfl⟩ := he
          refine ⟨.int .u8 b.toNat, fun w' _ => ?_, .one _ _ _ (.int _ _)⟩
          simp only [execOp, ho, ex, ei]
          refine run_value ?_
          simp [Instr.index, asIntOf, run_underlying (strT_some hst), hob, hb]
        · cases he
      · cases he
    · rename_i l hopx
      rw [hopx] at hx
      split at he
      · rename_i len e harr
        unfold arrT at harr
        split at harr
        · rename_i n' e' hu
          injection harr with harr
          injection harr with ha hb
          subst ha
          subst hb
          split at he
          · rename_i hk hs
            split at he
            · rename_i d hd
              simp only [Option.some.injEq, Prod.mk.injEq] at he
              obtain ⟨rfl, rfl⟩ := he
              generalize hv : a.eval x = vx at *
              generalize hr : ([] : List Nat) = r at hx
              cases hx with
              | ag vs l r hl =>
                subst hr
                obtain ⟨c, r, hc, hcz, hr⟩ := hl.get hd
                have e0 : r = [] := List.eq_nil_iff_forall_not_mem.2 fun b hb => by simpa using hr b hb
                subst e0
                have hc' : vs[n.toNat]? = some c := by simpa using hc
                refine ⟨c, fun w' _ => ?_, .one _ _ _ hcz⟩
                simp only [execOp, ho, hv, ei]
                refine run_value ?_
                simp [Instr.index, asIntOf, run_underlying hu, hob.1, hob.2, run_sizeOf hs, part, run_isAgg hk, hc']
            · cases he
          · cases he
        · cases harr
      · cases he
    · cases he
  · cases he
theorem astrsl_ok (h : SimR N B w0 S0 env a w rows) {o : Oper} {t : TypeId} {x : Operand} {lo hi : Option Operand} (ho : o.op = .slice t x lo hi none) {ob : Prop} {av : AV} (he : astrsl P env t x lo hi = some (ob, av)) (hob : ob) :
    ∃ v, Yields P o a w v ∧ AVR w (SS B S0 w rows) env (Act.f a) av v [] := by
  have hx := h.opd_ok x
  unfold astrsl at he
  split at he
  · rename_i s hopx
    rw [hopx] at hx
    have ex := (CzS.one_inv hx).str_inv
    split at he
    · rename_i hst
      split at he
      · rename_i o1 l o2 u hlo hhi
        simp only [Option.some.injEq, Prod.mk.injEq] at he
        obtain ⟨rfl, rfl⟩ := he
        obtain ⟨h1, h2, h3, h4⟩ := hob
        have b1 : ∀ (w' : World) (k : IntKind) (m y : Nat) (code : BoundsCode), m ≤ y → (Instr.sliceBound (.int k (m : Int)) y code).run P w' = .ok m w' := by
          intro w' k m y code hm
          have : (0 : Int) ≤ (m : Int) ∧ (m : Int) ≤ (y : Int) := by omega
          simp [Instr.sliceBound, asIntOf, this]
        refine ⟨.string (s.extract l u), fun w' _ => ?_, .one _ _ _ (.str _)⟩
        rcases bnd_ok h hlo h1 with ⟨rfl, rfl⟩ | ⟨y, k, rfl, ey⟩
        · rcases bnd_ok h hhi h2 with ⟨rfl, rfl⟩ | ⟨y', k', rfl, ey'⟩
          · simp only [execOp, ho, ex, Option.map_none, Option.map_some]
            refine run_value ?_
            simp [Instr.sliceAt, Instr.slice, Instr.sliceBounds, run_underlying (strT_some hst)]
          · simp only [execOp, ho, ex, ey', Option.map_none, Option.map_some]
            refine run_value ?_
            simp [Instr.sliceAt, Instr.slice, Instr.sliceBounds, run_underlying (strT_some hst), b1 _ _ _ _ _ h4]
        · rcases bnd_ok h hhi h2 with ⟨rfl, rfl⟩ | ⟨y', k', rfl, ey'⟩
          · simp only [execOp, ho, ex, ey, Option.map_none, Option.map_some]
            refine run_value ?_
            simp [Instr.sliceAt, Instr.slice, Instr.sliceBounds, run_underlying (strT_some hst), b1 _ _ _ _ _ h3]
          · simp only [execOp, ho, ex, ey, ey', Option.map_none, Option.map_some]
            refine run_value ?_
            simp [Instr.sliceAt, Instr.slice, Instr.sliceBounds, run_underlying (strT_some hst), b1 _ _ _ _ _ h3, b1 _ _ _ _ _ h4]
      · cases he
    · cases he
  · cases he
theorem intsOf_ok (h : SimR N B w0 S0 env a w rows) : ∀ (xs : List Operand) (l : List Int), intsOf env xs = some l → ∃ ks : List IntKind, ks.length = l.length ∧ xs.map a.eval = (ks.zip l).map fun p => Value.int p.1 p.2
  | [], l, he => by
    simp only [intsOf, Option.some.injEq] at he
    subst he
    exact ⟨[], rfl, rfl⟩
  | x :: xs, l, he => by
    simp only [intsOf] at he
    split at he
    · rename_i k n l' hx hl
      simp only [Option.some.injEq] at he
      subst he
      have hv := h.opd_ok x
      rw [hx] at hv
      have ev := (CzS.one_inv hv).int_inv
      obtain ⟨ks, h1, h2⟩ := intsOf_ok h xs l' hl
      exact ⟨k :: ks, by simp [h1], by simp [ev, h2]⟩
    · cases he
theorem run_mins (w : World) (k : IntKind) : ∀ (l : List Int) (ks : List IntKind) (n : Int), ks.length = l.length → (((ks.zip l).map fun p => Value.int p.1 p.2).foldlM Builtin.min2 (Value.int k n)).run P w = .ok (.int k (l.foldl min n)) w
  | [], [], n, _ => by simp
  | m :: l, k' :: ks, n, hl => by
    have hm : (if m < n then m else n) = min n m := by
      rw [Int.min_def]
      split <;> split <;> omega
    simp only [List.zip_cons_cons, List.map_cons, List.foldlM_cons, List.foldl_cons, Builtin.min2, Sem.run_bind, Sem.run_pure, Result.andThen_ok, hm]
    exact run_mins w k l ks _ (by simpa using hl)
  | _ :: _, [], _, hl => by simp at hl
  | [], _ :: _, _, hl => by simp at hl
theorem run_maxs (w : World) (k : IntKind) : ∀ (l : List Int) (ks : List IntKind) (n : Int), ks.length = l.length → (((ks.zip l).map fun p => Value.int p.1 p.2).foldlM Builtin.max2 (Value.int k n)).run P w = .ok (.int k (l.foldl max n)) w
  | [], [], n, _ => by simp
  | m :: l, k' :: ks, n, hl => by
    have hm : (if m > n then m else n) = max n m := by
      rw [Int.max_def]
      split <;> split <;> omega
    simp only [List.zip_cons_cons, List.map_cons, List.foldlM_cons, List.foldl_cons, Builtin.max2, Sem.run_bind, Sem.run_pure, Result.andThen_ok, hm]
    exact run_maxs w k l ks _ (by simpa using hl)
  | _ :: _, [], _, hl => by simp at hl
  | [], _ :: _, _, hl => by simp at hl
theorem aminmax_ok (h : SimR N B w0 S0 env a w rows) {o : Oper} {c : Call} (ho : o.op = .call c) {b : Builtin} (hb : c.callee = .builtin b) {ob : Prop} {av : AV} (he : aminmax env b c.args.toList = some (ob, av)) :
    ∃ v, Yields P o a w v ∧ AVR w (SS B S0 w rows) env (Act.f a) av v [] := by
  unfold aminmax at he
  split at he
  · cases he
  · rename_i x xs hargs
    split at he
    · rename_i k n l hopx hl
      have hx := h.opd_ok x
      rw [hopx] at hx
      have ex := (CzS.one_inv hx).int_inv
      obtain ⟨ks, h1, h2⟩ := intsOf_ok h xs l hl
      have hmap : c.args.toList.map a.eval = Value.int k n :: (ks.zip l).map fun p => Value.int p.1 p.2 := by
        rw [hargs, List.map_cons, ex, h2]
      split at he
      · simp only [Option.some.injEq, Prod.mk.injEq] at he
        obtain ⟨rfl, rfl⟩ := he
        refine ⟨_, fun w' _ => ?_, .one _ _ _ (.int _ _)⟩
        simp only [execOp, ho, resolve, hb]
        simp [invoke, builtin, Builtin.min_, hmap, run_mins w' k l ks n h1]
      · simp only [Option.some.injEq, Prod.mk.injEq] at he
        obtain ⟨rfl, rfl⟩ := he
        refine ⟨_, fun w' _ => ?_, .one _ _ _ (.int _ _)⟩
        simp only [execOp, ho, resolve, hb]
        simp [invoke, builtin, Builtin.max_, hmap, run_maxs w' k l ks n h1]
      · cases he
    · cases he
theorem apure2_ok (h : SimR N B w0 S0 env a w rows) {o : Oper} {ob : Prop} {av : AV} (he : apure2 P env o.op = some (ob, av)) (hob : ob) :
    ∃ v, Yields P o a w v ∧ AVR w (SS B S0 w rows) env (Act.f a) av v [] := by
  unfold apure2 at he
  split at he
  · rename_i t x lo hi ho
    split at he
    · rename_i r hr
      injection he with he
      subst he
      exact astrsl_ok h ho hr hob
    · exact aslice_ok h ho he hob
  · rename_i t parts ho
    exact abuild_ok h ho he
  · rename_i t x f ho
    exact afieldV_ok h ho he hob
  · rename_i t x i ho
    exact aidx_ok h ho he hob
  · rename_i c ho
    split at he
    · rename_i b hb
      exact aminmax_ok h ho hb he
    · cases he
  · cases he
end
end Go.Av
namespace Go.Av
open Go Go.RowKit
inductive RV where
  | one (x : SV)
  | tup (l : List SV)
def RV.av : RV → AV
  | .one x => .sv x
  | .tup l => .tup l
inductive CzR (w : World) (S : Nat → Prop) : Value → RV → List Nat → Prop
  | one (v : Value) (x : SV) (r : List Nat) (h : CzS w S v x r) : CzR w S v (.one x) r
  | tup (vs : Array Value) (l : List SV) (r : List Nat) (h : CzSL w S vs.toList l r) : CzR w S (.tuple vs) (.tup l) r
structure Impl (P : Program) (f : FuncId) (args : List SV) (r : RV) : Prop where
  body : ∃ fn, P.funcs[f]? = some fn ∧ fn.body.isSome = true ∧ fn.name ≠ "runtime.NumGoroutine"
  call : ∀ (w : World) (S : Nat → Prop) (vs : List Value), (∀ b, S b → b < w.heap.size) → CzSL w S vs args [] →
    Calls P f vs.toArray w fun e w' => ∃ v rs, e = .returned v ∧ Below w.heap.size w w' ∧ (∀ b ∈ rs, w.heap.size ≤ b ∧ b < w'.heap.size) ∧ rs.Nodup ∧
      CzR w' (fun b => S b ∨ (w.heap.size ≤ b ∧ b < w'.heap.size ∧ b ∉ rs)) v r rs
structure ImplC (P : Program) (f : FuncId) (x : DV) (args : List SV) (y : DV) : Prop where
  body : ∃ fn, P.funcs[f]? = some fn ∧ fn.body.isSome = true ∧ fn.name ≠ "runtime.NumGoroutine"
  call : ∀ (w : World) (S : Nat → Prop) (v0 : Value) (vs : List Value) (r0 : List Nat) (B : Nat), (∀ b, S b → b < w.heap.size) → (∀ b ∈ r0, B ≤ b ∧ b < w.heap.size ∧ ¬ S b) → r0.Nodup → B ≤ w.heap.size → Cz w S v0 x r0 → CzSL w S vs args [] →
    Calls P f (v0 :: vs).toArray w fun e w' => ∃ v rs, e = .returned v ∧ Below B w w' ∧ (∀ b, b < w.heap.size → b ∉ r0 → w'.heap[b]? = w.heap[b]?) ∧ (∀ b ∈ rs, (b ∈ r0 ∨ w.heap.size ≤ b) ∧ b < w'.heap.size) ∧ rs.Nodup ∧ Cz w' S v y rs
def SV.Closed : SV → Prop
  | .one x => Av.Closed x
  | .ag l => ∀ d ∈ l, Av.Closed d
def RV.Closed : RV → Prop
  | .one x => x.Closed
  | .tup l => ∀ x ∈ l, x.Closed
theorem CzS.closed {w : World} {S S' : Nat → Prop} {v : Value} {x : SV} {r : List Nat} (h : CzS w S v x r) (hc : x.Closed) : CzS w S' v x r := by
  cases h with
  | one v x r h => exact .one _ _ _ (h.closed hc)
  | ag vs l r h => exact .ag _ _ _ (h.closed hc)
theorem CzSL.closed {w : World} {S S' : Nat → Prop} {vs : List Value} {l : List SV} {r : List Nat} (h : CzSL w S vs l r) (hc : ∀ x ∈ l, x.Closed) : CzSL w S' vs l r := by
  induction h with
  | nil => exact .nil
  | cons v x r vs xs rs h _ ih => exact .cons _ _ _ _ _ _ (h.closed (hc x (by simp))) (ih (fun x hx => hc x (by simp [hx])))
theorem CzR.closed {w : World} {S S' : Nat → Prop} {v : Value} {x : RV} {r : List Nat} (h : CzR w S v x r) (hc : x.Closed) : CzR w S' v x r := by
  cases h with
  | one v x r h => exact .one _ _ _ (h.closed hc)
  | tup vs l r h => exact .tup _ _ _ (h.closed hc)
def argOf (env : Env) : AV → Option SV
  | .sv (.one .nil) => some (.one (.sl []))
  | .sv x => some x
  | .al s p => match env.at s p with
    | some y => some (.one y.frz)
    | none => none
  | .sub s p lo hi => match env.at s p with
    | some (.ow _ els) => some (.one (.sl (((frzLL els).drop lo).take (hi - lo))))
    | _ => none
  | .bsl s p n => match env.at s p with
    | some (.bx l) => if n ≤ 1000000 then some (.one (.sl ((frzL l).map fun x => [x]))) else none
    | _ => none
  | _ => none
def AV.owned (env : Env) : AV → Bool
  | .al s p => match env.at s p with
    | some (.sl _) => false
    | _ => true
  | .sub _ _ _ _ => true
  | .bsl _ _ _ => true
  | _ => false
def argsOf (env : Env) : List Operand → Option (List SV)
  | [] => some []
  | x :: xs => match argOf env (opd env x), argsOf env xs with
    | some y, some ys => some (y :: ys)
    | _, _ => none
section
variable {P : Program} {N B : Nat} {w0 : World} {S0 : Nat → Prop} {env : Env} {a : Act} {w : World} {rows : Nat → List Nat} {next : Act → World → Prop} {Q : Exit → Act → World → Prop}
theorem SimR.arg_ok (h : SimR N B w0 S0 env a w rows) {x : Operand} {y : SV} (he : argOf env (opd env x) = some y) {S' : Nat → Prop} (hS : ∀ b, SS B S0 w rows b → S' b) (ho : (opd env x).owned env = true → ∀ t, ∀ b ∈ rows t, S' b) : CzS w S' (a.eval x) y [] := by
  have hx := h.opd_ok x
  generalize opd env x = av at *
  generalize a.eval x = v0 at *
  unfold argOf at he
  split at he
  · injection he with he
    subst he
    have hx := CzS.one_inv hx
    generalize hr : ([] : List Nat) = r at hx
    cases hx
    exact .one _ _ _ (.shNil _ _)
  · injection he with he
    subst he
    exact CzS.keep (fun b hb => ⟨hS b hb, rfl⟩) hx (fun _ _ => rfl)
  · rename_i s p
    obtain ⟨_, x0, y0, hroot, hcat⟩ := hx
    split at he
    · rename_i y1 hat
      injection he with he
      subst he
      obtain ⟨rfl, r, hcz, hr⟩ := h.place hroot hcat hat
      refine .one _ _ _ (hcz.freeze hS fun b hb => ?_)
      cases hown : (AV.al s p).owned env with
      | true => exact ho hown s b (hr b hb)
      | false =>
        unfold AV.owned at hown
        simp only [hat] at hown
        split at hown
        · rename_i heq
          injection heq with heq
          subst heq
          cases hcz <;> cases hb
        · cases hown
    · cases he
  · rename_i s p lo hi
    obtain ⟨_, x0, y0, A, n, c, els0, hroot, hcat, hels, hn, h3, h4, h5, z0, hz0, hv⟩ := hx
    split at he
    · rename_i z els hat
      injection he with he
      subst he
      obtain ⟨rfl, r, hcz, hr⟩ := h.place hroot hcat hat
      simp only [DV.elsOf, Option.some.injEq] at hels
      subst hels
      have hf := hcz.freeze hS (fun b hb => ho rfl s b (hr b hb))
      simp only [DV.frz] at hf
      obtain ⟨A', c', hv', _, hcut⟩ := hf.sh_cut (l := lo) (u := hi) (z := z0) h3 (by rw [frzLL_length]; omega) (frzLL_all _ hz0)
      injection hv' with e1 e2 e3
      subst e1
      subst e3
      rw [hv]
      exact .one _ _ _ hcut
    · cases he
  · rename_i s p n
    obtain ⟨_, x0, u, y0, el, ad, hroot, hcat, hel, had, hlen, hv⟩ := hx
    split at he
    · rename_i l hat
      split at he
      · rename_i hn
        injection he with he
        subst he
        obtain ⟨rfl, r, hcz, hr⟩ := h.place hroot hcat hat
        have hf := hcz.freeze hS (fun b hb => ho rfl s b (hr b hb))
        simp only [DV.frz] at hf
        simp only [DV.elAt, if_true, Option.some.injEq] at hel
        subst hel
        rw [hv]
        generalize hnil : ([] : List Nat) = rr at hf
        cases hf with
        | rf ad' _ vs h1 h2 h3 =>
          simp only [rowBase, Option.some.injEq] at had
          subst had
          refine .one _ _ _ (.sh _ n n 1 _ vs h1 (by simp [frzL_length, hlen]) (Nat.le_refl _) (by unfold maxLen; omega) (by simp) h2 ?_)
          have : ((frzL l).map fun x => [x]).flatten = frzL l := by
            induction frzL l with
            | nil => rfl
            | cons x l ih => simp [ih]
          rw [this]
          exact h3
      · cases he
    · cases he
  · cases he
theorem SimR.args_ok (h : SimR N B w0 S0 env a w rows) {S' : Nat → Prop} (hS : ∀ b, SS B S0 w rows b → S' b) : ∀ (xs : List Operand) (ys : List SV), argsOf env xs = some ys → (∀ x ∈ xs, (opd env x).owned env = true → ∀ t, ∀ b ∈ rows t, S' b) → CzSL w S' (xs.map a.eval) ys []
  | [], ys, he, _ => by
    simp only [argsOf, Option.some.injEq] at he
    subst he
    exact .nil
  | x :: xs, ys, he, ho => by
    simp only [argsOf] at he
    split at he
    · rename_i y ys' h1 h2
      injection he with he
      subst he
      have := CzSL.cons _ _ _ _ _ _ (h.arg_ok h1 hS (ho x (by simp))) (h.args_ok hS xs ys' h2 (fun x hx => ho x (by simp [hx])))
      simpa using this
    · cases he
def acall (env : Env) (o : Op) : Option (FuncId × List SV × Bool) :=
  match o with
  | .call c => match c.callee with
    | .value (.func f) => match argsOf env c.args.toList with
      | some ys => some (f, ys, c.args.toList.any fun x => (opd env x).owned env)
      | none => none
    | _ => none
  | _ => none
def acallC (env : Env) (o : Op) : Option (FuncId × Nat × DV × List SV) :=
  match o with
  | .call c => match c.callee, c.args.toList with
    | .value (.func f), x :: xs => match opd env x, argsOf env xs with
      | .al s [], some ys => match env.root s with
        | some y => if xs.any fun x => (opd env x).owned env then none else some (f, s, y, ys)
        | none => none
      | _, _ => none
    | _, _ => none
  | _ => none
theorem acall_run {o : Oper} {f : FuncId} {ys : List SV} {b : Bool} (he : acall env o.op = some (f, ys, b)) (hf : ∃ fn, P.funcs[f]? = some fn ∧ fn.body.isSome = true ∧ fn.name ≠ "runtime.NumGoroutine") :
    ∃ xs : List Operand, argsOf env xs = some ys ∧ b = xs.any (fun x => (opd env x).owned env) ∧ ∀ (a : Act) (w : World), (execOp a.eval o).run P w = .ok (.enter f (xs.map a.eval).toArray) w := by
  unfold acall at he
  split at he
  · rename_i c ho
    split at he
    · rename_i f' hcal
      split at he
      · rename_i ys' hys
        simp only [Option.some.injEq, Prod.mk.injEq] at he
        obtain ⟨rfl, rfl, rfl⟩ := he
        obtain ⟨fn, h1, h2, h3⟩ := hf
        refine ⟨c.args.toList, hys, rfl, fun a w => ?_⟩
        have hb : fn.body ≠ none := by intro hbb; simp [hbb] at h2
        have hmap : (c.args.toList.map a.eval).toArray = c.args.map a.eval := by
          rw [← Array.toList_map, Array.toArray_toList]
        rw [hmap]
        simp [execOp, ho, resolve, hcal, Act.eval, Deferred.ofValue, invoke, callFunc, run_program, h1, hb, h3]
      · cases he
    · cases he
  · cases he
theorem acallC_run {o : Oper} {f : FuncId} {s : Nat} {y : DV} {ys : List SV} (he : acallC env o.op = some (f, s, y, ys)) (hf : ∃ fn, P.funcs[f]? = some fn ∧ fn.body.isSome = true ∧ fn.name ≠ "runtime.NumGoroutine") :
    ∃ (x : Operand) (xs : List Operand), opd env x = .al s [] ∧ env.root s = some y ∧ argsOf env xs = some ys ∧ xs.any (fun x => (opd env x).owned env) = false ∧ ∀ (a : Act) (w : World), (execOp a.eval o).run P w = .ok (.enter f (a.eval x :: xs.map a.eval).toArray) w := by
  unfold acallC at he
  split at he
  · rename_i c ho
    split at he
    · rename_i f' x xs hcal hargs
      split at he
      · rename_i s' ys' hx hys
        split at he
        · rename_i y' hy
          split at he
          · cases he
          · rename_i hown
            simp only [Option.some.injEq, Prod.mk.injEq] at he
            obtain ⟨rfl, rfl, rfl, rfl⟩ := he
            obtain ⟨fn, h1, h2, h3⟩ := hf
            refine ⟨x, xs, hx, hy, hys, by simpa using hown, fun a w => ?_⟩
            have hb : fn.body ≠ none := by intro hbb; simp [hbb] at h2
            have hmap : (a.eval x :: xs.map a.eval).toArray = c.args.map a.eval := by
              rw [← List.map_cons, ← hargs, ← Array.toList_map, Array.toArray_toList]
            rw [hmap]
            simp [execOp, ho, resolve, hcal, Act.eval, Deferred.ofValue, invoke, callFunc, run_program, h1, hb, h3]
        · cases he
      · cases he
    · cases he
  · cases he
end
end Go.Av

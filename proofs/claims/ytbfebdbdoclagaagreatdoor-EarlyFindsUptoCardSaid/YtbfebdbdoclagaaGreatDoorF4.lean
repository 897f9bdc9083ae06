/- Part of a proof. -/
import Derived.Test.YtbfebdbdoclagaaGreatDoorF3
import Derived.MapKept
import Derived.WideKeyRuns
set_option linter.unusedVariables false
set_option linter.unusedSimpArgs false
set_option maxHeartbeats 64000000
namespace Go.Av
open Go Go.RowKit
mutual
def DV.frz : DV -> DV
 | .ow _ els => .sl (frzLL els)
 | .bx l => .rf (frzL l)
 | .nil => .nil
 | .int k n => .int k n
 | .bool b => .bool b
 | .str s => .str s
 | .raw v => .raw v
 | .sl els => .sl els
 | .rf l => .rf l
 | .dead => .dead
 | .fn f caps => .fn f caps
 | .mp _ => .dead
def frzL : List DV -> List DV
 | [] => []
 | x :: xs => x.frz :: frzL xs
def frzLL : List (List DV) -> List (List DV)
 | [] => []
 | x :: xs => frzL x :: frzLL xs
end
theorem frzL_length : ∀ (l : List DV), (frzL l).length = l.length
 | [] => rfl
 | x :: xs => by simp [frzL, frzL_length xs]
theorem frzLL_length : ∀ (l : List (List DV)), (frzLL l).length = l.length
 | [] => rfl
 | x :: xs => by simp [frzLL, frzLL_length xs]
theorem frzL_append : ∀ (l m : List DV), frzL (l ++ m) = frzL l ++ frzL m
 | [], m => rfl
 | x :: l, m => by simp [frzL, frzL_append l m]
theorem frzLL_flatten : ∀ (l : List (List DV)), (frzLL l).flatten = frzL l.flatten
 | [] => rfl
 | x :: xs => by simp [frzLL, frzL_append, frzLL_flatten xs]
theorem frzLL_all {z : Nat} : ∀ (l : List (List DV)), (∀ e ∈ l, e.length = z) -> ∀ e ∈ frzLL l, e.length = z
 | [], _ => by simp [frzLL]
 | x :: xs, h => by
   intro e he
   simp only [frzLL, List.mem_cons] at he
   rcases he with rfl | he
   ·rw [frzL_length]; exact h x (by simp)
   ·exact frzLL_all xs (fun e he => h e (by simp [he])) e he
theorem frzLL_map {α : Type} (f : α -> List DV) : ∀ (l : List α), frzLL (l.map f) = l.map (fun x => frzL (f x))
 | [] => rfl
 | x :: xs => by simp [frzLL, frzLL_map f xs]
mutual
theorem Cz.freeze {w : World} {S S' : Nat -> Prop} (hS : ∀ b, S b -> S' b) : ∀ {v : Value} {x : DV} {rs : List Nat}, Cz w S v x rs -> (∀ b ∈ rs, S' b) -> Cz w S' v x.frz []
 | _, _, _, .int k n, _ => .int k n
 | _, _, _, .bool b, _ => .bool b
 | _, _, _, .str s, _ => .str s
 | _, _, _, .raw v h, _ => .raw v h
 | _, _, _, .dead v h, _ => .dead v h
 | _, _, _, .nil, _ => .nil
 | _, _, _, .shNil a c, _ => .shNil a c
 | _, _, _, .owNil z, _ => .shNil none 0
 | _, _, _, .sh ad n c z els vs h1 h2 h3 h4 h5 h6 h7, _ => .sh ad n c z els vs (hS _ h1) h2 h3 h4 h5 h6 (h7.keep (fun b hb => ⟨hS b hb, rfl⟩) (by simp))
 | _, _, _, .ow b off n c z els T cs rs h1 h2 h3 h4 h5 h6 h7, hr => by
   have hl := CzL.freeze hS h7 (fun b' hb => hr b' (by simp [hb]))
   rw [<- frzLL_flatten] at hl
   refine .sh ⟨b, off, none⟩ n c z _ _ (hr b (by simp)) (by rw [frzLL_length, h2]) h3 h4 (frzLL_all _ h6) ?_ hl
   intro j u hu
   rw [add_mk, cell_of_row w b _ cs T (0, 0) h1]
   rw [List.getElem?_take] at hu
   split at hu
   ·rw [List.getElem?_drop] at hu
    simpa using hu
   ·cases hu
 | _, _, _, .bx b l T cs rs h1 h2, hr => by
   have hl := CzL.freeze hS h2 (fun b' hb => hr b' (by simp [hb]))
   refine .rf ⟨b, 0, none⟩ _ _ (hr b (by simp)) ?_ hl
   intro j u hu
   rw [add_mk, Nat.zero_add, cell_of_row w b _ cs T (0, 0) h1]
   simpa using hu
 | _, _, _, .rf ad l vs h1 h2 h3, _ => .rf ad l vs (hS _ h1) h2 (h3.keep (fun b hb => ⟨hS b hb, rfl⟩) (by simp))
 | _, _, _, .fn f cs caps h, _ => .fn f cs caps (h.keep (fun b hb => ⟨hS b hb, rfl⟩) (by simp))
 | _, _, _, .mp .., _ => .dead _ rfl
theorem CzL.freeze {w : World} {S S' : Nat -> Prop} (hS : ∀ b, S b -> S' b) : ∀ {v : List Value} {x : List DV} {rs : List Nat}, CzL w S v x rs -> (∀ b ∈ rs, S' b) -> CzL w S' v (frzL x) []
 | _, _, _, .nil, _ => .nil
 | _, _, _, .cons v x r vs xs rs h hs, hr => by
   have h1 := Cz.freeze hS h (fun b hb => hr b (by simp [hb]))
   have h2 := CzL.freeze hS hs (fun b hb => hr b (by simp [hb]))
   have := CzL.cons _ _ _ _ _ _ h1 h2
   simpa [frzL] using this
end
inductive Closed : DV -> Prop
 | int (k : IntKind) (n : Int) : Closed (.int k n)
 | bool (b : Bool) : Closed (.bool b)
 | str (s : ByteArray) : Closed (.str s)
 | raw (v : Value) : Closed (.raw v)
 | dead : Closed .dead
 | nil : Closed .nil
 | slNil : Closed (.sl [])
 | ow (z : Nat) (els : List (List DV)) (h : ∀ e ∈ els, ∀ d ∈ e, Closed d) : Closed (.ow z els)
 | bx (l : List DV) (h : ∀ d ∈ l, Closed d) : Closed (.bx l)
 | fn (f : FuncId) (caps : List DV) (h : ∀ d ∈ caps, Closed d) : Closed (.fn f caps)
 | mp (es : List (List KV × KV)) : Closed (.mp es)
mutual
theorem Cz.closed {w : World} {S S' : Nat -> Prop} : ∀ {v : Value} {x : DV} {rs : List Nat}, Cz w S v x rs -> Closed x -> Cz w S' v x rs
 | _, _, _, .int k n, _ => .int k n
 | _, _, _, .bool b, _ => .bool b
 | _, _, _, .str s, _ => .str s
 | _, _, _, .raw v h, _ => .raw v h
 | _, _, _, .dead v h, _ => .dead v h
 | _, _, _, .nil, _ => .nil
 | _, _, _, .shNil a c, _ => .shNil a c
 | _, _, _, .owNil z, _ => .owNil z
 | _, _, _, .sh ad n c z els vs h1 h2 h3 h4 h5 h6 h7, hc => by
   cases hc
   simp at h2
   subst h2
   exact .shNil _ _
 | _, _, _, .ow b off n c z els T cs rs h1 h2 h3 h4 h5 h6 h7, hc => by
   have hcl : ∀ d ∈ els.flatten, Closed d := by
    cases hc with
    | ow _ _ h =>
      intro d hd
      obtain ⟨e, he, hde⟩ := List.mem_flatten.1 hd
      exact h e he d hde
   exact .ow b off n c z els T cs rs h1 h2 h3 h4 h5 h6 (CzL.closed h7 hcl)
 | _, _, _, .bx b l T cs rs h1 h2, hc => by
   have hcl : ∀ d ∈ l, Closed d := by
    cases hc with
    | bx _ h => exact h
   exact .bx b l T cs rs h1 (CzL.closed h2 hcl)
 | _, _, _, .rf ad l vs h1 h2 h3, hc => by cases hc
 | _, _, _, .fn f cs caps h, hc => by
   cases hc with
   | fn f caps h' => exact .fn f cs caps (CzL.closed h h')
 | _, _, _, .mp b es clock l h1 h2, _ => .mp b es clock l h1 h2
theorem CzL.closed {w : World} {S S' : Nat -> Prop} : ∀ {v : List Value} {x : List DV} {rs : List Nat}, CzL w S v x rs -> (∀ d ∈ x, Closed d) -> CzL w S' v x rs
 | _, _, _, .nil, _ => .nil
 | _, _, _, .cons v x r vs xs rs h hs, hc => .cons v x r vs xs rs (Cz.closed h (hc x (by simp))) (CzL.closed hs (fun d hd => hc d (by simp [hd])))
end
section
variable {P : Program} {N B : Nat} {w0 : World} {S0 : Nat -> Prop} {env : Env} {a : Act} {w : World} {rows : Nat -> List Nat} {next : Act -> World -> Prop} {Q : Exit -> Act -> World -> Prop}
theorem SimR.takeOver (h : SimR N B w0 S0 env a w rows) {t d : Nat} (hd : d < N) {x : DV} (hx : env.root t = some x) :
  Sim N B w0 S0 ((env.setRoot t .dead 0).put d (.sv (.one x))) (a.put (some d) (Act.f a t)) w := by
 have hcz := h.root_cz hx
 refine ⟨_, h.consume hd hx (n := 0) (.inl rfl) (Below.refl _ _) (rs' := []) (r' := rows t) (by simp) (by simp) (fun b hb => ⟨.inl hb, (h.own t b hb).2⟩) (h.nodup t) (by simp) (fun _ _ _ => rfl) (fun S' _ => .dead _ hcz.one) (fun S' hS' => .one _ _ _ ?_)⟩
 exact hcz.keep (fun b hb => ⟨hS' b hb, rfl⟩) (fun _ _ => rfl)
def Env.frz (env : Env) (s : Nat) : Env :=
 match env.root s with
 | some x => env.setRoot s x.frz 0
 | none => env
theorem SimR.frz (h : SimR N B w0 S0 env a w rows) (s : Nat) : ∃ rows', SimR N B w0 S0 (env.frz s) a w rows' /\ (∀ b, SS B S0 w rows b -> SS B S0 w rows' b) /\ (∀ x, env.root s = some x -> rows' s = [] /\ (env.frz s).root s = some x.frz) /\ (∀ t, ∀ b ∈ rows' t, b ∈ rows t) := by
 unfold Env.frz
 split
 ·rename_i x hx
  have hcz := h.root_cz hx
  refine ⟨_, h.reroot hx (n := 0) (.inl rfl) (Below.refl _ _) (rs' := []) (by simp) (by simp) (fun _ _ _ => rfl) (fun S' h1 h2 => hcz.freeze h1 (fun b hb => h2 b hb (by simp))), ?_, ?_, ?_⟩
  ·intro b hb
   rcases hb with hb | ⟨h1, h2, h3⟩
   ·exact .inl hb
   ·refine .inr ⟨h1, h2, fun t ht => ?_⟩
    dsimp only at ht
    split at ht
    ·cases ht
    ·exact h3 t ht
  ·intro x' hx'
   rw [hx] at hx'
   injection hx' with hx'
   subst hx'
   exact ⟨by simp, by simp [Env.root_setRoot]⟩
  ·intro t b hb
   split at hb
   ·cases hb
   ·exact hb
 ·rename_i hx
  exact ⟨rows, h, fun _ h => h, (fun x hx' => by rw [hx] at hx'; cases hx'), fun _ _ h => h⟩
theorem AVR.roots {w : World} {S : Nat -> Prop} {env env' : Env} {f : Nat -> Value} (hg : ∀ s x, env.root s = some x -> env'.root s = some x) : ∀ (av : AV) {v : Value} {r : List Nat}, AVR w S env f av v r -> AVR w S env' f av v r
 | .no, _, _, h => h
 | .undef, _, _, h => h
 | .sv _, _, _, h => h
 | .tup _, _, _, h => h
 | .al s p, _, _, ⟨h1, x, y, h2, h3⟩ => ⟨h1, x, y, hg _ _ h2, h3⟩
 | .pt s p i j, _, _, ⟨h1, x, u, y, el, ad, h2, h3⟩ => ⟨h1, x, u, y, el, ad, hg _ _ h2, h3⟩
 | .sub s p lo hi, _, _, ⟨h1, x, y, A, n, c, els, h2, h3⟩ => ⟨h1, x, y, A, n, c, els, hg _ _ h2, h3⟩
 | .bsl s p n, _, _, ⟨h1, x, u, y, el, ad, h2, h3⟩ => ⟨h1, x, u, y, el, ad, hg _ _ h2, h3⟩
 | .gd c a, _, _, ⟨h1, h2, h3⟩ => ⟨h1, fun hc => AVR.roots hg a (h2 hc), h3⟩
 | .eqv s x, _, _, h => h
 | .cl g caps, _, _, h => h
 | .agl s p i, _, _, ⟨h1, x, u, y, el, vs, h2, h3⟩ => ⟨h1, x, u, y, el, vs, hg _ _ h2, h3⟩
def frzOps (env : Env) : List Operand -> Env
 | [] => env
 | x :: xs => match opd env x with
   | .al s [] => match x, env.root s with
     | .tmp t, some y => if t = s then frzOps (env.frz s) xs else frzOps ((t, .sv (.one y.frz)) :: env.frz s) xs
     | _, _ => frzOps (env.frz s) xs
   | _ => frzOps env xs
theorem SimR.frzAl (h : SimR N B w0 S0 env a w rows) {s t : Nat} {y : DV} (hy : env.root s = some y) (hal : env.get t = .al s [] \/ env.get t = .gd true (.al s [])) : ∃ rows', SimR N B w0 S0 ((t, .sv (.one y.frz)) :: env.frz s) a w rows' := by
 obtain ⟨rows', h', _, h2, h3⟩ := h.frz s
 obtain ⟨hr, hroot⟩ := h2 y hy
 have hrel := h.rel t
 have hrel2 : rows t = [] /\ ∃ x0 y0, env.root s = some x0 /\ cat w (Act.f a s) x0 [] = some (Act.f a t, y0) := by
  rcases hal with hal | hal
  ·rw [hal] at hrel
   obtain ⟨hrt, x0, y0, h1, h2⟩ := hrel
   exact ⟨hrt, x0, y0, h1, h2⟩
  ·rw [hal] at hrel
   obtain ⟨hrt, h1, _⟩ := hrel
   obtain ⟨_, x0, y0, h1, h2⟩ := h1 rfl
   exact ⟨hrt, x0, y0, h1, h2⟩
 obtain ⟨hrt, x0, y0, _, hcat⟩ := hrel2
 simp only [cat, Option.some.injEq, Prod.mk.injEq] at hcat
 have hrt' : rows' t = [] := by
  cases hc : rows' t with
  | nil => rfl
  | cons b l =>
    have := h3 t b (by rw [hc]; simp)
    rw [hrt] at this
    cases this
 have hnr : (env.frz s).root t = none := by
  unfold Env.frz
  rw [hy]
  dsimp only
  unfold Env.root
  rw [Env.get_setRoot]
  by_cases hst : s = t
  ·subst hst
   unfold Env.root at hy
   rcases hal with hal | hal <;> (rw [hal] at hy; cases hy)
  ·rw [if_neg hst]
   rcases hal with hal | hal <;> (rw [hal]; simp [AV.kill, AV.asOne])
 have hg : ∀ u x, (env.frz s).root u = some x -> Env.root ((t, .sv (.one y.frz)) :: env.frz s) u = some x := by
  intro u x hu
  by_cases htu : t = u
  ·subst htu
   rw [hnr] at hu
   cases hu
  ·unfold Env.root at hu ⊢
   simp only [Env.get, if_neg htu]
   exact hu
 refine ⟨rows', h'.defers, h'.size, h'.below, h'.base, h'.old, h'.own, h'.nodup, h'.apart, fun u => ?_⟩
 by_cases htu : t = u
 ·subst htu
  simp only [Env.get, if_true]
  have hcz := h'.root_cz hroot
  rw [hr] at hcz
  rw [hrt', <- hcat.1]
  exact .one _ _ _ hcz
 ·simp only [Env.get, if_neg htu]
  exact AVR.roots hg _ (h'.rel u)
theorem SimR.frzOps : ∀ (xs : List Operand) {env : Env} {rows : Nat -> List Nat}, SimR N B w0 S0 env a w rows -> ∃ rows', SimR N B w0 S0 (Av.frzOps env xs) a w rows'
 | [], _, rows, h => ⟨rows, h⟩
 | x :: xs, env, rows, h => by
   unfold Av.frzOps
   split
   ·rename_i s hopd
    split
    ·rename_i t y hy
     split
     ·obtain ⟨rows', h', _⟩ := h.frz s
      exact SimR.frzOps xs h'
     ·rename_i hts
      have hal : env.get t = .al s [] \/ env.get t = .gd true (.al s []) := by
       unfold opd at hopd
       dsimp only at hopd
       generalize hg : env.get t = av at hopd
       unfold AV.asOpd at hopd
       split at hopd
       ·injection hopd with e1 _
        exact absurd e1 hts
       ·cases hopd
       ·injection hopd with e1 _
        exact absurd e1 hts
       ·split at hopd <;> cases hopd
       ·cases hopd
       ·subst hopd
        exact .inr rfl
       ·subst hopd
        exact .inl rfl
      obtain ⟨rows', h'⟩ := h.frzAl hy hal
      exact SimR.frzOps xs h'
    ·obtain ⟨rows', h', _⟩ := h.frz s
     exact SimR.frzOps xs h'
   ·exact SimR.frzOps xs h
def astore (P : Program) (env : Env) (t : TypeId) (x y : Operand) : Option (Prop × Env) :=
 match opd env x with
 | .pt s p i j => match opd env y with
   | .sv d => match sizeT P t, env.root s, env.at s p with
     | some n, some x0, some y0 => match y0.elAt i with
       | some el => some (d.cells.all DV.flat = true /\ d.cells.length = n /\ j + n <= el.length, env.setRoot s (setP x0 p (y0.put i j d.cells)) 1)
       | none => none
     | _, _, _ => none
   | _ => none
 | _ => none
theorem Shape.setP' {x y y' : DV} {p : List (Nat × Nat)} (h : getP x p = some y) (hs : Shape y y') : Shape x (Av.setP x p y') := by
 cases p with
 | nil =>
   simp only [getP, Option.some.injEq] at h
   subst h
   exact hs
 | cons q p => exact Shape.setP h
theorem run_storeVar {t : TypeId} {n : Nat} {v : Value} {g off : Nat} {cur : Array Value} {T : TypeId} (hs : sizeT P t = some n) (hv : v.cells.size = n) (hg : w.heap[g]? = some (.cells cur T (0, 0))) (hfit : off + n <= cur.size) (h1 : ∀ u ∈ v.cells.toList, u.oneCell' = true) :
  (Instr.storeAt t (.pointer (some ⟨g, off, none⟩)) v).run P w = .ok () (w.setRow g (splice cur.toList off v.cells.toList).toArray) := by
 have hst := run_storeCells_at P g off T v.cells.toList 0 cur w hg (by simpa [hv] using hfit) h1
 simp only [Nat.add_zero] at hst
 simp [Instr.storeAt, Instr.sureAddr, storeVar, run_sizeOf hs, hv, hst, splice]
theorem SimR.stored (h : SimR N B w0 S0 env a w rows) {s : Nat} {p : List (Nat × Nat)} {i j : Nat} {x0 y0 : DV} {u : Value} {el : List DV} {ad : Addr} (hroot : env.root s = some x0) (hcat : cat w (Act.f a s) x0 p = some (u, y0)) (hel : y0.elAt i = some el) (hbase : rowBase u y0 = some ad)
  {vs : List Value} {ds : List DV} (hds : CzL w (SS B S0 w rows) vs ds []) (hj : j + ds.length <= el.length) :
  ∃ g off cur T, ad.add (i * el.length + j) = ⟨g, off, none⟩ /\ w.heap[g]? = some (.cells cur T (0, 0)) /\ off + ds.length <= cur.size /\
   Sim N B w0 S0 (env.setRoot s (setP x0 p (y0.put i j ds)) 1) a (w.setRow g (splice cur.toList off vs).toArray) := by
 have hrcz := h.root_cz hroot
 obtain ⟨ru, rest, hcu, hmem, hdis, hndu, hback⟩ := hrcz.lens p (h.nodup s) hcat
 obtain ⟨b, o, z, T, cs, r0, vs0, rfl, hbase', hb, hlz, hsz, _, _, hup⟩ := hcu.row hel
 rw [hbase] at hbase'
 injection hbase' with hbase'
 subst hbase'
 obtain ⟨r1, rm, r2, rfl, _, hset⟩ := hup j ds.length (by omega)
 have hbs : b ∈ rows s := (hmem b).2 (.inl (by simp))
 have hlen := hds.length
 have hne : ∀ b', b' ≠ b -> (w.setRow b (splice cs.toList (o + i * z + j) vs).toArray).heap[b']? = w.heap[b']? := fun b' hb' => setRow_other w b b' _ hb'
 have hSk : ∀ S' : Nat -> Prop, (∀ b, SS B S0 w rows b -> S' b) -> ∀ b', SS B S0 w rows b' -> S' b' /\ (w.setRow b (splice cs.toList (o + i * z + j) vs).toArray).heap[b']? = w.heap[b']? := by
  intro S' hS' b' hs
  refine ⟨hS' b' hs, hne b' ?_⟩
  rintro rfl
  rcases hs with hs | hs
  ·exact (h.old b' hs).2.2 s hbs
  ·exact hs.2.2 s hbs
 have hndr : (r1 ++ r2).Nodup := by
  simp only [List.nodup_cons, List.nodup_append, List.mem_append] at hndu ⊢
  grind
 have hbr : b ∉ r1 ++ r2 := by
  simp only [List.nodup_cons, List.mem_append] at hndu ⊢
  grind
 have hy' : ∀ S' : Nat -> Prop, (∀ b, SS B S0 w rows b -> S' b) -> Cz (w.setRow b (splice cs.toList (o + i * z + j) vs).toArray) S' u (y0.put i j ds) (b :: (r1 ++ r2)) := by
  intro S' hS'
  have := hset _ S' vs ds [] rfl (hSk S' hS') (fun b' hb' => hne b' (by rintro rfl; exact hbr hb')) (setRow_heap w b cs _ T _ hb) (hds.keep (hSk S' hS') (by simp))
  simpa using this
 have hrest : ∀ b' ∈ rest, (w.setRow b (splice cs.toList (o + i * z + j) vs).toArray).heap[b']? = w.heap[b']? := fun b' hb' => hne b' (by rintro rfl; exact hdis b' (by simp) hb')
 have hsub : ∀ b' ∈ b :: (r1 ++ r2), b' ∉ rest := by
  intro b' hb'
  refine hdis b' ?_
  simp only [List.mem_cons, List.mem_append] at hb' ⊢
  grind
 refine ⟨b, o + i * z + j, cs, T, by rw [hlz, add_mk, Nat.add_assoc], hb, by omega, ?_⟩
 obtain ⟨rs', g1, g2, g3⟩ := hback _ (SS B S0 w rows) _ _ (hSk _ fun _ h => h) hrest (hy' _ fun _ h => h) (List.nodup_cons.2 ⟨hbr, hndr⟩) hsub
 have hin : ∀ b' ∈ rs', b' ∈ rows s := by
  intro b' hb'
  refine (hmem b').2 ?_
  rcases (g3 b').1 hb' with h1 | h1
  ·left
   simp only [List.mem_cons, List.mem_append] at h1 ⊢
   grind
  ·exact .inr h1
 have hB : B <= b := (h.own s b hbs).1
 refine ⟨_, h.reroot (w' := w.setRow b (splice cs.toList (o + i * z + j) vs).toArray) hroot (n := 1) (.inr ⟨rfl, Shape.setP' (cat_getP _ hcat) (Shape.put hel hj)⟩) ⟨⟨rfl, rfl, rfl, by simp, fun k hk => hne k (by omega)⟩, Nat.le_refl _⟩ (rs' := rs') ?_ g2 ?_ ?_⟩
 ·intro b' hb'
  refine ⟨.inl (hin b' hb'), ?_⟩
  rw [setRow_size]
  exact (h.own s b' (hin b' hb')).2
 ·intro b' _ hb'
  exact hne b' (by rintro rfl; exact hb' hbs)
 ·intro S' hS' _
  exact g1.keep (fun b hb => ⟨hS' b hb, rfl⟩) (fun _ _ => rfl)
theorem astore_ok (h : SimR N B w0 S0 env a w rows) {o : Oper} {t : TypeId} {x y : Operand} (ho : o.op = .store t x y) {ob : Prop} {env' : Env} (he : astore P env t x y = some (ob, env')) (hob : ob) (hdst : o.dst = none)
  (hn : ∀ w', Sim N B w0 S0 env' a w' -> next a w') : o.wp P a w next Q := by
 have hx := h.opd_ok x
 have hy := h.opd_ok y
 unfold astore at he
 split at he
 ·rename_i s p i j hopx
  rw [hopx] at hx
  obtain ⟨_, x1, u, y1, el1, ad, hroot, hcat, hel1, hbase, hval⟩ := hx
  split at he
  ·rename_i d hopy
   rw [hopy] at hy
   split at he
   ·rename_i n x0 y0 hs hroot' hat
    rw [hroot] at hroot'
    injection hroot' with hroot'
    subst hroot'
    obtain ⟨rfl, _⟩ := h.place hroot hcat hat
    rw [hel1] at he
    dsimp only at he
    simp only [Option.some.injEq, Prod.mk.injEq] at he
    obtain ⟨rfl, rfl⟩ := he
    obtain ⟨_, hlen, hfit⟩ := hob
    have hc := CzS.cells hy
    obtain ⟨g, off, cur, T, e1, hg, hsz, hsim⟩ := h.stored (j := j) hroot hcat hel1 hbase hc (by omega)
    have hvl := hc.length
    simp only [Array.length_toList] at hvl
    have hrun := run_storeVar (P := P) (v := a.eval y) (off := off) hs (by omega) hg (by omega) hc.allOne
    refine wp_skipv (w' := w.setRow g (splice cur.toList off (a.eval y).cells.toList).toArray) ?_ ?_
    ·simp only [execOp, ho, hval, e1]
     simp [hrun]
    ·rw [hdst]
     exact hn _ hsim
   ·cases he
  ·cases he
 ·cases he
theorem SimR.moveInto {w' : World} (h : SimR N B w0 S0 env a w rows) {s t : Nat} (hst : s ≠ t) {x x' xt : DV} (hx : env.root s = some x) (hxt : env.root t = some xt) (hsh : Shape x x') (hbel : Below B w w') (hsz : w'.heap.size = w.heap.size) {rs' : List Nat}
  (hown : ∀ b ∈ rs', b ∈ rows s \/ b ∈ rows t) (hnd : rs'.Nodup) (hframe : ∀ b, b < w.heap.size -> b ∉ rows s -> w'.heap[b]? = w.heap[b]?)
  (hcz : ∀ S' : Nat -> Prop, (∀ b, SS B S0 w rows b -> S' b) -> Cz w' S' (Act.f a s) x' rs') :
  SimR N B w0 S0 ((env.setRoot t .dead 0).setRoot s x' 1) a w' (fun k => if s = k then rs' else if t = k then [] else rows k) := by
 have hbase := h.base
 have hSr : ∀ b, SS B S0 w rows b -> ∀ k, b ∉ rows k := by
  intro b hs k hb
  rcases hs with hs | hs
  ·exact (h.old b hs).2.2 k hb
  ·exact hs.2.2 k hb
 have hS : ∀ b, SS B S0 w rows b -> SS B S0 w' (fun k => if s = k then rs' else if t = k then [] else rows k) b /\ w'.heap[b]? = w.heap[b]? := by
  intro b hs
  have hn := hSr b hs
  refine ⟨?_, hframe b (h.lt hs) (hn s)⟩
  rcases hs with hs | ⟨h1, h2, h3⟩
  ·exact .inl hs
  ·refine .inr ⟨h1, by omega, fun k hk => ?_⟩
   dsimp only at hk
   split at hk
   ·rcases hown b hk with g | g
    ·exact hn s g
    ·exact hn t g
   ·split at hk
    ·cases hk
    ·exact h3 k hk
 have hkeep : ∀ k, s ≠ k -> ∀ b ∈ rows k, w'.heap[b]? = w.heap[b]? := fun k hk b hb => hframe b (h.own k b hb).2 (fun hb' => h.apart s k hk b hb' hb)
 refine ⟨h.defers, h.size, h.below.trans hbel, by omega, h.old_next (fun k b hb => (mem_ite hb).elim (fun hb => .inl ((hown b hb).elim (fun g => ⟨s, g⟩) (fun g => ⟨t, g⟩))) (fun hb => (mem_ite hb).elim (fun hb => by cases hb) (fun hb => .inl ⟨k, hb⟩))) (fun b hlt hn => hframe b hlt (hn s)), ?_, ?_, ?_, ?_⟩
 ·intro k b hb
  split at hb
  ·rcases hown b hb with g | g
   ·have := h.own s b g; omega
   ·have := h.own t b g; omega
  ·split at hb
   ·cases hb
   ·have := h.own k b hb; omega
 ·intro k
  split
  ·exact hnd
  ·split
   ·exact List.nodup_nil
   ·exact h.nodup k
 ·intro k k' hne b hb hb'
  have hmix : ∀ k, s ≠ k -> b ∈ rs' -> b ∈ (if t = k then [] else rows k) -> False := by
   intro k hsk g1 g2
   split at g2
   ·cases g2
   ·rename_i htk
    rcases hown b g1 with g | g
    ·exact h.apart s k hsk b g g2
    ·exact h.apart t k htk b g g2
  split at hb
  ·split at hb'
   ·omega
   ·rename_i e1 e2
    exact hmix k' e2 hb hb'
  ·split at hb'
   ·rename_i e1 e2
    exact hmix k e1 hb' hb
   ·split at hb
    ·cases hb
    ·split at hb'
     ·cases hb'
     ·exact h.apart k k' hne b hb hb'
 ·intro k
  rw [Env.get_setRoot]
  by_cases e : s = k
  ·subst e
   simp only [if_true]
   exact .one _ _ _ (hcz _ fun b hb => (hS b hb).1)
  ·simp only [e, if_false]
   have hone : (Act.f a t).oneCell' = true := (h.root_cz hxt).one
   have hstep : AVR w (SS B S0 w rows) (env.setRoot t .dead 0) (Act.f a) ((env.setRoot t .dead 0).get k) (Act.f a k) (if t = k then [] else rows k) := by
    rw [Env.get_setRoot]
    by_cases et : t = k
    ·subst et
     simp only [if_true]
     exact .one _ _ _ (.dead _ hone)
    ·simp only [et, if_false]
     refine AVR.keepS (fun b hb => ⟨hb, rfl⟩) (s0 := t) (n0 := 0) ?_ (fun _ _ => rfl) (env.get k) (h.rel k) (fun _ _ => rfl)
     intro s' x1 p v y hs hx1 hc
     have hne : t ≠ s' := by rcases hs with hs | hs; exact fun e => hs e.symm; omega
     exact ⟨x1, y, by rw [Env.root_setRoot, if_neg hne, hx1], hc, Shape.refl y⟩
   refine AVR.keepS hS (s0 := s) (n0 := 1) ?_ (fun _ _ => rfl) _ hstep ?_
   ·intro s' x1 p v y hs hx1 hc
    by_cases es : s = s'
    ·subst es
     have hp : p = [] := by
      rcases hs with hs | hs
      ·exact (hs rfl).elim
      ·exact List.eq_nil_of_length_eq_zero (by omega)
     subst hp
     rw [Env.root_setRoot, if_neg (fun e => hst e.symm), hx] at hx1
     injection hx1 with hx1
     subst hx1
     simp only [cat, Option.some.injEq, Prod.mk.injEq] at hc
     obtain ⟨rfl, rfl⟩ := hc
     exact ⟨x', x', by simp [Env.root_setRoot], rfl, hsh⟩
    ·refine ⟨x1, y, by rw [Env.root_setRoot, if_neg es, hx1], ?_, Shape.refl y⟩
     rw [Env.root_setRoot] at hx1
     split at hx1
     ·rename_i et
      subst et
      injection hx1 with hx1
      subst hx1
      cases p with
      | nil => simpa [cat] using hc
      | cons q p => obtain ⟨i, j⟩ := q; simp [cat, DV.elAt] at hc
     ·exact h.cat_keep (hkeep s' es) hx1 hc
   ·intro b hb
    split at hb
    ·cases hb
    ·exact hkeep k e b hb
def astoreOwn (P : Program) (env : Env) (t : TypeId) (x y : Operand) : Option (Prop × Env) :=
 match opd env x with
 | .pt s p i j => match opd env y with
   | .al k [] => match sizeT P t, env.root s, env.at s p, env.root k with
     | some n, some x0, some y0, some xk => match y0.elAt i with
       | some el => some (n = 1 /\ s ≠ k /\ j + 1 <= el.length, (env.setRoot k .dead 0).setRoot s (setP x0 p (y0.put i j [xk])) 1)
       | none => none
     | _, _, _, _ => none
   | _ => none
 | _ => none
theorem cells_of_one {v : Value} (h : v.oneCell' = true) : v.cells = #[v] := by
 cases v <;> first | rfl | simp [Value.oneCell'] at h
theorem astoreOwn_ok (h : SimR N B w0 S0 env a w rows) {o : Oper} {t : TypeId} {x y : Operand} (ho : o.op = .store t x y) {ob : Prop} {env' : Env} (he : astoreOwn P env t x y = some (ob, env')) (hob : ob) (hdst : o.dst = none)
  (hn : ∀ w', Sim N B w0 S0 env' a w' -> next a w') : o.wp P a w next Q := by
 have hx := h.opd_ok x
 have hy := h.opd_ok y
 unfold astoreOwn at he
 split at he
 ·rename_i s p i j hopx
  rw [hopx] at hx
  obtain ⟨_, x1, u, y1, el1, ad, hroot, hcat, hel1, hbase, hval⟩ := hx
  split at he
  ·rename_i k hopy
   rw [hopy] at hy
   obtain ⟨_, xk0, yk0, hrootk, hcatk⟩ := hy
   split at he
   ·rename_i n x0 y0 xk hs hroot' hat hrootk'
    rw [hroot] at hroot'
    injection hroot' with hroot'
    subst hroot'
    rw [hrootk] at hrootk'
    injection hrootk' with hrootk'
    subst hrootk'
    simp only [cat, Option.some.injEq, Prod.mk.injEq] at hcatk
    obtain ⟨hvk, rfl⟩ := hcatk
    obtain ⟨rfl, _⟩ := h.place hroot hcat hat
    rw [hel1] at he
    dsimp only at he
    simp only [Option.some.injEq, Prod.mk.injEq] at he
    obtain ⟨rfl, rfl⟩ := he
    obtain ⟨rfl, hsk, hfit⟩ := hob
    have hkcz := h.root_cz hrootk
    have hrcz := h.root_cz hroot
    obtain ⟨ru, rest, hcu, hmem, hdis, hndu, hback⟩ := hrcz.lens p (h.nodup s) hcat
    obtain ⟨b, o', z, T, cs, r0, vs0, rfl, hbase', hb, hlz, hsz, _, _, hup⟩ := hcu.row hel1
    rw [hbase] at hbase'
    injection hbase' with hbase'
    subst hbase'
    obtain ⟨r1, rm, r2, rfl, _, hset⟩ := hup j 1 (by omega)
    have hbs : b ∈ rows s := (hmem b).2 (.inl (by simp))
    have hbk : b ∉ rows k := h.apart s k hsk b hbs
    let w' := w.setRow b (splice cs.toList (o' + i * z + j) [Act.f a k]).toArray
    have hne : ∀ b', b' ≠ b -> w'.heap[b']? = w.heap[b']? := fun b' hb' => setRow_other w b b' _ hb'
    have hSk : ∀ S' : Nat -> Prop, (∀ b, SS B S0 w rows b -> S' b) -> ∀ b', SS B S0 w rows b' -> S' b' /\ w'.heap[b']? = w.heap[b']? := by
     intro S' hS' b' hs
     refine ⟨hS' b' hs, hne b' ?_⟩
     rintro rfl
     rcases hs with hs | hs
     ·exact (h.old b' hs).2.2 s hbs
     ·exact hs.2.2 s hbs
    have hbr : b ∉ r1 ++ r2 := by
     simp only [List.nodup_cons, List.mem_append] at hndu ⊢
     grind
    have hrk : ∀ b' ∈ rows k, b' ∉ rows s := fun b' h1 h2 => h.apart s k hsk b' h2 h1
    have hru : ∀ b' ∈ r1 ++ r2, b' ∈ rows s := by
     intro b' hb'
     refine (hmem b').2 (.inl ?_)
     simp only [List.mem_cons, List.mem_append] at hb' ⊢
     grind
    have hnew : (b :: (r1 ++ rows k ++ r2)).Nodup := by
     have hk1 := h.nodup k
     simp only [List.nodup_cons, List.nodup_append, List.mem_append] at hndu ⊢
     simp only [List.mem_append] at hru
     grind
    have hsub : ∀ b' ∈ b :: (r1 ++ rows k ++ r2), b' ∉ rest := by
     intro b' hb' hr
     have hbs' := (hmem b').2 (.inr hr)
     have hd := hdis b'
     simp only [List.mem_cons, List.mem_append] at hb' hd
     grind
    have hy' : ∀ S' : Nat -> Prop, (∀ b, SS B S0 w rows b -> S' b) -> Cz w' S' u (y0.put i j [xk0]) (b :: (r1 ++ rows k ++ r2)) := by
     intro S' hS'
     refine hset w' S' [Act.f a k] [xk0] (rows k) rfl (hSk S' hS') (fun b' hb' => hne b' (by rintro rfl; exact hbr hb')) (setRow_heap w b cs _ T _ hb) (CzL.mk1 ?_)
     exact hkcz.keep (hSk S' hS') (fun b' hb' => hne b' (by rintro rfl; exact hbk hb'))
    have hrest : ∀ b' ∈ rest, w'.heap[b']? = w.heap[b']? := fun b' hb' => hne b' (by rintro rfl; exact hdis b' (by simp) hb')
    obtain ⟨rs', g1, g2, g3⟩ := hback w' (SS B S0 w rows) _ _ (hSk _ fun _ h => h) hrest (hy' _ fun _ h => h) hnew hsub
    have hB : B <= b := (h.own s b hbs).1
    have hsim := h.moveInto (w' := w') hsk hroot hrootk (Shape.setP' (cat_getP _ hcat) (Shape.put (ds := [xk0]) hel1 (by simpa using hfit))) ⟨⟨rfl, rfl, rfl, by simp [w'], fun k hk => hne k (by omega)⟩, Nat.le_refl _⟩ (by simp [w']) (rs' := rs') ?_ g2 ?_ ?_
    ·have hc := cells_of_one hkcz.one
     have hrun := run_storeVar (P := P) (w := w) (v := Act.f a k) (off := o' + i * z + j) (n := 1) hs (by rw [hc]; rfl) hb (by omega) (by
      rw [hc]
      intro u hu
      simp only [List.mem_singleton] at hu
      rw [hu]
      exact hkcz.one)
     rw [hc] at hrun
     refine wp_skipv (w' := w') ?_ ?_
     ·simp only [execOp, ho, hval, hlz, add_mk, <- hvk, <- Nat.add_assoc]
      simp [hrun, w']
     ·rw [hdst]
      exact hn _ ⟨_, hsim⟩
    ·intro b' hb'
     rcases (g3 b').1 hb' with h1 | h1
     ·simp only [List.mem_cons, List.mem_append] at h1
      rcases h1 with rfl | (h1 | h1) | h1
      ·exact .inl hbs
      ·exact .inl (hru b' (by simp [h1]))
      ·exact .inr h1
      ·exact .inl (hru b' (by simp [h1]))
     ·exact .inl ((hmem b').2 (.inr h1))
    ·intro b' _ hb'
     exact hne b' (by rintro rfl; exact hb' hbs)
    ·intro S' hS'
     exact g1.keep (fun b hb => ⟨hS' b hb, rfl⟩) (fun _ _ => rfl)
   ·cases he
  ·cases he
 ·cases he
theorem SimR.divide (h : SimR N B w0 S0 env a w rows) {t d : Nat} (hd : d < N) (hne : t ≠ d) (hroot : env.root t = none) {av' av2 : AV} {v2 : Value} {r1 r2 : List Nat}
  (hs1 : ∀ b ∈ r1, b ∈ rows t) (hs2 : ∀ b ∈ r2, b ∈ rows t) (hn1 : r1.Nodup) (hn2 : r2.Nodup) (hdis : ∀ b ∈ r1, b ∉ r2)
  (hav' : ∀ (S' : Nat -> Prop), (∀ b, SS B S0 w rows b -> S' b) -> ∀ (e : Env) (f : Nat -> Value), AVR w S' e f av' (Act.f a t) r2) (hroot' : av'.asOne = none)
  (hav2 : ∀ (S' : Nat -> Prop), (∀ b, SS B S0 w rows b -> S' b) -> ∀ (e : Env) (f : Nat -> Value), AVR w S' e f (av2.kill d 0) v2 r1) (hk : av'.kill d 0 = av') :
  SimR N B w0 S0 (Env.put ((t, av') :: env) d av2) (a.put (some d) v2) w (fun k => if d = k then r1 else if t = k then r2 else rows k) := by
 have hS : ∀ b, SS B S0 w rows b -> SS B S0 w (fun k => if d = k then r1 else if t = k then r2 else rows k) b := by
  intro b hs
  rcases hs with hs | ⟨h1, h2, h3⟩
  ·exact .inl hs
  ·refine .inr ⟨h1, h2, fun k hk => ?_⟩
   dsimp only at hk
   split at hk
   ·exact h3 t (hs1 b hk)
   ·split at hk
    ·exact h3 t (hs2 b hk)
    ·exact h3 k hk
 have hget : ∀ k, Env.get ((t, av') :: env) k = if t = k then av' else env.get k := fun k => rfl
 refine ⟨h.defers, by simp [Act.put, h.size], h.below, h.base, h.old_next (fun k b hb => (mem_ite hb).elim (fun hb => .inl ⟨t, hs1 b hb⟩) (fun hb => (mem_ite hb).elim (fun hb => .inl ⟨t, hs2 b hb⟩) (fun hb => .inl ⟨k, hb⟩))) (fun b hlt _ => rfl), ?_, ?_, ?_, ?_⟩
 ·intro k b hb
  split at hb
  ·exact h.own t b (hs1 b hb)
  ·split at hb
   ·exact h.own t b (hs2 b hb)
   ·exact h.own k b hb
 ·intro k
  split
  ·exact hn1
  ·split
   ·exact hn2
   ·exact h.nodup k
 ·intro k k' hkk b hb hb'
  split at hb
  ·rename_i e1
   split at hb'
   ·omega
   ·split at hb'
    ·exact hdis b hb hb'
    ·rename_i e2 e3
     exact h.apart t k' e3 b (hs1 b hb) hb'
  ·split at hb
   ·rename_i e1 e2
    split at hb'
    ·exact hdis b hb' hb
    ·split at hb'
     ·omega
     ·rename_i e3 e4
      exact h.apart t k' e4 b (hs2 b hb) hb'
   ·rename_i e1 e2
    split at hb'
    ·exact h.apart k t (fun e => e2 e.symm) b hb (hs1 b hb')
    ·split at hb'
     ·exact h.apart k t (fun e => e2 e.symm) b hb (hs2 b hb')
     ·exact h.apart k k' hkk b hb hb'
 ·intro k
  rw [Env.get_put, Act.f_put (by rw [h.size]; exact hd)]
  by_cases e : d = k
  ·simp only [e, if_true]
   rw [<- e]
   exact hav2 _ hS _ _
  ·simp only [e, if_false]
   rw [hget]
   by_cases e2 : t = k
   ·simp only [e2, if_true]
    rw [hk, <- e2]
    exact hav' _ hS _ _
   ·simp only [e2, if_false]
    refine AVR.keep (fun b hb => ⟨hS b hb, rfl⟩) (s0 := d) (n0 := 0) ?_ (fun s hs => by rw [Act.f_put (by rw [h.size]; exact hd), if_neg (by rcases hs with hs | hs; exact fun e => hs e.symm; omega)]) (env.get k) (h.rel k) (fun _ _ => rfl)
    intro s x p v y hs hx hc
    have hsd : s ≠ d := by rcases hs with hs | hs; exact hs; omega
    have hst : t ≠ s := fun e => by rw [<- e, hroot] at hx; cases hx
    refine ⟨x, ?_, ?_⟩
    ·rw [Env.root_put_ne _ _ (fun e => hsd e.symm)]
     simp only [Env.root, hget, hst, if_false]
     exact hx
    ·rw [Act.f_put (by rw [h.size]; exact hd), if_neg (fun e => hsd e.symm)]
     exact hc
theorem CzSL.take_out {S : Nat -> Prop} {vs : List Value} {l : List SV} {r : List Nat} (h : CzSL w S vs l r) : ∀ (i : Nat) (x : DV), l[i]? = some (.one x) -> ∃ v r1 r2, vs[i]? = some v /\ Cz w S v x r1 /\ CzSL w S vs (l.set i (.one .dead)) r2 /\ (∀ b, b ∈ r ↔ b ∈ r1 \/ b ∈ r2) /\ (r.Nodup -> r1.Nodup /\ r2.Nodup /\ ∀ b ∈ r1, b ∉ r2) := by
 induction h with
 | nil => intro i x hx; simp at hx
 | cons v y r vs xs rs hy hs ih =>
   intro i x hx
   cases i with
   | zero =>
     simp only [List.getElem?_cons_zero, Option.some.injEq] at hx
     subst hx
     have hc := CzS.one_inv hy
     refine ⟨v, r, rs, rfl, hc, ?_, by simp, fun hn => ?_⟩
     ·have := CzSL.cons v (.one .dead) [] vs xs rs (.one _ _ _ (.dead v hc.one)) hs
      simpa using this
     ·rw [List.nodup_append] at hn
      exact ⟨hn.1, hn.2.1, fun b hb hb' => hn.2.2 b hb b hb' rfl⟩
   | succ i =>
     obtain ⟨v', r1, r2, h1, h2, h3, h4, h5⟩ := ih i x (by simpa using hx)
     refine ⟨v', r1, r ++ r2, by simpa using h1, h2, by simpa using CzSL.cons v y r vs _ r2 hy h3, ?_, fun hn => ?_⟩
     ·intro b
      simp only [List.mem_append, h4]
      constructor
      ·rintro (h | h | h)
       ·exact .inr (.inl h)
       ·exact .inl h
       ·exact .inr (.inr h)
      ·rintro (h | h | h)
       ·exact .inr (.inl h)
       ·exact .inl h
       ·exact .inr (.inr h)
     ·rw [List.nodup_append] at hn
      obtain ⟨g1, g2, g3⟩ := h5 hn.2.1
      refine ⟨g1, ?_, fun b hb hb' => ?_⟩
      ·rw [List.nodup_append]
       exact ⟨hn.1, g2, fun x hx y hy' => hn.2.2 x hx y ((h4 y).2 (.inr hy'))⟩
      ·rcases List.mem_append.1 hb' with hb' | hb'
       ·exact hn.2.2 b hb' b ((h4 b).2 (.inl hb)) rfl
       ·exact g3 b hb hb'
end
end Go.Av
namespace Go.Av
open Go Go.RowKit
def KV.dv : KV -> DV
 | .ki k n => .int k n
 | .kb b => .bool b
 | .ks s => .str s
def kv1 : DV -> Option KV
 | .int k n => some (.ki k n)
 | .bool b => some (.kb b)
 | .str s => some (.ks s)
 | _ => none
def kvs : List DV -> Option (List KV)
 | [] => some []
 | x :: xs => match kv1 x, kvs xs with
   | some k, some ks => some (k :: ks)
   | _, _ => none
def KV.code : KV -> Nat
 | .ki _ _ => 0
 | .kb _ => 1
 | .ks _ => 2
def kis (i : Nat) : List KV -> List (Nat × Nat)
 | [] => []
 | k :: ks => (i, k.code) :: kis (i + 1) ks
def KV.like : KV -> KV -> Bool
 | .ki k _, .ki k' _ => decide (k = k')
 | .kb _, .kb _ => true
 | .ks _, .ks _ => true
 | _, _ => false
def likeK : List KV -> List KV -> Bool
 | [], [] => true
 | x :: xs, y :: ys => x.like y && likeK xs ys
 | _, _ => false
def mpIdx : List (List KV × KV) -> List KV -> Nat -> Option (Nat × KV)
 | [], _, _ => none
 | e :: es, k, i => if k = e.1 then some (i, e.2) else mpIdx es k (i + 1)
def mpGet : List (List KV × KV) -> List KV -> Option KV
 | [], _ => none
 | e :: es, k => if k = e.1 then some e.2 else mpGet es k
def mpSet : List (List KV × KV) -> List KV -> KV -> List (List KV × KV)
 | [], k, v => [(k, v)]
 | e :: es, k, v => if k = e.1 then (k, v) :: es else e :: mpSet es k v
theorem mpGet_idx : ∀ (es : List (List KV × KV)) (k : List KV) (i : Nat), mpGet es k = (mpIdx es k i).map (·.2)
 | [], _, _ => rfl
 | e :: es, k, i => by
   simp only [mpGet, mpIdx]
   split
   ·rfl
   ·exact mpGet_idx es k (i + 1)
theorem kv1_dv {x : DV} {k : KV} (h : kv1 x = some k) : x = k.dv := by
 unfold kv1 at h
 split at h <;> first
  | (injection h with h; subst h; rfl)
  | cases h
theorem kvs_dv : ∀ {l : List DV} {ks : List KV}, kvs l = some ks -> l = ks.map KV.dv
 | [], ks, h => by
   simp only [kvs, Option.some.injEq] at h
   subst h
   rfl
 | x :: xs, ks, h => by
   simp only [kvs] at h
   split at h
   ·rename_i k ks' h1 h2
    injection h with h
    subst h
    simp [kv1_dv h1, <- kvs_dv h2]
   ·cases h
section
variable {w : World} {S : Nat -> Prop}
theorem KV.cz (k : KV) : Cz w S k.val k.dv [] := by
 cases k
 ·exact .int _ _
 ·exact .bool _
 ·exact .str _
theorem KV.czL : ∀ (kk : List KV), CzL w S (kk.map KV.val) (kk.map KV.dv) []
 | [] => .nil
 | k :: kk => by simpa using CzL.cons _ _ _ _ _ _ (KV.cz (w := w) (S := S) k) (KV.czL kk)
theorem KV.cz_inv {v : Value} {k : KV} {r : List Nat} (h : Cz w S v k.dv r) : v = k.val := by
 cases k <;> cases h <;> rfl
theorem KV.czL_inv : ∀ {vs : List Value} {kk : List KV} {r : List Nat}, CzL w S vs (kk.map KV.dv) r -> vs = kk.map KV.val
 | _, [], _, h => by cases h; rfl
 | _, k :: kk, _, h => by
   cases h with
   | cons v x r vs xs rs h hs => simp [KV.cz_inv h, KV.czL_inv hs]
theorem KV.one (k : KV) : k.val.oneCell' = true := by cases k <;> rfl
end
theorem cellEq_like {x y : KV} (h : x.like y = true) : cellEq x.code x.dv y.dv = some (decide (x = y)) := by
 cases x <;> cases y <;> simp [KV.like] at h
 ·subst h
  rename_i k a b
  by_cases e : a = b <;> simp [KV.code, KV.dv, cellEq, e]
 ·rename_i a b
  cases a <;> cases b <;> simp [KV.code, KV.dv, cellEq]
 ·rename_i a b
  by_cases e : a = b
  ·subst e
   simp [KV.code, KV.dv, cellEq, MapKept.bytes_beq]
  ·have : (a == b) = false := by
    cases hb : a == b
    ·rfl
    ·exact (e ((MapKept.bytes_beq a b).1 hb)).elim
   simp [KV.code, KV.dv, cellEq, this, e]
theorem cellsEq_kis : ∀ (xs ys : List KV) (pre pre' : List DV), pre.length = pre'.length -> likeK xs ys = true ->
  cellsEq (pre ++ xs.map KV.dv) (pre' ++ ys.map KV.dv) (kis pre.length xs) = some (decide (xs = ys))
 | [], [], _, _, _, _ => by simp [kis, cellsEq]
 | x :: xs, y :: ys, pre, pre', hp, h => by
   simp only [likeK, Bool.and_eq_true] at h
   have ih := cellsEq_kis xs ys (pre ++ [x.dv]) (pre' ++ [y.dv]) (by simp [hp]) h.2
   simp only [List.append_assoc, List.cons_append, List.nil_append, List.length_append, List.length_cons, List.length_nil] at ih
   simp only [kis, cellsEq, List.map_cons]
   rw [show (pre ++ x.dv :: xs.map KV.dv)[pre.length]? = some x.dv by simp, show (pre' ++ y.dv :: ys.map KV.dv)[pre.length]? = some y.dv by rw [hp]; simp]
   simp only [cellEq_like h.1, Nat.zero_add] at ih ⊢
   rw [ih]
   by_cases e1 : x = y <;> by_cases e2 : xs = ys <;> simp [e1, e2]
 | [], _ :: _, _, _, _, h => by simp [likeK] at h
 | _ :: _, [], _, _, _, h => by simp [likeK] at h
def KeyT (P : Program) (kt : TypeId) (key : List KV) : Prop := ∀ em w, (Instr.checkKey em 10000 kt (KV.key key)).run P w = .ok () w
structure KeyOk (P : Program) (kt : TypeId) (key : List KV) (es : List (List KV × KV)) : Prop where
 chk : KeyT P kt key
 cmp : cmpT P 20 kt = some (kis 0 key)
 kind : kindT P kt = some true
 size : sizeT P kt = some key.length
 like : ∀ e ∈ es, likeK key e.1 = true
theorem likeK_len : ∀ {xs ys : List KV}, likeK xs ys = true -> xs.length = ys.length
 | [], [], _ => rfl
 | _ :: _, _ :: _, h => by
   simp only [likeK, Bool.and_eq_true] at h
   simp [likeK_len h.2]
 | [], _ :: _, h => by simp [likeK] at h
 | _ :: _, [], h => by simp [likeK] at h
section
variable {P : Program} {w : World}
theorem run_keyEq {kt : TypeId} {xs ys : List KV} (hc : cmpT P 20 kt = some (kis 0 xs)) (hk : kindT P kt = some true) (hs : sizeT P kt = some xs.length) (hl : likeK xs ys = true) :
  (Op.equal kt (KV.key xs) (KV.key ys)).run P w = .ok (decide (xs = ys)) w := by
 have h := (eq_run (P := P) (w := w) (S := fun _ => True) 20 kt _ hc 10000 (by omega)).2.1 (xs.map KV.val).toArray (ys.map KV.val).toArray (xs.map KV.dv) (ys.map KV.dv) (decide (xs = ys)) xs.length hk hs (by simp) (by simp [likeK_len hl])
  (CzL.rdA (r := []) (by simpa using KV.czL xs)) (CzL.rdA (r := []) (by simpa using KV.czL ys))
 have h1 := cellsEq_kis xs ys [] [] rfl hl
 exact h (by simpa using h1)
theorem run_findA {kt : TypeId} {key : List KV} (hc : cmpT P 20 kt = some (kis 0 key)) (hk : kindT P kt = some true) (hs : sizeT P kt = some key.length) : ∀ (l : List MapEntry) (es : List (List KV × KV)) (i : Nat),
  l.map (fun e => (e.key, e.val)) = es.map (fun x => (KV.key x.1, x.2.val)) -> (∀ e ∈ es, likeK key e.1 = true) ->
  (Instr.findAsking kt (KV.key key) l i).run P w = .ok ((mpIdx es key i).map fun x => (x.1, x.2.val)) w
 | [], [], _, _, _ => rfl
 | e :: l, x :: es, i, hl, hk' => by
   simp only [List.map_cons, List.cons.injEq, Prod.mk.injEq] at hl
   obtain ⟨⟨h1, h2⟩, h3⟩ := hl
   have ih := run_findA hc hk hs l es (i + 1) h3 (fun e he => hk' e (by simp [he]))
   have he := run_keyEq (w := w) hc hk hs (hk' x (by simp))
   rw [<- h1] at he
   simp only [Instr.findAsking, Sem.run_bind, he, Result.andThen_ok, mpIdx]
   by_cases e : key = x.1
   ·simp [e, h2]
   ·simp [e, ih]
 | [], _ :: _, _, h, _ => by simp at h
 | _ :: _, [], _, h, _ => by simp at h
theorem run_findK {kt : TypeId} {key : List KV} {es : List (List KV × KV)} (ko : KeyOk P kt key es) {l : List MapEntry} (hl : l.map (fun e => (e.key, e.val)) = es.map (fun x => (KV.key x.1, x.2.val))) :
  (Instr.findKey kt (KV.key key) l).run P w = .ok ((mpIdx es key 0).map fun x => (x.1, x.2.val)) w := by
 rw [run_findKey_eq]
 ·exact run_findA ko.cmp ko.kind ko.size l es 0 hl ko.like
 ·have := ko.kind
  unfold kindT at this
  split at this <;> simp_all
theorem same_val (n : Nat) (k : KV) : Instr.sameBits n k.val k.val = true := by
 cases k <;> cases n <;> simp [KV.val, Instr.sameBits, MapKept.bytes_beq]
theorem zip_self_all {α : Type} (f : α × α -> Bool) : ∀ (l : List α), (∀ x ∈ l, f (x, x) = true) -> (l.zip l).all f = true
 | [], _ => rfl
 | x :: l, h => by
   simp only [List.zip_cons_cons, List.all_cons, Bool.and_eq_true]
   exact ⟨h x (by simp), zip_self_all f l (fun y hy => h y (by simp [hy]))⟩
theorem same_key (key : List KV) : Instr.sameBits 10000 (KV.key key) (KV.key key) = true := by
 show (_ && _) = true
 rw [Bool.and_eq_true]
 refine ⟨by simp, zip_self_all _ _ ?_⟩
 intro x hx
 simp only [List.mem_map] at hx
 obtain ⟨k, _, rfl⟩ := hx
 exact same_val _ k
theorem run_stays (key : List KV) : (Instr.keyThatStays (KV.key key) (KV.key key)).run P w = .ok (KV.key key) w := by
 simp [Instr.keyThatStays, same_key]
end
theorem mpIdx_some : ∀ {es : List (List KV × KV)} {k : List KV} {i : Nat} {r : Nat × KV}, mpIdx es k i = some r -> i <= r.1 /\ ∃ e, es[r.1 - i]? = some e /\ e.1 = k /\ ∀ v, mpSet es k v = es.set (r.1 - i) (k, v)
 | [], _, _, _, h => by simp [mpIdx] at h
 | e :: es, k, i, r, h => by
   simp only [mpIdx] at h
   split at h
   ·rename_i he
    injection h with h
    subst h
    exact ⟨Nat.le_refl _, e, by simp, he.symm, fun v => by simp [mpSet, he]⟩
   ·rename_i he
    obtain ⟨h1, e', h2, h3, h4⟩ := mpIdx_some h
    have hr : r.1 - i = (r.1 - (i + 1)) + 1 := by omega
    refine ⟨by omega, e', ?_, h3, fun v => ?_⟩
    ·rw [hr, List.getElem?_cons_succ]; exact h2
    ·rw [hr]; simp [mpSet, he, h4]
theorem mpIdx_none : ∀ {es : List (List KV × KV)} {k : List KV} {i : Nat}, mpIdx es k i = none -> ∀ v, mpSet es k v = es ++ [(k, v)]
 | [], _, _, _, _ => rfl
 | e :: es, k, i, h, v => by
   simp only [mpIdx] at h
   split at h
   ·cases h
   ·rename_i he
    simp [mpSet, he, mpIdx_none h v]
def mapT (P : Program) (t : TypeId) : Option (TypeId × TypeId) :=
 match P.underlying t with
 | some (.map k e) => some (k, e)
 | _ => none
def zero1 (P : Program) (t : TypeId) : Option KV :=
 match P.info? t with
 | some i => match i.zero with
   | some (.int k n) => some (.ki k n)
   | some (.bool b) => some (.kb b)
   | some (.string s) => some (.ks s)
   | _ => none
 | none => none
section
variable {P : Program} {w : World}
theorem mapT_und {t k e : TypeId} (h : mapT P t = some (k, e)) : P.underlying t = some (.map k e) := by
 unfold mapT at h
 split at h
 ·injection h with h
  injection h with h1 h2
  subst h1
  subst h2
  assumption
 ·cases h
theorem run_zero1 {t : TypeId} {z : KV} (h : zero1 P t = some z) : (zeroValue t).run P w = .ok z.val w := by
 unfold zero1 at h
 split at h
 ·rename_i i hi
  split at h <;> first
   | (rename_i hz; injection h with h; subst h; simp [zeroValue, typeInfo, hi, hz, KV.val])
   | cases h
 ·cases h
theorem run_lookup {t kt e : TypeId} {key : List KV} {es : List (List KV × KV)} {z : KV} (ht : mapT P t = some (kt, e)) (hz : zero1 P e = some z) (ko : KeyOk P kt key es) {b clock : Nat} {l : Array MapEntry} (hb : w.heap[b]? = some (.map l clock))
  (hl : l.toList.map (fun e => (e.key, e.val)) = es.map (fun x => (KV.key x.1, x.2.val))) (ok : Bool) :
  (Instr.lookup t (.map (some b)) (KV.key key) ok).run P w = .ok (if ok then .tuple #[((mpGet es key).getD z).val, .bool (mpGet es key).isSome] else ((mpGet es key).getD z).val) w := by
 have hf := run_findK (w := w) ko hl
 have hc := ko.chk l.isEmpty w
 rw [mpGet_idx es key 0]
 simp only [Instr.lookup, Sem.run_bind, run_underlying (mapT_und ht), Result.andThen_ok, MapKept.run_getObj_map hb, Sem.run_pure, hc, hf]
 cases mpIdx es key 0 with
 | none => cases ok <;> simp [run_zero1 hz]
 | some r => cases ok <;> simp
theorem run_update {t kt e : TypeId} {key : List KV} {es : List (List KV × KV)} {v : KV} (ht : mapT P t = some (kt, e)) (ko : KeyOk P kt key es) {b clock : Nat} {l : Array MapEntry} (hb : w.heap[b]? = some (.map l clock))
  (hl : l.toList.map (fun e => (e.key, e.val)) = es.map (fun x => (KV.key x.1, x.2.val))) :
  ∃ l' clock', (Instr.mapUpdate t (.map (some b)) (KV.key key) v.val).run P w = .ok () { w with heap := w.heap.setIfInBounds b (.map l' clock') } /\ l'.toList.map (fun e => (e.key, e.val)) = (mpSet es key v).map (fun x => (KV.key x.1, x.2.val)) := by
 have hf := run_findK (w := w) ko hl
 have hc := ko.chk false w
 cases hi : mpIdx es key 0 with
 | none =>
   rw [hi] at hf
   refine ⟨l.push { key := KV.key key, val := v.val, born := clock }, clock + 1, ?_, ?_⟩
   ·simp only [Instr.mapUpdate, Sem.run_bind, run_underlying (mapT_und ht), Result.andThen_ok, MapKept.run_getObj_map hb, hc, hf, Option.map_none]
    simp [setObj, Sem.run, hb]
   ·rw [mpIdx_none hi v]
    simp [hl]
 | some r =>
   rw [hi] at hf
   obtain ⟨_, e0, h2, h3, h4⟩ := mpIdx_some hi
   simp only [Nat.sub_zero] at h2 h4
   have hkey : ∃ m : MapEntry, l[r.1]? = some m /\ m.key = KV.key key := by
    have hm := congrArg (fun (x : List (Value × Value)) => x[r.1]?) hl
    simp only [List.getElem?_map, h2, Option.map_some] at hm
    cases hr : l.toList[r.1]? with
    | none => simp [hr] at hm
    | some m =>
      rw [hr] at hm
      simp only [Option.map_some, Option.some.injEq, Prod.mk.injEq] at hm
      exact ⟨m, by simpa using hr, by rw [hm.1, h3]⟩
   obtain ⟨m, hm, hmk⟩ := hkey
   refine ⟨l.modify r.1 (fun e => { e with key := KV.key key, val := v.val }), clock, ?_, ?_⟩
   ·simp only [Instr.mapUpdate, Sem.run_bind, run_underlying (mapT_und ht), Result.andThen_ok, MapKept.run_getObj_map hb, hc, hf, Option.map_some, hm, Option.getD_some, hmk, run_stays]
    simp [setObj, Sem.run, hb]
   ·rw [h4 v]
    apply List.ext_getElem?
    intro j
    have hj := congrArg (fun (x : List (Value × Value)) => x[j]?) hl
    simp only [List.getElem?_map, Array.getElem?_toList] at hj
    simp only [List.getElem?_map, Array.getElem?_toList, Array.getElem?_modify, List.getElem?_set]
    by_cases hij : r.1 = j
    ·subst hij
     have hlt : r.1 < es.length := (List.getElem?_eq_some_iff.1 h2).1
     simp [hm, hlt]
    ·simp [hij, hj]
end
def alook (P : Program) (env : Env) (t : TypeId) (x i : Operand) (ok : Bool) : Option (Prop × AV) :=
 match opd env x, opd env i, mapT P t with
 | .al s [], .sv (.ag l), some (kt, e) => match env.root s, kvs l, zero1 P e with
   | some (.mp es), some key, some z => some (KeyOk P kt key es, if ok then .tup [.one ((mpGet es key).getD z).dv, .one (.bool (mpGet es key).isSome)] else .sv (.one ((mpGet es key).getD z).dv))
   | _, _, _ => none
 | _, _, _ => none
def aupd (P : Program) (env : Env) (t : TypeId) (x i y : Operand) : Option (Prop × Env) :=
 match opd env x, opd env i, opd env y, mapT P t with
 | .al s [], .sv (.ag l), .sv (.one d), some (kt, _) => match env.root s, kvs l, kv1 d with
   | some (.mp es), some key, some v => some (KeyOk P kt key es, env.setRoot s (.mp (mpSet es key v)) 0)
   | _, _, _ => none
 | _, _, _, _ => none
section
variable {P : Program} {N B : Nat} {w0 : World} {S0 : Nat -> Prop} {env : Env} {a : Act} {w : World} {rows : Nat -> List Nat} {next : Act -> World -> Prop} {Q : Exit -> Act -> World -> Prop}
theorem ag_key {S : Nat -> Prop} {v : Value} {l : List DV} {ks : List KV} {r : List Nat} (h : CzS w S v (.ag l) r) (hk : kvs l = some ks) : v = KV.key ks := by
 cases h with
 | ag vs l r hl =>
   rw [kvs_dv hk] at hl
   unfold KV.key
   rw [<- KV.czL_inv hl]
theorem alook_ok (h : SimR N B w0 S0 env a w rows) {o : Oper} {t : TypeId} {x i : Operand} {ok : Bool} (ho : o.op = .lookup t x i ok) {ob : Prop} {av : AV} (he : alook P env t x i ok = some (ob, av)) (hob : ob) :
  ∃ v, Yields P o a w v /\ AVR w (SS B S0 w rows) env (Act.f a) av v [] := by
 have hx := h.opd_ok x
 have hi := h.opd_ok i
 unfold alook at he
 split at he
 ·rename_i s l kt e hox hoi ht
  rw [hox] at hx
  rw [hoi] at hi
  split at he
  ·rename_i es key z hroot hkey hz
   simp only [Option.some.injEq, Prod.mk.injEq] at he
   obtain ⟨rfl, rfl⟩ := he
   obtain ⟨_, x', y, hroot', hcat⟩ := hx
   rw [hroot] at hroot'
   injection hroot' with hroot'
   subst hroot'
   simp only [cat, Option.some.injEq, Prod.mk.injEq] at hcat
   obtain ⟨hval, _⟩ := hcat
   have hcz := h.root_cz hroot
   rw [hval] at hcz
   generalize hvx : a.eval x = vx at *
   generalize hrr : rows s = rr at *
   cases hcz with
   | mp b arr clock _ hb hl =>
     have hbs : b ∈ rows s := by rw [hrr]; simp
     have hlt := (h.own s b hbs).2
     have hrun := fun (w' : World) (hw' : Below w.heap.size w w') => run_lookup (P := P) ht hz hob ((hw'.block b hlt).trans hb) hl ok
     refine ⟨(if ok then .tuple #[((mpGet es key).getD z).val, .bool (mpGet es key).isSome] else ((mpGet es key).getD z).val), fun w' hw' => ?_, ?_⟩
     ·simp only [execOp, ho, hvx, ag_key hi hkey]
      exact run_value (hrun w' hw')
     ·cases ok
      ·exact .one _ _ _ (KV.cz _)
      ·refine ⟨_, rfl, ?_⟩
       have := CzSL.cons _ _ _ _ _ _ (.one _ _ _ (KV.cz (w := w) (S := SS B S0 w rows) ((mpGet es key).getD z))) (CzSL.cons _ _ _ _ _ _ (.one _ _ _ (.bool (mpGet es key).isSome)) .nil)
       simpa using this
  ·cases he
 ·cases he
theorem aupd_ok (h : SimR N B w0 S0 env a w rows) {o : Oper} {t : TypeId} {x i y : Operand} (ho : o.op = .mapUpdate t x i y \/ o.op = .insert t x i y) {ob : Prop} {env' : Env} (he : aupd P env t x i y = some (ob, env')) (hob : ob) (hdst : o.dst = none)
  (hn : ∀ w', Sim N B w0 S0 env' a w' -> next a w') : o.wp P a w next Q := by
 have hx := h.opd_ok x
 have hi := h.opd_ok i
 have hy := h.opd_ok y
 unfold aupd at he
 split at he
 ·rename_i s l d kt e hox hoi hoy ht
  rw [hox] at hx
  rw [hoi] at hi
  rw [hoy] at hy
  split at he
  ·rename_i es key v hroot hkey hv
   simp only [Option.some.injEq, Prod.mk.injEq] at he
   obtain ⟨rfl, rfl⟩ := he
   obtain ⟨_, x', y', hroot', hcat⟩ := hx
   rw [hroot] at hroot'
   injection hroot' with hroot'
   subst hroot'
   simp only [cat, Option.some.injEq, Prod.mk.injEq] at hcat
   obtain ⟨hval, _⟩ := hcat
   have hcz := h.root_cz hroot
   have hvy : a.eval y = v.val := by
    have := CzS.one_inv hy
    rw [kv1_dv hv] at this
    exact KV.cz_inv this
   generalize hvx : a.eval x = vx at *
   generalize hrr : rows s = rr at hcz
   rw [hval] at hcz
   cases hcz with
   | mp b arr clock _ hb hl =>
     have hbs : b ∈ rows s := by rw [hrr]; simp
     obtain ⟨hB, hlt⟩ := h.own s b hbs
     obtain ⟨l', clock', hrun, hl'⟩ := run_update (P := P) (v := v) ht hob hb hl
     have hne : ∀ k, k ≠ b -> (w.heap.setIfInBounds b (.map l' clock'))[k]? = w.heap[k]? := fun k hk => by
      rw [Array.getElem?_setIfInBounds]; simp [Ne.symm hk]
     refine wp_skipv (w' := { w with heap := w.heap.setIfInBounds b (.map l' clock') }) ?_ ?_
     ·rcases ho with ho | ho
      ·simp only [execOp, ho, hvx, ag_key hi hkey, hvy]
       simp [hrun]
      ·simp only [execOp, ho, hvx, ag_key hi hkey, hvy]
       simp [hrun]
     ·rw [hdst]
      refine hn _ ⟨_, h.reroot (w' := { w with heap := w.heap.setIfInBounds b (.map l' clock') }) hroot (n := 0) (.inl rfl) ⟨⟨rfl, rfl, rfl, by simp, fun k hk => hne k (by omega)⟩, Nat.le_refl _⟩ (rs' := [b]) ?_ (by simp) ?_ ?_⟩
      ·intro k hk
       simp only [List.mem_singleton] at hk
       subst hk
       exact ⟨.inl hbs, by simpa using hlt⟩
      ·intro k _ hk
       exact hne k (by rintro rfl; exact hk hbs)
      ·intro S' _ _
       rw [hval]
       exact .mp b l' clock' _ (by simp [Array.getElem?_setIfInBounds, hlt]) hl'
  ·cases he
 ·cases he
theorem amap_ok (h : SimR N B w0 S0 env a w rows) {o : Oper} {t : TypeId} (ho : o.op = .makeMap t none) {d : Nat} (hd : d < N) (hdst : o.dst = some d)
  (hn : ∀ a' w', Sim N B w0 S0 (env.put d (.sv (.one (.mp [])))) a' w' -> next a' w') : o.wp P a w next Q := by
 have hb : Below w.heap.size w (w.alloc (.map #[] 0)) := (Below.refl _ _).alloc (Nat.le_refl _) _
 refine wp_value (v := .map (some w.heap.size)) (w' := w.alloc (.map #[] 0)) ?_ ?_
 ·simp only [execOp, ho]
  exact run_value (by simp [Instr.makeMap, newObj, Sem.run])
 ·rw [hdst]
  exact hn _ _ ⟨_, h.put hd hb (r := [w.heap.size]) (by simp) (by simp) (.one _ _ _ (.mp _ #[] 0 [] (heap_alloc_new w _) rfl))⟩
end
end Go.Av
namespace Go.Av
open Go Go.RowKit
def bnd (env : Env) (dflt : Nat) : Option Operand -> Option (Prop × Nat)
 | none => some (True, dflt)
 | some x => match opd env x with
   | .sv (.one (.int _ n)) => some (0 <= n, n.toNat)
   | _ => none
def aslice (P : Program) (env : Env) (t : TypeId) (x : Operand) (lo hi : Option Operand) : Option (Prop × AV) :=
 match elT P t with
 | some e => match sizeT P e with
   | some z => match sliceOf env (opd env x) with
     | some els => match bnd env 0 lo, bnd env els.length hi with
       | some (o1, l), some (o2, h) => match opd env x with
         | .al s p => match env.at s p with
           | some (.ow _ _) => some (o1 /\ o2 /\ l <= h /\ h <= els.length /\ (∀ e ∈ els, e.length = z), .sub s p l h)
           | some (.sl _) => some (o1 /\ o2 /\ l <= h /\ h <= els.length /\ (∀ e ∈ els, e.length = z), .sv (.one (.sl ((els.drop l).take (h - l)))))
           | _ => none
         | .sv (.one (.sl _)) => some (o1 /\ o2 /\ l <= h /\ h <= els.length /\ (∀ e ∈ els, e.length = z), .sv (.one (.sl ((els.drop l).take (h - l)))))
         | .sv (.one .nil) => some (o1 /\ o2 /\ l <= h /\ h <= els.length, .sv (.one (.sl [])))
         | _ => none
       | _, _ => none
     | none => none
   | none => none
 | none => match arrT P t with
   | some (n, e) => match sizeT P e, opd env x, lo, hi with
     | some 1, .pt s p 0 0, none, none => match env.at s p with
       | some (.bx l) => some (l.length = n, .bsl s p n)
       | _ => none
     | _, _, _, _ => none
   | none => none
def placesT (P : Program) (t : TypeId) : Option (List (Nat × Nat)) :=
 match P.underlying t with
 | some (.struct fields) => fields.toList.mapM (fun f => (P.info? f.type).map fun i => (f.offset, i.size))
 | _ => none
def abuild (P : Program) (env : Env) (t : TypeId) (parts : Array (Nat × Operand)) : Option (Prop × AV) :=
 match zeroT P t, partsOf env parts.toList with
 | some zl, some dp => match placesT P t with
   | some pl => match afill (fun i => pl[i]?) zl dp with
     | some l => some (True, .sv (.ag l))
     | none => none
   | none => match arrT P t with
     | some (_, e) => match sizeT P e with
       | some s => match afill (fun i => some (i * s, s)) zl dp with
         | some l => some (True, .sv (.ag l))
         | none => none
       | none => none
     | none => none
 | _, _ => none
def afieldV (P : Program) (env : Env) (t : TypeId) (x : Operand) (f : Nat) : Option (Prop × AV) :=
 match fldT P t f, opd env x with
 | some (off, ft), .sv (.ag l) => match kindT P ft, sizeT P ft with
   | some true, some n => some (off + n <= l.length, .sv (.ag ((l.drop off).take n)))
   | some false, some _ => match l[off]? with
     | some d => some (True, .sv (.one d))
     | none => none
   | _, _ => none
 | _, _ => none
def aidx (P : Program) (env : Env) (t : TypeId) (x i : Operand) : Option (Prop × AV) :=
 match opd env i with
 | .sv (.one (.int _ n)) => match opd env x with
   | .sv (.one (.str s)) => if strT P t then match s[n.toNat]? with
     | some b => some (0 <= n, .sv (.one (.int .u8 b.toNat)))
     | none => none
    else none
   | .sv (.ag l) => match arrT P t with
     | some (len, e) => match kindT P e, sizeT P e with
       | some false, some 1 => match l[n.toNat]? with
         | some d => some (0 <= n /\ n < len, .sv (.one d))
         | none => none
       | _, _ => none
     | none => none
   | _ => none
 | _ => none
def astrsl (P : Program) (env : Env) (t : TypeId) (x : Operand) (lo hi : Option Operand) : Option (Prop × AV) :=
 match opd env x with
 | .sv (.one (.str s)) => if strT P t then match bnd env 0 lo, bnd env s.size hi with
   | some (o1, l), some (o2, h) => some (o1 /\ o2 /\ l <= h /\ h <= s.size, .sv (.one (.str (s.extract l h))))
   | _, _ => none
  else none
 | _ => none
def intsOf (env : Env) : List Operand -> Option (List Int)
 | [] => some []
 | x :: xs => match opd env x, intsOf env xs with
   | .sv (.one (.int _ n)), some l => some (n :: l)
   | _, _ => none
def aminmax (env : Env) (b : Builtin) (xs : List Operand) : Option (Prop × AV) :=
 match xs with
 | [] => none
 | x :: xs => match opd env x, intsOf env xs with
   | .sv (.one (.int k n)), some l => match b with
     | .min => some (True, .sv (.one (.int k (l.foldl min n))))
     | .max => some (True, .sv (.one (.int k (l.foldl max n))))
     | _ => none
   | _, _ => none
def apure2 (P : Program) (env : Env) (o : Op) : Option (Prop × AV) :=
 match o with
 | .slice t x lo hi none => match astrsl P env t x lo hi with
   | some r => some r
   | none => aslice P env t x lo hi
 | .build t parts => abuild P env t parts
 | .field t x f => afieldV P env t x f
 | .index t x i => aidx P env t x i
 | .lookup t x i ok => alook P env t x i ok
 | .call c => match c.callee with
   | .builtin b => aminmax env b c.args.toList
   | _ => none
 | _ => none
section
variable {P : Program} {N B : Nat} {w0 : World} {S0 : Nat -> Prop} {env : Env} {a : Act} {w : World} {rows : Nat -> List Nat} {next : Act -> World -> Prop} {Q : Exit -> Act -> World -> Prop}
theorem bnd_ok (h : SimR N B w0 S0 env a w rows) {d : Nat} {x : Option Operand} {ob : Prop} {n : Nat} (he : bnd env d x = some (ob, n)) (hob : ob) :
  (x = none /\ n = d) \/ ∃ y k, x = some y /\ a.eval y = .int k (n : Int) := by
 unfold bnd at he
 split at he
 ·simp only [Option.some.injEq, Prod.mk.injEq] at he
  exact .inl ⟨rfl, he.2.symm⟩
 ·rename_i y
  have hy := h.opd_ok y
  split at he
  ·rename_i k m hopd
   rw [hopd] at hy
   simp only [Option.some.injEq, Prod.mk.injEq] at he
   obtain ⟨rfl, rfl⟩ := he
   refine .inr ⟨y, k, rfl, ?_⟩
   rw [(CzS.one_inv hy).int_inv, Int.toNat_of_nonneg hob]
  ·cases he
theorem run_sliceAt {t e : TypeId} {z : Nat} {A : Option Addr} {n c l u : Nat} {lo hi : Option Value} (h : elT P t = some e) (hs : sizeT P e = some z) (hlo : (lo = none /\ l = 0) \/ ∃ k, lo = some (.int k (l : Int))) (hhi : (hi = none /\ u = n) \/ ∃ k, hi = some (.int k (u : Int))) (h1 : l <= u) (h2 : u <= c) :
  (Instr.sliceAt t (.slice A n c) lo hi none).run P w = .ok (.slice (if c = l then A else A.map (·.add (l * z))) (u - l) (c - l)) w := by
 unfold elT at h
 split at h
 ·rename_i e' hu
  injection h with h
  subst h
  have b1 : ∀ (k : IntKind) (m y : Nat) (code : BoundsCode), m <= y -> (Instr.sliceBound (.int k (m : Int)) y code).run P w = .ok m w := by
   intro k m y code hm
   have : (0 : Int) <= (m : Int) /\ (m : Int) <= (y : Int) := by omega
   simp [Instr.sliceBound, asIntOf, this]
  rcases hlo with ⟨rfl, rfl⟩ | ⟨kl, rfl⟩
  ·rcases hhi with ⟨rfl, rfl⟩ | ⟨kh, rfl⟩
   ·simp [Instr.sliceAt, Instr.slice, Instr.sliceBounds, run_underlying hu, run_sizeOf hs]
   ·simp [Instr.sliceAt, Instr.slice, Instr.sliceBounds, run_underlying hu, run_sizeOf hs, b1 kh u c _ h2]
  ·rcases hhi with ⟨rfl, rfl⟩ | ⟨kh, rfl⟩
   ·simp [Instr.sliceAt, Instr.slice, Instr.sliceBounds, run_underlying hu, run_sizeOf hs, b1 kl l u _ h1]
   ·simp [Instr.sliceAt, Instr.slice, Instr.sliceBounds, run_underlying hu, run_sizeOf hs, b1 kl l u _ h1, b1 kh u c _ h2]
 ·cases h
theorem run_sliceAtArr {t e : TypeId} {z n : Nat} {ad : Addr} (h : arrT P t = some (n, e)) (hs : sizeT P e = some z) :
  (Instr.sliceAt t (.pointer (some ad)) none none none).run P w = .ok (.slice (some ad) n n) w := by
 unfold arrT at h
 split at h
 ·rename_i n' e' hu
  injection h with h
  injection h with ha hb
  subst ha
  subst hb
  simp [Instr.sliceAt, Instr.sliceBounds, run_underlying hu, run_sizeOf hs, Instr.sureAddr, add_zero]
 ·cases h
theorem Cz.sh_cut {S : Nat -> Prop} {v : Value} {els : List (List DV)} {r : List Nat} (h : Cz w S v (.sl els) r) {l u z : Nat} (h1 : l <= u) (h2 : u <= els.length) (hz : ∀ e ∈ els, e.length = z) :
  ∃ A c, v = .slice A els.length c /\ els.length <= c /\ Cz w S (.slice (if c = l then A else A.map (·.add (l * z))) (u - l) (c - l)) (.sl ((els.drop l).take (u - l))) [] := by
 by_cases hul : u - l = 0
 ·obtain ⟨A, c, hv, hc, _⟩ := h.slice_len rfl
  refine ⟨A, c, hv, hc, ?_⟩
  rw [hul, List.take_zero]
  exact .shNil _ _
 ·cases h with
  | shNil => simp at h2; omega
  | sh ad n c z0 els vs hS hn hc hm hz0 hcell hl =>
    subst hn
    refine ⟨some ad, c, rfl, hc, ?_⟩
    rw [if_neg (by omega)]
    have hcz := hl.nil_split (l * z) ((u - l) * z)
    rw [flatten_drop l hz, flatten_take (u - l) (fun e he => hz e (List.mem_of_mem_drop he))] at hcz
    refine .sh _ _ _ z _ _ (by rw [block_of_add]; exact hS) (by rw [List.length_take, List.length_drop]; omega) (by omega) (by omega) (fun e he => hz e (List.mem_of_mem_drop (List.mem_of_mem_take he))) ?_ hcz
    intro j u' hu'
    rw [List.getElem?_take] at hu'
    split at hu'
    ·rw [List.getElem?_drop] at hu'
     rw [add_of_add]
     exact hcell _ _ hu'
    ·cases hu'
theorem aslice_ok (h : SimR N B w0 S0 env a w rows) {o : Oper} {t : TypeId} {x : Operand} {lo hi : Option Operand} (ho : o.op = .slice t x lo hi none) {ob : Prop} {av : AV} (he : aslice P env t x lo hi = some (ob, av)) (hob : ob) :
  ∃ v, Yields P o a w v /\ AVR w (SS B S0 w rows) env (Act.f a) av v [] := by
 have hx := h.opd_ok x
 unfold aslice at he
 split at he
 ·rename_i e helT
  split at he
  ·rename_i z hs
   split at he
   ·rename_i els hsl
    split at he
    ·rename_i o1 l o2 u hb1 hb2
     have hY : ∀ A n c, a.eval x = .slice A n c -> o1 -> o2 -> n = els.length -> l <= u -> u <= n -> n <= c -> Yields P o a w (.slice (if c = l then A else A.map (·.add (l * z))) (u - l) (c - l)) := by
      intro A n c hv p1 p2 hn h1 h2 h3 w' hw'
      have e1 : (lo.map a.eval = none /\ l = 0) \/ ∃ k, lo.map a.eval = some (.int k (l : Int)) := by
       rcases bnd_ok h hb1 p1 with ⟨rfl, rfl⟩ | ⟨y, k, rfl, hy⟩
       ·exact .inl ⟨rfl, rfl⟩
       ·exact .inr ⟨k, by simp [hy]⟩
      have e2 : (hi.map a.eval = none /\ u = n) \/ ∃ k, hi.map a.eval = some (.int k (u : Int)) := by
       rcases bnd_ok h hb2 p2 with ⟨rfl, rfl⟩ | ⟨y, k, rfl, hy⟩
       ·exact .inl ⟨rfl, hn.symm⟩
       ·exact .inr ⟨k, by simp [hy]⟩
      simp only [execOp, ho, hv]
      exact run_value (run_sliceAt helT hs e1 e2 h1 (by omega))
     split at he
     ·rename_i s p hopd
      rw [hopd] at hx hsl
      obtain ⟨_, x0, y0, hroot, hcat⟩ := hx
      split at he
      ·rename_i z' els' hat
       simp only [Option.some.injEq, Prod.mk.injEq] at he
       obtain ⟨rfl, rfl⟩ := he
       obtain ⟨p1, p2, h1, h2, hz⟩ := hob
       obtain ⟨rfl, r, hcz, _⟩ := h.place hroot hcat hat
       simp only [sliceOf, hat, DV.elsOf, Option.some.injEq] at hsl
       subst hsl
       obtain ⟨A, c, hv, hc, _⟩ := hcz.slice_len rfl
       refine ⟨_, hY A _ c hv p1 p2 rfl h1 h2 hc, rfl, x0, _, A, _, c, els', hroot, by rw [hcat, hv], rfl, rfl, h1, h2, hc, z, hz, rfl⟩
      ·rename_i els' hat
       simp only [Option.some.injEq, Prod.mk.injEq] at he
       obtain ⟨rfl, rfl⟩ := he
       obtain ⟨p1, p2, h1, h2, hz⟩ := hob
       obtain ⟨rfl, r, hcz, _⟩ := h.place hroot hcat hat
       simp only [sliceOf, hat, DV.elsOf, Option.some.injEq] at hsl
       subst hsl
       obtain ⟨A, c, hv, hc, hcut⟩ := hcz.sh_cut h1 h2 hz
       exact ⟨_, hY A _ c hv p1 p2 rfl h1 h2 hc, .one _ _ _ hcut⟩
      ·cases he
     ·rename_i els' hopd
      rw [hopd] at hx hsl
      simp only [sliceOf, DV.elsOf, Option.some.injEq] at hsl
      subst hsl
      simp only [Option.some.injEq, Prod.mk.injEq] at he
      obtain ⟨rfl, rfl⟩ := he
      obtain ⟨p1, p2, h1, h2, hz⟩ := hob
      obtain ⟨A, c, hv, hc, hcut⟩ := (CzS.one_inv hx).sh_cut h1 h2 hz
      exact ⟨_, hY A _ c hv p1 p2 rfl h1 h2 hc, .one _ _ _ hcut⟩
     ·rename_i hopd
      rw [hopd] at hx hsl
      simp only [sliceOf, DV.elsOf, Option.some.injEq] at hsl
      subst hsl
      simp only [Option.some.injEq, Prod.mk.injEq] at he
      obtain ⟨rfl, rfl⟩ := he
      obtain ⟨p1, p2, h1, h2⟩ := hob
      obtain ⟨A, c, hv, hc, _⟩ := (CzS.one_inv hx).slice_len rfl
      refine ⟨_, hY A _ c hv p1 p2 rfl h1 h2 hc, .one _ _ _ ?_⟩
      have : u - l = 0 := by simp at h2; omega
      rw [this]
      exact .shNil _ _
     ·cases he
    ·cases he
   ·cases he
  ·cases he
 ·split at he
  ·rename_i n e harr
   split at he
   ·rename_i s p hs hopd
    rw [hopd] at hx
    obtain ⟨_, x0, u, y0, el, ad, hroot, hcat, hel, had, hv⟩ := hx
    split at he
    ·rename_i l hat
     simp only [Option.some.injEq, Prod.mk.injEq] at he
     obtain ⟨rfl, rfl⟩ := he
     obtain ⟨rfl, r, hcz, _⟩ := h.place hroot hcat hat
     simp only [DV.elAt, if_true, Option.some.injEq] at hel
     subst hel
     rw [Nat.zero_mul, Nat.add_zero, add_zero] at hv
     refine ⟨.slice (some ad) n n, fun w' _ => ?_, rfl, x0, u, _, l, ad, hroot, hcat, rfl, had, hob, rfl⟩
     simp only [execOp, ho, hv, Option.map_none]
     exact run_value (run_sliceAtArr harr hs)
    ·cases he
   ·cases he
  ·cases he
theorem abuild_ok (h : SimR N B w0 S0 env a w rows) {o : Oper} {t : TypeId} {parts : Array (Nat × Operand)} (ho : o.op = .build t parts) {ob : Prop} {av : AV} (he : abuild P env t parts = some (ob, av)) :
  ∃ v, Yields P o a w v /\ AVR w (SS B S0 w rows) env (Act.f a) av v [] := by
 unfold abuild at he
 split at he
 ·rename_i zl dp hz hdp
  have hpr := h.parts_ok parts.toList dp hdp
  unfold zeroT at hz
  split at hz
  ·rename_i i hi
   split at hz
   ·rename_i zv hzv
    split at hz
    ·have hcz := zerosDV_ok (w := w) (S := SS B S0 w rows) hz
     have fin : ∀ place l, afill place zl dp = some l -> (∀ cells, Instr.fill place zv.cells (parts.toList.map fun x => (x.1, a.eval x.2)) = some cells -> P.built t ((parts.map fun x => (x.1, a.eval x.2)).toList) = some cells) ->
       ∃ v, Yields P o a w v /\ AVR w (SS B S0 w rows) env (Act.f a) (.sv (.ag l)) v [] := by
      intro place l hl hb
      obtain ⟨cells', g1, g2⟩ := fill_ok place _ dp zv.cells zl l hcz hpr hl
      refine ⟨.agg cells', fun w' _ => ?_, .ag _ _ _ g2⟩
      simp only [execOp, ho]
      exact run_value (run_build w' t _ cells' (hb cells' g1))
     split at he
     ·rename_i pl hpl
      unfold placesT at hpl
      split at hpl
      ·rename_i fields hu
       split at he
       ·rename_i l hl
        simp only [Option.some.injEq, Prod.mk.injEq] at he
        obtain ⟨rfl, rfl⟩ := he
        refine fin _ l hl (fun cells hc => ?_)
        have hf : (fun x : Nat => pl.toArray[x]?) = (fun i : Nat => pl[i]?) := by funext x; simp
        simp only [Program.built, hi, hu, hzv, hpl, Array.toList_map]
        rw [hf]
        exact hc
       ·cases he
      ·cases hpl
     ·split at he
      ·rename_i n e harr
       unfold arrT at harr
       split at harr
       ·rename_i n' e' hu
        injection harr with harr
        injection harr with ha hb
        subst ha
        subst hb
        split at he
        ·rename_i s hs
         split at he
         ·rename_i l hl
          simp only [Option.some.injEq, Prod.mk.injEq] at he
          obtain ⟨rfl, rfl⟩ := he
          refine fin _ l hl (fun cells hc => ?_)
          cases hie : P.info? e' with
          | none => simp [sizeT, hie] at hs
          | some ie =>
            have hsz : ie.size = s := by simpa [sizeT, hie] using hs
            simp only [Program.built, hi, hu, hzv, hie, Array.toList_map, hsz]
            exact hc
         ·cases he
        ·cases he
       ·cases harr
      ·cases he
    ·cases hz
   ·cases hz
  ·cases hz
 ·cases he
theorem afieldV_ok (h : SimR N B w0 S0 env a w rows) {o : Oper} {t : TypeId} {x : Operand} {f : Nat} (ho : o.op = .field t x f) {ob : Prop} {av : AV} (he : afieldV P env t x f = some (ob, av)) (hob : ob) :
  ∃ v, Yields P o a w v /\ AVR w (SS B S0 w rows) env (Act.f a) av v [] := by
 have hx := h.opd_ok x
 unfold afieldV at he
 split at he
 ·rename_i off ft l hfd hopd
  rw [hopd] at hx
  generalize hv : a.eval x = vx at *
  generalize hr : ([] : List Nat) = r at hx
  cases hx with
  | ag vs l r hl =>
    subst hr
    unfold fldT at hfd
    split at hfd
    ·rename_i fs hu
     cases hf : fs[f]? with
     | none => simp [hf] at hfd
     | some fd =>
       simp [hf] at hfd
       obtain ⟨rfl, rfl⟩ := hfd
       split at he
       ·rename_i n hk hs
        simp only [Option.some.injEq, Prod.mk.injEq] at he
        obtain ⟨rfl, rfl⟩ := he
        refine ⟨.agg (vs.extract fd.offset (fd.offset + n)), fun w' _ => ?_, .ag _ _ _ ?_⟩
        ·simp only [execOp, ho, hv]
         refine run_value ?_
         simp [Instr.field, run_underlying hu, hf, asAgg, part, run_isAgg hk, run_sizeOf hs]
        ·have := hl.nil_split fd.offset n
         rw [Array.toList_extract, List.extract_eq_take_drop]
         simpa using this
       ·rename_i n hk hs
        split at he
        ·rename_i d hd
         simp only [Option.some.injEq, Prod.mk.injEq] at he
         obtain ⟨rfl, rfl⟩ := he
         obtain ⟨c, r, hc, hcz, hr⟩ := hl.get hd
         have e0 : r = [] := List.eq_nil_iff_forall_not_mem.2 fun b hb => by simpa using hr b hb
         subst e0
         have hc' : vs[fd.offset]? = some c := by simpa using hc
         refine ⟨c, fun w' _ => ?_, .one _ _ _ hcz⟩
         simp only [execOp, ho, hv]
         refine run_value ?_
         simp [Instr.field, run_underlying hu, hf, asAgg, part, run_isAgg hk, hc']
        ·cases he
       ·cases he
    ·cases hfd
 ·cases he
theorem strT_some {t : TypeId} (h : strT P t = true) : P.underlying t = some .string := by
 unfold strT at h
 split at h
 ·assumption
 ·cases h
theorem aidx_ok (h : SimR N B w0 S0 env a w rows) {o : Oper} {t : TypeId} {x i : Operand} (ho : o.op = .index t x i) {ob : Prop} {av : AV} (he : aidx P env t x i = some (ob, av)) (hob : ob) :
  ∃ v, Yields P o a w v /\ AVR w (SS B S0 w rows) env (Act.f a) av v [] := by
 have hx := h.opd_ok x
 have hi := h.opd_ok i
 unfold aidx at he
 split at he
 ·rename_i k n hopi
  rw [hopi] at hi
  have ei := (CzS.one_inv hi).int_inv
  split at he
  ·rename_i s hopx
   rw [hopx] at hx
   have ex := (CzS.one_inv hx).str_inv
   split at he
   ·rename_i hst
    split at he
    ·rename_i b hb
     simp only [Option.some.injEq, Prod.mk.injEq] at he
     obtain ⟨rfl, rfl⟩ := he
     refine ⟨.int .u8 b.toNat, fun w' _ => ?_, .one _ _ _ (.int _ _)⟩
     simp only [execOp, ho, ex, ei]
     refine run_value ?_
     simp [Instr.index, asIntOf, run_underlying (strT_some hst), hob, hb]
    ·cases he
   ·cases he
  ·rename_i l hopx
   rw [hopx] at hx
   split at he
   ·rename_i len e harr
    unfold arrT at harr
    split at harr
    ·rename_i n' e' hu
     injection harr with harr
     injection harr with ha hb
     subst ha
     subst hb
     split at he
     ·rename_i hk hs
      split at he
      ·rename_i d hd
       simp only [Option.some.injEq, Prod.mk.injEq] at he
       obtain ⟨rfl, rfl⟩ := he
       generalize hv : a.eval x = vx at *
       generalize hr : ([] : List Nat) = r at hx
       cases hx with
       | ag vs l r hl =>
         subst hr
         obtain ⟨c, r, hc, hcz, hr⟩ := hl.get hd
         have e0 : r = [] := List.eq_nil_iff_forall_not_mem.2 fun b hb => by simpa using hr b hb
         subst e0
         have hc' : vs[n.toNat]? = some c := by simpa using hc
         refine ⟨c, fun w' _ => ?_, .one _ _ _ hcz⟩
         simp only [execOp, ho, hv, ei]
         refine run_value ?_
         simp [Instr.index, asIntOf, run_underlying hu, hob.1, hob.2, run_sizeOf hs, part, run_isAgg hk, hc']
      ·cases he
     ·cases he
    ·cases harr
   ·cases he
  ·cases he
 ·cases he
theorem astrsl_ok (h : SimR N B w0 S0 env a w rows) {o : Oper} {t : TypeId} {x : Operand} {lo hi : Option Operand} (ho : o.op = .slice t x lo hi none) {ob : Prop} {av : AV} (he : astrsl P env t x lo hi = some (ob, av)) (hob : ob) :
  ∃ v, Yields P o a w v /\ AVR w (SS B S0 w rows) env (Act.f a) av v [] := by
 have hx := h.opd_ok x
 unfold astrsl at he
 split at he
 ·rename_i s hopx
  rw [hopx] at hx
  have ex := (CzS.one_inv hx).str_inv
  split at he
  ·rename_i hst
   split at he
   ·rename_i o1 l o2 u hlo hhi
    simp only [Option.some.injEq, Prod.mk.injEq] at he
    obtain ⟨rfl, rfl⟩ := he
    obtain ⟨h1, h2, h3, h4⟩ := hob
    have b1 : ∀ (w' : World) (k : IntKind) (m y : Nat) (code : BoundsCode), m <= y -> (Instr.sliceBound (.int k (m : Int)) y code).run P w' = .ok m w' := by
     intro w' k m y code hm
     have : (0 : Int) <= (m : Int) /\ (m : Int) <= (y : Int) := by omega
     simp [Instr.sliceBound, asIntOf, this]
    refine ⟨.string (s.extract l u), fun w' _ => ?_, .one _ _ _ (.str _)⟩
    rcases bnd_ok h hlo h1 with ⟨rfl, rfl⟩ | ⟨y, k, rfl, ey⟩
    ·rcases bnd_ok h hhi h2 with ⟨rfl, rfl⟩ | ⟨y', k', rfl, ey'⟩
     ·simp only [execOp, ho, ex, Option.map_none, Option.map_some]
      refine run_value ?_
      simp [Instr.sliceAt, Instr.slice, Instr.sliceBounds, run_underlying (strT_some hst)]
     ·simp only [execOp, ho, ex, ey', Option.map_none, Option.map_some]
      refine run_value ?_
      simp [Instr.sliceAt, Instr.slice, Instr.sliceBounds, run_underlying (strT_some hst), b1 _ _ _ _ _ h4]
    ·rcases bnd_ok h hhi h2 with ⟨rfl, rfl⟩ | ⟨y', k', rfl, ey'⟩
     ·simp only [execOp, ho, ex, ey, Option.map_none, Option.map_some]
      refine run_value ?_
      simp [Instr.sliceAt, Instr.slice, Instr.sliceBounds, run_underlying (strT_some hst), b1 _ _ _ _ _ h3]
     ·simp only [execOp, ho, ex, ey, ey', Option.map_none, Option.map_some]
      refine run_value ?_
      simp [Instr.sliceAt, Instr.slice, Instr.sliceBounds, run_underlying (strT_some hst), b1 _ _ _ _ _ h3, b1 _ _ _ _ _ h4]
   ·cases he
  ·cases he
 ·cases he
theorem intsOf_ok (h : SimR N B w0 S0 env a w rows) : ∀ (xs : List Operand) (l : List Int), intsOf env xs = some l -> ∃ ks : List IntKind, ks.length = l.length /\ xs.map a.eval = (ks.zip l).map fun p => Value.int p.1 p.2
 | [], l, he => by
   simp only [intsOf, Option.some.injEq] at he
   subst he
   exact ⟨[], rfl, rfl⟩
 | x :: xs, l, he => by
   simp only [intsOf] at he
   split at he
   ·rename_i k n l' hx hl
    simp only [Option.some.injEq] at he
    subst he
    have hv := h.opd_ok x
    rw [hx] at hv
    have ev := (CzS.one_inv hv).int_inv
    obtain ⟨ks, h1, h2⟩ := intsOf_ok h xs l' hl
    exact ⟨k :: ks, by simp [h1], by simp [ev, h2]⟩
   ·cases he
theorem run_mins (w : World) (k : IntKind) : ∀ (l : List Int) (ks : List IntKind) (n : Int), ks.length = l.length -> (((ks.zip l).map fun p => Value.int p.1 p.2).foldlM Builtin.min2 (Value.int k n)).run P w = .ok (.int k (l.foldl min n)) w
 | [], [], n, _ => by simp
 | m :: l, k' :: ks, n, hl => by
   have hm : (if m < n then m else n) = min n m := by
    rw [Int.min_def]
    split <;> split <;> omega
   simp only [List.zip_cons_cons, List.map_cons, List.foldlM_cons, List.foldl_cons, Builtin.min2, Sem.run_bind, Sem.run_pure, Result.andThen_ok, hm]
   exact run_mins w k l ks _ (by simpa using hl)
 | _ :: _, [], _, hl => by simp at hl
 | [], _ :: _, _, hl => by simp at hl
theorem run_maxs (w : World) (k : IntKind) : ∀ (l : List Int) (ks : List IntKind) (n : Int), ks.length = l.length -> (((ks.zip l).map fun p => Value.int p.1 p.2).foldlM Builtin.max2 (Value.int k n)).run P w = .ok (.int k (l.foldl max n)) w
 | [], [], n, _ => by simp
 | m :: l, k' :: ks, n, hl => by
   have hm : (if m > n then m else n) = max n m := by
    rw [Int.max_def]
    split <;> split <;> omega
   simp only [List.zip_cons_cons, List.map_cons, List.foldlM_cons, List.foldl_cons, Builtin.max2, Sem.run_bind, Sem.run_pure, Result.andThen_ok, hm]
   exact run_maxs w k l ks _ (by simpa using hl)
 | _ :: _, [], _, hl => by simp at hl
 | [], _ :: _, _, hl => by simp at hl
theorem aminmax_ok (h : SimR N B w0 S0 env a w rows) {o : Oper} {c : Call} (ho : o.op = .call c) {b : Builtin} (hb : c.callee = .builtin b) {ob : Prop} {av : AV} (he : aminmax env b c.args.toList = some (ob, av)) :
  ∃ v, Yields P o a w v /\ AVR w (SS B S0 w rows) env (Act.f a) av v [] := by
 unfold aminmax at he
 split at he
 ·cases he
 ·rename_i x xs hargs
  split at he
  ·rename_i k n l hopx hl
   have hx := h.opd_ok x
   rw [hopx] at hx
   have ex := (CzS.one_inv hx).int_inv
   obtain ⟨ks, h1, h2⟩ := intsOf_ok h xs l hl
   have hmap : c.args.toList.map a.eval = Value.int k n :: (ks.zip l).map fun p => Value.int p.1 p.2 := by
    rw [hargs, List.map_cons, ex, h2]
   split at he
   ·simp only [Option.some.injEq, Prod.mk.injEq] at he
    obtain ⟨rfl, rfl⟩ := he
    refine ⟨_, fun w' _ => ?_, .one _ _ _ (.int _ _)⟩
    simp only [execOp, ho, resolve, hb]
    simp [invoke, builtin, Builtin.min_, hmap, run_mins w' k l ks n h1]
   ·simp only [Option.some.injEq, Prod.mk.injEq] at he
    obtain ⟨rfl, rfl⟩ := he
    refine ⟨_, fun w' _ => ?_, .one _ _ _ (.int _ _)⟩
    simp only [execOp, ho, resolve, hb]
    simp [invoke, builtin, Builtin.max_, hmap, run_maxs w' k l ks n h1]
   ·cases he
  ·cases he
theorem apure2_ok (h : SimR N B w0 S0 env a w rows) {o : Oper} {ob : Prop} {av : AV} (he : apure2 P env o.op = some (ob, av)) (hob : ob) :
  ∃ v, Yields P o a w v /\ AVR w (SS B S0 w rows) env (Act.f a) av v [] := by
 unfold apure2 at he
 split at he
 ·rename_i t x lo hi ho
  split at he
  ·rename_i r hr
   injection he with he
   subst he
   exact astrsl_ok h ho hr hob
  ·exact aslice_ok h ho he hob
 ·rename_i t parts ho
  exact abuild_ok h ho he
 ·rename_i t x f ho
  exact afieldV_ok h ho he hob
 ·rename_i t x i ho
  exact aidx_ok h ho he hob
 ·rename_i t x i ok ho
  exact alook_ok h ho he hob
 ·rename_i c ho
  split at he
  ·rename_i b hb
   exact aminmax_ok h ho hb he
  ·cases he
 ·cases he
end
end Go.Av
namespace Go.Av
open Go Go.RowKit
inductive RV where
 | one (x : SV)
 | tup (l : List SV)
def RV.av : RV -> AV
 | .one x => .sv x
 | .tup l => .tup l
inductive CzR (w : World) (S : Nat -> Prop) : Value -> RV -> List Nat -> Prop
 | one (v : Value) (x : SV) (r : List Nat) (h : CzS w S v x r) : CzR w S v (.one x) r
 | tup (vs : Array Value) (l : List SV) (r : List Nat) (h : CzSL w S vs.toList l r) : CzR w S (.tuple vs) (.tup l) r
structure Impl (P : Program) (f : FuncId) (args : List SV) (r : RV) : Prop where
 body : ∃ fn, P.funcs[f]? = some fn /\ fn.body.isSome = true /\ fn.name ≠ "runtime.NumGoroutine"
 call : ∀ (w : World) (S : Nat -> Prop) (vs : List Value), (∀ b, S b -> b < w.heap.size) -> CzSL w S vs args [] ->
  Calls P f vs.toArray w fun e w' => ∃ v rs, e = .returned v /\ Below w.heap.size w w' /\ (∀ b ∈ rs, w.heap.size <= b /\ b < w'.heap.size) /\ rs.Nodup /\
   CzR w' (fun b => S b \/ (w.heap.size <= b /\ b < w'.heap.size /\ b ∉ rs)) v r rs
structure ImplC (P : Program) (f : FuncId) (x : DV) (args : List SV) (y : DV) : Prop where
 body : ∃ fn, P.funcs[f]? = some fn /\ fn.body.isSome = true /\ fn.name ≠ "runtime.NumGoroutine"
 call : ∀ (w : World) (S : Nat -> Prop) (v0 : Value) (vs : List Value) (r0 : List Nat) (B : Nat), (∀ b, S b -> b < w.heap.size) -> (∀ b ∈ r0, B <= b /\ b < w.heap.size /\ ¬ S b) -> r0.Nodup -> B <= w.heap.size -> Cz w S v0 x r0 -> CzSL w S vs args [] ->
  Calls P f (v0 :: vs).toArray w fun e w' => ∃ v rs, e = .returned v /\ Below B w w' /\ (∀ b, b < w.heap.size -> b ∉ r0 -> w'.heap[b]? = w.heap[b]?) /\ (∀ b ∈ rs, (b ∈ r0 \/ w.heap.size <= b) /\ b < w'.heap.size) /\ rs.Nodup /\ Cz w' S v y rs
structure ImplM (P : Program) (f : FuncId) (x : DV) (args : List SV) (y : DV) : Prop where
 body : ∃ fn, P.funcs[f]? = some fn /\ fn.body.isSome = true /\ fn.name ≠ "runtime.NumGoroutine"
 shape : Shape x y
 closed : Closed y
 call : ∀ (w : World) (S : Nat -> Prop) (v0 : Value) (vs : List Value) (r0 : List Nat) (B : Nat), (∀ b, S b -> b < w.heap.size /\ b ∉ r0) -> (∀ b ∈ r0, B <= b /\ b < w.heap.size) -> r0.Nodup -> B <= w.heap.size -> Cz w S v0 x r0 -> CzSL w S vs args [] ->
  Calls P f (v0 :: vs).toArray w fun e w' => ∃ v rs, e = .returned v /\ Below B w w' /\ (∀ b, b < w.heap.size -> b ∉ r0 -> w'.heap[b]? = w.heap[b]?) /\ (∀ b ∈ rs, (b ∈ r0 \/ w.heap.size <= b) /\ b < w'.heap.size) /\ rs.Nodup /\ Cz w' (fun _ => True) v0 y rs
def SV.Closed : SV -> Prop
 | .one x => Av.Closed x
 | .ag l => ∀ d ∈ l, Av.Closed d
def RV.Closed : RV -> Prop
 | .one x => x.Closed
 | .tup l => ∀ x ∈ l, x.Closed
theorem CzS.closed {w : World} {S S' : Nat -> Prop} {v : Value} {x : SV} {r : List Nat} (h : CzS w S v x r) (hc : x.Closed) : CzS w S' v x r := by
 cases h with
 | one v x r h => exact .one _ _ _ (h.closed hc)
 | ag vs l r h => exact .ag _ _ _ (h.closed hc)
theorem CzSL.closed {w : World} {S S' : Nat -> Prop} {vs : List Value} {l : List SV} {r : List Nat} (h : CzSL w S vs l r) (hc : ∀ x ∈ l, x.Closed) : CzSL w S' vs l r := by
 induction h with
 | nil => exact .nil
 | cons v x r vs xs rs h _ ih => exact .cons _ _ _ _ _ _ (h.closed (hc x (by simp))) (ih (fun x hx => hc x (by simp [hx])))
theorem CzR.closed {w : World} {S S' : Nat -> Prop} {v : Value} {x : RV} {r : List Nat} (h : CzR w S v x r) (hc : x.Closed) : CzR w S' v x r := by
 cases h with
 | one v x r h => exact .one _ _ _ (h.closed hc)
 | tup vs l r h => exact .tup _ _ _ (h.closed hc)
def rootsFrz (env : Env) : List Nat -> Option (List DV)
 | [] => some []
 | s :: ss => match env.root s, rootsFrz env ss with
   | some x, some l => some (x.frz :: l)
   | _, _ => none
def argOf (env : Env) : AV -> Option SV
 | .sv (.one .nil) => some (.one (.sl []))
 | .sv x => some x
 | .al s p => match env.at s p with
   | some y => some (.one y.frz)
   | none => none
 | .sub s p lo hi => match env.at s p with
   | some (.ow _ els) => some (.one (.sl (((frzLL els).drop lo).take (hi - lo))))
   | _ => none
 | .bsl s p n => match env.at s p with
   | some (.bx l) => if n <= 1000000 then some (.one (.sl ((frzL l).map fun x => [x]))) else none
   | _ => none
 | .cl g caps => match rootsFrz env caps with
   | some l => some (.one (.fn g l))
   | none => none
 | .agl s p i => match env.at s p with
   | some y => match y.elAt i with
     | some el => some (.ag (frzL el))
     | none => none
   | none => none
 | _ => none
def AV.owned (env : Env) : AV -> Bool
 | .al s p => match env.at s p with
   | some (.sl _) => false
   | _ => true
 | .sub _ _ _ _ => true
 | .bsl _ _ _ => true
 | .cl _ _ => true
 | .agl _ _ _ => true
 | _ => false
def argsOf (env : Env) : List Operand -> Option (List SV)
 | [] => some []
 | x :: xs => match argOf env (opd env x), argsOf env xs with
   | some y, some ys => some (y :: ys)
   | _, _ => none
section
variable {P : Program} {N B : Nat} {w0 : World} {S0 : Nat -> Prop} {env : Env} {a : Act} {w : World} {rows : Nat -> List Nat} {next : Act -> World -> Prop} {Q : Exit -> Act -> World -> Prop}
theorem SimR.roots_ok (h : SimR N B w0 S0 env a w rows) {S' : Nat -> Prop} (hS : ∀ b, SS B S0 w rows b -> S' b) (ho : ∀ t, ∀ b ∈ rows t, S' b) : ∀ (ss : List Nat) (l : List DV), rootsFrz env ss = some l -> CzL w S' (ss.map (Act.f a)) l []
 | [], l, he => by
   simp only [rootsFrz, Option.some.injEq] at he
   subst he
   exact .nil
 | s :: ss, l, he => by
   simp only [rootsFrz] at he
   split at he
   ·rename_i x l' hx hl
    injection he with he
    subst he
    have := CzL.cons _ _ _ _ _ _ ((h.root_cz hx).freeze hS (ho s)) (h.roots_ok hS ho ss l' hl)
    simpa using this
   ·cases he
theorem SimR.agl_ok (h : SimR N B w0 S0 env a w rows) {s : Nat} {p : List (Nat × Nat)} {i : Nat} {v : Value} (hx : AVR w (SS B S0 w rows) env (Act.f a) (.agl s p i) v []) {y : DV} {el : List DV} (hat : env.at s p = some y) (hel : y.elAt i = some el) :
  ∃ vs : List Value, v = .agg vs.toArray /\ ∃ r, CzL w (SS B S0 w rows) vs el r /\ ∀ b ∈ r, b ∈ rows s := by
 obtain ⟨_, x, u, y', el', vs, h1, h2, h3, h4, h5, h6⟩ := hx
 obtain ⟨rfl, r, hcz, hr⟩ := h.place h1 h2 hat
 rw [hel] at h3
 injection h3 with h3
 subst h3
 obtain ⟨b, o, z, T, cs, r0, vs0, e1, e2, e3, e4, e5, e6, ⟨r1, rm, r2, e7, e8⟩, _⟩ := hcz.row hel
 have hvs : vs = vs0 := by
  apply List.ext_getElem?
  intro j
  by_cases hj : j < vs.length
  ·obtain ⟨d, hd⟩ := h6 j _ (List.getElem?_eq_getElem hj)
   rw [cat_append _ _ h2] at hd
   simp only [cat, hel, e2] at hd
   split at hd
   ·rename_i d' c hd' hc
    simp only [Option.some.injEq, Prod.mk.injEq] at hd
    obtain ⟨hd1, hd2⟩ := hd
    rw [add_mk, cell_of_row w b _ cs T (0, 0) e3] at hc
    rw [List.getElem?_eq_getElem hj, <- hd1, <- hc, e6, List.getElem?_take, if_pos (by omega), List.getElem?_drop, e4]
    simp [Nat.add_assoc]
   ·cases hd
  ·have l1 := e8.length
   rw [List.getElem?_eq_none (by omega), List.getElem?_eq_none (by omega)]
 subst hvs
 exact ⟨vs, h4, rm, e8, fun b' hb' => hr b' (by rw [e1, e7]; simp [hb'])⟩
theorem SimR.arg_ok (h : SimR N B w0 S0 env a w rows) {x : Operand} {y : SV} (he : argOf env (opd env x) = some y) {S' : Nat -> Prop} (hS : ∀ b, SS B S0 w rows b -> S' b) (ho : (opd env x).owned env = true -> ∀ t, ∀ b ∈ rows t, S' b) : CzS w S' (a.eval x) y [] := by
 have hx := h.opd_ok x
 generalize opd env x = av at *
 generalize a.eval x = v0 at *
 unfold argOf at he
 split at he
 ·injection he with he
  subst he
  have hx := CzS.one_inv hx
  generalize hr : ([] : List Nat) = r at hx
  cases hx
  exact .one _ _ _ (.shNil _ _)
 ·injection he with he
  subst he
  exact CzS.keep (fun b hb => ⟨hS b hb, rfl⟩) hx (fun _ _ => rfl)
 ·rename_i s p
  obtain ⟨_, x0, y0, hroot, hcat⟩ := hx
  split at he
  ·rename_i y1 hat
   injection he with he
   subst he
   obtain ⟨rfl, r, hcz, hr⟩ := h.place hroot hcat hat
   refine .one _ _ _ (hcz.freeze hS fun b hb => ?_)
   cases hown : (AV.al s p).owned env with
   | true => exact ho hown s b (hr b hb)
   | false =>
     unfold AV.owned at hown
     simp only [hat] at hown
     split at hown
     ·rename_i heq
      injection heq with heq
      subst heq
      cases hcz <;> cases hb
     ·cases hown
  ·cases he
 ·rename_i s p lo hi
  obtain ⟨_, x0, y0, A, n, c, els0, hroot, hcat, hels, hn, h3, h4, h5, z0, hz0, hv⟩ := hx
  split at he
  ·rename_i z els hat
   injection he with he
   subst he
   obtain ⟨rfl, r, hcz, hr⟩ := h.place hroot hcat hat
   simp only [DV.elsOf, Option.some.injEq] at hels
   subst hels
   have hf := hcz.freeze hS (fun b hb => ho rfl s b (hr b hb))
   simp only [DV.frz] at hf
   obtain ⟨A', c', hv', _, hcut⟩ := hf.sh_cut (l := lo) (u := hi) (z := z0) h3 (by rw [frzLL_length]; omega) (frzLL_all _ hz0)
   injection hv' with e1 e2 e3
   subst e1
   subst e3
   rw [hv]
   exact .one _ _ _ hcut
  ·cases he
 ·rename_i s p n
  obtain ⟨_, x0, u, y0, el, ad, hroot, hcat, hel, had, hlen, hv⟩ := hx
  split at he
  ·rename_i l hat
   split at he
   ·rename_i hn
    injection he with he
    subst he
    obtain ⟨rfl, r, hcz, hr⟩ := h.place hroot hcat hat
    have hf := hcz.freeze hS (fun b hb => ho rfl s b (hr b hb))
    simp only [DV.frz] at hf
    simp only [DV.elAt, if_true, Option.some.injEq] at hel
    subst hel
    rw [hv]
    generalize hnil : ([] : List Nat) = rr at hf
    cases hf with
    | rf ad' _ vs h1 h2 h3 =>
      simp only [rowBase, Option.some.injEq] at had
      subst had
      refine .one _ _ _ (.sh _ n n 1 _ vs h1 (by simp [frzL_length, hlen]) (Nat.le_refl _) (by unfold maxLen; omega) (by simp) h2 ?_)
      have : ((frzL l).map fun x => [x]).flatten = frzL l := by
       induction frzL l with
       | nil => rfl
       | cons x l ih => simp [ih]
      rw [this]
      exact h3
   ·cases he
  ·cases he
 ·rename_i g caps
  split at he
  ·rename_i l hl
   injection he with he
   subst he
   rw [hx.2]
   exact .one _ _ _ (.fn _ _ _ (h.roots_ok hS (ho rfl) caps l hl))
  ·cases he
 ·rename_i s p i
  split at he
  ·rename_i y' hat
   split at he
   ·rename_i el hel
    injection he with he
    subst he
    obtain ⟨vs, rfl, r, hl, hr⟩ := h.agl_ok hx hat hel
    exact .ag _ _ _ (hl.freeze hS fun b hb => ho rfl s b (hr b hb))
   ·cases he
  ·cases he
 ·cases he
theorem SimR.args_ok (h : SimR N B w0 S0 env a w rows) {S' : Nat -> Prop} (hS : ∀ b, SS B S0 w rows b -> S' b) : ∀ (xs : List Operand) (ys : List SV), argsOf env xs = some ys -> (∀ x ∈ xs, (opd env x).owned env = true -> ∀ t, ∀ b ∈ rows t, S' b) -> CzSL w S' (xs.map a.eval) ys []
 | [], ys, he, _ => by
   simp only [argsOf, Option.some.injEq] at he
   subst he
   exact .nil
 | x :: xs, ys, he, ho => by
   simp only [argsOf] at he
   split at he
   ·rename_i y ys' h1 h2
    injection he with he
    subst he
    have := CzSL.cons _ _ _ _ _ _ (h.arg_ok h1 hS (ho x (by simp))) (h.args_ok hS xs ys' h2 (fun x hx => ho x (by simp [hx])))
    simpa using this
   ·cases he
def acall (env : Env) (o : Op) : Option (FuncId × List SV × Bool) :=
 match o with
 | .call c => match c.callee with
   | .value (.func f) => match argsOf env c.args.toList with
     | some ys => some (f, ys, c.args.toList.any fun x => (opd env x).owned env)
     | none => none
   | _ => none
 | _ => none
def acallC (env : Env) (o : Op) : Option (FuncId × Nat × DV × List SV) :=
 match o with
 | .call c => match c.callee, c.args.toList with
   | .value (.func f), x :: xs => match opd env x, argsOf env xs with
     | .al s [], some ys => match env.root s with
       | some y => if xs.any fun x => (opd env x).owned env then none else some (f, s, y, ys)
       | none => none
     | _, _ => none
   | _, _ => none
 | _ => none
def acallP (env : Env) (o : Op) : Option (FuncId × Nat × DV × List (Nat × Nat) × DV × List SV) :=
 match o with
 | .call c => match c.callee, c.args.toList with
   | .value (.func f), x :: xs => match opd env x, argsOf env xs with
     | .al s p, some ys => match env.root s, env.at s p with
       | some x0, some y => if xs.any fun x => (opd env x).owned env then none else some (f, s, x0, p, y, ys)
       | _, _ => none
     | _, _ => none
   | _, _ => none
 | _ => none
theorem acall_run {o : Oper} {f : FuncId} {ys : List SV} {b : Bool} (he : acall env o.op = some (f, ys, b)) (hf : ∃ fn, P.funcs[f]? = some fn /\ fn.body.isSome = true /\ fn.name ≠ "runtime.NumGoroutine") :
  ∃ xs : List Operand, argsOf env xs = some ys /\ b = xs.any (fun x => (opd env x).owned env) /\ ∀ (a : Act) (w : World), (execOp a.eval o).run P w = .ok (.enter f (xs.map a.eval).toArray) w := by
 unfold acall at he
 split at he
 ·rename_i c ho
  split at he
  ·rename_i f' hcal
   split at he
   ·rename_i ys' hys
    simp only [Option.some.injEq, Prod.mk.injEq] at he
    obtain ⟨rfl, rfl, rfl⟩ := he
    obtain ⟨fn, h1, h2, h3⟩ := hf
    refine ⟨c.args.toList, hys, rfl, fun a w => ?_⟩
    have hb : fn.body ≠ none := by intro hbb; simp [hbb] at h2
    have hmap : (c.args.toList.map a.eval).toArray = c.args.map a.eval := by
     rw [<- Array.toList_map, Array.toArray_toList]
    rw [hmap]
    simp [execOp, ho, resolve, hcal, Act.eval, Deferred.ofValue, invoke, callFunc, run_program, h1, hb, h3]
   ·cases he
  ·cases he
 ·cases he
theorem acallC_run {o : Oper} {f : FuncId} {s : Nat} {y : DV} {ys : List SV} (he : acallC env o.op = some (f, s, y, ys)) (hf : ∃ fn, P.funcs[f]? = some fn /\ fn.body.isSome = true /\ fn.name ≠ "runtime.NumGoroutine") :
  ∃ (x : Operand) (xs : List Operand), opd env x = .al s [] /\ env.root s = some y /\ argsOf env xs = some ys /\ xs.any (fun x => (opd env x).owned env) = false /\ ∀ (a : Act) (w : World), (execOp a.eval o).run P w = .ok (.enter f (a.eval x :: xs.map a.eval).toArray) w := by
 unfold acallC at he
 split at he
 ·rename_i c ho
  split at he
  ·rename_i f' x xs hcal hargs
   split at he
   ·rename_i s' ys' hx hys
    split at he
    ·rename_i y' hy
     split at he
     ·cases he
     ·rename_i hown
      simp only [Option.some.injEq, Prod.mk.injEq] at he
      obtain ⟨rfl, rfl, rfl, rfl⟩ := he
      obtain ⟨fn, h1, h2, h3⟩ := hf
      refine ⟨x, xs, hx, hy, hys, by simpa using hown, fun a w => ?_⟩
      have hb : fn.body ≠ none := by intro hbb; simp [hbb] at h2
      have hmap : (a.eval x :: xs.map a.eval).toArray = c.args.map a.eval := by
       rw [<- List.map_cons, <- hargs, <- Array.toList_map, Array.toArray_toList]
      rw [hmap]
      simp [execOp, ho, resolve, hcal, Act.eval, Deferred.ofValue, invoke, callFunc, run_program, h1, hb, h3]
    ·cases he
   ·cases he
  ·cases he
 ·cases he
theorem acallP_run {o : Oper} {f : FuncId} {s : Nat} {x0 y : DV} {p : List (Nat × Nat)} {ys : List SV} (he : acallP env o.op = some (f, s, x0, p, y, ys)) (hf : ∃ fn, P.funcs[f]? = some fn /\ fn.body.isSome = true /\ fn.name ≠ "runtime.NumGoroutine") :
  ∃ (x : Operand) (xs : List Operand), opd env x = .al s p /\ env.root s = some x0 /\ env.at s p = some y /\ argsOf env xs = some ys /\ xs.any (fun x => (opd env x).owned env) = false /\ ∀ (a : Act) (w : World), (execOp a.eval o).run P w = .ok (.enter f (a.eval x :: xs.map a.eval).toArray) w := by
 unfold acallP at he
 split at he
 ·rename_i c ho
  split at he
  ·rename_i f' x xs hcal hargs
   split at he
   ·rename_i s' p' ys' hx hys
    split at he
    ·rename_i x0' y' hx0 hy
     split at he
     ·cases he
     ·rename_i hown
      simp only [Option.some.injEq, Prod.mk.injEq] at he
      obtain ⟨rfl, rfl, rfl, rfl, rfl, rfl⟩ := he
      obtain ⟨fn, h1, h2, h3⟩ := hf
      refine ⟨x, xs, hx, hx0, hy, hys, by simpa using hown, fun a w => ?_⟩
      have hb : fn.body ≠ none := by intro hbb; simp [hbb] at h2
      have hmap : (a.eval x :: xs.map a.eval).toArray = c.args.map a.eval := by
       rw [<- List.map_cons, <- hargs, <- Array.toList_map, Array.toArray_toList]
      rw [hmap]
      simp [execOp, ho, resolve, hcal, Act.eval, Deferred.ofValue, invoke, callFunc, run_program, h1, hb, h3]
    ·cases he
   ·cases he
  ·cases he
 ·cases he
end
end Go.Av
namespace Go.Av
open Go Go.RowKit
section
variable {P : Program} {N B : Nat} {w0 : World} {S0 : Nat -> Prop} {env : Env} {a : Act} {w : World} {rows : Nat -> List Nat} {next : Act -> World -> Prop} {Q : Exit -> Act -> World -> Prop}
theorem SimR.hand {w' : World} (h : SimR N B w0 S0 env a w rows) {s d : Nat} (hne : s ≠ d) (hbel : Below B w w') (hsz : w'.heap.size = w.heap.size) {r' : List Nat} {y : SV}
  (hown : ∀ b ∈ r', b ∈ rows d \/ b ∈ rows s) (hnd : r'.Nodup) (hframe : ∀ b, b < w.heap.size -> b ∉ rows d -> w'.heap[b]? = w.heap[b]?)
  (hcy : ∀ S' : Nat -> Prop, (∀ b, SS B S0 w rows b -> S' b) -> CzS w' S' (Act.f a d) y r') :
  SimR N B w0 S0 ((env.put s .no).put d (.sv y)) a w' (fun k => if d = k then r' else if s = k then [] else rows k) := by
 have hbase := h.base
 have hSr : ∀ b, SS B S0 w rows b -> ∀ k, b ∉ rows k := by
  intro b hs k hb
  rcases hs with hs | hs
  ·exact (h.old b hs).2.2 k hb
  ·exact hs.2.2 k hb
 have hS : ∀ b, SS B S0 w rows b -> SS B S0 w' (fun k => if d = k then r' else if s = k then [] else rows k) b /\ w'.heap[b]? = w.heap[b]? := by
  intro b hs
  have hn := hSr b hs
  refine ⟨?_, hframe b (h.lt hs) (hn d)⟩
  rcases hs with hs | ⟨h1, h2, h3⟩
  ·exact .inl hs
  ·refine .inr ⟨h1, by omega, fun k hk => ?_⟩
   dsimp only at hk
   split at hk
   ·rcases hown b hk with g | g
    ·exact hn d g
    ·exact hn s g
   ·split at hk
    ·cases hk
    ·exact h3 k hk
 have hkeep : ∀ k, d ≠ k -> ∀ b ∈ rows k, w'.heap[b]? = w.heap[b]? := fun k hk b hb => hframe b (h.own k b hb).2 (fun hb' => h.apart d k hk b hb' hb)
 refine ⟨h.defers, h.size, h.below.trans hbel, by omega, h.old_next (fun k b hb => (mem_ite hb).elim (fun hb => .inl ((hown b hb).elim (fun g => ⟨d, g⟩) (fun g => ⟨s, g⟩))) (fun hb => (mem_ite hb).elim (fun hb => by cases hb) (fun hb => .inl ⟨k, hb⟩))) (fun b hlt hn => hframe b hlt (hn d)), ?_, ?_, ?_, ?_⟩
 ·intro k b hb
  split at hb
  ·rcases hown b hb with g | g
   ·have := h.own d b g; omega
   ·have := h.own s b g; omega
  ·split at hb
   ·cases hb
   ·have := h.own k b hb; omega
 ·intro k
  split
  ·exact hnd
  ·split
   ·exact List.nodup_nil
   ·exact h.nodup k
 ·intro k k' hkk b hb hb'
  have hmix : ∀ k, d ≠ k -> b ∈ r' -> b ∈ (if s = k then [] else rows k) -> False := by
   intro k hsk g1 g2
   split at g2
   ·cases g2
   ·rename_i htk
    rcases hown b g1 with g | g
    ·exact h.apart d k hsk b g g2
    ·exact h.apart s k htk b g g2
  split at hb
  ·split at hb'
   ·omega
   ·rename_i e1 e2
    exact hmix k' e2 hb hb'
  ·split at hb'
   ·rename_i e1 e2
    exact hmix k e1 hb' hb
   ·split at hb
    ·cases hb
    ·split at hb'
     ·cases hb'
     ·exact h.apart k k' hkk b hb hb'
 ·intro k
  rw [Env.get_put]
  by_cases e : d = k
  ·subst e
   simp only [if_true]
   exact hcy _ fun b hb => (hS b hb).1
  ·simp only [e, if_false]
   have hstep : AVR w (SS B S0 w rows) (env.put s .no) (Act.f a) ((env.put s .no).get k) (Act.f a k) (if s = k then [] else rows k) := by
    rw [Env.get_put]
    by_cases et : s = k
    ·subst et
     simp only [if_true]
     trivial
    ·simp only [et, if_false]
     refine AVR.keepS (fun b hb => ⟨hb, rfl⟩) (s0 := s) (n0 := 0) ?_ (fun _ _ => rfl) (env.get k) (h.rel k) (fun _ _ => rfl)
     intro s' x1 p v y hs hx1 hc
     have hne' : s ≠ s' := by rcases hs with hs | hs; exact fun e => hs e.symm; omega
     exact ⟨x1, y, by rw [Env.root_put_ne _ _ hne', hx1], hc, Shape.refl y⟩
   refine AVR.keepS hS (s0 := d) (n0 := 0) ?_ (fun _ _ => rfl) _ hstep ?_
   ·intro s' x1 p v y hs hx1 hc
    have hne' : d ≠ s' := by rcases hs with hs | hs; exact fun e => hs e.symm; omega
    have hss : s ≠ s' := by
     rintro rfl
     simp [Env.root, Env.get_put, AV.kill, AV.asOne] at hx1
    have hx2 : env.root s' = some x1 := by rw [Env.root_put_ne _ _ hss] at hx1; exact hx1
    exact ⟨x1, y, by rw [Env.root_put_ne _ _ hne', hx1], h.cat_keep (hkeep s' hne') hx2 hc, Shape.refl y⟩
   ·intro b hb
    split at hb
    ·cases hb
    ·exact hkeep k e b hb
theorem splice_same {α : Type} {l : List α} {j : Nat} {x : α} (h : l[j]? = some x) : splice l j [x] = l := by
 obtain ⟨hj, rfl⟩ := List.getElem?_eq_some_iff.1 h
 unfold splice
 simp
theorem splice_set {α : Type} {l : List α} {j : Nat} {x : α} (h : j < l.length) : splice l j [x] = l.set j x := by
 unfold splice
 rw [List.set_eq_take_append_cons_drop, if_pos h]
 simp
theorem SimR.gather (h : SimR N B w0 S0 env a w rows) {s d : Nat} (hne : s ≠ d) {x : DV} (hx : env.root s = some x) {l : List DV} (hl : env.get d = .sv (.ag l)) {cells : Array Value} (hv : Act.f a d = .agg cells) {j : Nat} (hj : cells.toList[j]? = some (Act.f a s)) (hdead : l[j]? = some .dead) :
  ∃ rows', SimR N B w0 S0 ((env.put s .no).put d (.sv (.ag (l.set j x)))) a w rows' := by
 have hr := h.rel d
 rw [hl, hv] at hr
 have hcl : CzL w (SS B S0 w rows) cells.toList l (rows d) := by
  generalize hq : SV.ag l = q at hr
  cases hr with
  | one => cases hq
  | ag _ _ _ hc => injection hq with hq; subst hq; exact hc
 have hcz := h.root_cz hx
 obtain ⟨r1, rm, r2, e, hsp, hm⟩ := hcl.splice j (CzL.mk1 hcz)
 have hrm : rm = [] := by
  have h1 : (l.drop j).take [x].length = [.dead] := take1 hdead
  rw [h1] at hm
  generalize (cells.toList.drop j).take [x].length = vv at hm
  cases hm with
  | cons v y r vs xs rs g gs =>
    cases gs
    cases g
    rfl
 subst hrm
 rw [splice_same hj, splice_set (List.getElem?_eq_some_iff.1 hdead).1] at hsp
 have hnd := h.nodup d
 have hns := h.nodup s
 have hap := h.apart s d hne
 rw [e] at hnd hap
 refine ⟨_, h.hand hne (Below.refl _ _) rfl (r' := r1 ++ rows s ++ r2) ?_ ?_ (fun _ _ _ => rfl) ?_⟩
 ·intro b hb
  rw [e]
  simp only [List.mem_append, List.nil_append] at hb ⊢
  grind
 ·simp only [List.nodup_append, List.mem_append, List.nil_append] at hnd hap ⊢
  grind
 ·intro S' hS'
  rw [hv]
  exact .ag _ _ _ (hsp.keep (fun b hb => ⟨hS' b hb, rfl⟩) (fun _ _ => rfl))
def gatherE (d : Nat) : Env -> List DV -> List (Nat × Nat) -> Option Env
 | env, _, [] => some env
 | env, l, (j, s) :: ms => match env.root s, l[j]? with
   | some x, some .dead => if s = d then none else gatherE d ((env.put s .no).put d (.sv (.ag (l.set j x)))) (l.set j x) ms
   | _, _ => none
theorem gatherE_ok {d : Nat} {cells : Array Value} (hv : Act.f a d = .agg cells) : ∀ (ms : List (Nat × Nat)) {env : Env} {rows : Nat -> List Nat} {l : List DV} {env' : Env}, SimR N B w0 S0 env a w rows -> env.get d = .sv (.ag l) ->
  (∀ m ∈ ms, cells.toList[m.1]? = some (Act.f a m.2)) -> gatherE d env l ms = some env' -> ∃ rows', SimR N B w0 S0 env' a w rows'
 | [], env, rows, l, env', h, _, _, he => by
   simp only [gatherE, Option.some.injEq] at he
   subst he
   exact ⟨rows, h⟩
 | (j, s) :: ms, env, rows, l, env', h, hl, hm, he => by
   simp only [gatherE] at he
   split at he
   ·rename_i x hx hdead
    split at he
    ·cases he
    ·rename_i hne
     obtain ⟨rows', h'⟩ := h.gather hne hx hl hv (hm (j, s) (by simp)) hdead
     exact gatherE_ok hv ms h' (by rw [Env.get_put, if_pos rfl]; rfl) (fun m hm' => hm m (by simp [hm'])) he
   ·cases he
def ascP (place : Nat -> Option (Nat × Nat)) : Nat -> List Nat -> Bool
 | _, [] => true
 | m, i :: is => match place i with
   | some (off, n) => decide (m <= off) && ascP place (off + n) is
   | none => false
theorem fill_asc (place : Nat -> Option (Nat × Nat)) : ∀ (vp : List (Nat × Value)) (m : Nat) (cells cells' : Array Value), ascP place m (vp.map (·.1)) = true -> Instr.fill place cells vp = some cells' ->
  (∀ k, k < m -> cells'.toList[k]? = cells.toList[k]?) /\ ∀ i v off n, (i, v) ∈ vp -> place i = some (off, n) -> v.cells = #[v] -> cells'.toList[off]? = some v
 | [], m, cells, cells', _, h => by
   simp only [Instr.fill, Option.some.injEq] at h
   subst h
   exact ⟨fun _ _ => rfl, by simp⟩
 | (i, v) :: vp, m, cells, cells', ha, h => by
   simp only [ascP, List.map_cons] at ha
   split at ha
   ·rename_i off n hp
    rw [Bool.and_eq_true, decide_eq_true_eq] at ha
    simp only [Instr.fill, hp] at h
    split at h
    ·cases h
    ·rename_i hc
     simp only [ne_eq, Bool.or_eq_true, decide_eq_true_eq, not_or, Nat.not_lt, Decidable.not_not] at hc
     obtain ⟨hsz, hfit⟩ := hc
     have hfit' : off + 0 + v.cells.toList.length <= cells.size := by simp at hfit ⊢; omega
     have e := foldl_set off v.cells.toList 0 cells hfit'
     have e2 : (v.cells.zipIdx.foldl (fun cs (x : Value × Nat) => cs.setIfInBounds (off + x.2) x.1) cells).toList = splice cells.toList off v.cells.toList := by
      rw [<- Array.foldl_toList, Array.toList_zipIdx, e]
      simp
     obtain ⟨g1, g2⟩ := fill_asc place vp (off + n) _ cells' ha.2 h
     have hn : v.cells.toList.length = n := by simpa using hsz
     have hcl : cells.toList.length = cells.size := by simp
     refine ⟨fun k hk => ?_, fun i' v' off' n' hm hp' hv => ?_⟩
     ·rw [g1 k (by omega), e2]
      unfold splice
      rw [List.append_assoc, List.getElem?_append_left (by simp; omega), List.getElem?_take, if_pos (by omega)]
     ·rcases List.mem_cons.1 hm with hm | hm
      ·injection hm with h1 h2
       subst h1
       subst h2
       rw [hp] at hp'
       injection hp' with hp'
       injection hp' with h3 h4
       subst h3
       have hn1 : n = 1 := by rw [<- hn, hv]; rfl
       rw [g1 off (by omega), e2, hv]
       unfold splice
       rw [List.append_assoc, List.getElem?_append_right (by simp only [List.length_take]; omega)]
       have : off - (cells.toList.take off).length = 0 := by simp; omega
       rw [this]
       rfl
      ·exact g2 i' v' off' n' hm hp' hv
   ·cases ha
def partsOfD (env : Env) : List (Nat × Operand) -> Option (List (Nat × List DV))
 | [] => some []
 | (i, x) :: rest => match opd env x, partsOfD env rest with
   | .sv y, some l => if y.cells.all DV.flat then some ((i, y.cells) :: l) else none
   | .al _ [], some l => some ((i, [.dead]) :: l)
   | _, _ => none
def movesOf (env : Env) (place : Nat -> Option (Nat × Nat)) : List (Nat × Operand) -> List (Nat × Nat)
 | [] => []
 | (i, x) :: rest => match opd env x, place i with
   | .al s [], some (off, _) => (off, s) :: movesOf env place rest
   | _, _ => movesOf env place rest
theorem al_facts (h : SimR N B w0 S0 env a w rows) {x : Operand} {s : Nat} (hx : opd env x = .al s []) : a.eval x = Act.f a s /\ (Act.f a s).cells = #[Act.f a s] /\ (Act.f a s).oneCell' = true := by
 have h1 := h.opd_ok x
 rw [hx] at h1
 obtain ⟨_, y, z, hr, hc⟩ := h1
 simp only [cat, Option.some.injEq, Prod.mk.injEq] at hc
 have hone := (h.root_cz hr).one
 exact ⟨hc.1.symm, cells_of_one hone, hone⟩
theorem SimR.parts_okD (h : SimR N B w0 S0 env a w rows) : ∀ (parts : List (Nat × Operand)) (dp : List (Nat × List DV)), partsOfD env parts = some dp ->
  PartsR w (SS B S0 w rows) (parts.map fun x => (x.1, a.eval x.2)) dp
 | [], dp, hp => by
   simp only [partsOfD, Option.some.injEq] at hp
   subst hp
   exact .nil
 | (i, x) :: rest, dp, hp => by
   simp only [partsOfD] at hp
   split at hp
   ·rename_i y l hopd hl
    split at hp
    ·injection hp with hp
     subst hp
     have hx := h.opd_ok x
     rw [hopd] at hx
     exact .cons _ _ _ _ _ (CzS.cells hx) (h.parts_okD rest l hl)
    ·cases hp
   ·rename_i s l hopd hl
    injection hp with hp
    subst hp
    obtain ⟨e, hc, hone⟩ := al_facts h hopd
    refine .cons _ _ _ _ _ ?_ (h.parts_okD rest l hl)
    rw [e, hc]
    exact CzL.mk1 (.dead _ hone)
   ·cases hp
theorem moves_ok (h : SimR N B w0 S0 env a w rows) {place : Nat -> Option (Nat × Nat)} : ∀ (parts : List (Nat × Operand)) (m : Nat × Nat), m ∈ movesOf env place parts -> ∃ i x n, (i, x) ∈ parts /\ place i = some (m.1, n) /\ opd env x = .al m.2 []
 | [], m, hm => by cases hm
 | (i, x) :: rest, m, hm => by
   simp only [movesOf] at hm
   split at hm
   ·rename_i s off n h1 h2
    rcases List.mem_cons.1 hm with rfl | hm
    ·exact ⟨i, x, n, by simp, h2, h1⟩
    ·obtain ⟨i', x', n', g1, g2⟩ := moves_ok h rest m hm
     exact ⟨i', x', n', by simp [g1], g2⟩
   ·obtain ⟨i', x', n', g1, g2⟩ := moves_ok h rest m hm
    exact ⟨i', x', n', by simp [g1], g2⟩
def abuildO (n : Nat) (P : Program) (env : Env) (t : TypeId) (parts : Array (Nat × Operand)) (d : Nat) : Option Env :=
 match zeroT P t, partsOfD env parts.toList, placesT P t with
 | some zl, some dp, some pl => match afill (fun i => pl[i]?) zl dp with
   | some l => if ascP (fun i => pl[i]?) 0 (parts.toList.map (·.1)) && (decide (n <= (movesOf env (fun i => pl[i]?) parts.toList).length) && (movesOf env (fun i => pl[i]?) parts.toList).all fun m => m.2 != d)
     then gatherE d (env.put d (.sv (.ag l))) l (movesOf env (fun i => pl[i]?) parts.toList) else none
   | none => none
 | _, _, _ => none
theorem abuildO_ok (h : SimR N B w0 S0 env a w rows) {o : Oper} {t : TypeId} {parts : Array (Nat × Operand)} {d m : Nat} (ho : o.op = .build t parts) {env' : Env} (he : abuildO m P env t parts d = some env') (hdN : d < N) (hdst : o.dst = some d)
  (hn : ∀ a' w', Sim N B w0 S0 env' a' w' -> next a' w') : o.wp P a w next Q := by
 unfold abuildO at he
 split at he
 ·rename_i zl dp pl hz hdp hpl
  split at he
  ·rename_i l hl
   split at he
   ·rename_i hc
    simp only [Bool.and_eq_true, List.all_eq_true, bne_iff_ne, decide_eq_true_eq] at hc
    obtain ⟨hasc, _, hnd⟩ := hc
    have hpr := h.parts_okD parts.toList dp hdp
    unfold zeroT at hz
    split at hz
    ·rename_i i hi
     split at hz
     ·rename_i zv hzv
      split at hz
      ·have hcz := zerosDV_ok (w := w) (S := SS B S0 w rows) hz
       obtain ⟨cells', g1, g2⟩ := fill_ok _ _ dp zv.cells zl l hcz hpr hl
       have hb : P.built t ((parts.map fun x => (x.1, a.eval x.2)).toList) = some cells' := by
        unfold placesT at hpl
        split at hpl
        ·rename_i fields hu
         have hf : (fun x : Nat => pl.toArray[x]?) = (fun i : Nat => pl[i]?) := by funext x; simp
         simp only [Program.built, hi, hu, hzv, hpl, Array.toList_map]
         rw [hf]
         exact g1
        ·cases hpl
       have hasc' : ascP (fun i => pl[i]?) 0 ((parts.toList.map fun x => (x.1, a.eval x.2)).map (·.1)) = true := by
        rw [List.map_map]
        exact hasc
       obtain ⟨_, g3⟩ := fill_asc _ _ 0 _ _ hasc' g1
       have hput := h.put (av := .sv (.ag l)) (v := .agg cells') (r := []) hdN (Below.refl _ _) (by simp) (by simp) (.ag _ _ _ (g2.keep (fun b hb => ⟨.inl hb, rfl⟩) (fun _ _ => rfl)))
       have hfd : Act.f (a.put (some d) (.agg cells')) d = .agg cells' := by rw [Act.f_put (by rw [h.size]; exact hdN), if_pos rfl]
       obtain ⟨rows', h'⟩ := gatherE_ok hfd (movesOf env (fun i => pl[i]?) parts.toList) hput (by rw [Env.get_put, if_pos rfl]; rfl) (fun m hm => by
        obtain ⟨i, x, n, q1, q2, q3⟩ := moves_ok h parts.toList m hm
        obtain ⟨e1, e2, _⟩ := al_facts h q3
        rw [Act.f_put (by rw [h.size]; exact hdN), if_neg (fun e => hnd m hm e.symm)]
        refine g3 i _ m.1 n ?_ q2 ?_
        ·rw [<- e1]
         exact List.mem_map.2 ⟨(i, x), q1, rfl⟩
        ·exact e2) he
       refine wp_value (v := .agg cells') (w' := w) ?_ ?_
       ·simp only [execOp, ho]
        exact run_value (run_build w t _ cells' hb)
       ·rw [hdst]
        exact hn _ _ ⟨rows', h'⟩
      ·cases hz
     ·cases hz
    ·cases hz
   ·cases he
  ·cases he
 ·cases he
def astoreO (P : Program) (env : Env) (t : TypeId) (x y : Operand) : Option (Prop × Env) :=
 match opd env x, y with
 | .pt s [] 0 0, .tmp k => match env.get k, env.root s, sizeT P t with
   | .sv (.ag l), some (.bx l0), some n => some (s ≠ k /\ l.length = n /\ l0.length = n, (env.put k .no).put s (.sv (.one (.bx l))))
   | _, _, _ => none
 | _, _ => none
theorem astoreO_ok (h : SimR N B w0 S0 env a w rows) {o : Oper} {t : TypeId} {x y : Operand} (ho : o.op = .store t x y) {ob : Prop} {env' : Env} (he : astoreO P env t x y = some (ob, env')) (hob : ob) (hdst : o.dst = none)
  (hn : ∀ w', Sim N B w0 S0 env' a w' -> next a w') : o.wp P a w next Q := by
 have hx := h.opd_ok x
 unfold astoreO at he
 split at he
 ·rename_i s k hopx
  rw [hopx] at hx
  obtain ⟨_, x1, u, y1, el1, ad, hroot, hcat, hel1, hbase, hval⟩ := hx
  split at he
  ·rename_i l l0 n hgk hrs hs
   simp only [Option.some.injEq, Prod.mk.injEq] at he
   obtain ⟨rfl, rfl⟩ := he
   obtain ⟨hsk, hln, hl0⟩ := hob
   rw [hrs] at hroot
   injection hroot with hroot
   subst hroot
   simp only [cat, Option.some.injEq, Prod.mk.injEq] at hcat
   obtain ⟨rfl, rfl⟩ := hcat
   have hbz := h.root_cz hrs
   have hrk := h.rel k
   rw [hgk] at hrk
   generalize hfs : Act.f a s = fs at hbz hbase
   generalize hrs' : rows s = rws at hbz
   cases hbz with
   | bx b _ T cs rs hb hl =>
     simp only [rowBase, Option.some.injEq] at hbase
     subst hbase
     generalize hfk : Act.f a k = fk at hrk
     generalize hq : SV.ag l = q at hrk
     cases hrk with
     | one => cases hq
     | ag vs l2 _ hlk =>
       injection hq with hq
       subst hq
       have hcs : cs.size = n := by have := hl.length; simp at this; omega
       have hvs : vs.size = n := by have := hlk.length; simp at this; omega
       have hbs : b ∈ rows s := by rw [hrs']; simp
       have hbk : b ∉ rows k := h.apart s k hsk b hbs
       have hB : B <= b := (h.own s b hbs).1
       have hnew : splice cs.toList 0 (Value.agg vs).cells.toList = vs.toList := by
        show splice cs.toList 0 vs.toList = vs.toList
        unfold splice
        simp
        omega
       let w' := w.setRow b vs
       have hne : ∀ b', b' ≠ b -> w'.heap[b']? = w.heap[b']? := fun b' hb' => setRow_other w b b' _ hb'
       have hrun := run_storeVar (P := P) (w := w) (v := .agg vs) (off := 0) (n := n) hs (by show vs.size = n; exact hvs) hb (by omega) (fun u hu => hlk.allOne u hu)
       rw [hnew] at hrun
       refine wp_skipv (w' := w') ?_ ?_
       ·have e1 : a.eval (.tmp k) = .agg vs := hfk
        have e2 : a.eval x = .pointer (some ⟨b, 0, none⟩) := by
         rw [hval]
         simp [Addr.add]
        simp only [execOp, ho, e1, e2]
        simp [hrun, w']
       ·rw [hdst]
        refine hn _ ⟨_, h.hand (w' := w') (s := k) (d := s) (fun e => hsk e.symm) ⟨⟨rfl, rfl, rfl, by simp [w'], fun k hk => hne k (by omega)⟩, Nat.le_refl _⟩ (by simp [w']) (r' := b :: rows k) ?_ ?_ ?_ ?_⟩
        ·intro b' hb'
         rcases List.mem_cons.1 hb' with rfl | hb'
         ·exact .inl hbs
         ·exact .inr hb'
        ·exact List.nodup_cons.2 ⟨hbk, h.nodup k⟩
        ·intro b' _ hb'
         exact hne b' (by rintro rfl; exact hb' hbs)
        ·intro S' hS'
         rw [hfs]
         refine .one _ _ _ (.bx b l T vs _ (setRow_heap w b cs _ T _ hb) ?_)
         refine hlk.keep (fun b' hb' => ⟨hS' b' hb', hne b' ?_⟩) (fun b' hb' => hne b' (by rintro rfl; exact hbk hb'))
         rintro rfl
         rcases hb' with hs' | hs'
         ·exact (h.old _ hs').2.2 s hbs
         ·exact hs'.2.2 s hbs
  ·cases he
 ·cases he
end
end Go.Av

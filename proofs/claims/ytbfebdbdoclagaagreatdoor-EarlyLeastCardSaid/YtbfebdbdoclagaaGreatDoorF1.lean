/- Part of a proof. -/
import Derived.WalkKit
import Derived.Deep.Quiet
set_option linter.unusedVariables false
set_option linter.unusedSimpArgs false
set_option maxHeartbeats 64000000
namespace Go.Av
open Go Go.RowKit
structure Below (B : Nat) (w w' : World) : Prop extends RowKit.Below B w w' where
 drawn : w.drawn <= w'.drawn
section
variable {B B' : Nat} {w w' a b c : World}
theorem Below.refl (B : Nat) (w : World) : Below B w w := ⟨RowKit.Below.refl B w, Nat.le_refl _⟩
theorem Below.trans (h : Below B a b) (k : Below B b c) : Below B a c := ⟨h.toBelow.trans k.toBelow, Nat.le_trans h.drawn k.drawn⟩
theorem Below.mono (h : Below B w w') (hB : B' <= B) : Below B' w w' := ⟨h.toBelow.mono hB, h.drawn⟩
theorem Below.drew (h : Below B a w) : Below B a w.drew := ⟨h.toBelow.drew, Nat.le_trans h.drawn (Nat.le_succ _)⟩
theorem Below.alloc (h : Below B a w) (hB : B <= w.heap.size) (o : Obj) : Below B a (w.alloc o) := ⟨h.toBelow.alloc hB o, h.drawn⟩
theorem Below.cell (h : Below B w w') {p : Addr} (hp : p.block < B) : w'.cell? p = w.cell? p := h.toBelow.cell hp
theorem Below.frozen (h : Below B w w') {p : Addr} (hp : p.block < B) : w'.frozen? p = w.frozen? p := h.toBelow.frozen hp
theorem Below.heap_alloc (w : World) (o : Obj) (k : Nat) (h : k < w.heap.size) : (w.alloc o).heap[k]? = w.heap[k]? := RowKit.Below.heap_alloc w o k h
end
inductive KV where
 | ki (k : IntKind) (n : Int)
 | kb (b : Bool)
 | ks (s : ByteArray)
 deriving DecidableEq
def KV.val : KV -> Value
 | .ki k n => .int k n
 | .kb b => .bool b
 | .ks s => .string s
def KV.key (l : List KV) : Value := .agg (l.map KV.val).toArray
inductive DV where
 | int (k : IntKind) (n : Int)
 | bool (b : Bool)
 | str (s : ByteArray)
 | raw (v : Value)
 | nil
 | sl (els : List (List DV))
 | ow (z : Nat) (els : List (List DV))
 | bx (l : List DV)
 | rf (l : List DV)
 | dead
 | fn (f : FuncId) (caps : List DV)
 | mp (es : List (List KV × KV))
mutual
inductive Cz (w : World) (S : Nat -> Prop) : Value -> DV -> List Nat -> Prop
 | int (k : IntKind) (n : Int) : Cz w S (.int k n) (.int k n) []
 | bool (b : Bool) : Cz w S (.bool b) (.bool b) []
 | str (s : ByteArray) : Cz w S (.string s) (.str s) []
 | raw (v : Value) (h : v.oneCell' = true) : Cz w S v (.raw v) []
 | dead (v : Value) (h : v.oneCell' = true) : Cz w S v .dead []
 | nil : Cz w S (.slice none 0 0) .nil []
 | shNil (a : Option Addr) (c : Nat) : Cz w S (.slice a 0 c) (.sl []) []
 | owNil (z : Nat) : Cz w S (.slice none 0 0) (.ow z []) []
 | sh (ad : Addr) (n c z : Nat) (els : List (List DV)) (vs : List Value) (hS : S ad.block) (hn : els.length = n) (hc : n <= c) (hm : c <= maxLen)
   (hz : ∀ e ∈ els, e.length = z) (hcell : ∀ j u, vs[j]? = some u -> w.cell? (ad.add j) = some u) (hl : CzL w S vs els.flatten []) : Cz w S (.slice (some ad) n c) (.sl els) []
 | ow (b off n c z : Nat) (els : List (List DV)) (T : TypeId) (cs : Array Value) (rs : List Nat) (hb : w.heap[b]? = some (.cells cs T (0, 0))) (hn : els.length = n) (hc : n <= c) (hm : c <= maxLen)
   (hsz : off + c * z <= cs.size) (hz : ∀ e ∈ els, e.length = z) (hl : CzL w S ((cs.toList.drop off).take (n * z)) els.flatten rs) : Cz w S (.slice (some ⟨b, off, none⟩) n c) (.ow z els) (b :: rs)
 | bx (b : Nat) (l : List DV) (T : TypeId) (cs : Array Value) (rs : List Nat) (hb : w.heap[b]? = some (.cells cs T (0, 0))) (hl : CzL w S cs.toList l rs) : Cz w S (.pointer (some ⟨b, 0, none⟩)) (.bx l) (b :: rs)
 | rf (ad : Addr) (l : List DV) (vs : List Value) (hS : S ad.block) (hcell : ∀ j u, vs[j]? = some u -> w.cell? (ad.add j) = some u) (hl : CzL w S vs l []) : Cz w S (.pointer (some ad)) (.rf l) []
 | fn (f : FuncId) (cs : Array Value) (caps : List DV) (hl : CzL w S cs.toList caps []) : Cz w S (.func (.func f) #[] cs) (.fn f caps) []
 | mp (b : Nat) (es : Array MapEntry) (clock : Nat) (l : List (List KV × KV)) (hb : w.heap[b]? = some (.map es clock)) (hl : es.toList.map (fun e => (e.key, e.val)) = l.map (fun x => (KV.key x.1, x.2.val))) : Cz w S (.map (some b)) (.mp l) [b]
inductive CzL (w : World) (S : Nat -> Prop) : List Value -> List DV -> List Nat -> Prop
 | nil : CzL w S [] [] []
 | cons (v : Value) (x : DV) (r : List Nat) (vs : List Value) (xs : List DV) (rs : List Nat) (h : Cz w S v x r) (hs : CzL w S vs xs rs) : CzL w S (v :: vs) (x :: xs) (r ++ rs)
end
theorem block_of_add (a : Addr) (n : Nat) : (a.add n).block = a.block := by unfold Addr.add; split <;> rfl
theorem add_of_add (a : Addr) (i j : Nat) : (a.add i).add j = a.add (i + j) := by
 unfold Addr.add
 by_cases hi : i = 0 <;> by_cases hj : j = 0 <;> simp [hi, hj, Nat.add_assoc]
theorem cell_same {w w' : World} {a : Addr} (h : w'.heap[a.block]? = w.heap[a.block]?) : w'.cell? a = w.cell? a := by simp [World.cell?, h]
mutual
theorem Cz.keep {w w' : World} {S S' : Nat -> Prop} (hS : ∀ b, S b -> S' b /\ w'.heap[b]? = w.heap[b]?) : ∀ {v : Value} {x : DV} {rs : List Nat}, Cz w S v x rs -> (∀ b ∈ rs, w'.heap[b]? = w.heap[b]?) -> Cz w' S' v x rs
 | _, _, _, .int k n, _ => .int k n
 | _, _, _, .bool b, _ => .bool b
 | _, _, _, .str s, _ => .str s
 | _, _, _, .raw v h, _ => .raw v h
 | _, _, _, .dead v h, _ => .dead v h
 | _, _, _, .nil, _ => .nil
 | _, _, _, .shNil a c, _ => .shNil a c
 | _, _, _, .owNil z, _ => .owNil z
 | _, _, _, .sh ad n c z els vs h1 h2 h3 h4 h5 h6 h7, _ => .sh ad n c z els vs (hS _ h1).1 h2 h3 h4 h5 (fun j u hu => (cell_same (by rw [block_of_add]; exact (hS _ h1).2)).trans (h6 j u hu)) (CzL.keep hS h7 (by simp))
 | _, _, _, .ow b off n c z els T cs rs h1 h2 h3 h4 h5 h6 h7, hr => .ow b off n c z els T cs rs ((hr b (by simp)).trans h1) h2 h3 h4 h5 h6 (CzL.keep hS h7 (fun b' hb => hr b' (by simp [hb])))
 | _, _, _, .bx b l T cs rs h1 h2, hr => .bx b l T cs rs ((hr b (by simp)).trans h1) (CzL.keep hS h2 (fun b' hb => hr b' (by simp [hb])))
 | _, _, _, .rf ad l vs h1 h2 h3, _ => .rf ad l vs (hS _ h1).1 (fun j u hu => (cell_same (by rw [block_of_add]; exact (hS _ h1).2)).trans (h2 j u hu)) (CzL.keep hS h3 (by simp))
 | _, _, _, .fn f cs caps h, _ => .fn f cs caps (CzL.keep hS h (by simp))
 | _, _, _, .mp b es clock l h1 h2, hr => .mp b es clock l ((hr b (by simp)).trans h1) h2
theorem CzL.keep {w w' : World} {S S' : Nat -> Prop} (hS : ∀ b, S b -> S' b /\ w'.heap[b]? = w.heap[b]?) : ∀ {v : List Value} {x : List DV} {rs : List Nat}, CzL w S v x rs -> (∀ b ∈ rs, w'.heap[b]? = w.heap[b]?) -> CzL w' S' v x rs
 | _, _, _, .nil, _ => .nil
 | _, _, _, .cons v x r vs xs rs h hs, hr => .cons v x r vs xs rs (Cz.keep hS h (fun b hb => hr b (by simp [hb]))) (CzL.keep hS hs (fun b hb => hr b (by simp [hb])))
end
theorem Cz.one {w : World} {S : Nat -> Prop} {v : Value} {x : DV} {rs : List Nat} (h : Cz w S v x rs) : v.oneCell' = true := by
 cases h <;> first | rfl | assumption
theorem CzL.length {w : World} {S : Nat -> Prop} : ∀ {vs : List Value} {xs : List DV} {rs : List Nat}, CzL w S vs xs rs -> vs.length = xs.length
 | _, _, _, .nil => rfl
 | _, _, _, .cons _ _ _ _ _ _ _ hs => by simp [CzL.length hs]
theorem CzL.allOne {w : World} {S : Nat -> Prop} : ∀ {vs : List Value} {xs : List DV} {rs : List Nat}, CzL w S vs xs rs -> ∀ v ∈ vs, v.oneCell' = true
 | _, _, _, .nil => by simp
 | _, _, _, .cons _ _ _ _ _ _ h hs => by
   intro v hv
   rcases List.mem_cons.1 hv with rfl | hv
   ·exact h.one
   ·exact CzL.allOne hs v hv
theorem CzL.append {w : World} {S : Nat -> Prop} : ∀ {vs : List Value} {xs : List DV} {rs : List Nat} {vs' : List Value} {xs' : List DV} {rs' : List Nat}, CzL w S vs xs rs -> CzL w S vs' xs' rs' -> CzL w S (vs ++ vs') (xs ++ xs') (rs ++ rs')
 | _, _, _, _, _, _, .nil, h' => h'
 | _, _, _, _, _, _, .cons v x r vs xs rs h hs, h' => by
   rw [List.append_assoc]
   exact .cons v x r _ _ _ h (CzL.append hs h')
theorem CzL.split {w : World} {S : Nat -> Prop} (k : Nat) : ∀ {vs : List Value} {xs : List DV} {rs : List Nat}, CzL w S vs xs rs -> ∃ r1 r2, rs = r1 ++ r2 /\ CzL w S (vs.take k) (xs.take k) r1 /\ CzL w S (vs.drop k) (xs.drop k) r2 := by
 induction k with
 | zero => intro vs xs rs h; exact ⟨[], rs, rfl, .nil, h⟩
 | succ k ih =>
   intro vs xs rs h
   cases h with
   | nil => exact ⟨[], [], rfl, .nil, .nil⟩
   | cons v x r vs xs rs h hs =>
     obtain ⟨r1, r2, rfl, h1, h2⟩ := ih hs
     exact ⟨r ++ r1, r2, by simp, .cons v x r _ _ _ h h1, h2⟩
theorem CzL.get {w : World} {S : Nat -> Prop} {vs : List Value} {xs : List DV} {rs : List Nat} (h : CzL w S vs xs rs) {i : Nat} {x : DV} (hx : xs[i]? = some x) : ∃ v r, vs[i]? = some v /\ Cz w S v x r /\ ∀ b ∈ r, b ∈ rs := by
 obtain ⟨r1, r2, rfl, _, h2⟩ := CzL.split i h
 have hi : i < xs.length := by
  rcases Nat.lt_or_ge i xs.length with h | h
  ·exact h
  ·simp [List.getElem?_eq_none h] at hx
 rw [List.drop_eq_getElem_cons hi] at h2
 have hv : i < vs.length := by rw [h.length]; exact hi
 rw [List.drop_eq_getElem_cons hv] at h2
 have e : xs[i] = x := by simpa [List.getElem?_eq_getElem hi] using hx
 rw [e] at h2
 cases h2 with
 | cons v x r vs' xs' rs' hc hcs => exact ⟨vs[i], r, List.getElem?_eq_getElem hv, hc, fun b hb => by simp [hb]⟩
def splice {α : Type} (l : List α) (k : Nat) (news : List α) : List α := l.take k ++ news ++ l.drop (k + news.length)
theorem splice_length {α : Type} (l : List α) (k : Nat) (news : List α) (h : k + news.length <= l.length) : (splice l k news).length = l.length := by
 simp [splice]; omega
theorem CzL.splice {w : World} {S : Nat -> Prop} {vs : List Value} {xs : List DV} {rs : List Nat} (h : CzL w S vs xs rs) (k : Nat) {news : List Value} {ds : List DV} {rn : List Nat} (hn : CzL w S news ds rn) :
  ∃ r1 rm r2, rs = r1 ++ (rm ++ r2) /\ CzL w S (Av.splice vs k news) (Av.splice xs k ds) (r1 ++ rn ++ r2) /\ CzL w S ((vs.drop k).take ds.length) ((xs.drop k).take ds.length) rm := by
 obtain ⟨r1, r0, rfl, h1, h0⟩ := CzL.split k h
 obtain ⟨rm, r2, rfl, hm, h2⟩ := CzL.split ds.length h0
 refine ⟨r1, rm, r2, rfl, ?_, hm⟩
 rw [List.drop_drop, List.drop_drop] at h2
 have e := hn.length
 unfold Av.splice
 rw [e]
 exact (h1.append hn).append h2
theorem flatten_len {α : Type} {z : Nat} : ∀ {els : List (List α)}, (∀ e ∈ els, e.length = z) -> els.flatten.length = els.length * z
 | [], _ => by simp
 | e :: els, h => by
   have := flatten_len (els := els) (fun e he => h e (by simp [he]))
   have h0 := h e (by simp)
   simp only [List.flatten_cons, List.length_append, List.length_cons, this, h0, Nat.succ_mul]
   omega
theorem flatten_drop {α : Type} {z : Nat} : ∀ (i : Nat) {els : List (List α)}, (∀ e ∈ els, e.length = z) -> els.flatten.drop (i * z) = (els.drop i).flatten
 | 0, _, _ => by simp
 | i + 1, [], _ => by simp
 | i + 1, e :: els, h => by
   have h0 := h e (by simp)
   have ih := flatten_drop i (els := els) (fun e he => h e (by simp [he]))
   have : (i + 1) * z = e.length + i * z := by rw [h0, Nat.succ_mul]; omega
   rw [List.flatten_cons, this, List.drop_append, show e.length + i * z - e.length = i * z from by omega, ih]
   simp
theorem flatten_take {α : Type} {z : Nat} : ∀ (i : Nat) {els : List (List α)}, (∀ e ∈ els, e.length = z) -> els.flatten.take (i * z) = (els.take i).flatten
 | 0, _, _ => by simp
 | i + 1, [], _ => by simp
 | i + 1, e :: els, h => by
   have h0 := h e (by simp)
   have ih := flatten_take i (els := els) (fun e he => h e (by simp [he]))
   have : (i + 1) * z = e.length + i * z := by rw [h0, Nat.succ_mul]; omega
   rw [List.flatten_cons, this, List.take_append, List.take_succ_cons, List.flatten_cons, <- ih]
   simp [List.take_of_length_le]
theorem flatten_at {α : Type} {z : Nat} {els : List (List α)} (h : ∀ e ∈ els, e.length = z) {i : Nat} {el : List α} (hi : els[i]? = some el) : (els.flatten.drop (i * z)).take z = el := by
 have hlt : i < els.length := (List.getElem?_eq_some_iff.1 hi).1
 have he : els[i] = el := (List.getElem?_eq_some_iff.1 hi).2
 rw [flatten_drop i h, List.drop_eq_getElem_cons hlt, he, List.flatten_cons]
 have : el.length = z := h el (by rw [<- he]; exact List.getElem_mem hlt)
 rw [<- this, List.take_left]
theorem flatten_splice {α : Type} {z : Nat} {els : List (List α)} (h : ∀ e ∈ els, e.length = z) {i j : Nat} {el : List α} (hi : els[i]? = some el) (ds : List α) (hj : j + ds.length <= z) :
  (els.set i (splice el j ds)).flatten = splice els.flatten (i * z + j) ds := by
 have hlt : i < els.length := (List.getElem?_eq_some_iff.1 hi).1
 have he : els[i] = el := (List.getElem?_eq_some_iff.1 hi).2
 have hz : el.length = z := h el (by rw [<- he]; exact List.getElem_mem hlt)
 have e1 : els.set i (splice el j ds) = els.take i ++ (splice el j ds :: els.drop (i + 1)) := by rw [List.set_eq_take_append_cons_drop]; simp [hlt]
 have e2 : els = els.take i ++ (el :: els.drop (i + 1)) := by
  conv => lhs; rw [<- List.take_append_drop i els, List.drop_eq_getElem_cons hlt, he]
 have hl : (els.take i).flatten.length = i * z := by
  rw [flatten_len (z := z) (fun e he => h e (List.mem_of_mem_take he)), List.length_take]
  congr 1; omega
 have e3 : els.flatten = (els.take i).flatten ++ (el ++ (els.drop (i + 1)).flatten) := by
  conv => lhs; rw [e2]
  simp
 rw [e1, e3, List.flatten_append, List.flatten_cons]
 generalize (els.take i).flatten = L at *
 generalize (els.drop (i + 1)).flatten = R at *
 unfold splice
 rw [List.take_append, List.drop_append, hl, show i * z + j - i * z = j from by omega, show i * z + j + ds.length - i * z = j + ds.length from by omega, List.take_of_length_le (l := L) (i := i * z + j) (by omega), List.drop_eq_nil_of_le (as := L) (i := i * z + j + ds.length) (by omega),
  List.take_append (l₁ := el), List.drop_append (l₁ := el), show j - el.length = 0 from by omega, show j + ds.length - el.length = 0 from by omega]
 simp
end Go.Av
namespace Go.Av
open Go Go.RowKit
theorem seg {α : Type} {l : List α} {n a m : Nat} (h : a + m <= n) : ((l.take n).drop a).take m = (l.drop a).take m := by
 rw [List.drop_take, List.take_take]
 congr 1; omega
def DV.elAt : DV -> Nat -> Option (List DV)
 | .ow _ els, i => els[i]?
 | .bx l, i => if i = 0 then some l else none
 | _, _ => none
def DV.put : DV -> Nat -> Nat -> List DV -> DV
 | .ow z els, i, j, ds => .ow z (els.set i (splice ((els[i]?).getD []) j ds))
 | .bx l, _, j, ds => .bx (splice l j ds)
 | x, _, _, _ => x
def DV.elsOf : DV -> Option (List (List DV))
 | .nil => some []
 | .sl els => some els
 | .ow _ els => some els
 | _ => none
def rowBase : Value -> DV -> Option Addr
 | .slice (some ad) _ _, .ow _ _ => some ad
 | .pointer (some ad), .bx _ => some ad
 | _, _ => none
def getP : DV -> List (Nat × Nat) -> Option DV
 | x, [] => some x
 | x, (i, j) :: p => match x.elAt i with
   | some el => match el[j]? with
     | some d => getP d p
     | none => none
   | none => none
def setP : DV -> List (Nat × Nat) -> DV -> DV
 | _, [], y => y
 | x, (i, j) :: p, y => match x.elAt i with
   | some el => match el[j]? with
     | some d => x.put i j [setP d p y]
     | none => x
   | none => x
def cat (w : World) : Value -> DV -> List (Nat × Nat) -> Option (Value × DV)
 | v, x, [] => some (v, x)
 | v, x, (i, j) :: p => match x.elAt i, rowBase v x with
   | some el, some ad => match el[j]?, w.cell? (ad.add (i * el.length + j)) with
     | some d, some c => cat w c d p
     | _, _ => none
   | _, _ => none
theorem Cz.row {w : World} {S : Nat -> Prop} {v : Value} {x : DV} {rs : List Nat} (h : Cz w S v x rs) {i : Nat} {el : List DV} (he : x.elAt i = some el) :
  ∃ b o z T cs r0 vs, rs = b :: r0 /\ rowBase v x = some ⟨b, o, none⟩ /\ w.heap[b]? = some (.cells cs T (0, 0)) /\ el.length = z /\ o + (i * z + z) <= cs.size /\ vs = (cs.toList.drop (o + i * z)).take z /\
   (∃ r1 rm r2, r0 = r1 ++ (rm ++ r2) /\ CzL w S vs el rm) /\
   ∀ (k m : Nat), k + m <= z -> ∃ r1 rm r2, r0 = r1 ++ (rm ++ r2) /\ CzL w S ((vs.drop k).take m) ((el.drop k).take m) rm /\
    ∀ (w' : World) (S' : Nat -> Prop) (news : List Value) (ds : List DV) (rn : List Nat), ds.length = m -> (∀ b', S b' -> S' b' /\ w'.heap[b']? = w.heap[b']?) -> (∀ b' ∈ r1 ++ r2, w'.heap[b']? = w.heap[b']?) -> w'.heap[b]? = some (.cells (Av.splice cs.toList (o + i * z + k) news).toArray T (0, 0)) ->
     CzL w' S' news ds rn -> Cz w' S' v (x.put i k ds) (b :: (r1 ++ rn ++ r2)) := by
 cases h with
 | ow b off n c z els T cs rs hb hn hc hm hsz hz hl =>
   simp only [DV.elAt] at he
   have hlt : i < els.length := (List.getElem?_eq_some_iff.1 he).1
   have hee : els[i] = el := (List.getElem?_eq_some_iff.1 he).2
   have hel : el.length = z := hz el (by rw [<- hee]; exact List.getElem_mem hlt)
   have hin : i * z + z <= n * z := by
    have : (i + 1) * z <= n * z := Nat.mul_le_mul_right _ (by omega)
    rw [Nat.succ_mul] at this; exact this
   have hnc : n * z <= c * z := Nat.mul_le_mul_right _ hc
   have hlen := hl.length
   have hvs : (((cs.toList.drop off).take (n * z)).drop (i * z)).take z = (cs.toList.drop (off + i * z)).take z := by
    rw [List.drop_take, List.take_take, List.drop_drop]
    congr 1; omega
   refine ⟨b, off, z, T, cs, rs, _, rfl, rfl, hb, hel, by omega, rfl, ?_, ?_⟩
   ·obtain ⟨r1, r0, e1, _, h0⟩ := CzL.split (i * z) hl
    obtain ⟨rm, r2, e2, hmm, _⟩ := CzL.split z h0
    refine ⟨r1, rm, r2, by rw [e1, e2], ?_⟩
    rw [flatten_at hz he, hvs] at hmm
    exact hmm
   ·intro k m hk
    obtain ⟨r1, r0, e1, h1, h0⟩ := CzL.split (i * z + k) hl
    obtain ⟨rm, r2, e2, hmm, h2⟩ := CzL.split m h0
    refine ⟨r1, rm, r2, by rw [e1, e2], ?_, ?_⟩
    ·have f1 : ((els.flatten.drop (i * z + k)).take m) = (el.drop k).take m := by
      rw [<- flatten_at hz he, List.drop_take, List.take_take, List.drop_drop]
      congr 1; omega
     have f2 : ((((cs.toList.drop off).take (n * z)).drop (i * z + k)).take m) = (((cs.toList.drop (off + i * z)).take z).drop k).take m := by
      rw [seg (by omega), seg (by omega), List.drop_drop, List.drop_drop]
      congr 2; omega
     rw [f1, f2] at hmm
     exact hmm
    ·intro w' S' news ds rn hdm hS hr hb' hnew
     subst hdm
     have e := hnew.length
     have g1 := h1.keep hS (fun b' hb => hr b' (by simp [hb]))
     have g2 := h2.keep hS (fun b' hb => hr b' (by simp [hb]))
     have key := (g1.append hnew).append g2
     simp only [DV.put, he, Option.getD_some]
     have hsl : k + ds.length <= el.length := by omega
     have hsp : ∀ e ∈ els.set i (splice el k ds), e.length = z := by
      intro e' he'
      rcases List.mem_or_eq_of_mem_set he' with h | h
      ·exact hz _ h
      ·rw [h, splice_length _ _ _ hsl, hel]
     have hcl : cs.toList.length = cs.size := by simp
     refine Cz.ow b off n c z _ T _ _ hb' (by simpa using hn) hc hm ?_ hsp ?_
     ·have : (Av.splice cs.toList (off + i * z + k) news).length = cs.toList.length := splice_length _ _ _ (by omega)
      simp only [List.size_toArray, this]; omega
     ·rw [flatten_splice hz he ds (by omega)]
      have f3 : (((Av.splice cs.toList (off + i * z + k) news).toArray.toList.drop off).take (n * z)) = ((cs.toList.drop off).take (n * z)).take (i * z + k) ++ news ++ (((cs.toList.drop off).take (n * z)).drop (i * z + k)).drop ds.length := by
       simp only [Av.splice]
       rw [List.append_assoc, List.drop_append, List.drop_append, List.drop_take, List.take_append, List.take_append]
       have t1 : (cs.toList.take (off + i * z + k)).length = off + i * z + k := by rw [List.length_take]; omega
       have t2 : ((cs.toList.drop off).take (off + i * z + k - off)).length = i * z + k := by rw [List.length_take, List.length_drop]; omega
       rw [t1, t2]
       have u1 : off - (off + i * z + k) = 0 := by omega
       have u2 : off - (off + i * z + k) - news.length = 0 := by omega
       rw [u1, Nat.zero_sub, List.drop_zero, List.drop_zero, List.append_assoc, List.take_take, List.take_take, List.drop_drop, List.drop_take, List.drop_drop]
       have u3 : min (n * z) (off + i * z + k - off) = i * z + k := by omega
       have u4 : min (i * z + k) (n * z) = i * z + k := by omega
       rw [u3, u4, List.take_of_length_le (l := news) (by omega)]
       congr 2
       have u5 : n * z - (i * z + k) - news.length = n * z - (i * z + k + ds.length) := by omega
       have u6 : off + i * z + k + news.length = off + (i * z + k + ds.length) := by omega
       rw [u5, u6]
      rw [f3]
      rw [show splice els.flatten (i * z + k) ds = els.flatten.take (i * z + k) ++ ds ++ (els.flatten.drop (i * z + k)).drop ds.length from by simp [splice, List.drop_drop]]
      exact key
 | bx b l T cs rs hb hl =>
   simp only [DV.elAt] at he
   split at he
   ·rename_i hi
    subst hi
    injection he with he
    subst he
    have hlen := hl.length
    simp only [Array.length_toList] at hlen
    refine ⟨b, 0, l.length, T, cs, rs, _, rfl, rfl, hb, rfl, by omega, rfl, ?_, ?_⟩
    ·refine ⟨[], rs, [], by simp, ?_⟩
     rw [<- hlen]
     simpa [List.take_of_length_le] using hl
    ·intro k m hk
     obtain ⟨r1, r0, e1, h1, h0⟩ := CzL.split k hl
     obtain ⟨rm, r2, e2, hmm, h2⟩ := CzL.split m h0
     refine ⟨r1, rm, r2, by rw [e1, e2], ?_, ?_⟩
     ·rw [<- hlen]
      simpa [List.take_of_length_le] using hmm
     ·intro w' S' news ds rn hdm hS hr hb' hnew
      subst hdm
      have e := hnew.length
      have g1 := h1.keep hS (fun b' hb => hr b' (by simp [hb]))
      have g2 := h2.keep hS (fun b' hb => hr b' (by simp [hb]))
      have key := (g1.append hnew).append g2
      simp only [DV.put]
      refine Cz.bx b _ T _ _ hb' ?_
      simp only [Av.splice, Nat.zero_add, Nat.zero_mul, List.drop_drop, e] at key ⊢
      exact key
   ·cases he
 | _ => simp [DV.elAt] at he
theorem splice_self {α : Type} (l : List α) (k : Nat) (c : α) (h : l[k]? = some c) : splice l k [c] = l := by
 have hlt : k < l.length := (List.getElem?_eq_some_iff.1 h).1
 have he : l[k] = c := (List.getElem?_eq_some_iff.1 h).2
 simp only [splice, List.length_singleton, List.append_assoc, List.singleton_append]
 conv => rhs; rw [<- List.take_append_drop k l, List.drop_eq_getElem_cons hlt, he]
theorem add_mk (b o n : Nat) : (⟨b, o, none⟩ : Addr).add n = ⟨b, o + n, none⟩ := by unfold Addr.add; split <;> simp_all
theorem CzL.single {w : World} {S : Nat -> Prop} {c : Value} {d : DV} {r : List Nat} (h : CzL w S [c] [d] r) : Cz w S c d r := by
 cases h with
 | cons v x r vs xs rs h hs =>
   cases hs
   simpa using h
theorem CzL.mk1 {w : World} {S : Nat -> Prop} {c : Value} {d : DV} {r : List Nat} (h : Cz w S c d r) : CzL w S [c] [d] r := by
 have := CzL.cons c d r [] [] [] h .nil
 simpa using this
theorem take1 {α : Type} {l : List α} {j : Nat} {d : α} (h : l[j]? = some d) : (l.drop j).take 1 = [d] := by
 have hlt : j < l.length := (List.getElem?_eq_some_iff.1 h).1
 have he : l[j] = d := (List.getElem?_eq_some_iff.1 h).2
 rw [List.drop_eq_getElem_cons hlt, he]; rfl
theorem Cz.rowCell {w : World} {S : Nat -> Prop} {v : Value} {x : DV} {rs : List Nat} (h : Cz w S v x rs) {i j : Nat} {el : List DV} (he : x.elAt i = some el) {d : DV} (hd : el[j]? = some d) :
  ∃ b o c r1 rm r2, rs = b :: (r1 ++ (rm ++ r2)) /\ rowBase v x = some ⟨b, o, none⟩ /\ w.cell? ((⟨b, o, none⟩ : Addr).add (i * el.length + j)) = some c /\ Cz w S c d rm /\
   ∀ (w' : World) (S' : Nat -> Prop) (d' : DV) (rn : List Nat), (∀ b', S b' -> S' b' /\ w'.heap[b']? = w.heap[b']?) -> (∀ b' ∈ b :: (r1 ++ r2), w'.heap[b']? = w.heap[b']?) -> Cz w' S' c d' rn -> Cz w' S' v (x.put i j [d']) (b :: (r1 ++ rn ++ r2)) := by
 obtain ⟨b, o, z, T, cs, r0, vs, rfl, hbase, hb, hel, hsz, hvs, ⟨q1, qm, q2, hq, hall⟩, hup⟩ := h.row he
 have hj : j < el.length := (List.getElem?_eq_some_iff.1 hd).1
 obtain ⟨r1, rm, r2, rfl, hmid, hset⟩ := hup j 1 (by omega)
 have hlen := hall.length
 have hv : j < vs.length := by omega
 have hc : vs[j]? = some vs[j] := List.getElem?_eq_getElem hv
 have hcs : cs.toList[o + i * z + j]? = some vs[j] := by
  have h1 : vs[j]? = ((cs.toList.drop (o + i * z)).take z)[j]? := by rw [<- hvs]
  rw [hc] at h1
  rw [h1, List.getElem?_take, if_pos (by omega), List.getElem?_drop]
 rw [take1 hd, take1 hc] at hmid
 refine ⟨b, o, vs[j], r1, rm, r2, rfl, hbase, ?_, hmid.single, ?_⟩
 ·rw [hel, add_mk, <- Nat.add_assoc, cell_of_row w b _ cs T (0, 0) hb]
  simpa using hcs
 ·intro w' S' d' rn hS hr hd'
  refine hset w' S' [vs[j]] [d'] rn rfl hS (fun b' hb1 => hr b' (by simp at hb1 ⊢; exact .inr hb1)) ?_ (CzL.mk1 hd')
  rw [splice_self _ _ _ hcs, hr b (by simp), hb]
theorem Cz.lens {S : Nat -> Prop} {w : World} {u : Value} {y : DV} : ∀ (p : List (Nat × Nat)) {v : Value} {x : DV} {rs : List Nat}, Cz w S v x rs -> rs.Nodup -> cat w v x p = some (u, y) ->
  ∃ (ru rest : List Nat), Cz w S u y ru /\ (∀ b, b ∈ rs ↔ b ∈ ru \/ b ∈ rest) /\ (∀ b ∈ ru, b ∉ rest) /\ ru.Nodup /\
   ∀ (w' : World) (S' : Nat -> Prop) (y' : DV) (r' : List Nat), (∀ b, S b -> S' b /\ w'.heap[b]? = w.heap[b]?) -> (∀ b ∈ rest, w'.heap[b]? = w.heap[b]?) -> Cz w' S' u y' r' -> r'.Nodup -> (∀ b ∈ r', b ∉ rest) ->
    ∃ rs' : List Nat, Cz w' S' v (setP x p y') rs' /\ rs'.Nodup /\ (∀ b, b ∈ rs' ↔ b ∈ r' \/ b ∈ rest)
 | [], v, x, rs, h, hnd, hc => by
   simp only [cat, Option.some.injEq, Prod.mk.injEq] at hc
   obtain ⟨rfl, rfl⟩ := hc
   refine ⟨rs, [], h, by simp, by simp, hnd, fun w' S' y' r' _ _ h' hn' _ => ⟨r', h', hn', by simp⟩⟩
 | (i, j) :: p, v, x, rs, h, hnd, hc => by
   simp only [cat] at hc
   split at hc
   ·rename_i el ad he hb
    split at hc
    ·rename_i d c hd hcell
     obtain ⟨b, o, c', r1, rm, r2, rfl, hb', hcell', hcz, hset⟩ := h.rowCell he hd
     rw [hb] at hb'
     injection hb' with hb'
     subst hb'
     rw [hcell] at hcell'
     injection hcell' with hcc
     subst hcc
     have hnd' := hnd
     simp only [List.nodup_cons, List.nodup_append, List.mem_append] at hnd'
     obtain ⟨ru, rest, hu, hmem, hdis, hnu, hk⟩ := Cz.lens p hcz hnd'.2.2.1.1 hc
     refine ⟨ru, b :: (r1 ++ (rest ++ r2)), hu, ?_, ?_, hnu, ?_⟩
     ·intro b'
      simp only [List.mem_cons, List.mem_append, hmem b']
      grind
     ·intro b' hb1
      have h1 := (hmem b').2 (.inl hb1)
      have h2 := hdis b' hb1
      simp only [List.mem_cons, List.mem_append]
      grind
     ·intro w' S' y' r' hS hr hy' hn' hd'
      simp only [List.mem_cons, List.mem_append] at hr hd'
      obtain ⟨rs', h1, h2, h3⟩ := hk w' S' y' r' hS (fun b hb => hr b (by simp [hb])) hy' hn' (fun b hb => by have := hd' b hb; grind)
      refine ⟨b :: (r1 ++ rs' ++ r2), ?_, ?_, ?_⟩
      ·have := hset w' S' _ rs' hS (fun b hb => hr b (by simp at hb; grind)) h1
       simp only [setP, he, hd]
       exact this
      ·simp only [List.nodup_cons, List.nodup_append, List.mem_append]
       grind
      ·intro b'
       simp only [List.mem_cons, List.mem_append, h3 b']
       grind
    ·cases hc
   ·cases hc
theorem Cz.cat_of {S : Nat -> Prop} {w : World} {y : DV} : ∀ (p : List (Nat × Nat)) {v : Value} {x : DV} {rs : List Nat}, Cz w S v x rs -> getP x p = some y -> ∃ (u : Value) (r : List Nat), cat w v x p = some (u, y) /\ Cz w S u y r /\ ∀ b ∈ r, b ∈ rs
 | [], v, x, rs, h, hc => by
   simp only [getP, Option.some.injEq] at hc
   subst hc
   exact ⟨v, rs, rfl, h, fun _ h => h⟩
 | (i, j) :: p, v, x, rs, h, hc => by
   simp only [getP] at hc
   split at hc
   ·rename_i el he
    split at hc
    ·rename_i d hd
     obtain ⟨b, o, c', r1, rm, r2, rfl, hb', hcell', hcz, _⟩ := h.rowCell he hd
     obtain ⟨u, r, h1, h2, h3⟩ := Cz.cat_of p hcz hc
     refine ⟨u, r, ?_, h2, fun b hb => by have := h3 b hb; simp; grind⟩
     simp only [cat, he, hb', hd, hcell']
     exact h1
    ·cases hc
   ·cases hc
theorem cat_getP {w : World} {u : Value} {y : DV} : ∀ (p : List (Nat × Nat)) {v : Value} {x : DV}, cat w v x p = some (u, y) -> getP x p = some y
 | [], v, x, hc => by
   simp only [cat, Option.some.injEq, Prod.mk.injEq] at hc
   simp [getP, hc.2]
 | (i, j) :: p, v, x, hc => by
   simp only [cat] at hc
   split at hc
   ·rename_i el ad he hb
    split at hc
    ·rename_i d c hd hcell
     simp only [getP, he, hd]
     exact cat_getP p hc
    ·cases hc
   ·cases hc
theorem Cz.cat_keep {S : Nat -> Prop} {w w' : World} {u : Value} {y : DV} : ∀ (p : List (Nat × Nat)) {v : Value} {x : DV} {rs : List Nat}, Cz w S v x rs -> (∀ b ∈ rs, w'.heap[b]? = w.heap[b]?) -> cat w v x p = some (u, y) -> cat w' v x p = some (u, y)
 | [], _, _, _, _, _, hc => hc
 | (i, j) :: p, v, x, rs, h, hk, hc => by
   simp only [cat] at hc
   split at hc
   ·rename_i el ad he hb
    split at hc
    ·rename_i d c hd hcell
     obtain ⟨b, o, c', r1, rm, r2, rfl, hb', hcell', hcz, _⟩ := h.rowCell he hd
     rw [hb] at hb'
     injection hb' with hb'
     subst hb'
     rw [hcell] at hcell'
     injection hcell' with hcc
     subst hcc
     have e : w'.cell? ((⟨b, o, none⟩ : Addr).add (i * el.length + j)) = some c := (cell_same (by rw [block_of_add]; exact hk b (by simp))).trans hcell
     simp only [cat, he, hb, hd, e]
     exact Cz.cat_keep p hcz (fun b hb => hk b (by simp; grind)) hc
    ·cases hc
   ·cases hc
end Go.Av
namespace Go.Av
open Go Go.RowKit
inductive SV where
 | one (x : DV)
 | ag (l : List DV)
inductive CzS (w : World) (S : Nat -> Prop) : Value -> SV -> List Nat -> Prop
 | one (v : Value) (x : DV) (rs : List Nat) (h : Cz w S v x rs) : CzS w S v (.one x) rs
 | ag (vs : Array Value) (l : List DV) (rs : List Nat) (h : CzL w S vs.toList l rs) : CzS w S (.agg vs) (.ag l) rs
inductive CzSL (w : World) (S : Nat -> Prop) : List Value -> List SV -> List Nat -> Prop
 | nil : CzSL w S [] [] []
 | cons (v : Value) (x : SV) (r : List Nat) (vs : List Value) (xs : List SV) (rs : List Nat) (h : CzS w S v x r) (hs : CzSL w S vs xs rs) : CzSL w S (v :: vs) (x :: xs) (r ++ rs)
theorem CzS.one_inv {w : World} {S : Nat -> Prop} {v : Value} {x : DV} {rs : List Nat} (h : CzS w S v (.one x) rs) : Cz w S v x rs := by
 cases h with
 | one _ _ _ h => exact h
theorem CzS.keep {w w' : World} {S S' : Nat -> Prop} (hS : ∀ b, S b -> S' b /\ w'.heap[b]? = w.heap[b]?) {v : Value} {x : SV} {rs : List Nat} (h : CzS w S v x rs) (hr : ∀ b ∈ rs, w'.heap[b]? = w.heap[b]?) : CzS w' S' v x rs := by
 cases h with
 | one v x rs h => exact .one v x rs (h.keep hS hr)
 | ag vs l rs h => exact .ag vs l rs (h.keep hS hr)
theorem CzSL.keep {w w' : World} {S S' : Nat -> Prop} (hS : ∀ b, S b -> S' b /\ w'.heap[b]? = w.heap[b]?) {vs : List Value} {xs : List SV} {rs : List Nat} (h : CzSL w S vs xs rs) : (∀ b ∈ rs, w'.heap[b]? = w.heap[b]?) -> CzSL w' S' vs xs rs := by
 induction h with
 | nil => exact fun _ => .nil
 | cons v x r vs xs rs h _ ih => exact fun hr => .cons v x r vs xs rs (h.keep hS (fun b hb => hr b (by simp [hb]))) (ih (fun b hb => hr b (by simp [hb])))
theorem CzSL.length {w : World} {S : Nat -> Prop} {vs : List Value} {xs : List SV} {rs : List Nat} (h : CzSL w S vs xs rs) : vs.length = xs.length := by
 induction h with
 | nil => rfl
 | cons _ _ _ _ _ _ _ _ ih => simp [ih]
theorem CzSL.append {w : World} {S : Nat -> Prop} {vs : List Value} {xs : List SV} {rs : List Nat} (h : CzSL w S vs xs rs) {vs' : List Value} {xs' : List SV} {rs' : List Nat} (h' : CzSL w S vs' xs' rs') : CzSL w S (vs ++ vs') (xs ++ xs') (rs ++ rs') := by
 induction h with
 | nil => exact h'
 | cons v x r vs xs rs h _ ih =>
   rw [List.append_assoc]
   exact .cons v x r _ _ _ h ih
inductive AV where
 | no
 | undef
 | sv (x : SV)
 | tup (l : List SV)
 | al (s : Nat) (p : List (Nat × Nat))
 | pt (s : Nat) (p : List (Nat × Nat)) (i j : Nat)
 | sub (s : Nat) (p : List (Nat × Nat)) (lo hi : Nat)
 | bsl (s : Nat) (p : List (Nat × Nat)) (n : Nat)
 | gd (c : Bool) (a : AV)
 | eqv (s : Nat) (v : Value)
 | cl (g : FuncId) (caps : List Nat)
 | agl (s : Nat) (p : List (Nat × Nat)) (i : Nat)
abbrev Env := List (Nat × AV)
def Env.get : Env -> Nat -> AV
 | [], _ => .no
 | (s, a) :: e, t => if s = t then a else Env.get e t
def AV.kill (s n : Nat) : AV -> AV
 | .al s' p => if s' = s /\ n <= p.length then .no else .al s' p
 | .pt s' p i j => if s' = s /\ n <= p.length then .no else .pt s' p i j
 | .sub s' p i j => if s' = s /\ n <= p.length then .no else .sub s' p i j
 | .bsl s' p m => if s' = s /\ n <= p.length then .no else .bsl s' p m
 | .gd c a => .gd c (AV.kill s n a)
 | .eqv s' v => if s' = s /\ n = 0 then .no else .eqv s' v
 | .cl g caps => if caps.contains s = true /\ n = 0 then .no else .cl g caps
 | .agl s' p i => if s' = s then .no else .agl s' p i
 | a => a
def Env.kill (s n : Nat) : Env -> Env
 | [] => []
 | (t, a) :: e => (t, a.kill s n) :: Env.kill s n e
def AV.asOne : AV -> Option DV
 | .sv (.one x) => some x
 | _ => none
theorem AV.asOne_kill (s n : Nat) (a : AV) : (a.kill s n).asOne = a.asOne := by
 cases a <;> simp only [AV.kill] <;> first | rfl | (split <;> rfl)
def Env.root (e : Env) (s : Nat) : Option DV := (e.get s).asOne
theorem Env.get_kill (s n : Nat) (e : Env) (t : Nat) : (Env.kill s n e).get t = (e.get t).kill s n := by
 induction e with
 | nil => rfl
 | cons x e ih =>
   obtain ⟨k, a⟩ := x
   simp only [Env.kill, Env.get]
   split
   ·rfl
   ·exact ih
def Env.put (e : Env) (d : Nat) (a : AV) : Env := (d, a.kill d 0) :: Env.kill d 0 e
theorem Env.get_put (e : Env) (d : Nat) (a : AV) (t : Nat) : (e.put d a).get t = if d = t then a.kill d 0 else (e.get t).kill d 0 := by
 simp only [Env.put, Env.get, Env.get_kill]
theorem Env.root_put_ne (e : Env) {d s : Nat} (a : AV) (h : d ≠ s) : (e.put d a).root s = e.root s := by
 simp only [Env.root, Env.get_put, h, if_false, AV.asOne_kill]
def AVR (w : World) (S : Nat -> Prop) (env : Env) (f : Nat -> Value) : AV -> Value -> List Nat -> Prop
 | .no, _, _ => True
 | .undef, v, r => v = Go.undef /\ r = []
 | .sv x, v, r => CzS w S v x r
 | .tup l, v, r => ∃ vs : Array Value, v = .tuple vs /\ CzSL w S vs.toList l r
 | .al s p, v, r => r = [] /\ ∃ x y, env.root s = some x /\ cat w (f s) x p = some (v, y)
 | .pt s p i j, v, r => r = [] /\ ∃ x u y el ad, env.root s = some x /\ cat w (f s) x p = some (u, y) /\ y.elAt i = some el /\ rowBase u y = some ad /\ v = .pointer (some (ad.add (i * el.length + j)))
 | .sub s p lo hi, v, r => r = [] /\ ∃ x y A n c els, env.root s = some x /\ cat w (f s) x p = some (.slice A n c, y) /\ y.elsOf = some els /\ els.length = n /\ lo <= hi /\ hi <= n /\ n <= c /\
   ∃ z, (∀ e ∈ els, e.length = z) /\ v = .slice (if c = lo then A else A.map (·.add (lo * z))) (hi - lo) (c - lo)
 | .bsl s p n, v, r => r = [] /\ ∃ x u y el ad, env.root s = some x /\ cat w (f s) x p = some (u, y) /\ y.elAt 0 = some el /\ rowBase u y = some ad /\ el.length = n /\ v = .slice (some ad) n n
 | .gd c a, v, r => r = [] /\ (c = true -> AVR w S env f a v []) /\ (c = false -> v = Go.undef)
 | .eqv s x, _, r => r = [] /\ f s = x
 | .cl g caps, v, r => r = [] /\ v = .func (.func g) #[] (caps.map f).toArray
 | .agl s p i, v, r => r = [] /\ ∃ x u y el, ∃ vs : List Value, env.root s = some x /\ cat w (f s) x p = some (u, y) /\ y.elAt i = some el /\ v = .agg vs.toArray /\ vs.length = el.length /\
   ∀ (j : Nat) c, vs[j]? = some c -> ∃ d, cat w (f s) x (p ++ [(i, j)]) = some (c, d)
def SS (B : Nat) (S0 : Nat -> Prop) (w : World) (rows : Nat -> List Nat) : Nat -> Prop := fun b => S0 b \/ (B <= b /\ b < w.heap.size /\ ∀ t, b ∉ rows t)
def Act.f (a : Act) : Nat -> Value := fun t => a.tmps.getD t Go.undef
structure SimR (N B : Nat) (w0 : World) (S0 : Nat -> Prop) (env : Env) (a : Act) (w : World) (rows : Nat -> List Nat) : Prop where
 defers : a.defers = []
 size : a.tmps.size = N
 below : Below B w0 w
 base : B <= w.heap.size
 old : ∀ b, S0 b -> b < w0.heap.size /\ w.heap[b]? = w0.heap[b]? /\ ∀ t, b ∉ rows t
 own : ∀ t, ∀ b ∈ rows t, B <= b /\ b < w.heap.size
 nodup : ∀ t, (rows t).Nodup
 apart : ∀ t t', t ≠ t' -> ∀ b ∈ rows t, b ∉ rows t'
 rel : ∀ t, AVR w (SS B S0 w rows) env (Act.f a) (env.get t) (Act.f a t) (rows t)
def Sim (N B : Nat) (w0 : World) (S0 : Nat -> Prop) (env : Env) (a : Act) (w : World) : Prop := ∃ rows, SimR N B w0 S0 env a w rows
theorem AVR.keep {w w' : World} {S S' : Nat -> Prop} {env env' : Env} {f f' : Nat -> Value} (hS : ∀ b, S b -> S' b /\ w'.heap[b]? = w.heap[b]?) {s0 n0 : Nat}
  (hroot : ∀ s x p v y, (s ≠ s0 \/ p.length < n0) -> env.root s = some x -> cat w (f s) x p = some (v, y) -> ∃ x', env'.root s = some x' /\ cat w' (f' s) x' p = some (v, y)) (hval : ∀ s, (s ≠ s0 \/ 0 < n0) -> f' s = f s) :
  ∀ (av : AV) {v : Value} {r : List Nat}, AVR w S env f av v r -> (∀ b ∈ r, w'.heap[b]? = w.heap[b]?) -> AVR w' S' env' f' (av.kill s0 n0) v r
 | .no, _, _, h, _ => h
 | .undef, _, _, h, _ => h
 | .sv x, _, _, h, hr => CzS.keep hS h hr
 | .tup l, _, _, ⟨vs, h1, h2⟩, hr => ⟨vs, h1, h2.keep hS hr⟩
 | .al s p, v, r, h, hr => by
   obtain ⟨rfl, x, y, h1, h2⟩ := h
   simp only [AV.kill]
   split
   ·trivial
   ·rename_i hk
    obtain ⟨x', g1, g2⟩ := hroot s x p v y (by by_cases e : s = s0 <;> simp_all) h1 h2
    exact ⟨rfl, x', y, g1, g2⟩
 | .pt s p i j, v, r, h, hr => by
   obtain ⟨rfl, x, u, y, el, ad, h1, h2, h3, h4, h5⟩ := h
   simp only [AV.kill]
   split
   ·trivial
   ·rename_i hk
    obtain ⟨x', g1, g2⟩ := hroot s x p u y (by by_cases e : s = s0 <;> simp_all) h1 h2
    exact ⟨rfl, x', u, y, el, ad, g1, g2, h3, h4, h5⟩
 | .sub s p lo hi, v, r, h, hr => by
   obtain ⟨rfl, x, y, A, n, c, els, h1, h2, h3⟩ := h
   simp only [AV.kill]
   split
   ·trivial
   ·rename_i hk
    obtain ⟨x', g1, g2⟩ := hroot s x p _ y (by by_cases e : s = s0 <;> simp_all) h1 h2
    exact ⟨rfl, x', y, A, n, c, els, g1, g2, h3⟩
 | .bsl s p m, v, r, h, hr => by
   obtain ⟨rfl, x, u, y, el, ad, h1, h2, h3⟩ := h
   simp only [AV.kill]
   split
   ·trivial
   ·rename_i hk
    obtain ⟨x', g1, g2⟩ := hroot s x p u y (by by_cases e : s = s0 <;> simp_all) h1 h2
    exact ⟨rfl, x', u, y, el, ad, g1, g2, h3⟩
 | .gd c a, v, r, h, hr => by
   obtain ⟨rfl, h1, h2⟩ := h
   exact ⟨rfl, fun hc => AVR.keep hS hroot hval a (h1 hc) (by simp), h2⟩
 | .eqv s x, v, r, h, hr => by
   obtain ⟨rfl, h1⟩ := h
   simp only [AV.kill]
   split
   ·trivial
   ·rename_i hk
    refine ⟨rfl, (hval s ?_).trans h1⟩
    by_cases e : s = s0
    ·right
     have h2 : ¬ n0 = 0 := fun h0 => hk ⟨e, h0⟩
     omega
    ·exact .inl e
 | .cl g caps, v, r, h, hr => by
   obtain ⟨rfl, h1⟩ := h
   simp only [AV.kill]
   split
   ·trivial
   ·rename_i hk
    refine ⟨rfl, ?_⟩
    rw [h1]
    have : caps.map f' = caps.map f := by
     refine List.map_congr_left fun s hs => hval s ?_
     by_cases e : s = s0
     ·right
      subst e
      have h2 : ¬ n0 = 0 := fun h0 => hk ⟨by simpa using hs, h0⟩
      omega
     ·exact .inl e
    rw [this]
 | .agl s p i, v, r, h, hr => by
   obtain ⟨rfl, x, u, y, el, vs, h1, h2, h3, h4, h5, h6⟩ := h
   simp only [AV.kill]
   split
   ·trivial
   ·rename_i hk
    obtain ⟨x', g1, g2⟩ := hroot s x p u y (.inl hk) h1 h2
    refine ⟨rfl, x', u, y, el, vs, g1, g2, h3, h4, h5, fun j c hc => ?_⟩
    obtain ⟨d, hd⟩ := h6 j c hc
    obtain ⟨x2, k1, k2⟩ := hroot s x _ c d (.inl hk) h1 hd
    rw [g1] at k1
    injection k1 with k1
    subst k1
    exact ⟨d, k2⟩
theorem SimR.lt {N B : Nat} {w0 : World} {S0 : Nat -> Prop} {env : Env} {a : Act} {w : World} {rows : Nat -> List Nat} (h : SimR N B w0 S0 env a w rows) {b : Nat} (hs : SS B S0 w rows b) : b < w.heap.size := by
 rcases hs with hs | hs
 ·have := (h.old b hs).1; have := h.below.size; omega
 ·exact hs.2.1
theorem mem_ite {α : Type} {c : Prop} [Decidable c] {x : α} {l m : List α} (h : x ∈ if c then l else m) : x ∈ l \/ x ∈ m := by
 split at h
 ·exact .inl h
 ·exact .inr h
theorem SimR.old_next {N B : Nat} {w0 : World} {S0 : Nat -> Prop} {env : Env} {a : Act} {w w' : World} {rows rows' : Nat -> List Nat} (h : SimR N B w0 S0 env a w rows) (hr : ∀ t b, b ∈ rows' t -> (∃ t', b ∈ rows t') \/ w.heap.size <= b)
  (hw : ∀ b, b < w.heap.size -> (∀ t, b ∉ rows t) -> w'.heap[b]? = w.heap[b]?) : ∀ b, S0 b -> b < w0.heap.size /\ w'.heap[b]? = w0.heap[b]? /\ ∀ t, b ∉ rows' t := by
 intro b hb
 obtain ⟨h1, h2, h3⟩ := h.old b hb
 have hlt : b < w.heap.size := by have := h.below.size; omega
 refine ⟨h1, (hw b hlt h3).trans h2, fun t ht => ?_⟩
 rcases hr t b ht with ⟨t', g⟩ | g
 ·exact h3 t' g
 ·omega
theorem Act.f_put {a : Act} {d : Nat} {v : Value} (hd : d < a.tmps.size) (t : Nat) : Act.f (a.put (some d) v) t = if d = t then v else Act.f a t := by
 simp only [Act.f, Act.put, Array.getD_eq_getD_getElem?, Array.getElem?_setIfInBounds]
 by_cases h : d = t
 ·simp [h]; subst h; simp [hd]
 ·simp [h]
theorem SimR.cat_keep {N B : Nat} {w0 : World} {S0 : Nat -> Prop} {env : Env} {a : Act} {w w' : World} {rows : Nat -> List Nat} (h : SimR N B w0 S0 env a w rows) {s : Nat} (hk : ∀ b ∈ rows s, w'.heap[b]? = w.heap[b]?)
  {x : DV} {p : List (Nat × Nat)} {v : Value} {y : DV} (hx : env.root s = some x) (hc : cat w (Act.f a s) x p = some (v, y)) : cat w' (Act.f a s) x p = some (v, y) := by
 have hr := h.rel s
 unfold Env.root AV.asOne at hx
 split at hx
 ·rename_i x' he
  rw [he] at hr
  injection hx with hx
  subst hx
  exact (CzS.one_inv hr).cat_keep p hk hc
 ·cases hx
theorem SimR.put {N B : Nat} {w0 : World} {S0 : Nat -> Prop} {env : Env} {a : Act} {w w' : World} {rows : Nat -> List Nat} (h : SimR N B w0 S0 env a w rows) {d : Nat} (hd : d < N) (hb : Below w.heap.size w w')
  {av : AV} {v : Value} {r : List Nat} (hr : ∀ b ∈ r, w.heap.size <= b /\ b < w'.heap.size) (hn : r.Nodup)
  (hv : AVR w' (fun b => SS B S0 w rows b \/ (w.heap.size <= b /\ b < w'.heap.size /\ b ∉ r)) env (Act.f a) av v r) :
  SimR N B w0 S0 (env.put d av) (a.put (some d) v) w' (fun t => if d = t then r else rows t) := by
 have hsz := hb.size
 have hbase := h.base
 have hS : ∀ b, SS B S0 w rows b -> SS B S0 w' (fun t => if d = t then r else rows t) b /\ w'.heap[b]? = w.heap[b]? := by
  intro b hs
  have hlt := h.lt hs
  refine ⟨?_, hb.block b hlt⟩
  rcases hs with hs | ⟨h1, h2, h3⟩
  ·exact .inl hs
  ·refine .inr ⟨h1, by omega, fun t ht => ?_⟩
   dsimp only at ht
   split at ht
   ·have := hr b ht; omega
   ·exact h3 t ht
 have hkeep : ∀ t b, b ∈ rows t -> w'.heap[b]? = w.heap[b]? := fun t b hbt => hb.block b (h.own t b hbt).2
 refine ⟨h.defers, ?_, ?_, by omega, h.old_next (fun t b hbt => (mem_ite hbt).elim (fun g => .inr (hr b g).1) (fun g => .inl ⟨t, g⟩)) (fun b hlt _ => hb.block b hlt), ?_, ?_, ?_, ?_⟩
 ·simp [Act.put, h.size]
 ·exact h.below.trans (hb.mono hbase)
 ·intro t b hbt
  split at hbt
  ·have := hr b hbt; omega
  ·have := h.own t b hbt; omega
 ·intro t
  split
  ·exact hn
  ·exact h.nodup t
 ·intro t t' hne b hbt hbt'
  split at hbt
  ·split at hbt'
   ·omega
   ·have := hr b hbt; have := h.own t' b hbt'; omega
  ·split at hbt'
   ·have := hr b hbt'; have := h.own t b hbt; omega
   ·exact h.apart t t' hne b hbt hbt'
 ·intro t
  rw [Env.get_put, Act.f_put (by rw [h.size]; exact hd)]
  have hroot : ∀ s x p v' y, (s ≠ d \/ p.length < 0) -> env.root s = some x -> cat w (Act.f a s) x p = some (v', y) -> ∃ x', (env.put d av).root s = some x' /\ cat w' (Act.f (a.put (some d) v) s) x' p = some (v', y) := by
   intro s x p v' y hs hx hc
   have hsd : d ≠ s := by rcases hs with hs | hs; exact fun e => hs e.symm; omega
   refine ⟨x, by rw [Env.root_put_ne env av hsd, hx], ?_⟩
   rw [Act.f_put (by rw [h.size]; exact hd), if_neg hsd]
   exact h.cat_keep (hkeep s) hx hc
  by_cases e : d = t
  ·simp only [e, if_true]
   subst e
   refine AVR.keep (w := w') (f := Act.f a) ?_ (s0 := d) (n0 := 0) ?_ (fun s hs => by rw [Act.f_put (by rw [h.size]; exact hd), if_neg (by rcases hs with hs | hs; exact fun e => hs e.symm; omega)]) av hv (fun _ _ => rfl)
   ·intro b hs
    refine ⟨?_, rfl⟩
    rcases hs with hs | ⟨h1, h2, h3⟩
    ·exact (hS b hs).1
    ·refine .inr ⟨by omega, h2, fun t ht => ?_⟩
     dsimp only at ht
     split at ht
     ·exact h3 ht
     ·have := h.own t b ht; omega
   ·intro s x p v' y hs hx hc
    have hsd : d ≠ s := by rcases hs with hs | hs; exact fun e => hs e.symm; omega
    refine ⟨x, by rw [Env.root_put_ne env av hsd, hx], ?_⟩
    rw [Act.f_put (by rw [h.size]; exact hd), if_neg hsd]
    exact hc
  ·simp only [e, if_false]
   exact AVR.keep hS hroot (fun s hs => by rw [Act.f_put (by rw [h.size]; exact hd), if_neg (by rcases hs with hs | hs; exact fun e => hs e.symm; omega)]) (env.get t) (h.rel t) (hkeep t)
end Go.Av
namespace Go.Av
open Go Go.RowKit
def kindT (P : Program) (t : TypeId) : Option Bool :=
 match P.underlying t with
 | some (.struct _) => some true
 | some (.array _ _) => some true
 | some _ => some false
 | none => none
def sizeT (P : Program) (t : TypeId) : Option Nat := (P.info? t).map (·.size)
def bytesT (P : Program) (t : TypeId) : Option Nat := (P.info? t).map (·.bytes)
def elT (P : Program) (t : TypeId) : Option TypeId :=
 match P.underlying t with
 | some (.slice e) => some e
 | _ => none
def arrT (P : Program) (t : TypeId) : Option (Nat × TypeId) :=
 match P.underlying t with
 | some (.array n e) => some (n, e)
 | _ => none
def intT (P : Program) (t : TypeId) : Option IntKind :=
 match P.underlying t with
 | some (.int k) => some k
 | _ => none
def fldT (P : Program) (t : TypeId) (f : Nat) : Option (Nat × TypeId) :=
 match P.underlying t with
 | some (.struct fs) => (fs[f]?).map fun x => (x.offset, x.type)
 | _ => none
def DV.flat : DV -> Bool
 | .ow _ _ => false
 | .bx _ => false
 | .mp _ => false
 | _ => true
theorem Cz.flat_rows {w : World} {S : Nat -> Prop} {v : Value} {x : DV} {r : List Nat} (h : Cz w S v x r) (hf : x.flat = true) : r = [] := by
 cases h <;> first | rfl | (simp [DV.flat] at hf)
theorem CzL.flat_rows {w : World} {S : Nat -> Prop} {vs : List Value} {l : List DV} {r : List Nat} (h : CzL w S vs l r) (hf : l.all DV.flat = true) : r = [] := by
 induction l generalizing vs r with
 | nil => cases h; rfl
 | cons x l ih =>
   cases h with
   | cons v x r vs xs rs h hs =>
     simp only [List.all_cons, Bool.and_eq_true] at hf
     rw [h.flat_rows hf.1, ih hs hf.2]; rfl
def constAV : Value -> AV
 | .int k n => .sv (.one (.int k n))
 | .bool b => .sv (.one (.bool b))
 | .string s => .sv (.one (.str s))
 | .slice none 0 0 => .sv (.one .nil)
 | .pointer none => .sv (.one (.raw (.pointer none)))
 | .nilIface => .sv (.one (.raw .nilIface))
 | .map none => .sv (.one (.raw (.map none)))
 | _ => .no
def AV.asOpd (t : Nat) : AV -> AV
 | .sv (.one (.ow _ _)) => .al t []
 | .sv (.one (.bx _)) => .pt t [] 0 0
 | .sv (.one (.mp _)) => .al t []
 | .sv (.ag l) => if l.all DV.flat then .sv (.ag l) else .no
 | .tup _ => .no
 | .gd true a => a
 | a => a
def opd (env : Env) : Operand -> AV
 | .tmp t => (env.get t).asOpd t
 | .const v => constAV v
 | .func f => .sv (.one (.fn f []))
 | .global _ => .no
theorem constAV_ok {w : World} {S : Nat -> Prop} {env : Env} {f : Nat -> Value} (v : Value) : AVR w S env f (constAV v) v [] := by
 unfold constAV
 split <;> first
  | exact .one _ _ _ (.int _ _)
  | exact .one _ _ _ (.bool _)
  | exact .one _ _ _ (.str _)
  | exact .one _ _ _ .nil
  | exact .one _ _ _ (.raw _ rfl)
  | trivial
theorem add_zero (a : Addr) : a.add 0 = a := by simp [Addr.add]
theorem SimR.opd_ok {N B : Nat} {w0 : World} {S0 : Nat -> Prop} {env : Env} {a : Act} {w : World} {rows : Nat -> List Nat} (h : SimR N B w0 S0 env a w rows) (x : Operand) :
  AVR w (SS B S0 w rows) env (Act.f a) (opd env x) (a.eval x) [] := by
 cases x with
 | tmp t =>
   have hr := h.rel t
   show AVR w (SS B S0 w rows) env (Act.f a) ((env.get t).asOpd t) (Act.f a t) []
   unfold AV.asOpd
   split
   ·rename_i z els he
    rw [he] at hr
    exact ⟨rfl, _, _, by rw [Env.root, he]; rfl, rfl⟩
   ·rename_i l he
    rw [he] at hr
    have hr := CzS.one_inv hr
    generalize hv : Act.f a t = v at *
    generalize rows t = rs at *
    cases hr with
    | bx b l T cs rs hb hl => exact ⟨rfl, _, .pointer (some ⟨b, 0, none⟩), _, l, ⟨b, 0, none⟩, by rw [Env.root, he]; rfl, by rw [hv]; rfl, rfl, rfl, by simp [Addr.add]⟩
   ·rename_i es he
    rw [he] at hr
    exact ⟨rfl, _, _, by rw [Env.root, he]; rfl, rfl⟩
   ·rename_i l he
    rw [he] at hr
    split
    ·rename_i hfl
     generalize Act.f a t = v at *
     generalize rows t = rs at *
     cases hr with
     | ag vs l rs hl => rw [hl.flat_rows hfl] at hl; exact .ag vs l [] hl
    ·trivial
   ·trivial
   ·rename_i av he
    rw [he] at hr
    exact hr.2.1 rfl
   ·rename_i h1 h2 h3 h4 h5 h6
    generalize he : env.get t = av at *
    generalize Act.f a t = v at *
    generalize rows t = rs at *
    cases av with
    | no => trivial
    | undef => exact ⟨hr.1, rfl⟩
    | sv x =>
      cases x with
      | one x =>
        have hfl : x.flat = true := by
         cases x with
         | ow z els => exact (h1 z els rfl).elim
         | bx l => exact (h2 l rfl).elim
         | mp es => exact (h3 es rfl).elim
         | _ => rfl
        have hr := CzS.one_inv hr
        rw [hr.flat_rows hfl] at hr
        exact .one _ _ _ hr
      | ag l => exact (h4 l rfl).elim
    | tup l => exact (h5 l rfl).elim
    | al s p => exact ⟨rfl, hr.2⟩
    | pt s p i j => exact ⟨rfl, hr.2⟩
    | sub s p lo hi => exact ⟨rfl, hr.2⟩
    | bsl s p n => exact ⟨rfl, hr.2⟩
    | eqv s v => exact ⟨rfl, hr.2⟩
    | cl g caps => exact ⟨rfl, hr.2⟩
    | agl s p i => exact ⟨rfl, hr.2⟩
    | gd c a => exact ⟨rfl, hr.2⟩
 | const v => exact constAV_ok v
 | func f => exact .one _ _ _ (.fn f #[] [] .nil)
 | _ => trivial
section
variable {P : Program} {w : World}
theorem run_sizeOf {t : TypeId} {n : Nat} (h : sizeT P t = some n) : (sizeOf t).run P w = .ok n w := by
 unfold sizeT at h
 cases hi : P.info? t with
 | none => simp [hi] at h
 | some i =>
   simp [hi] at h
   simp [sizeOf, typeInfo, hi, h]
theorem run_isAgg {t : TypeId} {b : Bool} (h : kindT P t = some b) : (isAgg t).run P w = .ok b w := by
 unfold kindT at h
 cases hu : P.underlying t with
 | none => simp [hu] at h
 | some d =>
   simp only [isAgg, Sem.run_bind, run_underlying hu, Result.andThen_ok]
   cases d <;> simp [hu] at h <;> subst h <;> rfl
theorem run_loadVar_one {t : TypeId} {a : Addr} {c : Value} (h : kindT P t = some false) (hc : w.cell? a = some c) : (loadVar t a).run P w = .ok c w := by
 simp only [loadVar, Sem.run_bind, run_isAgg h, Result.andThen_ok, Bool.false_eq_true, if_false]
 simp [load, Sem.run, hc]
theorem run_loadVar_agg {t : TypeId} {a : Addr} {vs : List Value} (h : kindT P t = some true) (hs : sizeT P t = some vs.length) (hc : ∀ j u, vs[j]? = some u -> w.cell? (a.add j) = some u) : (loadVar t a).run P w = .ok (.agg vs.toArray) w := by
 simp only [loadVar, Sem.run_bind, run_isAgg h, Result.andThen_ok, if_true, run_sizeOf hs, run_loadCells_list (P := P) w a vs hc]
 rfl
theorem run_value {m : Sem Value} {v : Value} {w' : World} (h : m.run P w = .ok v w') : (do pure (Next.value (<- m)) : Sem Next).run P w = .ok (.value v) w' := by
 simp [h]
end
theorem cat_append {w : World} {u : Value} {y : DV} (q : List (Nat × Nat)) : ∀ (p : List (Nat × Nat)) {v : Value} {x : DV}, cat w v x p = some (u, y) -> cat w v x (p ++ q) = cat w u y q
 | [], v, x, h => by
   simp only [cat, Option.some.injEq, Prod.mk.injEq] at h
   obtain ⟨rfl, rfl⟩ := h
   rfl
 | (i, j) :: p, v, x, hc => by
   simp only [cat] at hc
   split at hc
   ·rename_i el ad he hb
    split at hc
    ·rename_i d c hd hcell
     simp only [List.cons_append, cat, he, hb, hd, hcell]
     exact cat_append q p hc
    ·cases hc
   ·cases hc
def Env.at (env : Env) (s : Nat) (p : List (Nat × Nat)) : Option DV :=
 match env.root s with
 | some x => getP x p
 | none => none
def AV.asCell (s : Nat) (p : List (Nat × Nat)) : DV -> AV
 | .ow _ _ => .al s p
 | .bx _ => .pt s p 0 0
 | .mp _ => .al s p
 | d => .sv (.one d)
def Yields (P : Program) (o : Oper) (a : Act) (w : World) (v : Value) : Prop := ∀ w', Below w.heap.size w w' -> (execOp a.eval o).run P w' = .ok (.value v) w'
section
variable {P : Program} {N B : Nat} {w0 : World} {S0 : Nat -> Prop} {env : Env} {a : Act} {w : World} {rows : Nat -> List Nat}
theorem SimR.root_cz (h : SimR N B w0 S0 env a w rows) {s : Nat} {x : DV} (hx : env.root s = some x) : Cz w (SS B S0 w rows) (Act.f a s) x (rows s) := by
 have hr := h.rel s
 unfold Env.root AV.asOne at hx
 split at hx
 ·rename_i x' he
  rw [he] at hr
  injection hx with hx
  subst hx
  exact CzS.one_inv hr
 ·cases hx
theorem SimR.place (h : SimR N B w0 S0 env a w rows) {s : Nat} {p : List (Nat × Nat)} {x : DV} {u : Value} {y y' : DV} (hx : env.root s = some x) (hc : cat w (Act.f a s) x p = some (u, y)) (hy : env.at s p = some y') :
  y' = y /\ ∃ r, Cz w (SS B S0 w rows) u y r /\ ∀ b ∈ r, b ∈ rows s := by
 have e : getP x p = some y := cat_getP p hc
 simp only [Env.at, hx, e, Option.some.injEq] at hy
 subst hy
 obtain ⟨u', r, h1, h2, h3⟩ := (h.root_cz hx).cat_of p e
 rw [hc] at h1
 simp only [Option.some.injEq, Prod.mk.injEq] at h1
 obtain ⟨rfl, _⟩ := h1
 exact ⟨rfl, r, h2, h3⟩
theorem SimR.cell_below (_ : SimR N B w0 S0 env a w rows) {w' : World} (hb : Below w.heap.size w w') {ad : Addr} {c : Value} (hc : w.cell? ad = some c) : w'.cell? ad = some c :=
 (hb.cell (World.block_lt_of_cell? w ad hc)).trans hc
end
def hasOw : List DV -> Bool
 | [] => false
 | .ow _ _ :: _ => true
 | .bx _ :: _ => true
 | _ :: l => hasOw l
def aload (P : Program) (env : Env) (t : TypeId) (x : Operand) : Option (Prop × AV) :=
 match kindT P t, sizeT P t with
 | some g, some n =>
   match opd env x with
   | .sv (.one (.rf l)) =>
     match g with
     | true => some (n <= l.length, .sv (.ag (l.take n)))
     | false => match l with
       | d :: _ => some (True, .sv (.one d))
       | [] => none
   | .pt s p i j =>
     match env.at s p with
     | some y => match y.elAt i with
       | some el => match g with
         | true => if hasOw ((el.drop j).take n) then (if j = 0 then some (n = el.length, .agl s p i) else none) else some (j + n <= el.length /\ ((el.drop j).take n).all DV.flat = true, .sv (.ag ((el.drop j).take n)))
         | false => match el[j]? with
           | some d => some (True, AV.asCell s (p ++ [(i, j)]) d)
           | none => none
       | none => none
     | none => none
   | _ => none
 | _, _ => none
section
variable {P : Program} {N B : Nat} {w0 : World} {S0 : Nat -> Prop} {env : Env} {a : Act} {w : World} {rows : Nat -> List Nat}
theorem aload_ok (h : SimR N B w0 S0 env a w rows) {o : Oper} {t : TypeId} {x : Operand} (ho : o.op = .load t x) {ob : Prop} {av : AV} (he : aload P env t x = some (ob, av)) (hob : ob) :
  ∃ v, Yields P o a w v /\ AVR w (SS B S0 w rows) env (Act.f a) av v [] := by
 have hx := h.opd_ok x
 unfold aload at he
 split at he
 ·rename_i g n hk hs
  split at he
  ·rename_i l hopd
   rw [hopd] at hx
   have hx := CzS.one_inv hx
   generalize hv : a.eval x = vx at *
   cases hx with
   | rf ad l vs hS hcell hl =>
     cases g with
     | true =>
       simp only [Option.some.injEq, Prod.mk.injEq] at he
       obtain ⟨rfl, rfl⟩ := he
       obtain ⟨r1, r2, e1, h1, _⟩ := CzL.split n hl
       have e0 : r1 = [] := by
        have := congrArg List.length e1
        simp at this
        exact List.eq_nil_of_length_eq_zero (by omega)
       subst e0
       refine ⟨.agg (vs.take n).toArray, fun w' hw' => ?_, .ag _ _ _ (by simpa using h1)⟩
       simp only [execOp, ho, hv, Instr.loadAt, Instr.sureAddr]
       refine run_value ?_
       simp only [Sem.run_bind, Sem.run_pure, Result.andThen_ok]
       refine run_loadVar_agg hk ?_ ?_
       ·rw [List.length_take, hl.length, hs]; congr 1; omega
       ·intro j u hu
        refine h.cell_below hw' (hcell j u ?_)
        rw [List.getElem?_take] at hu
        split at hu
        ·exact hu
        ·cases hu
     | false =>
       cases l with
       | nil => simp at he
       | cons d l =>
         simp only [Option.some.injEq, Prod.mk.injEq] at he
         obtain ⟨rfl, rfl⟩ := he
         obtain ⟨v, r, hv0, hc, hr0⟩ := hl.get (i := 0) rfl
         have e0 : r = [] := List.eq_nil_iff_forall_not_mem.2 fun b hb => by simpa using hr0 b hb
         subst e0
         refine ⟨v, fun w' hw' => ?_, .one _ _ _ hc⟩
         simp only [execOp, ho, hv, Instr.loadAt, Instr.sureAddr]
         refine run_value ?_
         simp only [Sem.run_bind, Sem.run_pure, Result.andThen_ok]
         have := hcell 0 v hv0
         rw [add_zero] at this
         exact run_loadVar_one hk (h.cell_below hw' this)
  ·rename_i s p i j hopd
   rw [hopd] at hx
   obtain ⟨_, x', u, y, el, ad, hroot, hcat, hel, hbase, hval⟩ := hx
   split at he
   ·rename_i y' hat
    obtain ⟨rfl, r, hcz, hr⟩ := h.place hroot hcat hat
    rw [hel] at he
    dsimp only at he
    obtain ⟨b, o', z, T, cs, r0, vs, rfl, hbase', hb, hlz, hsz, hvs, ⟨r1, rm, r2, _, hall⟩, hup⟩ := hcz.row hel
    rw [hbase] at hbase'
    injection hbase' with hbase'
    subst hbase'
    have hcells : ∀ j u, vs[j]? = some u -> w.cell? ((⟨b, o', none⟩ : Addr).add (i * el.length + j)) = some u := by
     intro j u hu
     rw [hlz, add_mk, <- Nat.add_assoc, cell_of_row w b _ cs T (0, 0) hb]
     rw [hvs, List.getElem?_take] at hu
     split at hu
     ·rw [List.getElem?_drop] at hu
      simpa using hu
     ·cases hu
    split at he
    ·split at he
     ·split at he
      ·rename_i hj0
       subst hj0
       simp only [Option.some.injEq, Prod.mk.injEq] at he
       obtain ⟨rfl, rfl⟩ := he
       have hlen := hall.length
       refine ⟨.agg vs.toArray, fun w' hw' => ?_, rfl, x', u, _, el, vs, hroot, hcat, hel, rfl, hlen, fun k c hc => ?_⟩
       ·simp only [execOp, ho, hval, Instr.loadAt, Instr.sureAddr]
        refine run_value ?_
        simp only [Sem.run_bind, Sem.run_pure, Result.andThen_ok]
        refine run_loadVar_agg hk (by rw [hs, hob, hlen]) fun k u hu => ?_
        have := hcells k u hu
        refine h.cell_below hw' ?_
        rw [add_of_add, Nat.add_zero]
        exact this
       ·have hk : k < el.length := by rw [<- hlen]; exact (List.getElem?_eq_some_iff.1 hc).1
        refine ⟨el[k], ?_⟩
        rw [cat_append _ p hcat]
        simp only [cat, hel, hbase, List.getElem?_eq_getElem hk, hcells k c hc]
      ·cases he
     simp only [Option.some.injEq, Prod.mk.injEq] at he
     obtain ⟨rfl, rfl⟩ := he
     obtain ⟨hle, hfl⟩ := hob
     obtain ⟨q1, qm, q2, _, hmid, _⟩ := hup j n (by omega)
     rw [hmid.flat_rows hfl] at hmid
     refine ⟨.agg ((vs.drop j).take n).toArray, fun w' hw' => ?_, .ag _ _ _ (by simpa using hmid)⟩
     simp only [execOp, ho, hval, Instr.loadAt, Instr.sureAddr]
     refine run_value ?_
     simp only [Sem.run_bind, Sem.run_pure, Result.andThen_ok]
     have hlen := hall.length
     refine run_loadVar_agg hk ?_ ?_
     ·rw [List.length_take, List.length_drop, hs]; congr 1; omega
     ·intro k u hu
      rw [List.getElem?_take] at hu
      split at hu
      ·rw [List.getElem?_drop] at hu
       have := hcells (j + k) u hu
       refine h.cell_below hw' ?_
       rw [add_of_add, Nat.add_assoc]
       exact this
      ·cases hu
    ·split at he
     ·rename_i d hd
      simp only [Option.some.injEq, Prod.mk.injEq] at he
      obtain ⟨rfl, rfl⟩ := he
      obtain ⟨b', o2, c, q1, qm, q2, hq, hbase2, hcell, hcz2, _⟩ := hcz.rowCell hel hd
      rw [hbase] at hbase2
      injection hbase2 with hbase2
      injection hbase2 with e1 e2 _
      subst e1
      subst e2
      have hcat2 : cat w (Act.f a s) x' (p ++ [(i, j)]) = some (c, d) := by
       rw [cat_append _ p hcat]
       simp [cat, hel, hbase, hd, hcell]
      refine ⟨c, fun w' hw' => ?_, ?_⟩
      ·simp only [execOp, ho, hval, Instr.loadAt, Instr.sureAddr]
       refine run_value ?_
       simp only [Sem.run_bind, Sem.run_pure, Result.andThen_ok]
       exact run_loadVar_one hk (h.cell_below hw' hcell)
      ·unfold AV.asCell
       split
       ·exact ⟨rfl, _, _, hroot, hcat2⟩
       ·rename_i l
        generalize hc' : c = c' at *
        cases hcz2 with
        | bx b3 l T3 cs3 rs3 hb3 hl3 => exact ⟨rfl, _, _, _, l, ⟨b3, 0, none⟩, hroot, hcat2, rfl, rfl, by simp [Addr.add]⟩
       ·exact ⟨rfl, _, _, hroot, hcat2⟩
       ·rename_i h1 h2 h3
        have hfl : d.flat = true := by
         cases d with
         | ow z els => exact (h1 z els rfl).elim
         | bx l => exact (h2 l rfl).elim
         | mp es => exact (h3 es rfl).elim
         | _ => rfl
        rw [hcz2.flat_rows hfl] at hcz2
        exact .one _ _ _ hcz2
     ·cases he
   ·cases he
  ·cases he
 ·cases he
end
end Go.Av

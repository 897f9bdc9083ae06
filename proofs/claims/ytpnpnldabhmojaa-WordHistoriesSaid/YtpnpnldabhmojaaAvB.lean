/- Places in data that a call owns: what lies at a place, and what a store there leaves. -/
import Derived.Test.YtpnpnldabhmojaaAvA
set_option linter.unusedVariables false
set_option linter.unusedSimpArgs false
namespace Go.Av
open Go Go.RowKit

theorem seg {α : Type} {l : List α} {n a m : Nat} (h : a + m ≤ n) : ((l.take n).drop a).take m = (l.drop a).take m := by
  rw [List.drop_take, List.take_take]
  congr 1; omega

/-- Element i of a row that is owned. -/
def DV.elAt : DV → Nat → Option (List DV)
  | .ow _ els, i => els[i]?
  | .bx l, i => if i = 0 then some l else none
  | _, _ => none

/-- A row that is owned, with new cells from cell j of element i on. -/
def DV.put : DV → Nat → Nat → List DV → DV
  | .ow z els, i, j, ds => .ow z (els.set i (splice ((els[i]?).getD []) j ds))
  | .bx l, _, j, ds => .bx (splice l j ds)
  | x, _, _, _ => x

/-- The elements of a slice. -/
def DV.elsOf : DV → Option (List (List DV))
  | .nil => some []
  | .sl els => some els
  | .ow _ els => some els
  | _ => none

/-- Where a row begins. -/
def rowBase : Value → DV → Option Addr
  | .slice (some ad) _ _, .ow _ _ => some ad
  | .pointer (some ad), .bx _ => some ad
  | _, _ => none

def getP : DV → List (Nat × Nat) → Option DV
  | x, [] => some x
  | x, (i, j) :: p => match x.elAt i with
    | some el => match el[j]? with
      | some d => getP d p
      | none => none
    | none => none

def setP : DV → List (Nat × Nat) → DV → DV
  | _, [], y => y
  | x, (i, j) :: p, y => match x.elAt i with
    | some el => match el[j]? with
      | some d => x.put i j [setP d p y]
      | none => x
    | none => x

def cat (w : World) : Value → DV → List (Nat × Nat) → Option (Value × DV)
  | v, x, [] => some (v, x)
  | v, x, (i, j) :: p => match x.elAt i, rowBase v x with
    | some el, some ad => match el[j]?, w.cell? (ad.add (i * el.length + j)) with
      | some d, some c => cat w c d p
      | _, _ => none
    | _, _ => none

/-- A row that is owned: its block, and element by element what lies there and what a store leaves. -/
theorem Cz.row {w : World} {S : Nat → Prop} {v : Value} {x : DV} {rs : List Nat} (h : Cz w S v x rs) {i : Nat} {el : List DV} (he : x.elAt i = some el) :
    ∃ b o z T cs r0 vs, rs = b :: r0 ∧ rowBase v x = some ⟨b, o, none⟩ ∧ w.heap[b]? = some (.cells cs T (0, 0)) ∧ el.length = z ∧ o + (i * z + z) ≤ cs.size ∧ vs = (cs.toList.drop (o + i * z)).take z ∧
      (∃ r1 rm r2, r0 = r1 ++ (rm ++ r2) ∧ CzL w S vs el rm) ∧
      ∀ (k m : Nat), k + m ≤ z → ∃ r1 rm r2, r0 = r1 ++ (rm ++ r2) ∧ CzL w S ((vs.drop k).take m) ((el.drop k).take m) rm ∧
        ∀ (w' : World) (S' : Nat → Prop) (news : List Value) (ds : List DV) (rn : List Nat), ds.length = m → (∀ b', S b' → S' b' ∧ w'.heap[b']? = w.heap[b']?) → (∀ b' ∈ r1 ++ r2, w'.heap[b']? = w.heap[b']?) → w'.heap[b]? = some (.cells (Av.splice cs.toList (o + i * z + k) news).toArray T (0, 0)) →
          CzL w' S' news ds rn → Cz w' S' v (x.put i k ds) (b :: (r1 ++ rn ++ r2)) := by
  cases h with
  | ow b off n c z els T cs rs hb hn hc hm hsz hz hl =>
    simp only [DV.elAt] at he
    have hlt : i < els.length := (List.getElem?_eq_some_iff.1 he).1
    have hee : els[i] = el := (List.getElem?_eq_some_iff.1 he).2
    have hel : el.length = z := hz el (by rw [← hee]; exact List.getElem_mem hlt)
    have hin : i * z + z ≤ n * z := by
      have : (i + 1) * z ≤ n * z := Nat.mul_le_mul_right _ (by omega)
      rw [Nat.succ_mul] at this; exact this
    have hnc : n * z ≤ c * z := Nat.mul_le_mul_right _ hc
    have hlen := hl.length
    have hvs : (((cs.toList.drop off).take (n * z)).drop (i * z)).take z = (cs.toList.drop (off + i * z)).take z := by
      rw [List.drop_take, List.take_take, List.drop_drop]
      congr 1; omega
    refine ⟨b, off, z, T, cs, rs, _, rfl, rfl, hb, hel, by omega, rfl, ?_, ?_⟩
    · obtain ⟨r1, r0, e1, _, h0⟩ := CzL.split (i * z) hl
      obtain ⟨rm, r2, e2, hmm, _⟩ := CzL.split z h0
      refine ⟨r1, rm, r2, by rw [e1, e2], ?_⟩
      rw [flatten_at hz he, hvs] at hmm
      exact hmm
    · intro k m hk
      obtain ⟨r1, r0, e1, h1, h0⟩ := CzL.split (i * z + k) hl
      obtain ⟨rm, r2, e2, hmm, h2⟩ := CzL.split m h0
      refine ⟨r1, rm, r2, by rw [e1, e2], ?_, ?_⟩
      · have f1 : ((els.flatten.drop (i * z + k)).take m) = (el.drop k).take m := by
          rw [← flatten_at hz he, List.drop_take, List.take_take, List.drop_drop]
          congr 1; omega
        have f2 : ((((cs.toList.drop off).take (n * z)).drop (i * z + k)).take m) = (((cs.toList.drop (off + i * z)).take z).drop k).take m := by
          rw [seg (by omega), seg (by omega), List.drop_drop, List.drop_drop]
          congr 2; omega
        rw [f1, f2] at hmm
        exact hmm
      · intro w' S' news ds rn hdm hS hr hb' hnew
        subst hdm
        have e := hnew.length
        have g1 := h1.keep hS (fun b' hb => hr b' (by simp [hb]))
        have g2 := h2.keep hS (fun b' hb => hr b' (by simp [hb]))
        have key := (g1.append hnew).append g2
        simp only [DV.put, he, Option.getD_some]
        have hsl : k + ds.length ≤ el.length := by omega
        have hsp : ∀ e ∈ els.set i (splice el k ds), e.length = z := by
          intro e' he'
          rcases List.mem_or_eq_of_mem_set he' with h | h
          · exact hz _ h
          · rw [h, splice_length _ _ _ hsl, hel]
        have hcl : cs.toList.length = cs.size := by simp
        refine Cz.ow b off n c z _ T _ _ hb' (by simpa using hn) hc hm ?_ hsp ?_
        · have : (Av.splice cs.toList (off + i * z + k) news).length = cs.toList.length := splice_length _ _ _ (by omega)
          simp only [List.size_toArray, this]; omega
        · rw [flatten_splice hz he ds (by omega)]
          have f3 : (((Av.splice cs.toList (off + i * z + k) news).toArray.toList.drop off).take (n * z)) = ((cs.toList.drop off).take (n * z)).take (i * z + k) ++ news ++ (((cs.toList.drop off).take (n * z)).drop (i * z + k)).drop ds.length := by
            simp only [Av.splice]
            rw [List.append_assoc, List.drop_append, List.drop_append, List.drop_take, List.take_append, List.take_append]
            have t1 : (cs.toList.take (off + i * z + k)).length = off + i * z + k := by rw [List.length_take]; omega
            have t2 : ((cs.toList.drop off).take (off + i * z + k - off)).length = i * z + k := by rw [List.length_take, List.length_drop]; omega
            rw [t1, t2]
            have u1 : off - (off + i * z + k) = 0 := by omega
            have u2 : off - (off + i * z + k) - news.length = 0 := by omega
            rw [u1, Nat.zero_sub, List.drop_zero, List.drop_zero, List.append_assoc, List.take_take, List.take_take, List.drop_drop, List.drop_take, List.drop_drop]
            have u3 : min (n * z) (off + i * z + k - off) = i * z + k := by omega
            have u4 : min (i * z + k) (n * z) = i * z + k := by omega
            rw [u3, u4, List.take_of_length_le (l := news) (by omega)]
            congr 2
            have u5 : n * z - (i * z + k) - news.length = n * z - (i * z + k + ds.length) := by omega
            have u6 : off + i * z + k + news.length = off + (i * z + k + ds.length) := by omega
            rw [u5, u6]
          rw [f3]
          rw [show splice els.flatten (i * z + k) ds = els.flatten.take (i * z + k) ++ ds ++ (els.flatten.drop (i * z + k)).drop ds.length from by simp [splice, List.drop_drop]]
          exact key
  | bx b l T cs rs hb hl =>
    simp only [DV.elAt] at he
    split at he
    · rename_i hi
      subst hi
      injection he with he
      subst he
      have hlen := hl.length
      simp only [Array.length_toList] at hlen
      refine ⟨b, 0, l.length, T, cs, rs, _, rfl, rfl, hb, rfl, by omega, rfl, ?_, ?_⟩
      · refine ⟨[], rs, [], by simp, ?_⟩
        rw [← hlen]
        simpa [List.take_of_length_le] using hl
      · intro k m hk
        obtain ⟨r1, r0, e1, h1, h0⟩ := CzL.split k hl
        obtain ⟨rm, r2, e2, hmm, h2⟩ := CzL.split m h0
        refine ⟨r1, rm, r2, by rw [e1, e2], ?_, ?_⟩
        · rw [← hlen]
          simpa [List.take_of_length_le] using hmm
        · intro w' S' news ds rn hdm hS hr hb' hnew
          subst hdm
          have e := hnew.length
          have g1 := h1.keep hS (fun b' hb => hr b' (by simp [hb]))
          have g2 := h2.keep hS (fun b' hb => hr b' (by simp [hb]))
          have key := (g1.append hnew).append g2
          simp only [DV.put]
          refine Cz.bx b _ T _ _ hb' ?_
          simp only [Av.splice, Nat.zero_add, Nat.zero_mul, List.drop_drop, e] at key ⊢
          exact key
    · cases he
  | _ => simp [DV.elAt] at he

theorem splice_self {α : Type} (l : List α) (k : Nat) (c : α) (h : l[k]? = some c) : splice l k [c] = l := by
  have hlt : k < l.length := (List.getElem?_eq_some_iff.1 h).1
  have he : l[k] = c := (List.getElem?_eq_some_iff.1 h).2
  simp only [splice, List.length_singleton, List.append_assoc, List.singleton_append]
  conv => rhs; rw [← List.take_append_drop k l, List.drop_eq_getElem_cons hlt, he]

theorem add_mk (b o n : Nat) : (⟨b, o, none⟩ : Addr).add n = ⟨b, o + n, none⟩ := by unfold Addr.add; split <;> simp_all

theorem CzL.single {w : World} {S : Nat → Prop} {c : Value} {d : DV} {r : List Nat} (h : CzL w S [c] [d] r) : Cz w S c d r := by
  cases h with
  | cons v x r vs xs rs h hs =>
    cases hs
    simpa using h

theorem CzL.mk1 {w : World} {S : Nat → Prop} {c : Value} {d : DV} {r : List Nat} (h : Cz w S c d r) : CzL w S [c] [d] r := by
  have := CzL.cons c d r [] [] [] h .nil
  simpa using this

theorem take1 {α : Type} {l : List α} {j : Nat} {d : α} (h : l[j]? = some d) : (l.drop j).take 1 = [d] := by
  have hlt : j < l.length := (List.getElem?_eq_some_iff.1 h).1
  have he : l[j] = d := (List.getElem?_eq_some_iff.1 h).2
  rw [List.drop_eq_getElem_cons hlt, he]; rfl

/-- One cell of a row that is owned: what lies there, and what the row is with other data read there. -/
theorem Cz.rowCell {w : World} {S : Nat → Prop} {v : Value} {x : DV} {rs : List Nat} (h : Cz w S v x rs) {i j : Nat} {el : List DV} (he : x.elAt i = some el) {d : DV} (hd : el[j]? = some d) :
    ∃ b o c r1 rm r2, rs = b :: (r1 ++ (rm ++ r2)) ∧ rowBase v x = some ⟨b, o, none⟩ ∧ w.cell? ((⟨b, o, none⟩ : Addr).add (i * el.length + j)) = some c ∧ Cz w S c d rm ∧
      ∀ (w' : World) (S' : Nat → Prop) (d' : DV) (rn : List Nat), (∀ b', S b' → S' b' ∧ w'.heap[b']? = w.heap[b']?) → (∀ b' ∈ b :: (r1 ++ r2), w'.heap[b']? = w.heap[b']?) → Cz w' S' c d' rn → Cz w' S' v (x.put i j [d']) (b :: (r1 ++ rn ++ r2)) := by
  obtain ⟨b, o, z, T, cs, r0, vs, rfl, hbase, hb, hel, hsz, hvs, ⟨q1, qm, q2, hq, hall⟩, hup⟩ := h.row he
  have hj : j < el.length := (List.getElem?_eq_some_iff.1 hd).1
  obtain ⟨r1, rm, r2, rfl, hmid, hset⟩ := hup j 1 (by omega)
  have hlen := hall.length
  have hv : j < vs.length := by omega
  have hc : vs[j]? = some vs[j] := List.getElem?_eq_getElem hv
  have hcs : cs.toList[o + i * z + j]? = some vs[j] := by
    have h1 : vs[j]? = ((cs.toList.drop (o + i * z)).take z)[j]? := by rw [← hvs]
    rw [hc] at h1
    rw [h1, List.getElem?_take, if_pos (by omega), List.getElem?_drop]
  rw [take1 hd, take1 hc] at hmid
  refine ⟨b, o, vs[j], r1, rm, r2, rfl, hbase, ?_, hmid.single, ?_⟩
  · rw [hel, add_mk, ← Nat.add_assoc, cell_of_row w b _ cs T (0, 0) hb]
    simpa using hcs
  · intro w' S' d' rn hS hr hd'
    refine hset w' S' [vs[j]] [d'] rn rfl hS (fun b' hb1 => hr b' (by simp at hb1 ⊢; exact .inr hb1)) ?_ (CzL.mk1 hd')
    rw [splice_self _ _ _ hcs, hr b (by simp), hb]

theorem Cz.lens {S : Nat → Prop} {w : World} {u : Value} {y : DV} : ∀ (p : List (Nat × Nat)) {v : Value} {x : DV} {rs : List Nat}, Cz w S v x rs → rs.Nodup → cat w v x p = some (u, y) →
    ∃ (ru rest : List Nat), Cz w S u y ru ∧ (∀ b, b ∈ rs ↔ b ∈ ru ∨ b ∈ rest) ∧ (∀ b ∈ ru, b ∉ rest) ∧ ru.Nodup ∧
      ∀ (w' : World) (S' : Nat → Prop) (y' : DV) (r' : List Nat), (∀ b, S b → S' b ∧ w'.heap[b]? = w.heap[b]?) → (∀ b ∈ rest, w'.heap[b]? = w.heap[b]?) → Cz w' S' u y' r' → r'.Nodup → (∀ b ∈ r', b ∉ rest) →
        ∃ rs' : List Nat, Cz w' S' v (setP x p y') rs' ∧ rs'.Nodup ∧ (∀ b, b ∈ rs' ↔ b ∈ r' ∨ b ∈ rest)
  | [], v, x, rs, h, hnd, hc => by
    simp only [cat, Option.some.injEq, Prod.mk.injEq] at hc
    obtain ⟨rfl, rfl⟩ := hc
    refine ⟨rs, [], h, by simp, by simp, hnd, fun w' S' y' r' _ _ h' hn' _ => ⟨r', h', hn', by simp⟩⟩
  | (i, j) :: p, v, x, rs, h, hnd, hc => by
    simp only [cat] at hc
    split at hc
    · rename_i el ad he hb
      split at hc
      · rename_i d c hd hcell
        obtain ⟨b, o, c', r1, rm, r2, rfl, hb', hcell', hcz, hset⟩ := h.rowCell he hd
        rw [hb] at hb'
        injection hb' with hb'
        subst hb'
        rw [hcell] at hcell'
        injection hcell' with hcc
        subst hcc
        have hnd' := hnd
        simp only [List.nodup_cons, List.nodup_append, List.mem_append] at hnd'
        obtain ⟨ru, rest, hu, hmem, hdis, hnu, hk⟩ := Cz.lens p hcz hnd'.2.2.1.1 hc
        refine ⟨ru, b :: (r1 ++ (rest ++ r2)), hu, ?_, ?_, hnu, ?_⟩
        · intro b'
          simp only [List.mem_cons, List.mem_append, hmem b']
          grind
        · intro b' hb1
          have h1 := (hmem b').2 (.inl hb1)
          have h2 := hdis b' hb1
          simp only [List.mem_cons, List.mem_append]
          grind
        · intro w' S' y' r' hS hr hy' hn' hd'
          simp only [List.mem_cons, List.mem_append] at hr hd'
          obtain ⟨rs', h1, h2, h3⟩ := hk w' S' y' r' hS (fun b hb => hr b (by simp [hb])) hy' hn' (fun b hb => by have := hd' b hb; grind)
          refine ⟨b :: (r1 ++ rs' ++ r2), ?_, ?_, ?_⟩
          · have := hset w' S' _ rs' hS (fun b hb => hr b (by simp at hb; grind)) h1
            simp only [setP, he, hd]
            exact this
          · simp only [List.nodup_cons, List.nodup_append, List.mem_append]
            grind
          · intro b'
            simp only [List.mem_cons, List.mem_append, h3 b']
            grind
      · cases hc
    · cases hc

/-- What lies at a place in the data lies there in memory. -/
theorem Cz.cat_of {S : Nat → Prop} {w : World} {y : DV} : ∀ (p : List (Nat × Nat)) {v : Value} {x : DV} {rs : List Nat}, Cz w S v x rs → getP x p = some y → ∃ (u : Value) (r : List Nat), cat w v x p = some (u, y) ∧ Cz w S u y r ∧ ∀ b ∈ r, b ∈ rs
  | [], v, x, rs, h, hc => by
    simp only [getP, Option.some.injEq] at hc
    subst hc
    exact ⟨v, rs, rfl, h, fun _ h => h⟩
  | (i, j) :: p, v, x, rs, h, hc => by
    simp only [getP] at hc
    split at hc
    · rename_i el he
      split at hc
      · rename_i d hd
        obtain ⟨b, o, c', r1, rm, r2, rfl, hb', hcell', hcz, _⟩ := h.rowCell he hd
        obtain ⟨u, r, h1, h2, h3⟩ := Cz.cat_of p hcz hc
        refine ⟨u, r, ?_, h2, fun b hb => by have := h3 b hb; simp; grind⟩
        simp only [cat, he, hb', hd, hcell']
        exact h1
      · cases hc
    · cases hc

theorem cat_getP {w : World} {u : Value} {y : DV} : ∀ (p : List (Nat × Nat)) {v : Value} {x : DV}, cat w v x p = some (u, y) → getP x p = some y
  | [], v, x, hc => by
    simp only [cat, Option.some.injEq, Prod.mk.injEq] at hc
    simp [getP, hc.2]
  | (i, j) :: p, v, x, hc => by
    simp only [cat] at hc
    split at hc
    · rename_i el ad he hb
      split at hc
      · rename_i d c hd hcell
        simp only [getP, he, hd]
        exact cat_getP p hc
      · cases hc
    · cases hc

/-- The same place in a later world. -/
theorem Cz.cat_keep {S : Nat → Prop} {w w' : World} {u : Value} {y : DV} : ∀ (p : List (Nat × Nat)) {v : Value} {x : DV} {rs : List Nat}, Cz w S v x rs → (∀ b ∈ rs, w'.heap[b]? = w.heap[b]?) → cat w v x p = some (u, y) → cat w' v x p = some (u, y)
  | [], _, _, _, _, _, hc => hc
  | (i, j) :: p, v, x, rs, h, hk, hc => by
    simp only [cat] at hc
    split at hc
    · rename_i el ad he hb
      split at hc
      · rename_i d c hd hcell
        obtain ⟨b, o, c', r1, rm, r2, rfl, hb', hcell', hcz, _⟩ := h.rowCell he hd
        rw [hb] at hb'
        injection hb' with hb'
        subst hb'
        rw [hcell] at hcell'
        injection hcell' with hcc
        subst hcc
        have e : w'.cell? ((⟨b, o, none⟩ : Addr).add (i * el.length + j)) = some c := (cell_same (by rw [block_of_add]; exact hk b (by simp))).trans hcell
        simp only [cat, he, hb, hd, e]
        exact Cz.cat_keep p hcz (fun b hb => hk b (by simp; grind)) hc
      · cases hc
    · cases hc

end Go.Av
